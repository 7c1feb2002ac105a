import Derived.WalkKit
import Derived.Lib.SliceRun
import Derived.Shelf.AbstractIn
import Derived.Lib.Walk
import Derived.Test.YthjoehaglonjaaaStI
set_option maxRecDepth 8000
set_option linter.unusedSimpArgs false
set_option linter.unusedVariables false
namespace Go.PV
open Go.RowKit
theorem PCall.ofNone {P:Program} {F:FuncId} {args:List PV} {σ:Store} (hb:hasBody P F = true)
  (h:∀ (I:Imm) (ρ:Rho) (w:World) (vs:Array Value),Inv I ρ σ w → ArgsR I ρ args vs → Calls P F vs w fun x w'=>∃ a c,x = .returned (.slice a 0 c) ∧ Below w.heap.size w w') :
  PCall P F args σ (fun p σ'=>p = .sl [] ∧ σ' = σ):=by
 refine ⟨hb,fun I ρ w vs hinv ha=>(h I ρ w vs hinv ha).mono ?_⟩
 rintro x w' ⟨a,c,rfl,hbl⟩
 have hframe:∀ b,b < w.heap.size → w'.heap[b]? = w.heap[b]?:=fun b hb=>hbl.block b hb
 have himm:∀ b off u,I b off = some u → b < w.heap.size:=fun b off u hv=>World.block_lt_of_cell? w ⟨b,off,none⟩ (hinv.imm b off u hv)
 refine ⟨_,.sl [],I,ρ,σ,rfl,.slNil a c,?_,?_,rfl,rfl⟩
 ·refine ⟨fun o obj ho=>(hinv.objs o obj ho).keep (fun _ _ _ h=>h) (fun _ _ _ h=>h) (fun L hd hL=>?_) (fun _ _ h=>h),hinv.apart,fun b off u hv=>?_,hinv.free⟩
  ·have hlt:=(hinv.objs o obj ho).block_lt hd hL
   exact ⟨hframe _ hlt,(hinv.objs o obj ho).imm_none hd hL⟩
  ·rw [World.cell?_of_block (w:=w) (hframe b (himm b off u hv))]
   exact hinv.imm b off u hv
 ·exact ⟨fun _ _ _ h=>h,fun _ _ _ h=>h,hbl.os,hbl.tape,hbl.output,hbl.size,fun b hb _=>hframe b hb,fun b off hn hne=>absurd hn hne,fun _ h=>.inl h,fun _ _ _=>rfl,fun _ h=>h⟩
end Go.PV
namespace Go.Proofs.Ythjoehaglonjaaa
open Go.PV Go.RowKit
theorem args_none {I:Imm} {ρ:Rho} {vs:Array Value} (ha:ArgsR I ρ [.sl []] vs):∃ a c,vs = #[.slice a 0 c]:=by
 have h0:=ha.2 0 _ rfl
 have hsz:vs.size = 1:=ha.1
 have hvs:vs = #[vs.getD 0 Go.undef]:=by
  apply Array.ext
  ·simp [hsz]
  ·intro i hi1 hi2
   have:i = 0:=by simp at hi2; exact hi2
   subst this
   simp [Array.getD,hsz]
 generalize vs.getD 0 Go.undef = v at h0 hvs
 cases h0 with
 | sl _ b base sz cap vs' h0 h1 h2 h3=>exact ⟨_,_,hvs⟩
 | slNil a c=>exact ⟨_,_,hvs⟩
set_option maxRecDepth 100000 in
set_option maxHeartbeats 2000000 in
theorem cloneSite_calls (a:Option Addr) (c:Nat) (w:World):Calls Try.prog 114 #[.slice a 0 c] w fun x w'=>∃ a c,x = .returned (.slice a 0 c) ∧ Below w.heap.size w w':=by
 refine calls_of_wp Try.func114 rfl ?_
 simp only [Try.ntmps114,List.size_toArray,List.length_cons,List.length_nil,Nat.reduceAdd,Nat.reduceSub,Array.replicate_succ,Array.replicate_zero,List.push_toArray,List.append_toArray,List.nil_append,List.cons_append]
 have hu:Try.prog.underlying 64 = some (.slice 91):=by kernel_rfl
 have q:∀ (w:World) (a:Option Addr) (n c n' c':Nat),(binOp .eql 64 (.slice a n c) (.slice none n' c')).run Try.prog w = .ok (.bool a.isNone) w:=fun w a n c n' c'=>Go.Lib.run_eql_slice_nil w _ _ a n c n' c' hu
 have u:∀ w,Sem.run Try.prog (underlying 64) w = .ok (TypeDesc.slice 91) w:=run_underlying hu
 cases a with
 | none =>
  go_wp2
  go_ret
  exact ⟨none,0,rfl,Below.refl _ _⟩
 | some ad =>
  go_wp2
  go_ret
  exact ⟨_,_,rfl,(Below.refl _ w).alloc (Nat.le_refl _) _⟩
theorem cloneSite_none (σ:Store):PCall Try.prog 114 [.sl []] σ (fun p σ'=>p = .sl [] ∧ σ' = σ):=by
 refine PCall.ofNone (by kernel_rfl) (fun I ρ w vs hinv ha=>?_)
 obtain ⟨a,c,rfl⟩:=args_none ha
 exact cloneSite_calls a c w
set_option maxRecDepth 100000 in
set_option maxHeartbeats 2000000 in
theorem cloneTg_calls (a:Option Addr) (c:Nat) (w:World):Calls Try.prog 115 #[.slice a 0 c] w fun x w'=>∃ a c,x = .returned (.slice a 0 c) ∧ Below w.heap.size w w':=by
 refine calls_of_wp Try.func115 rfl ?_
 simp only [Try.ntmps115,List.size_toArray,List.length_cons,List.length_nil,Nat.reduceAdd,Nat.reduceSub,Array.replicate_succ,Array.replicate_zero,List.push_toArray,List.append_toArray,List.nil_append,List.cons_append]
 have hu:Try.prog.underlying 89 = some (.slice 88):=by kernel_rfl
 have q:∀ (w:World) (a:Option Addr) (n c n' c':Nat),(binOp .eql 89 (.slice a n c) (.slice none n' c')).run Try.prog w = .ok (.bool a.isNone) w:=fun w a n c n' c'=>Go.Lib.run_eql_slice_nil w _ _ a n c n' c' hu
 have u:∀ w,Sem.run Try.prog (underlying 89) w = .ok (TypeDesc.slice 88) w:=run_underlying hu
 cases a with
 | none =>
  go_wp2
  go_ret
  exact ⟨none,0,rfl,Below.refl _ _⟩
 | some ad =>
  go_wp2
  go_ret
  exact ⟨_,_,rfl,(Below.refl _ w).alloc (Nat.le_refl _) _⟩
theorem cloneTg_none (σ:Store):PCall Try.prog 115 [.sl []] σ (fun p σ'=>p = .sl [] ∧ σ' = σ):=by
 refine PCall.ofNone (by kernel_rfl) (fun I ρ w vs hinv ha=>?_)
 obtain ⟨a,c,rfl⟩:=args_none ha
 exact cloneTg_calls a c w
theorem lastAt (X:Store) (n:Nat) (c:Go.PV.Obj) (h:n = X.length):(X ++ [c])[n]? = some c:=by subst h; simp
def TgAt (Q:Store) (o:Nat) (tg:List (Int × Int)) (T:PV):Prop:=(T = .nils ∧ tg = []) ∨ ∃ t,T = .msl t 0 ∧ t ≠ o ∧ Q[t]? = some (.rows 88 2 (encT tg) 0)
def RowsAt (Q:Store) (o:Nat) (l:List Site) (R:List (List PV)):Prop:=R.length = l.length ∧ ∀ i,i < l.length → ∃ T,R.getD i [] = [.int .i64 (l.getD i default).blk,.int .i64 (l.getD i default).ins,T] ∧ TgAt Q o (l.getD i default).tg T
theorem TgAt.app {Q:Store} {o:Nat} {tg:List (Int × Int)} {T:PV} (h:TgAt Q o tg T) (X:Store):TgAt (Q ++ X) o tg T:=by
 rcases h with h | ⟨t,h1,h2,h3⟩
 ·exact .inl h
 ·exact .inr ⟨t,h1,h2,by rw [List.getElem?_append_left (List.getElem?_eq_some_iff.1 h3).1,h3]⟩
theorem TgAt.set {Q:Store} {o:Nat} {tg:List (Int × Int)} {T:PV} (h:TgAt Q o tg T) (X:Go.PV.Obj):TgAt (Q.set o X) o tg T:=by
 rcases h with h | ⟨t,h1,h2,h3⟩
 ·exact .inl h
 ·exact .inr ⟨t,h1,h2,by rw [List.getElem?_set_ne (fun e=>h2 e.symm),h3]⟩
theorem TgAt.frz {Q:Store} {o:Nat} {tg:List (Int × Int)} {T:PV} (h:TgAt Q o tg T):Frz 0 Q T (.sl (encT tg)):=by
 rcases h with ⟨rfl,rfl⟩ | ⟨t,rfl,_,h3⟩
 ·exact .nils
 ·exact Frz.msl0 (Nat.zero_le _) h3 (encT_bel _ _)
theorem RowsAt.frz {Q:Store} {o v:Nat} {l:List Site} {R:List (List PV)} (h:RowsAt Q o l R) (ho:Q[o]? = some (.rows 91 3 R v)):Frz 0 Q (.msl o v) (.sl (encS l)):=by
 have key:∀ i row,R[i]? = some row → i < l.length ∧ ∃ T,row = [.int .i64 (l.getD i default).blk,.int .i64 (l.getD i default).ins,T] ∧ TgAt Q o (l.getD i default).tg T ∧ (encS l).getD i [] = [.int .i64 (l.getD i default).blk,.int .i64 (l.getD i default).ins,.sl (encT (l.getD i default).tg)]:=fun i row hr=>by
  have hi:i < l.length:=by rw [← h.1]; exact (List.getElem?_eq_some_iff.1 hr).1
  obtain ⟨T,h1,h2⟩:=h.2 i hi
  rw [List.getD_eq_getElem?_getD,hr,Option.getD_some] at h1
  exact ⟨hi,T,h1,h2,encS_getD l i hi⟩
 refine .msl o v _ _ R (encS l) (Nat.zero_le _) ho (by rw [encS_length,h.1]) (fun i row hr=>?_) (fun i row j p hr hj=>?_)
 ·obtain ⟨_,T,h1,_,h3⟩:=key i row hr
  rw [h3,h1]; rfl
 ·obtain ⟨_,T,h1,h2,h3⟩:=key i row hr
  rw [h3]
  subst h1
  match j,hj with
  | 0,hj=>simp at hj; subst hj; exact .keep _ (bel_int _ _ _)
  | 1,hj=>simp at hj; subst hj; exact .keep _ (bel_int _ _ _)
  | 2,hj=>simp at hj; subst hj; exact h2.frz
  | j + 3,hj=>simp at hj
theorem RowsAt.app {Q:Store} {o:Nat} {l:List Site} {R:List (List PV)} (h:RowsAt Q o l R) (X:Store):RowsAt (Q ++ X) o l R:=⟨h.1,fun i hi=>by
 obtain ⟨T,h1,h2⟩:=h.2 i hi
 exact ⟨T,h1,h2.app X⟩⟩
theorem RowsAt.set {Q:Store} {o:Nat} {l:List Site} {R:List (List PV)} (h:RowsAt Q o l R) (X:Go.PV.Obj):RowsAt (Q.set o X) o l R:=⟨h.1,fun i hi=>by
 obtain ⟨T,h1,h2⟩:=h.2 i hi
 exact ⟨T,h1,h2.set X⟩⟩
theorem RowsAt.snoc {Q:Store} {o:Nat} {l:List Site} {R:List (List PV)} (h:RowsAt Q o l R) {s:Site} {T:PV} (hT:TgAt Q o s.tg T):RowsAt Q o (l ++ [s]) (R ++ [[.int .i64 s.blk,.int .i64 s.ins,T]]):=by
 refine ⟨by rw [List.length_append,List.length_append,h.1]; rfl,fun i hi=>?_⟩
 rw [List.length_append,List.length_singleton] at hi
 by_cases hil:i < l.length
 ·obtain ⟨T,h1,h2⟩:=h.2 i hil
  have e1:(l ++ [s]).getD i default = l.getD i default:=by simp [List.getD_eq_getElem?_getD,List.getElem?_append_left hil]
  refine ⟨T,?_,by rw [e1]; exact h2⟩
  rw [e1,← h1]
  simp [List.getD_eq_getElem?_getD,List.getElem?_append_left (show i < R.length by rw [h.1]; exact hil)]
 ·obtain rfl:i = l.length:=by omega
  refine ⟨T,?_,?_⟩
  ·have:R.length = l.length:=h.1
   simp [List.getD_eq_getElem?_getD,← this]
  ·simp [List.getD_eq_getElem?_getD]; exact hT
theorem RowsAt.nil {Q:Store} {o:Nat}:RowsAt Q o [] []:=⟨rfl,fun i h=>absurd h (Nat.not_lt_zero _)⟩
theorem newsT (l:List (Int × Int)):newsOk Try.prog 88 (encT l) = true:=by
 show newsOk _ _ (List.map _ _) = true
 simp [newsOk,PV.cell,tyC]
set_option maxHeartbeats 8000000 in
theorem csites_w (l:List Site) (hl:l.length ≤ 1100000) (ht:∀ s ∈ l,s.tg.length ≤ 1100000):PCall Try.prog 116 [.sl (encS l)] [] (fun q _=>q = .sl (encS l)):=by
 refine PCall.vfrz [] 575 25 [.tmp 2] (noE_ok _) mix Try.func116 rfl (by decide) rfl rfl (by simp) ?_
 simp -dsimp only [initFr,List.zipIdx_cons,List.zipIdx_nil,List.map_cons,List.map_nil,Nat.zero_add,Nat.reduceAdd]
 simp -dsimp (maxSteps:=4000000) +contextual (disch:=first | omega | decide +kernel) only [↓vsD,vsE,↓Nat.reduceLT,simprocAttr,encS_length]
 refine v_loopS (fun s:Nat × Nat × List (List PV) × Store=>[(0,.sl (encS l)),(3,match s.1 with | 0=>.nils | j + 1=>.msl s.2.1 j),(4,.int .i64 s.1)])
  (fun s=>s.2.2.2) (fun s=>s.1 ≤ l.length ∧ ∀ j,s.1 = j + 1 → s.2.2.2[s.2.1]? = some (.rows 91 3 s.2.2.1 j) ∧ RowsAt s.2.2.2 s.2.1 (l.take s.1) s.2.2.1) (fun s=>l.length - s.1) (0,0,[],[]) (by simp [weaker,Go.PV.look]) rfl ⟨by simp,fun j h=>by simp at h⟩ ?_
 rintro ⟨k,o,R,Q⟩ ⟨hk,hQ⟩
 dsimp only at hk hQ ⊢
 by_cases hkl:k < l.length
 ·have htl:=ht _ (gtD (d:=default) hkl)
  have e1:=take_succD l k hkl
  have hk1:k + 1 ≤ l.length:=hkl
  have hrow:=encS_getD l k hkl
  obtain ⟨s,hs⟩:∃ s,s = l.getD k default:=⟨_,rfl⟩
  rw [← hs] at htl e1 hrow
  have hel:(encT s.tg).length = s.tg.length:=encT_length _
  cases k with
  | zero =>
   cases htg:s.tg with
   | nil =>
    have e0:encT [] = []:=rfl
    rw [htg] at hrow
    simp -dsimp (maxSteps:=4000000) +contextual (disch:=first | omega | decide +kernel) only [↓vsD,vsE,↓Nat.reduceLT,simprocAttr,encS_length,hrow,bytesK,lenK,vgap,e0]
    refine ⟨(1,Q.length + 1,[[.int .i64 s.blk,.int .i64 s.ins,.nils]],_),(by (try dsimp only); omega),by simp [weaker,Go.PV.look],rfl,hk1,fun j h=>?_⟩
    obtain rfl:j = 0:=by dsimp only at h; omega
    dsimp only
    rw [e1]
    exact ⟨by simp,RowsAt.snoc (l:=[]) (R:=[]) RowsAt.nil (.inl ⟨rfl,htg⟩)⟩
   | cons t tg =>
    have e0:encT (t :: tg) = [.int .i64 t.1,.int .i64 t.2] :: encT tg:=rfl
    have e2:(encT tg).length = tg.length:=encT_length _
    rw [htg] at hrow htl
    rw [List.length_cons] at htl
    simp -dsimp (maxSteps:=4000000) +contextual (disch:=first | omega | decide +kernel) only [↓vsD,vsE,↓Nat.reduceLT,simprocAttr,encS_length,hrow,bytesK,lenK,vgap,e0,e2,newsT]
    refine ⟨(1,Q.length + 1 + 1,[[.int .i64 s.blk,.int .i64 s.ins,.msl (Q.length + 1) 0]],_),(by (try dsimp only); omega),by simp [weaker,Go.PV.look],rfl,hk1,fun j h=>?_⟩
    obtain rfl:j = 0:=by dsimp only at h; omega
    dsimp only
    rw [e1]
    exact ⟨(by simp only [List.length_append,List.length_cons,List.length_nil,Nat.zero_add]; refine lastAt _ _ _ ?_; simp),RowsAt.snoc (l:=[]) (R:=[]) RowsAt.nil (.inr ⟨Q.length + 1,rfl,by omega,by rw [htg,e0]; simp⟩)⟩
  | succ j =>
   obtain ⟨hq,hR⟩:=hQ j rfl
   have hql:=(List.getElem?_eq_some_iff.1 hq).1
   have g1:∀ X,(Q ++ X)[o]? = some (.rows 91 3 R j):=fun X=>by rw [List.getElem?_append_left hql,hq]
   have g2:∀ X y,(Q ++ X).set o y = Q.set o y ++ X:=fun X y=>by rw [List.set_append_left _ _ hql]
   have hRl:R.length = j + 1:=by rw [hR.1,List.length_take]; omega
   cases htg:s.tg with
   | nil =>
    have e0:encT [] = []:=rfl
    rw [htg] at hrow
    simp -dsimp (maxSteps:=4000000) +contextual (disch:=first | omega | decide +kernel) only [↓vsD,vsE,↓Nat.reduceLT,simprocAttr,encS_length,hrow,bytesK,lenK,vgap,e0,g1,g2,hRl]
    refine ⟨(j + 1 + 1,o,R ++ [[.int .i64 s.blk,.int .i64 s.ins,.nils]],_),(by (try dsimp only); omega),by simp [weaker,Go.PV.look],rfl,hk1,fun j2 h=>?_⟩
    obtain rfl:j2 = j + 1:=by dsimp only at h; omega
    dsimp only
    rw [e1]
    exact ⟨by rw [List.getElem?_append_left (by rw [List.length_set]; exact hql),List.getElem?_set_self hql],RowsAt.snoc ((hR.set _).app _) (.inl ⟨rfl,htg⟩)⟩
   | cons t tg =>
    have e0:encT (t :: tg) = [.int .i64 t.1,.int .i64 t.2] :: encT tg:=rfl
    have e2:(encT tg).length = tg.length:=encT_length _
    rw [htg] at hrow htl
    rw [List.length_cons] at htl
    simp -dsimp (maxSteps:=4000000) +contextual (disch:=first | omega | decide +kernel) only [↓vsD,vsE,↓Nat.reduceLT,simprocAttr,encS_length,hrow,bytesK,lenK,vgap,e0,e2,newsT,g1,g2,hRl,List.append_assoc]
    refine ⟨(j + 1 + 1,o,R ++ [[.int .i64 s.blk,.int .i64 s.ins,.msl (Q.length + 1) 0]],_),(by (try dsimp only); omega),by simp [weaker,Go.PV.look],rfl,hk1,fun j2 h=>?_⟩
    obtain rfl:j2 = j + 1:=by dsimp only at h; omega
    dsimp only
    rw [e1]
    exact ⟨by rw [List.getElem?_append_left (by rw [List.length_set]; exact hql),List.getElem?_set_self hql]; simp,RowsAt.snoc ((hR.set _).app _) (.inr ⟨Q.length + 1,rfl,by omega,by rw [htg,e0]; simp⟩)⟩
 ·cases k with
  | zero =>
   have:l = []:=List.eq_nil_of_length_eq_zero (by omega)
   subst this
   simp -dsimp (maxSteps:=4000000) +contextual (disch:=first | omega | decide +kernel) only [↓vsD,vsE,↓Nat.reduceLT,simprocAttr,encS_length]
   exact fin0 .nils rfl
  | succ j =>
   obtain ⟨hq,hR⟩:=hQ j rfl
   rw [List.take_of_length_le (by omega)] at hR
   simp -dsimp (maxSteps:=4000000) +contextual (disch:=first | omega | decide +kernel) only [↓vsD,vsE,↓Nat.reduceLT,simprocAttr,encS_length]
   exact fin0 (hR.frz hq) rfl
theorem csites_on (l:List Site) (hl:l.length ≤ 1100000) (ht:∀ s ∈ l,s.tg.length ≤ 1100000) (σ:Store):PCall Try.prog 116 [.sl (encS l)] σ (fun q σ'=>q = .sl (encS l) ∧ σ' = σ) :=
 PCall.lift (csites_w l hl ht) (bel1 (bel_sites _ l)) (fun q h=>⟨by rw [h]; exact bel_sites _ _,h,rfl⟩)
end Go.Proofs.Ythjoehaglonjaaa
