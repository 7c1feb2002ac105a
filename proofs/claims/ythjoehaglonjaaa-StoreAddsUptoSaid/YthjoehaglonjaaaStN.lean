import Derived.WalkKit
import Derived.Lib.SliceRun
import Derived.Shelf.AbstractIn
import Derived.Lib.Walk
import Derived.Test.YthjoehaglonjaaaStI
import Derived.Test.YthjoehaglonjaaaStK
set_option maxRecDepth 8000
set_option linter.unusedSimpArgs false
set_option linter.unusedVariables false
namespace Go.Proofs.Ythjoehaglonjaaa
open Go.PV Go.RowKit
set_option maxRecDepth 100000 in
set_option maxHeartbeats 2000000 in
theorem growD_calls (n:Nat) (hn:0 < n) (hn2:n ≤ 2000) (w:World):Calls Try.prog 108 #[.slice none 0 0,.int .i64 n] w fun x w'=>∃ b cap cs,x = .returned (.slice (some ⟨b,0,none⟩) 0 cap) ∧ w.heap.size ≤ b ∧ w'.heap[b]? = some (.cells cs 58 (0,0)) ∧ cs.size = cap * 3 ∧ cap ≤ maxLen ∧ Below w.heap.size w w':=by
 refine calls_of_wp Try.func108 rfl ?_
 simp only [Try.ntmps108,List.size_toArray,List.length_cons,List.length_nil,Nat.reduceAdd,Nat.reduceSub,Array.replicate_succ,Array.replicate_zero,List.push_toArray,List.append_toArray,List.nil_append,List.cons_append]
 have hu:Try.prog.underlying 24 = some (.slice 58):=by kernel_rfl
 have u:∀ w,Sem.run Try.prog (underlying 24) w = .ok (TypeDesc.slice 58) w:=run_underlying hu
 have hcap:Builtin.nextslicecap n 0 = n:=by simp [Builtin.nextslicecap,hn]
 have hbt:Try.t58.bytes = 24:=rfl
 go_wp2
 go_ret
 have hge:=grownCap_ge w n 0 58
 have hle:=grownCap_le_maxLen w n 0 58 (by unfold maxLen; omega)
 refine ⟨w.heap.size,grownCap w n 0 58,rfl,Nat.le_refl _,Builtin.zeroCells #[.int .i64 0,.int .i64 0,.int .i64 0] n ++ Builtin.zeroCells #[.int .i64 0,.int .i64 0,.int .i64 0] (grownCap w n 0 58 - n),?_,?_,hle,?_⟩
 ·show (w.heap.push _)[w.heap.size]? = _
  exact Array.getElem?_push_size
 ·rw [Array.size_append,size_zeroCells,size_zeroCells]
  simp
  omega
 ·exact ((Below.refl _ w).alloc (Nat.le_refl _) _).drew
end Go.Proofs.Ythjoehaglonjaaa
namespace Go.PV
open Go.RowKit
theorem PCall.ofRoom {P:Program} {F:FuncId} {args:List PV} {σ:Store} (e:TypeId) (sz:Nat) (hb:hasBody P F = true)
  (h:∀ (I:Imm) (ρ:Rho) (w:World) (vs:Array Value),Inv I ρ σ w → ArgsR I ρ args vs → Calls P F vs w fun x w'=>∃ b cap cs,x = .returned (.slice (some ⟨b,0,none⟩) 0 cap) ∧ w.heap.size ≤ b ∧ w'.heap[b]? = some (.cells cs e (0,0)) ∧ cs.size = cap * sz ∧ cap ≤ maxLen ∧ Below w.heap.size w w') :
  PCall P F args σ (fun p σ'=>p = .msl σ.length 0 ∧ σ' = σ ++ [.rows e sz [] 0]):=by
 refine ⟨hb,fun I ρ w vs hinv ha=>(h I ρ w vs hinv ha).mono ?_⟩
 rintro x w' ⟨b,cap,cs,rfl,hbk,hcell,hcs,hcap,hbl⟩
 have himm:∀ off,I b off = none:=fun off=>by
  cases hI:I b off with
  | none=>rfl
  | some u=>exact absurd (World.block_lt_of_cell? w ⟨b,off,none⟩ (hinv.imm b off u hI)) (by simp; omega)
 obtain ⟨L,hL⟩:∃ L:Loc,L = ⟨b,sz,0,cap⟩:=⟨_,rfl⟩
 have hobj:ObjInv I (extR ρ σ.length 0 L) w' σ.length (.rows e sz [] 0):=by
  refine ⟨L,cs,extR_same _ _ _ _,by rw [hL],by rw [hL]; rfl,by rw [hL]; exact hcell,by rw [hL]; exact Nat.zero_le _,by rw [hL]; exact hcap,by rw [hL]; exact hcs,by simp,by simp,fun off=>by rw [hL]; exact himm off,fun v' hv=>?_⟩
  rw [extR_other (fun h=>by omega)]
  exact hinv.free _ _ (Nat.le_refl _)
 obtain ⟨h1,h2⟩:=hinv.newObj (obj:=.rows e sz [] 0) (L:=L) rfl (by rw [hL]; exact hbk) (fun b hb=>hbl.block b hb) hbl.size hbl.os hbl.tape hbl.output hobj
 refine ⟨_,.msl σ.length 0,I,_,_,rfl,?_,h1,h2,rfl,rfl⟩
 have:=R.msl (I:=I) (ρ:=extR ρ σ.length 0 L) σ.length 0 L (extR_same _ _ _ _)
 rw [hL] at this ⊢
 exact this
end Go.PV
namespace Go.Proofs.Ythjoehaglonjaaa
open Go.PV Go.RowKit
theorem growD_ok (n:Nat) (hn:0 < n) (hn2:n ≤ 2000) (σ:Store):PCall Try.prog 108 [.nils,.int .i64 n] σ (fun p σ'=>p = .msl σ.length 0 ∧ σ' = σ ++ [.rows 58 3 [] 0]):=by
 refine PCall.ofRoom _ _ (by kernel_rfl) (fun I ρ w vs hinv ha=>?_)
 have h0:=ha.2 0 _ rfl
 have h1:=ha.2 1 _ rfl
 have hsz:vs.size = 2:=ha.1
 have hvs:vs = #[vs.getD 0 Go.undef,vs.getD 1 Go.undef]:=by
  apply Array.ext
  ·simp [hsz]
  ·intro i hi1 hi2
   simp at hi2
   match i,hi2 with
   | 0,_=>simp [Array.getD,hsz]
   | 1,_=>simp [Array.getD,hsz]
 generalize vs.getD 0 Go.undef = v at h0 hvs
 generalize vs.getD 1 Go.undef = u at h1 hvs
 cases h0
 cases h1
 rw [hvs]
 exact growD_calls n hn hn2 w
theorem newsD (l:List Idn):newsOk Try.prog 58 (encD l) = true:=by
 show newsOk _ _ (List.map _ _) = true
 simp [newsOk,PV.cell,tyC,idRow]
open Go.RowKit in
set_option maxRecDepth 100000 in
set_option maxHeartbeats 2000000 in
theorem grow0_calls (w:World):Calls Try.prog 108 #[.slice none 0 0,.int .i64 0] w fun x w'=>x = .returned (.slice none 0 0) ∧ w' = w:=by
 refine calls_of_wp Try.func108 rfl ?_
 simp only [Try.ntmps108,List.size_toArray,List.length_cons,List.length_nil,Nat.reduceAdd,Nat.reduceSub,Array.replicate_succ,Array.replicate_zero,List.push_toArray,List.append_toArray,List.nil_append,List.cons_append]
 go_wp2
 go_ret
 exact ⟨rfl,rfl⟩
theorem grow0_ok (σ:Store):PCall Try.prog 108 [.nils,.int .i64 0] σ (fun p σ'=>p = .nils ∧ σ' = σ):=by
 refine ⟨by kernel_rfl,fun I ρ w vs hinv ha=>?_⟩
 have h0:=ha.2 0 _ rfl
 have h1:=ha.2 1 _ rfl
 have hsz:vs.size = 2:=ha.1
 have hvs:vs = #[vs.getD 0 Go.undef,vs.getD 1 Go.undef]:=by
  apply Array.ext
  ·simp [hsz]
  ·intro i hi1 hi2
   simp at hi2
   match i,hi2 with
   | 0,_=>simp [Array.getD,hsz]
   | 1,_=>simp [Array.getD,hsz]
 generalize vs.getD 0 Go.undef = v at h0 hvs
 generalize vs.getD 1 Go.undef = u at h1 hvs
 cases h0
 cases h1
 rw [hvs]
 refine (grow0_calls w).mono ?_
 rintro x w' ⟨rfl,rfl⟩
 exact ⟨_,.nils,I,ρ,σ,rfl,.nils,hinv,Grow.refl _ _ _ _,rfl,rfl⟩
set_option maxHeartbeats 4000000 in
theorem concat_ok (a b:List Idn) (ha:a.length ≤ 500) (hb:b.length ≤ 500) (σ:Store):PCall Try.prog 81 [.sl [[.sl (encD a)],[.sl (encD b)]]] σ
  (fun p σ'=>(a = [] ∧ b = [] ∧ p = .nils ∧ σ' = σ) ∨ (0 < a.length + b.length ∧ ∃ v,p = .msl σ.length v ∧ σ' = σ ++ [.rows 58 3 (encD (a ++ b)) v])):=by
 have k0:∀ args σ,noE.f 108 args σ = none:=fun _ _=>rfl
 refine PCall.vraw [] 504373247 36 [.tmp 2] (noE_ok _) mix Try.func81 rfl (by decide) rfl rfl (by simp) ?_
 simp -dsimp only [initFr,List.zipIdx_cons,List.zipIdx_nil,List.map_cons,List.map_nil,Nat.zero_add,Nat.reduceAdd]
 simp -dsimp (maxSteps:=4000000) +contextual (disch:=first | omega | decide +kernel) only [↓vsD,vsE,↓Nat.reduceLT,simprocAttr]
 refine v_loopS (fun k:Nat=>[(0,.sl [[.sl (encD a)],[.sl (encD b)]]),(3,.int .i64 ((if 0 < k then a.length else 0) + (if 1 < k then b.length else 0):Nat)),(9,.sl [[.sl (encD a)],[.sl (encD b)]]),(10,.int .i64 2),(11,.int .i64 k)]) (fun _=>σ) (fun k=>k ≤ 2) (fun k=>2 - k) 0 (by simp [weaker,Go.PV.look]) rfl (by omega) ?_
 intro k hk
 rcases (show k = 0 ∨ k = 1 ∨ k = 2 by omega) with rfl | rfl | rfl
 ·simp -dsimp only [Nat.lt_irrefl,if_false,Nat.not_lt_zero,Nat.add_zero]
  simp -dsimp (maxSteps:=4000000) +contextual (disch:=first | omega | decide +kernel) only [↓vsD,vsE,↓Nat.reduceLT,simprocAttr,encD_length]
  exact ⟨1,(by (try dsimp only); omega),by simp [weaker,Go.PV.look],rfl,by omega⟩
 ·simp -dsimp (maxSteps:=4000000) +contextual (disch:=first | omega | decide +kernel) only [↓vsD,vsE,↓Nat.reduceLT,simprocAttr,encD_length]
  exact ⟨2,(by (try dsimp only); omega),by simp [weaker,Go.PV.look],rfl,by omega⟩
 ·by_cases hz:a.length + b.length = 0
  ·obtain rfl:a = []:=List.eq_nil_of_length_eq_zero (by omega)
   obtain rfl:b = []:=List.eq_nil_of_length_eq_zero (by omega)
   have e0:encD [] = []:=rfl
   simp -dsimp (maxSteps:=4000000) +contextual (disch:=first | omega | decide +kernel) only [↓vsD,vsE,↓Nat.reduceLT,simprocAttr,encD_length,List.length_nil,e0,k0]
   refine PCall.mono (grow0_ok σ) ?_
   rintro p σ' ⟨rfl,rfl⟩
   simp -dsimp (maxSteps:=4000000) +contextual (disch:=first | omega | decide +kernel) only [↓vsD,vsE,↓Nat.reduceLT,simprocAttr,e0]
   refine v_loopS (fun k:Nat=>[(6,.nils),(25,.sl [[.sl []],[.sl []]]),(26,.int .i64 2),(27,.int .i64 k)]) (fun _=>σ') (fun k=>k ≤ 2) (fun k=>2 - k) 0 (by simp [weaker,Go.PV.look]) rfl (by omega) ?_
   intro k hk
   rcases (show k = 0 ∨ k = 1 ∨ k = 2 by omega) with rfl | rfl | rfl
   ·simp -dsimp (maxSteps:=4000000) +contextual (disch:=first | omega | decide +kernel) only [↓vsD,vsE,↓Nat.reduceLT,simprocAttr]
    exact ⟨1,(by (try dsimp only); omega),by simp [weaker,Go.PV.look],rfl,by omega⟩
   ·simp -dsimp (maxSteps:=4000000) +contextual (disch:=first | omega | decide +kernel) only [↓vsD,vsE,↓Nat.reduceLT,simprocAttr]
    exact ⟨2,(by (try dsimp only); omega),by simp [weaker,Go.PV.look],rfl,by omega⟩
   ·simp -dsimp (maxSteps:=4000000) +contextual (disch:=first | omega | decide +kernel) only [↓vsD,vsE,↓Nat.reduceLT,simprocAttr]
    exact .inl trivial
  ·simp -dsimp (maxSteps:=4000000) +contextual (disch:=first | omega | decide +kernel) only [↓vsD,vsE,↓Nat.reduceLT,simprocAttr,encD_length,k0]
   refine PCall.mono (growD_ok (a.length + b.length) (by omega) (by omega) σ) ?_
   rintro p σ' ⟨rfl,rfl⟩
   simp -dsimp (maxSteps:=4000000) +contextual (disch:=first | omega | decide +kernel) only [↓vsD,vsE,↓Nat.reduceLT,simprocAttr]
   refine v_loopS (fun k:Nat=>[(6,.msl σ.length k),(25,.sl [[.sl (encD a)],[.sl (encD b)]]),(26,.int .i64 2),(27,.int .i64 k)]) (fun k=>σ ++ [.rows 58 3 (if 1 < k then encD (a ++ b) else if 0 < k then encD a else []) k]) (fun k=>k ≤ 2) (fun k=>2 - k) 0 (by simp [weaker,Go.PV.look]) rfl (by omega) ?_
   intro k hk
   rcases (show k = 0 ∨ k = 1 ∨ k = 2 by omega) with rfl | rfl | rfl
   ·simp -dsimp only [Nat.lt_irrefl,if_false,Nat.not_lt_zero]
    simp -dsimp (maxSteps:=4000000) +contextual (disch:=first | omega | decide +kernel) only [↓vsD,vsE,↓Nat.reduceLT,simprocAttr,encD_length,newsD,bytesK,lenK,vgap]
    exact ⟨1,(by (try dsimp only); omega),by simp [weaker,Go.PV.look],rfl,by omega⟩
   ·simp -dsimp (maxSteps:=4000000) +contextual (disch:=first | omega | decide +kernel) only [↓vsD,vsE,↓Nat.reduceLT,simprocAttr,encD_length,newsD,bytesK,lenK,vgap]
    exact ⟨2,(by (try dsimp only); omega),by simp [weaker,Go.PV.look],by simp [encD],by omega⟩
   ·simp -dsimp (maxSteps:=4000000) +contextual (disch:=first | omega | decide +kernel) only [↓vsD,vsE,↓Nat.reduceLT,simprocAttr]
    exact .inr ⟨2,rfl,rfl⟩
end Go.Proofs.Ythjoehaglonjaaa
