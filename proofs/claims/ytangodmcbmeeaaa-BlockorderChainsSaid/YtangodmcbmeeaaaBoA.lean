import Derived.Test.YtangodmcbmeeaaaBoR
import Derived.Test.YtangodmcbmeeaaaTy
import Derived.Test.YtangodmcbmeeaaaEnA
import Derived.Test.YtangodmcbmeeaaaPvY
set_option maxRecDepth 8000
set_option linter.unusedSimpArgs false
set_option linter.unusedVariables false
namespace Go.Proofs.Ytangodmcbmeeaaa
open Go.PV
def Way.row (w:Way):List PV:=[.int .i64 (w.fr:Int),.int .i64 (w.to:Int),.int .i64 w.cnt]
def encW (l:List Way):List (List PV):=l.map Way.row
theorem encW_length (l:List Way):(encW l).length = l.length:=by simp [encW]
theorem encW_getD (l:List Way) (i:Nat) (h:i < l.length):(encW l).getD i [] = [.int .i64 ((l.getD i default).fr:Int),.int .i64 ((l.getD i default).to:Int),.int .i64 (l.getD i default).cnt]:=by simp [encW,Way.row,List.getD_eq_getElem?_getD,h]
theorem encW_bel (n:Nat) (l:List Way):∀ row ∈ encW l,∀ p ∈ row,Bel n p:=fun row hr p hp=>by
 simp only [encW,List.mem_map] at hr
 obtain ⟨t,_,rfl⟩:=hr
 simp only [Way.row,List.mem_cons,List.not_mem_nil,or_false] at hp
 rcases hp with rfl | rfl | rfl <;> exact bel_int _ _ _
def TermI.row (t:TermI):List PV:=[.nils,.int .i64 t.kind,.int .i64 0,.int .i64 (t.to:Int),.int .i64 (t.els:Int),.int .i64 0,.int .i64 0,.int .i64 0]
def encT (T:List TermI):List (List PV):=T.map TermI.row
theorem encT_length (l:List TermI):(encT l).length = l.length:=by simp [encT]
theorem encT_getD (l:List TermI) (i:Nat) (h:i < l.length):(encT l).getD i [] = [.nils,.int .i64 (l.getD i default).kind,.int .i64 0,.int .i64 ((l.getD i default).to:Int),.int .i64 ((l.getD i default).els:Int),.int .i64 0,.int .i64 0,.int .i64 0]:=by simp [encT,TermI.row,List.getD_eq_getElem?_getD,h]
theorem encT_bel (n:Nat) (l:List TermI):∀ row ∈ encT l,∀ p ∈ row,Bel n p:=fun row hr p hp=>by
 simp only [encT,List.mem_map] at hr
 obtain ⟨t,_,rfl⟩:=hr
 simp only [TermI.row,List.mem_cons,List.not_mem_nil,or_false] at hp
 rcases hp with rfl | rfl | rfl | rfl | rfl | rfl | rfl | rfl <;> first | exact bel_int _ _ _ | exact bel_nils _
def encX (E:List (Int × Int)):List (List PV):=E.map fun e=>[.int .i64 e.1,.int .i64 e.2]
theorem encX_length (l:List (Int × Int)):(encX l).length = l.length:=by simp [encX]
theorem encX_getD (l:List (Int × Int)) (i:Nat) (h:i < l.length):(encX l).getD i [] = [.int .i64 (l.getD i default).1,.int .i64 (l.getD i default).2]:=by simp [encX,List.getD_eq_getElem?_getD,h]
theorem encX_bel (n:Nat) (l:List (Int × Int)):∀ row ∈ encX l,∀ p ∈ row,Bel n p:=fun row hr p hp=>by
 simp only [encX,List.mem_map] at hr
 obtain ⟨t,_,rfl⟩:=hr
 simp only [List.mem_cons,List.not_mem_nil,or_false] at hp
 rcases hp with rfl | rfl <;> exact bel_int _ _ _
theorem bel_intsB (n:Nat) (l:List Int):Bel n (.sl (ints l)):=bel_sl (enc_bel _ _ _)
theorem intsB_len (l:List Int):(ints l).length = l.length:=enc_length _ _
theorem intsB_getD (l:List Int) (i:Nat) (h:i < l.length):(ints l).getD i [] = [.int .i64 (l.getD i 0)]:=enc_getD _ _ _ h
def fnV (nm:PV) (T:List TermI):PV:=.agg [nm,.int .i64 0,.int .i64 1,.sl (encT T)]
def cnV (B:List Int) (E:List (Int × Int)):PV:=.agg [.int .i64 0,.sl (ints B),.sl (encX E),.nils]
theorem fnV_bel (n:Nat) {nm:PV} (h:Bel n nm) (T:List TermI):Bel n (fnV nm T):=bel_agg (fun p hp=>by
 simp only [List.mem_cons,List.not_mem_nil,or_false] at hp
 rcases hp with rfl | rfl | rfl | rfl
 ·exact h
 ·exact bel_int _ _ _
 ·exact bel_int _ _ _
 ·exact bel_sl (encT_bel _ _))
theorem cnV_bel (n:Nat) (B:List Int) (E:List (Int × Int)):Bel n (cnV B E):=bel_agg (fun p hp=>by
 simp only [List.mem_cons,List.not_mem_nil,or_false] at hp
 rcases hp with rfl | rfl | rfl | rfl
 ·exact bel_int _ _ _
 ·exact bel_intsB _ _
 ·exact bel_sl (encX_bel _ _)
 ·exact bel_nils _)
structure GoodB (T:List TermI) (B:List Int) (E:List (Int × Int)):Prop where
 n0:0 < T.length
 n:T.length ≤ 40
 lb:B.length = T.length
 le:E.length = T.length
 cb:∀ x ∈ B,0 ≤ x ∧ x ≤ 1000
 ce:∀ e ∈ E,(0 ≤ e.1 ∧ e.1 ≤ 1000) ∧ (0 ≤ e.2 ∧ e.2 ≤ 1000)
 tt:∀ t ∈ T,t.to < T.length ∧ t.els < T.length
theorem GoodB.bAt {T:List TermI} {B:List Int} {E:List (Int × Int)} (h:GoodB T B E) {i:Nat} (hi:i < T.length):0 ≤ B.getD i 0 ∧ B.getD i 0 ≤ 1000:=by
 have hl:i < B.length:=by rw [h.lb]; exact hi
 rw [getDB hl]; exact h.cb _ (List.getElem_mem _)
theorem GoodB.eAt {T:List TermI} {B:List Int} {E:List (Int × Int)} (h:GoodB T B E) {i:Nat} (hi:i < T.length):(0 ≤ (E.getD i default).1 ∧ (E.getD i default).1 ≤ 1000) ∧ (0 ≤ (E.getD i default).2 ∧ (E.getD i default).2 ≤ 1000):=by
 have hl:i < E.length:=by rw [h.le]; exact hi
 rw [getDB hl]; exact h.ce _ (List.getElem_mem _)
theorem GoodB.tAt {T:List TermI} {B:List Int} {E:List (Int × Int)} (h:GoodB T B E) {i:Nat} (hi:i < T.length):(T.getD i default).to < T.length ∧ (T.getD i default).els < T.length:=by
 rw [getDB hi]; exact h.tt _ (List.getElem_mem _)
theorem GoodB.way {T:List TermI} {B:List Int} {E:List (Int × Int)} (h:GoodB T B E) {w:Way} (hw:w ∈ waysF T E T.length):w.fr < T.length ∧ w.to < T.length ∧ 0 ≤ w.cnt ∧ w.cnt ≤ 1000:=by
 obtain ⟨j,hj,hm⟩:=waysF_mem hw
 have h1:=wayK_mem hm
 have h2:=h.tAt hj
 have h3:=h.eAt hj
 have h4:w.cnt ≤ 1000:=by
  unfold wayK at hm
  rcases List.mem_append.1 hm with hm | hm
  ·split at hm
   ·rw [List.mem_singleton] at hm; subst hm; dsimp only [posI]; split <;> omega
   ·cases hm
  ·split at hm
   ·rw [List.mem_singleton] at hm; subst hm; dsimp only [posI]; split <;> omega
   ·cases hm
 refine ⟨by rw [h1.1]; exact hj,?_,h1.2.2,h4⟩
 rcases h1.2.1 with e | e <;> rw [e]
 ·exact h2.1
 ·exact h2.2
theorem counted_ok (x:Int) (hx:0 ≤ x ∧ x ≤ 1000) (σ:Store):PCall Try.prog 55 [.int .i64 x] σ (fun p τ=>p = .bool true ∧ τ = σ):=by
 refine PCall.vraw [] 7 9 [.tmp 2] (noE_ok _) mix Try.func55 rfl (by decide) rfl rfl (by simp) ?_
 simp -dsimp only [initFr,List.zipIdx_cons,List.zipIdx_nil,List.map_cons,List.map_nil,Nat.zero_add,Nat.reduceAdd]
 simp -dsimp (maxSteps:=4000000) +contextual (disch:=first | omega | decide +kernel) only [↓vsD,vsE,↓Nat.reduceLT,simprocAttr]
set_option maxHeartbeats 8000000 in
theorem fits_w (nm:PV) (hnm:PV.cell nm = true) {T:List TermI} {B:List Int} {E:List (Int × Int)} (h:GoodB T B E):PCall Try.prog 32 [fnV nm T,cnV B E] [] (fun p _=>p = .bool true):=by
 have hn:=h.n
 have hlb:=h.lb
 have hle:=h.le
 have k0:∀ args σ,noE.f 55 args σ = none:=fun _ _=>rfl
 unfold fnV cnV
 refine PCall.vfrz [] 9007199510593663 55 [.tmp 4] (noE_ok _) mix Try.func32 rfl (by decide) rfl rfl (by simp) ?_
 simp -dsimp only [initFr,List.zipIdx_cons,List.zipIdx_nil,List.map_cons,List.map_nil,Nat.zero_add,Nat.reduceAdd]
 simp -dsimp (maxSteps:=4000000) +contextual (disch:=first | omega | decide +kernel) only [↓vsD,vsE,↓Nat.reduceLT,simprocAttr,vcel,hnm,encT_length,encX_length,intsB_len,hlb,hle]
 refine v_loopS (fun k:Nat=>[(3,.ptr 1 0 0 0),(24,.sl (ints B)),(25,.int .i64 T.length),(26,.int .i64 k)]) (fun _=>[.rows 28 4 [[nm,.int .i64 0,.int .i64 1,.sl (encT T)]] 0,.rows 33 4 [[.int .i64 0,.sl (ints B),.sl (encX E),.nils]] 0]) (fun k=>k ≤ T.length) (fun k=>T.length - k) 0 (by simp [weaker,Go.PV.look]) rfl (Nat.zero_le _) ?_
 intro k hk
 by_cases hkl:k < T.length
 ·have c1:=counted_ok _ (h.bAt hkl)
  have c2:=counted_ok _ (h.eAt hkl).1
  have c3:=counted_ok _ (h.eAt hkl).2
  simp -dsimp (maxSteps:=4000000) +contextual (disch:=first | omega | decide +kernel) only [↓vsD,vsE,↓Nat.reduceLT,simprocAttr,vcel,k0,encX_length,intsB_len,hlb,hle,intsB_getD,encX_getD]
  refine PCall.mono (c1 _) ?_
  rintro p τ ⟨rfl,rfl⟩
  simp -dsimp (maxSteps:=4000000) +contextual (disch:=first | omega | decide +kernel) only [↓vsD,vsE,↓Nat.reduceLT,simprocAttr,vcel,k0,encX_length,intsB_len,hlb,hle,intsB_getD,encX_getD]
  refine PCall.mono (c2 _) ?_
  rintro p τ ⟨rfl,rfl⟩
  simp -dsimp (maxSteps:=4000000) +contextual (disch:=first | omega | decide +kernel) only [↓vsD,vsE,↓Nat.reduceLT,simprocAttr,vcel,k0,encX_length,intsB_len,hlb,hle,intsB_getD,encX_getD]
  refine PCall.mono (c3 _) ?_
  rintro p τ ⟨rfl,rfl⟩
  simp -dsimp (maxSteps:=4000000) +contextual (disch:=first | omega | decide +kernel) only [↓vsD,vsE,↓Nat.reduceLT,simprocAttr,vcel,k0,encX_length,intsB_len,hlb,hle,intsB_getD,encX_getD]
  exact ⟨k + 1,(by (try dsimp only); omega),(by simp [weaker,Go.PV.look]),rfl,hkl⟩
 ·simp -dsimp (maxSteps:=4000000) +contextual (disch:=first | omega | decide +kernel) only [↓vsD,vsE,↓Nat.reduceLT,simprocAttr,intsB_len,hlb]
  exact fin0 (.keep _ (bel_bool _ _)) rfl
theorem args2_bel {nm:PV} (hB:Bel 0 nm) (T:List TermI) (B:List Int) (E:List (Int × Int)):∀ x ∈ [fnV nm T,cnV B E],Bel 0 x:=fun x hx=>by
 simp only [List.mem_cons,List.not_mem_nil,or_false] at hx
 rcases hx with rfl | rfl
 ·exact fnV_bel 0 hB T
 ·exact cnV_bel 0 B E
theorem fits_on (nm:PV) (hnm:PV.cell nm = true) (hB:Bel 0 nm) {T:List TermI} {B:List Int} {E:List (Int × Int)} (h:GoodB T B E) (σ:Store):PCall Try.prog 32 [fnV nm T,cnV B E] σ (fun p τ=>p = .bool true ∧ τ = σ) :=
 PCall.lift (fits_w nm hnm h) (args2_bel hB T B E) (fun p h=>⟨by rw [h]; exact bel_bool _ _,h,rfl⟩)
def slotW (L:List Way) (o v:Nat):PV:=match L with | []=>.nils | _ :: _=>.msl o v
theorem newsW (a b c:Int):newsOk Try.prog 88 [[.int .i64 a,.int .i64 b,.int .i64 c]] = true:=by simp [newsOk,PV.cell,tyC]
theorem bytesB (a:Nat) (h:a ≤ 1099511627776):(a ≤ maxBytes) = True:=eq_true (by unfold maxBytes; omega)
theorem lenB (a:Nat) (h:a ≤ 1099511627776):(a ≤ maxLen) = True:=eq_true (by unfold maxLen; omega)
structure WyI (σ:Store) (fb cb:Go.PV.Obj) (L:List Way) (o v:Nat) (R:Store):Prop where
 pre:∃ Z,R = σ ++ Z
 f:R[σ.length]? = some fb
 c:R[σ.length + 1]? = some cb
 out:L ≠ [] → σ.length + 2 ≤ o ∧ R[o]? = some (.rows 88 3 (encW L) v)
theorem WyI.app {σ:Store} {fb cb:Go.PV.Obj} {L:List Way} {o v:Nat} {R:Store} (h:WyI σ fb cb L o v R) (X:Store):WyI σ fb cb L o v (R ++ X):=by
 obtain ⟨Z,hZ⟩:=h.pre
 have e:∀ (k:Nat) (y:Go.PV.Obj),R[k]? = some y → (R ++ X)[k]? = some y:=fun k y hk=>by rw [List.getElem?_append_left (List.getElem?_eq_some_iff.1 hk).1,hk]
 exact ⟨⟨Z ++ X,by rw [hZ,List.append_assoc]⟩,e _ _ h.f,e _ _ h.c,fun hL=>⟨(h.out hL).1,e _ _ (h.out hL).2⟩⟩
theorem WyI.new {σ:Store} {fb cb:Go.PV.Obj} {o v:Nat} {R:Store} (h:WyI σ fb cb [] o v R) (L:List Way) (xb:Go.PV.Obj) (v2:Nat):WyI σ fb cb L (R.length + 1) v2 (R ++ [xb,.rows 88 3 (encW L) v2]):=by
 have h2:=h.app [xb,.rows 88 3 (encW L) v2]
 have hl:=(List.getElem?_eq_some_iff.1 h.c).1
 exact ⟨h2.pre,h2.f,h2.c,fun _=>⟨by omega,by rw [List.getElem?_append_right (by omega)]; simp⟩⟩
theorem WyI.ext {σ:Store} {fb cb:Go.PV.Obj} {L:List Way} {o v:Nat} {R:Store} (h:WyI σ fb cb L o v R) (hL:L ≠ []) (L2:List Way) (v2:Nat):WyI σ fb cb L2 o v2 (R.set o (.rows 88 3 (encW L2) v2)):=by
 obtain ⟨h1,h2⟩:=h.out hL
 obtain ⟨Z,hZ⟩:=h.pre
 have hl:=(List.getElem?_eq_some_iff.1 h2).1
 refine ⟨⟨Z.set (o - σ.length) (.rows 88 3 (encW L2) v2),by rw [hZ,List.set_append_right _ _ (by omega)]⟩,?_,?_,fun _=>⟨h1,List.getElem?_set_self hl⟩⟩
 ·rw [List.getElem?_set_ne (by omega)]; exact h.f
 ·rw [List.getElem?_set_ne (by omega)]; exact h.c
set_option maxHeartbeats 16000000 in
theorem ways_raw (nm:PV) (hnm:PV.cell nm = true) {T:List TermI} {B:List Int} {E:List (Int × Int)} (h:GoodB T B E) (hk:∀ t ∈ T,t.kind = 2 ∨ t.kind = 3) (hne:waysF T E T.length ≠ []) (σ:Store) :
  PCall Try.prog 36 [fnV nm T,cnV B E] σ (fun p τ=>∃ o v,p = .msl o v ∧ σ.length ≤ o ∧ (∃ Z,τ = σ ++ Z) ∧ τ[o]? = some (.rows 88 3 (encW (waysF T E T.length)) v)):=by
 have hn:=h.n
 have hlb:=h.lb
 have hle:=h.le
 unfold fnV cnV
 obtain ⟨fb,hfb⟩:∃ fb,fb = Go.PV.Obj.rows 28 4 [[nm,.int .i64 0,.int .i64 1,.sl (encT T)]] 0:=⟨_,rfl⟩
 obtain ⟨cb,hcb⟩:∃ cb,cb = Go.PV.Obj.rows 33 4 [[.int .i64 0,.sl (ints B),.sl (encX E),.nils]] 0:=⟨_,rfl⟩
 refine PCall.vraw [] 17592219606783 62 [.tmp 4] (noE_ok _) mix Try.func36 rfl (by decide) rfl rfl (by simp) ?_
 simp -dsimp only [initFr,List.zipIdx_cons,List.zipIdx_nil,List.map_cons,List.map_nil,Nat.zero_add,Nat.reduceAdd]
 simp -dsimp (maxSteps:=4000000) +contextual (disch:=first | omega | decide +kernel) only [↓vsD,vsE,↓Nat.reduceLT,simprocAttr,vcel,vgap,hnm,encT_length,encX_length,intsB_len,hlb,hle]
 refine v_loopS (fun s:Nat × List Way × Nat × Nat × Store=>[(3,.ptr (σ.length + 1) 0 0 0),(5,slotW s.2.1 s.2.2.1 s.2.2.2.1),(9,.sl (encT T)),(10,.int .i64 T.length),(11,.int .i64 s.1)]) (fun s=>s.2.2.2.2) (fun s=>s.1 ≤ T.length ∧ s.2.1 = waysF T E s.1 ∧ WyI σ fb cb s.2.1 s.2.2.1 s.2.2.2.1 s.2.2.2.2) (fun s=>T.length - s.1) (0,[],0,0,σ ++ [fb,cb]) (by simp [weaker,Go.PV.look,slotW]) (by rw [hfb,hcb]; simp) ⟨Nat.zero_le _,rfl,⟨[fb,cb],rfl⟩,by simp,by simp,fun h=>absurd rfl h⟩ ?_
 rintro ⟨k,L,o,v,R⟩ ⟨hk1,hL,hW⟩
 dsimp only at hk1 hL hW ⊢
 have gc:=(hW.app []).c
 have gl:=(List.getElem?_eq_some_iff.1 hW.c).1
 have gcA:∀ X,(R ++ X)[σ.length + 1]? = some (.rows 33 4 [[.int .i64 0,.sl (ints B),.sl (encX E),.nils]] 0):=fun X=>by rw [← hcb]; exact (hW.app X).c
 by_cases hkl:k < T.length
 ·have hL2:L.length ≤ 80:=by
   have:=waysF_len T E k
   rw [hL]; omega
  have he:=h.eAt hkl
  have m1:(if (0:Int) > (E.getD k default).1 then 0 else (E.getD k default).1) = (E.getD k default).1:=if_neg (by omega)
  have m2:(if (0:Int) > (E.getD k default).2 then 0 else (E.getD k default).2) = (E.getD k default).2:=if_neg (by omega)
  have p1:posI (E.getD k default).1 = (E.getD k default).1:=by unfold posI; split <;> omega
  have p2:posI (E.getD k default).2 = (E.getD k default).2:=by unfold posI; split <;> omega
  have hkd:(T.getD k default).kind = 2 ∨ (T.getD k default).kind = 3:=by rw [getDB hkl]; exact hk _ (List.getElem_mem _)
  have hsucc:k + 1 ≤ T.length:=hkl
  rcases hkd with hkd | hkd
  ·have hnx:waysF T E (k + 1) = L ++ [⟨k,(T.getD k default).to,(E.getD k default).1⟩,⟨k,(T.getD k default).els,(E.getD k default).2⟩]:=by
    rw [waysF,← hL,wayK,if_pos (.inr hkd),if_pos hkd,p1,p2]; rfl
   obtain ⟨L2,hL2e⟩:∃ L2,L2 = waysF T E (k + 1):=⟨_,rfl⟩
   rw [← hL2e] at hnx
   cases L with
   | nil =>
    simp only [slotW]
    simp -dsimp (maxSteps:=4000000) +contextual (disch:=first | omega | decide +kernel) only [↓vsD,vsE,↓Nat.reduceLT,simprocAttr,vcel,vgap,gcA,encT_length,encX_length,encT_getD,encX_getD,hle,hkd]
    refine v_draws _ _ _ _ _ _ [14] [] [(0,0),(0,0),(0,0),(0,0),(0,0),(0,0),(0,0),(0,0),(0,0),(0,0),(0,0),(0,0),(0,0),(0,0),(0,0),(1,1)] (by decide +kernel) (by decide +kernel) (by decide +kernel) (by decide +kernel) ?_
    simp -dsimp (maxSteps:=4000000) +contextual (disch:=first | omega | decide +kernel) only [↓vsD,vsE,↓Nat.reduceLT,simprocAttr,vdA,↓vd_end,↓vdm_go,↓vd_op,↓guard_none,↓guard_some,vcel,vgap,gcA,List.append_assoc,encT_length,encX_length,encT_getD,encX_getD,hle,hkd,m1,newsW]
    refine v_draws _ _ _ _ _ _ [14] [] [(0,0),(0,0),(0,0),(0,0),(0,0),(0,0),(0,0),(0,0),(0,0),(0,0),(0,0),(0,0),(0,0),(0,0),(0,0),(1,1)] (by decide +kernel) (by decide +kernel) (by decide +kernel) (by decide +kernel) ?_
    simp -dsimp (maxSteps:=4000000) +contextual (disch:=first | omega | decide +kernel) only [↓vsD,vsE,↓Nat.reduceLT,simprocAttr,vdA,↓vd_end,↓vdm_go,↓vd_op,↓guard_none,↓guard_some,vcel,vgap,gcA,List.append_assoc,encT_length,encX_length,encT_getD,encX_getD,hle,hkd,m2,newsW,bytesB,lenB]
    refine ⟨(k + 1,L2,R.length + 1,1,R ++ [.rows 47 8 [TermI.row ⟨2,(T.getD k default).to,(T.getD k default).els⟩] 0,.rows 88 3 (encW L2) 1]),(by (try dsimp only); omega),?_,?_,hsucc,hL2e,hW.new _ _ _⟩
    ·dsimp only
     rw [hnx]
     simp [weaker,Go.PV.look,slotW]
    ·dsimp only
     rw [hnx]
     simp [TermI.row,encW,Way.row]
   | cons c q =>
    obtain ⟨ho,hRo⟩:=hW.out (by simp)
    have hol:=(List.getElem?_eq_some_iff.1 hRo).1
    have g1:∀ X,(R ++ X)[o]? = some (.rows 88 3 (encW (c :: q)) v):=fun X=>by rw [List.getElem?_append_left hol,hRo]
    have g2:∀ X y,(R ++ X).set o y = R.set o y ++ X:=fun X y=>List.set_append_left _ _ hol
    simp only [slotW]
    simp -dsimp (maxSteps:=4000000) +contextual (disch:=first | omega | decide +kernel) only [↓vsD,vsE,↓Nat.reduceLT,simprocAttr,vcel,vgap,gcA,g1,g2,encT_length,encX_length,encT_getD,encX_getD,hle,hkd]
    have eL:(encW (c :: q)).length = q.length + 1:=by rw [encW_length]; rfl
    have hqb:q.length ≤ 80:=by simp at hL2; omega
    have hx:=hW.ext (by simp) L2 (v + 1 + 1)
    have gcS:∀ X y,(R.set o y ++ X)[σ.length + 1]? = some (.rows 33 4 [[.int .i64 0,.sl (ints B),.sl (encX E),.nils]] 0):=fun X y=>by
     rw [List.getElem?_append_left (by rw [List.length_set]; exact gl),List.getElem?_set_ne (by omega),← hcb]; exact hW.c
    have gS:∀ X y,(R.set o y ++ X)[o]? = some y:=fun X y=>by rw [List.getElem?_append_left (by rw [List.length_set]; exact hol),List.getElem?_set_self hol]
    have gT:∀ X y z,(R.set o y ++ X).set o z = R.set o z ++ X:=fun X y z=>by rw [List.set_append_left _ _ (by rw [List.length_set]; exact hol),List.set_set]
    have gB:∀ X y,(R.set o y ++ X)[R.length]? = X[0]?:=fun X y=>by
     have e:R.length = (R.set o y).length:=(List.length_set ..).symm
     rw [e,gapp0]
    refine v_draws _ _ _ _ _ _ [14] [] [(0,0),(0,0),(0,0),(0,0),(0,0),(0,0),(0,0),(0,0),(0,0),(0,0),(0,0),(0,0),(0,0),(0,0),(0,0),(1,1)] (by decide +kernel) (by decide +kernel) (by decide +kernel) (by decide +kernel) ?_
    simp -dsimp (maxSteps:=4000000) +contextual (disch:=first | omega | decide +kernel) only [↓vsD,vsE,↓Nat.reduceLT,simprocAttr,vdA,↓vd_end,↓vdm_go,↓vd_op,↓guard_none,↓guard_some,vcel,vgap,gcA,g1,g2,gcS,gS,gT,gB,List.append_assoc,encT_length,encX_length,encT_getD,encX_getD,hle,hkd,m1,newsW,eL,bytesB,lenB]
    refine v_draws _ _ _ _ _ _ [14] [] [(0,0),(0,0),(0,0),(0,0),(0,0),(0,0),(0,0),(0,0),(0,0),(0,0),(0,0),(0,0),(0,0),(0,0),(0,0),(1,1)] (by decide +kernel) (by decide +kernel) (by decide +kernel) (by decide +kernel) ?_
    simp -dsimp (maxSteps:=4000000) +contextual (disch:=first | omega | decide +kernel) only [↓vsD,vsE,↓Nat.reduceLT,simprocAttr,vdA,↓vd_end,↓vdm_go,↓vd_op,↓guard_none,↓guard_some,vcel,vgap,gcA,g1,g2,gcS,gS,gT,gB,List.append_assoc,encT_length,encX_length,encT_getD,encX_getD,hle,hkd,m2,newsW,eL,bytesB,lenB,List.length_append,List.length_set,List.length_cons,List.length_nil]
    refine ⟨(k + 1,L2,o,v + 1 + 1,_),(by (try dsimp only); omega),?_,?_,hsucc,hL2e,hx.app [.rows 47 8 [TermI.row ⟨2,(T.getD k default).to,(T.getD k default).els⟩] 0]⟩
    ·dsimp only
     rw [hnx]
     simp [weaker,Go.PV.look,slotW]
    ·dsimp only
     rw [hnx]
     simp [TermI.row,encW,Way.row]
  ·have hnx:waysF T E (k + 1) = L:=by
    rw [waysF,← hL,wayK,if_neg (by rw [hkd]; decide),if_neg (by rw [hkd]; decide),List.append_nil,List.append_nil]
   simp -dsimp (maxSteps:=4000000) +contextual (disch:=first | omega | decide +kernel) only [↓vsD,vsE,↓Nat.reduceLT,simprocAttr,vcel,vgap,gcA,encT_length,encX_length,encT_getD,encX_getD,hle,hkd]
   exact ⟨(k + 1,L,o,v,_),(by (try dsimp only); omega),by simp [weaker,Go.PV.look],rfl,hsucc,hnx.symm,hW.app _⟩
 ·obtain rfl:k = T.length:=by omega
  subst hL
  obtain ⟨ho,hRo⟩:=hW.out hne
  simp -dsimp (maxSteps:=4000000) +contextual (disch:=first | omega | decide +kernel) only [↓vsD,vsE,↓Nat.reduceLT,simprocAttr,encT_length]
  refine ⟨o,v,?_,by omega,hW.pre,hRo⟩
  cases hc:waysF T E T.length with
  | nil=>exact absurd hc hne
  | cons a l=>rfl
end Go.Proofs.Ytangodmcbmeeaaa
