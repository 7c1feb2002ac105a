import Derived.Test.YthginmfobikdgaaCgC
import Derived.Test.YthginmfobikdgaaTjB
import Derived.Test.YthginmfobikdgaaKsD
set_option maxRecDepth 8000
set_option linter.unusedSimpArgs false
set_option linter.unusedVariables false
namespace Go.Proofs.Ythginmfobikdgaa
open Go.PV Tj
theorem valuesG (X:PV) (hX:PV.cell X = true) (hc:cellsV X = some [X]) (σ:Store):PCall Try.prog 71 [X] σ (fun p σ'=>p = .func (.func 106) [] [.ptr σ.length 0 0 0] ∧ σ' = σ ++ [.rows 40 1 [[X]] 0]):=by
 refine PCall.vraw [] 7 4 [.tmp 2] (noE_ok _) mix Try.func71 rfl (by decide) rfl rfl (by simp) ?_
 simp -dsimp only [initFr,List.zipIdx_cons,List.zipIdx_nil,List.map_cons,List.map_nil,Nat.zero_add,Nat.reduceAdd]
 simp -dsimp (maxSteps:=4000000) +contextual (disch:=first | omega | decide +kernel) only [↓vsD,vsE,↓Nat.reduceLT,simprocAttr,hX,hc]
theorem index_ok (o v:Nat) (l:List Int) (x:Int) (k:Nat) (hk:k < l.length) (hx:l.getD k 0 = x) (hn:∀ j,j < k → l.getD j 0 ≠ x) (hl:l.length ≤ 1000000) (σ:Store) (ho:σ[o]? = some (.rows 3 1 (ints l) v)) :
  PCall Try.prog 84 [.msl o v,.int .i64 x] σ (fun p σ'=>p = .int .i64 (k:Int) ∧ σ' = σ):=by
 have el:(ints l).length = l.length:=enc_length _ _
 refine PCall.vraw [] 66495 19 [.tmp 4] (noE_ok _) mix Try.func84 rfl (by decide) rfl rfl (by simp) ?_
 simp -dsimp only [initFr,List.zipIdx_cons,List.zipIdx_nil,List.map_cons,List.map_nil,Nat.zero_add,Nat.reduceAdd]
 simp -dsimp (maxSteps:=4000000) +contextual (disch:=first | omega | decide +kernel) only [↓vsD,vsE,↓Nat.reduceLT,simprocAttr,ho,el]
 refine v_loopS (fun i:Nat=>[(0,.msl o v),(1,.int .i64 x),(7,.int .i64 l.length),(8,.int .i64 (i:Int))]) (fun _=>σ) (fun i=>i ≤ k) (fun i=>l.length - i) 0 (by simp [weaker,Go.PV.look]) rfl (Nat.zero_le _) ?_
 intro i hi
 have hg:=ints_gD l i (by omega)
 simp -dsimp (maxSteps:=4000000) +contextual (disch:=first | omega | decide +kernel) only [↓vsD,vsE,↓Nat.reduceLT,simprocAttr,ho,el,hg]
 refine ⟨fun h=>?_,fun h=>?_⟩
 ·by_cases e:i = k
  ·rw [e]
  ·exact absurd h.symm (hn i (by omega))
 ·have hik:i < k:=by
   by_cases e:i = k
   ·rw [e,hx] at h; exact absurd rfl h
   ·omega
  exact ⟨i + 1,(by (try dsimp only); omega),(by simp [weaker,Go.PV.look]),rfl,hik⟩
def finR (C:List (List Int)) (K:PV) (fd:Nat) (Y:PV):List PV:=[.sl (intss C),.msl 1 0,.msl 2 0,.msl 3 0,K,.int .i64 (fd:Int),Y]
def stF (X0:Go.PV.Obj) (C:List (List Int)) (num low set:List Int) (K:PV) (fd:Nat) (Y:PV) (Z:Store):Store :=
 X0 :: .rows 3 1 (ints num) 0 :: .rows 3 1 (ints low) 0 :: .rows 3 1 (ints set) 0 :: .rows 117 7 [finR C K fd Y] 0 :: Z
structure ZK (Z:Store) (stk:List Int) (sets:List (List Int)) (K Y:PV):Prop where
 k:(K = .nils ∧ stk = []) ∨ ∃ e v,K = .msl (e + 5) v ∧ Z[e]? = some (.rows 3 1 (ints stk) v)
 y:(Y = .nils ∧ sets = []) ∨ ∃ h w,Y = .msl (h + 5) w ∧ Z[h]? = some (.rows 40 1 (intss sets) w)
 kh:∀ e v h w,K = .msl e v → Y = .msl h w → e ≠ h
theorem ZK.push0 {Z:Store} {sets:List (List Int)} {Y:PV} (h:ZK Z [] sets .nils Y) (f:Int):ZK (Z ++ [.rows 3 1 [[.int .i64 f]] 0]) [f] sets (.msl (Z.length + 5) 0) Y:=by
 refine ⟨.inr ⟨Z.length,0,rfl,by rw [List.getElem?_concat_length]; rfl⟩,h.y.imp id fun ⟨u,w,h1,h2⟩=>⟨u,w,h1,by rw [List.getElem?_append_left (List.getElem?_eq_some_iff.1 h2).1,h2]⟩,fun e v u w h1 h2=>?_⟩
 rcases h.y with ⟨q,_⟩ | ⟨u',w',q,q2⟩
 ·rw [q] at h2; cases h2
 ·rw [q] at h2
  have:=(List.getElem?_eq_some_iff.1 q2).1
  simp at h1 h2; omega
theorem ZK.push {Z:Store} {stk:List Int} {sets:List (List Int)} {Y:PV} {e v:Nat} (h:ZK Z stk sets (.msl (e + 5) v) Y) (he:Z[e]? = some (.rows 3 1 (ints stk) v)) (f:Int):ZK (Z.set e (.rows 3 1 (ints stk ++ [[.int .i64 f]]) (v + 1))) (stk ++ [f]) sets (.msl (e + 5) (v + 1)) Y:=by
 have hol:=(List.getElem?_eq_some_iff.1 he).1
 refine ⟨.inr ⟨e,v + 1,rfl,by rw [List.getElem?_set_self hol,intsR_snoc]⟩,h.y.imp id fun ⟨u,w,h1,h2⟩=>⟨u,w,h1,?_⟩,fun e' v' u w h1 h2=>?_⟩
 ·have:=h.kh _ _ _ _ rfl h2
  simp at h1; omega
 ·have:=h.kh _ _ _ _ rfl h1
  rw [List.getElem?_set_ne (by omega),h2]
theorem ZK.cut {Z:Store} {stk:List Int} {sets:List (List Int)} {Y:PV} {e v:Nat} (h:ZK Z stk sets (.msl (e + 5) v) Y) (he:Z[e]? = some (.rows 3 1 (ints stk) v)) (X:Store) (k:Nat):ZK ((Z ++ X).set e (.rows 3 1 ((ints stk).take k) (v + 1))) (stk.take k) sets (.msl (e + 5) (v + 1)) Y:=by
 have hol:=(List.getElem?_eq_some_iff.1 he).1
 refine ⟨.inr ⟨e,v + 1,rfl,by rw [List.getElem?_set_self (by rw [List.length_append]; omega)]; simp [ints,PV.encI,List.map_take]⟩,h.y.imp id fun ⟨u,w,h1,h2⟩=>⟨u,w,h1,?_⟩,fun e' v' u w h1 h2=>?_⟩
 ·have:=h.kh _ _ _ _ rfl h2
  simp at h1; omega
 ·have:=h.kh _ _ _ _ rfl h1
  rw [List.getElem?_set_ne (by omega),List.getElem?_append_left (List.getElem?_eq_some_iff.1 h2).1,h2]
theorem ZK.addS0 {Z:Store} {stk:List Int} {K:PV} (h:ZK Z stk [] K .nils) (s:List Int):ZK (Z ++ [.rows 40 1 [[.sl (ints s)]] 0]) stk [s] K (.msl (Z.length + 5) 0):=by
 refine ⟨h.k.imp id fun ⟨u,w,h1,h2⟩=>⟨u,w,h1,by rw [List.getElem?_append_left (List.getElem?_eq_some_iff.1 h2).1,h2]⟩,.inr ⟨Z.length,0,rfl,by rw [List.getElem?_concat_length]; rfl⟩,fun e v u w h1 h2=>?_⟩
 rcases h.k with ⟨q,_⟩ | ⟨u',w',q,q2⟩
 ·rw [q] at h1; cases h1
 ·rw [q] at h1
  have:=(List.getElem?_eq_some_iff.1 q2).1
  simp at h1 h2; omega
theorem ZK.addS {Z:Store} {stk:List Int} {sets:List (List Int)} {K:PV} {u w:Nat} (h:ZK Z stk sets K (.msl (u + 5) w)) (hu:Z[u]? = some (.rows 40 1 (intss sets) w)) (s:List Int):ZK (Z.set u (.rows 40 1 (intss (sets ++ [s])) (w + 1))) stk (sets ++ [s]) K (.msl (u + 5) (w + 1)):=by
 have hol:=(List.getElem?_eq_some_iff.1 hu).1
 refine ⟨h.k.imp id fun ⟨e,v,h1,h2⟩=>⟨e,v,h1,?_⟩,.inr ⟨u,w + 1,rfl,by rw [List.getElem?_set_self hol]⟩,fun e v u' w' h1 h2=>?_⟩
 ·have:=h.kh _ _ _ _ h1 rfl
  rw [List.getElem?_set_ne (by omega),h2]
 ·have:=h.kh _ _ _ _ h1 rfl
  simp at h2; omega
theorem minI (a b:Int):min a b = if b < a then b else a:=by split <;> omega
structure Bd (n:Nat) (S:TJ):Prop where
 f:S.fd + cnt0 S.num ≤ n
 s:S.sets.length + S.stk.length ≤ S.fd
def VisOk (n:Nat) (C:List (List Int)) (m:Nat):Prop:=∀ (S:TJ) (f:Int) (K Y:PV) (Z:Store) (X0:Go.PV.Obj),WF n C S → Bd n S → cnt0 S.num ≤ m → nd n f → S.nm f = 0 → ZK Z S.stk S.sets K Y →
 PCall Try.prog 82 [.ptr 4 0 0 0,.int .i64 f] (stF X0 C S.num S.low S.set K S.fd Y Z)
  (fun p σ'=>p = .tup [] ∧ ∃ S' R K' Y' Z',σ' = stF X0 C S'.num S'.low S'.set K' S'.fd Y' Z' ∧ ZK Z' S'.stk S'.sets K' Y' ∧ Bd n S' ∧ VisR n C S S' f R)
theorem nm_at (l:List Int) (g:Int):l.getD g.toNat 0 = l.getD g.toNat 0:=rfl
set_option maxHeartbeats 16000000 in
theorem visit_w {n:Nat} (hn1:n ≤ 1000) {C:List (List Int)} (hC:OkC n C) (hCl:C.length = n) (hCb:∀ l ∈ C,l.length ≤ 1000):∀ m,VisOk n C m:=by
 intro m
 induction m with
 | zero =>
  intro S f K Y Z X0 hw hB hm hf h0 hZ
  have:=(enter_ok hw hf h0).less hw h0
  omega
 | succ m ih =>
  intro S f K Y Z X0 hw hB hm hf h0 hZ
  have hJ:=enter_ok hw hf h0
  have hless:=hJ.less hw h0
  have hft:f.toNat < n:=by have:=hf.1; have:=hf.2; omega
  have l1:=hw.ln
  have l2:=hw.ll
  have l3:=hw.ls
  have e1:(ints S.num).length = S.num.length:=enc_length _ _
  have e2:(ints S.low).length = S.low.length:=enc_length _ _
  have e3:(ints S.set).length = S.set.length:=enc_length _ _
  have e4:(intss C).length = C.length:=encs_length _ _
  have eC:=intss_at C f.toNat (by omega)
  have hCf:(C.getD f.toNat []).length ≤ 1000:=hCb _ (by rw [List.getD_eq_getElem?_getD,List.getElem?_eq_getElem (by omega)]; exact List.getElem_mem _)
  obtain ⟨Cf,hCfe⟩:∃ Cf,Cf = C.getD f.toNat []:=⟨_,rfl⟩
  rw [← hCfe] at eC hCf
  have e5:(ints Cf).length = Cf.length:=enc_length _ _
  have hb1:=hB.f
  have hb2:=hB.s
  have hf0:=hf.1
  have hf1:=hf.2
  have k1:∀ args σ,noE.f 84 args σ = none:=fun _ _=>rfl
  have k2:∀ args σ,noE.f 71 args σ = none:=fun _ _=>rfl
  have k3:∀ args σ,noE.f 70 args σ = none:=fun _ _=>rfl
  have k4:∀ args σ,noE.f 82 args σ = none:=fun _ _=>rfl
  unfold stF finR
  refine PCall.vraw [149] 43845049294151659409635990034894142684584021591039 189 [] (noE_ok _) mix Try.func82 rfl (by decide) rfl rfl (by simp) ?_
  simp -dsimp only [initFr,List.zipIdx_cons,List.zipIdx_nil,List.map_cons,List.map_nil,Nat.zero_add,Nat.reduceAdd]
  simp -dsimp (maxSteps:=4000000) +contextual (disch:=first | omega | decide +kernel) only [↓vsD,vsE,↓Nat.reduceLT,simprocAttr,vcel,e1,e2,e3,e4,eC,e5]
  refine v_draws _ _ _ _ _ _ [19,21] [] [(0,0),(0,0),(0,0),(0,0),(0,0),(0,0),(0,0),(0,0),(0,0),(0,1),(0,0),(0,0),(0,0),(0,0),(0,0),(0,0),(0,0),(0,0),(0,0),(0,0),(1,1),(0,0)] (by decide +kernel) (by decide +kernel) (by decide +kernel) (by decide +kernel) ?_
  simp -dsimp (maxSteps:=4000000) +contextual (disch:=first | omega | decide +kernel) only [↓vsD,vsE,↓Nat.reduceLT,simprocAttr,vdA,↓vd_end,↓vdm_go,↓vd_op,↓guard_none,↓guard_some,vcel,e1,e2,e3,e4,eC,e5]
  have hBe:Bd n (S.enter f):=⟨by show S.fd + 1 + cnt0 (S.enter f).num ≤ n; omega,by show S.sets.length + (S.stk ++ [f]).length ≤ S.fd + 1; rw [List.length_append,List.length_singleton]; omega⟩
  have hnf:=newsI1 f
  have hstl:S.stk.length ≤ 1000:=by omega
  have e6:(ints S.stk).length = S.stk.length:=enc_length _ _
  obtain ⟨K1,Z1,hc1,hc2,happ,hZ1⟩:∃ K1 Z1,cellsV K1 = some [K1] ∧ K1.cell = true ∧ (∀ A B D E,appC Try.prog (X0 :: A :: B :: D :: E :: Z) 3 (some [.int .i64 0]) K (some (True,[[.int .i64 f]])) = .val True K1 (X0 :: A :: B :: D :: E :: Z1)) ∧ ZK Z1 (S.stk ++ [f]) S.sets K1 Y:=by
   rcases hZ.k with ⟨rfl,hst⟩ | ⟨e,v,rfl,he⟩
   ·refine ⟨_,_,rfl,rfl,fun A B D E=>?_,by rw [hst] at hZ ⊢; exact hZ.push0 f⟩
    simp -dsimp (maxSteps:=4000000) +contextual (disch:=first | omega | decide +kernel) only [↓vsD,vsE,↓Nat.reduceLT,simprocAttr,hnf]
   ·refine ⟨_,_,rfl,rfl,fun A B D E=>?_,hZ.push he f⟩
    simp -dsimp (maxSteps:=4000000) +contextual (disch:=first | omega | decide +kernel) only [↓vsD,vsE,↓Nat.reduceLT,simprocAttr,hnf,he,e6,bytesC,lenC]
  simp -dsimp (maxSteps:=4000000) +contextual (disch:=first | omega | decide +kernel) only [↓vsD,vsE,↓Nat.reduceLT,simprocAttr,vcel,e1,e2,e3,e4,eC,e5,hnf,happ,hc1,hc2]
  refine v_loopS (fun s:Nat × TJ × List Int × PV × PV × Store=>[(0,.ptr 4 0 0 0),(1,.int .i64 f),(53,.sl (ints Cf)),(54,.int .i64 Cf.length),(55,.int .i64 (s.1:Int))])
   (fun s=>stF X0 C s.2.1.num s.2.1.low s.2.1.set s.2.2.2.1 s.2.1.fd s.2.2.2.2.1 s.2.2.2.2.2) (fun s=>s.1 ≤ Cf.length ∧ VisJ n C S s.2.1 f s.2.2.1 s.1 ∧ Bd n s.2.1 ∧ ZK s.2.2.2.2.2 s.2.1.stk s.2.1.sets s.2.2.2.1 s.2.2.2.2.1 ∧ cnt0 s.2.1.num ≤ m) (fun s=>Cf.length - s.1)
   (0,S.enter f,[],K1,Y,Z1) (by simp [weaker,Go.PV.look]) rfl ⟨Nat.zero_le _,hJ,hBe,hZ1,by show cnt0 (S.enter f).num ≤ m; omega⟩ ?_
  rintro ⟨i,S',R,K',Y',Z'⟩ ⟨hi,hV,hB',hZ',hm'⟩
  dsimp only at hi hV hB' hZ' hm' ⊢
  have d1:(ints S'.num).length = n:=by rw [show (ints S'.num).length = S'.num.length from enc_length _ _,hV.wf.ln]
  have d2:(ints S'.low).length = n:=by rw [show (ints S'.low).length = S'.low.length from enc_length _ _,hV.wf.ll]
  have d3:(ints S'.set).length = n:=by rw [show (ints S'.set).length = S'.set.length from enc_length _ _,hV.wf.ls]
  have a2:=ints_gD S'.low f.toNat (by rw [hV.wf.ll]; exact hft)
  have a1:=ints_gD S'.num f.toNat (by rw [hV.wf.ln]; exact hft)
  by_cases hil:i < Cf.length
  ·have hg:=ints_gD Cf i hil
   obtain ⟨g,hge⟩:∃ g,g = Cf.getD i 0:=⟨_,rfl⟩
   rw [← hge] at hg
   have hgn:nd n g:=hC f hf g (by rw [← hCfe,hge]; exact Tj.getD_mem _ hil)
   have hg0:=hgn.1
   have hg1:=hgn.2
   have hgt:g.toNat < n:=by omega
   have b1:=ints_gD S'.num g.toNat (by rw [hV.wf.ln]; exact hgt)
   have b2:=ints_gD S'.low g.toNat (by rw [hV.wf.ll]; exact hgt)
   have b3:=ints_gD S'.set g.toNat (by rw [hV.wf.ls]; exact hgt)
   by_cases hz:S'.nm g = 0
   ·have hzz:S'.num.getD g.toNat 0 = 0:=hz
    unfold stF finR
    simp -dsimp (maxSteps:=4000000) +contextual (disch:=first | omega | decide +kernel) only [↓vsD,vsE,↓Nat.reduceLT,simprocAttr,vcel,d1,d2,d3,hg,b1,b2,b3,e5,hzz,k4]
    refine PCall.mono (ih S' g K' Y' Z' X0 hV.wf hB' hm' hgn hz hZ') ?_
    rintro p σ' ⟨rfl,S2,Rh,K2,Y2,Z2,rfl,hZ2,hB2,hR2⟩
    have c2:(ints S2.low).length = n:=by rw [show (ints S2.low).length = S2.low.length from enc_length _ _,hR2.wf.ll]
    have x1:=ints_gD S2.low f.toNat (by rw [hR2.wf.ll]; exact hft)
    have x2:=ints_gD S2.low g.toNat (by rw [hR2.wf.ll]; exact hgt)
    have hch:=hV.child hC (by rw [← hCfe]; exact hil) (by rw [← hCfe]; exact hge) hgn hz h0 hR2
    unfold stF finR
    simp -dsimp (maxSteps:=4000000) +contextual (disch:=first | omega | decide +kernel) only [↓vsD,vsE,↓Nat.reduceLT,simprocAttr,vcel,c2,x1,x2]
    refine v_draws _ _ _ _ _ _ [21] [] [(0,0),(0,0),(0,0),(0,0),(0,0),(0,0),(0,0),(0,0),(0,0),(0,0),(0,0),(0,0),(0,0),(0,0),(0,0),(0,0),(0,0),(0,0),(0,0),(0,0),(0,0),(0,0)] (by decide +kernel) (by decide +kernel) (by decide +kernel) (by decide +kernel) ?_
    simp -dsimp (maxSteps:=4000000) +contextual (disch:=first | omega | decide +kernel) only [↓vsD,vsE,↓Nat.reduceLT,simprocAttr,vdA,↓vd_end,↓vdm_go,↓vd_op,↓guard_none,↓guard_some,vcel,c2,x1,x2]
    refine ⟨(i + 1,S2.fall f (S2.lw g),R ++ Rh,K2,Y2,Z2),(by (try dsimp only); omega),(by simp [weaker,Go.PV.look]),?_,hil,hch,⟨hB2.f,hB2.s⟩,hZ2,Nat.le_trans (show cnt0 S2.num ≤ cnt0 S'.num from cnt0_of hV.wf.ln hR2.wf.ln (fun u hu hun=>by rw [hR2.num u hu hun]; exact hun)) hm'⟩
    dsimp only [TJ.fall]
    rw [minI]; rfl
   ·have hzz:¬ S'.num.getD g.toNat 0 = 0:=hz
    have hold:=hV.old (by rw [← hCfe]; exact hil) (by rw [← hCfe]; exact hge) hgn hz h0
    by_cases hs:S'.st g < 0
    ·have hss:S'.set.getD g.toNat 0 < 0:=hs
     unfold stF finR
     simp -dsimp (maxSteps:=4000000) +contextual (disch:=first | omega | decide +kernel) only [↓vsD,vsE,↓Nat.reduceLT,simprocAttr,vcel,d1,d2,d3,hg,a2,b1,b2,b3,e5,hzz,hss,k4]
     refine v_draws _ _ _ _ _ _ [21] [] [(0,0),(0,0),(0,0),(0,0),(0,0),(0,0),(0,0),(0,0),(0,0),(0,0),(0,0),(0,0),(0,0),(0,0),(0,0),(0,0),(0,0),(0,0),(0,0),(0,0),(0,0),(0,0)] (by decide +kernel) (by decide +kernel) (by decide +kernel) (by decide +kernel) ?_
     simp -dsimp (maxSteps:=4000000) +contextual (disch:=first | omega | decide +kernel) only [↓vsD,vsE,↓Nat.reduceLT,simprocAttr,vdA,↓vd_end,↓vdm_go,↓vd_op,↓guard_none,↓guard_some,vcel,d1,d2,d3,hg,a2,b1,b2,b3]
     refine ⟨(i + 1,S'.fall f (S'.nm g),R,K',Y',Z'),(by (try dsimp only); omega),(by simp [weaker,Go.PV.look]),?_,hil,hold.2 hs,⟨hB'.f,hB'.s⟩,hZ',hm'⟩
     dsimp only [TJ.fall]
     rw [minI]; rfl
    ·have hss:¬ S'.set.getD g.toNat 0 < 0:=hs
     unfold stF finR
     simp -dsimp (maxSteps:=4000000) +contextual (disch:=first | omega | decide +kernel) only [↓vsD,vsE,↓Nat.reduceLT,simprocAttr,vcel,d1,d2,d3,hg,a2,b1,b2,b3,e5,hzz,hss,k4]
     exact ⟨(i + 1,S',R,K',Y',Z'),(by (try dsimp only); omega),(by simp [weaker,Go.PV.look]),rfl,hil,hold.1 (by omega),hB',hZ',hm'⟩
  ·obtain rfl:i = Cf.length:=by omega
   rw [hCfe] at hV
   have hSk:=hV.stk
   obtain ⟨e,v,rfl,he⟩:∃ e v,K' = .msl (e + 5) v ∧ Z'[e]? = some (.rows 3 1 (ints S'.stk) v):=by
    rcases hZ'.k with ⟨_,q⟩ | q
    ·rw [hSk] at q; simp at q
    ·exact q
   by_cases hlt:S'.lw f < S'.nm f
   ·have hltt:S'.low.getD f.toNat 0 < S'.num.getD f.toNat 0:=hlt
    unfold stF finR
    simp -dsimp (maxSteps:=4000000) +contextual (disch:=first | omega | decide +kernel) only [↓vsD,vsE,↓Nat.reduceLT,simprocAttr,vcel,d1,d2,d3,e5,a1,a2,hltt]
    exact ⟨S',f :: R,_,Y',Z',⟨rfl,rfl,rfl,rfl,rfl⟩,hZ',hB',hV.stay hlt⟩
   ·have hltt:¬ S'.low.getD f.toNat 0 < S'.num.getD f.toNat 0:=hlt
    have hel:=(List.getElem?_eq_some_iff.1 he).1
    have hsl:S'.stk.length ≤ 1000:=by have:=hB'.f; have:=hB'.s; omega
    have hfs:f ∉ S.stk:=fun hm=>((hw.ms f).1 hm).2.1 h0
    have e7:(ints S'.stk).length = S'.stk.length:=enc_length _ _
    have hkl:S.stk.length < S'.stk.length:=by rw [hSk]; simp
    have hidx:=fun σ ho=>index_ok (e + 5) v S'.stk f S.stk.length hkl (by rw [hSk,List.getD_eq_getElem?_getD,List.getElem?_append_right (Nat.le_refl _)]; simp) (fun j hj=>by
     rw [hSk,List.getD_eq_getElem?_getD,List.getElem?_append_left hj,List.getElem?_eq_getElem hj]
     intro q
     exact hfs (by rw [← q]; exact List.getElem_mem hj)) (by omega) σ ho
    unfold stF finR
    simp -dsimp (maxSteps:=4000000) +contextual (disch:=first | omega | decide +kernel) only [↓vsD,vsE,↓Nat.reduceLT,simprocAttr,vcel,d1,d2,d3,e5,a1,a2,hltt,k1,e7]
    refine PCall.mono (hidx _ (by exact he)) ?_
    rintro p σ' ⟨rfl,rfl⟩
    simp -dsimp (maxSteps:=4000000) +contextual (disch:=first | omega | decide +kernel) only [↓vsD,vsE,↓Nat.reduceLT,simprocAttr,vcel,k2,e7,he]
    refine PCall.mono (valuesG _ rfl rfl _) ?_
    rintro p σ' ⟨rfl,rfl⟩
    obtain ⟨s,hse⟩:∃ s,s = (f :: R).mergeSort (fun x y=>decide (x ≤ y)):=⟨_,rfl⟩
    have hsp:s.Perm (f :: R):=by rw [hse]; exact List.mergeSort_perm _ _
    have hsr:s.Pairwise (· ≤ ·):=by
     rw [hse]
     exact (List.pairwise_mergeSort (le:=fun x y:Int=>decide (x ≤ y)) (fun a b c h1 h2=>by simp at h1 h2 ⊢; omega) (fun a b=>by simp; omega) _).imp (fun h=>of_decide_eq_true h)
    have hdr:S'.stk.drop S.stk.length = f :: R:=by rw [hSk,List.drop_left]
    have hRl:(f :: R).length ≤ 1000:=by
     have:S'.stk.length = S.stk.length + (f :: R).length:=by rw [hSk,List.length_append]
     omega
    have hsoG:=fun (o:Nat) (σ:Store) (ho:σ[o]? = some (.rows 40 1 [[.msuf (e + 5) v S.stk.length]] 0)) (h2:σ[e + 5]? = some (.rows 3 1 (ints S'.stk) v)) =>
     sorted_ok o (.msuf (e + 5) v S.stk.length) (f :: R) σ ho (.inr (.inr (.inr ⟨_,_,_,_,rfl,h2,hdr.symm⟩))) (by omega)
    rw [← hse] at hsoG
    simp -dsimp (maxSteps:=4000000) +contextual (disch:=first | omega | decide +kernel) only [↓vsD,vsE,↓Nat.reduceLT,simprocAttr,vcel,k3,e7,he]
    refine PCall.mono (hsoG _ _ (by show (Z' ++ _)[Z'.length]? = _; rw [gapp0]; rfl) (show (Z' ++ _)[e]? = _ by rw [List.getElem?_append_left hel,he])) ?_
    rintro p σ' ⟨rfl,rfl⟩
    have hsn:s.length ≤ 1000:=by rw [hsp.length_eq]; exact hRl
    have e8:(ints s).length = s.length:=enc_length _ _
    have g1:∀ Y,(Z' ++ Y)[e]? = some (.rows 3 1 (ints S'.stk) v):=fun Y=>by rw [List.getElem?_append_left hel,he]
    simp -dsimp (maxSteps:=4000000) +contextual (disch:=first | omega | decide +kernel) only [↓vsD,vsE,↓Nat.reduceLT,simprocAttr,vcel,e7,e8,he,g1]
    obtain ⟨ZW,hZW⟩:∃ ZW:Store,ZW = (Z' ++ [Go.PV.Obj.rows 40 1 [[.msuf (e + 5) v S.stk.length]] 0]).set e (.rows 3 1 ((ints S'.stk).take S.stk.length) (v + 1)):=⟨_,rfl⟩
    have hZC:=hZ'.cut he [.rows 40 1 [[.msuf (e + 5) v S.stk.length]] 0] S.stk.length
    rw [← hZW,show S'.stk.take S.stk.length = S.stk by rw [hSk,List.take_left]] at hZC
    rw [← hZW]
    obtain ⟨q,hq⟩:∃ q:Int,q = (S'.sets.length:Int):=⟨_,rfl⟩
    refine v_loopS (fun j:Nat=>[(0,.ptr 4 0 0 0),(7,.sl (ints s)),(161,.sl (ints s)),(162,.int .i64 s.length),(163,.int .i64 (j:Int))])
     (fun j=>stF X0 C S'.num S'.low ((s.take j).foldl (fun l g=>l.set g.toNat q) S'.set) (.msl (e + 5) (v + 1)) S'.fd Y' ZW) (fun j=>j ≤ s.length) (fun j=>s.length - j) 0 (by simp [weaker,Go.PV.look]) rfl (Nat.zero_le _) ?_
    intro j hj
    have d4:(ints ((s.take j).foldl (fun l g=>l.set g.toNat q) S'.set)).length = n:=by
     rw [show (ints _).length = _ from enc_length _ _,foldl_set_len,hV.wf.ls]
    by_cases hjl:j < s.length
    ·have hg:=ints_gD s j hjl
     obtain ⟨g,hge⟩:∃ g,g = s.getD j 0:=⟨_,rfl⟩
     have hgm:g ∈ f :: R:=hsp.mem_iff.1 (by rw [hge]; exact Tj.getD_mem _ hjl)
     have hgn:nd n g:=((hV.wf.ms g).1 (by rw [hSk]; exact List.mem_append_right _ hgm)).1
     have hg0:=hgn.1
     have hg1:=hgn.2
     have hgt:g.toNat < n:=by omega
     have htk:(s.take (j + 1)).foldl (fun l g=>l.set g.toNat q) S'.set = ((s.take j).foldl (fun l g=>l.set g.toNat q) S'.set).set g.toNat q:=by
      rw [List.take_add_one,List.getElem?_eq_getElem hjl,hge,List.getD_eq_getElem?_getD,List.getElem?_eq_getElem hjl,Option.toList_some,List.foldl_append]; rfl
     rw [← hge] at hg
     obtain ⟨W,hW⟩:∃ W,W = (s.take j).foldl (fun l g=>l.set g.toNat q) S'.set:=⟨_,rfl⟩
     rw [← hW] at d4 htk ⊢
     unfold stF finR
     have hWl:W.length = n:=by rw [hW,foldl_set_len,hV.wf.ls]
     have b4:=ints_gD W g.toNat (by rw [hWl]; exact hgt)
     have eset:∀ x,(ints W).set g.toNat [.int .i64 x] = ints (W.set g.toNat x):=fun x=>by simp [ints,PV.encI,List.map_set]
     rcases hZC.y with ⟨rfl,q2⟩ | ⟨u,w,rfl,q2⟩
     ·rw [q2,List.length_nil] at hq
      rw [hq] at htk ⊢
      simp -dsimp (maxSteps:=4000000) +contextual (disch:=first | omega | decide +kernel) only [↓vsD,vsE,↓Nat.reduceLT,simprocAttr,vcel,e8,hg]
      refine v_draws _ _ _ _ _ _ [11] [] [(0,0),(0,0),(0,0),(0,0),(0,0),(0,0),(0,0),(0,0),(0,0),(0,0),(0,0),(0,0)] (by decide +kernel) (by decide +kernel) (by decide +kernel) (by decide +kernel) ?_
      simp -dsimp (maxSteps:=4000000) +contextual (disch:=first | omega | decide +kernel) only [↓vsD,vsE,↓Nat.reduceLT,simprocAttr,vdA,↓vd_end,↓vdm_go,↓vd_op,↓guard_none,↓guard_some,vcel,d4,b4,eset]
      refine ⟨j + 1,(by (try dsimp only); omega),(by simp [weaker,Go.PV.look]),?_,hjl⟩
      dsimp only
      rw [htk]; rfl
     ·have e9:(intss S'.sets).length = S'.sets.length:=encs_length _ _
      simp -dsimp (maxSteps:=4000000) +contextual (disch:=first | omega | decide +kernel) only [↓vsD,vsE,↓Nat.reduceLT,simprocAttr,vcel,e8,hg]
      refine v_draws _ _ _ _ _ _ [11] [] [(0,0),(0,0),(0,0),(0,0),(0,0),(0,0),(0,0),(0,0),(0,0),(0,0),(0,0),(0,0)] (by decide +kernel) (by decide +kernel) (by decide +kernel) (by decide +kernel) ?_
      simp -dsimp (maxSteps:=4000000) +contextual (disch:=first | omega | decide +kernel) only [↓vsD,vsE,↓Nat.reduceLT,simprocAttr,vdA,↓vd_end,↓vdm_go,↓vd_op,↓guard_none,↓guard_some,vcel,d4,q2,e9,← hq,b4,eset]
      refine ⟨j + 1,(by (try dsimp only); omega),(by simp [weaker,Go.PV.look]),?_,hjl⟩
      dsimp only
      rw [htk]
    ·obtain rfl:j = s.length:=by omega
     rw [List.take_length]
     have hlv:=hV.leave hC hlt hw hsp hsr
     have hbp:Bd n (S'.pop S.stk s):=by
      refine ⟨hB'.f,?_⟩
      have:=hB'.s
      rw [hSk,List.length_append,List.length_cons] at this
      show (S'.sets ++ [s]).length + S.stk.length ≤ S'.fd
      rw [List.length_append,List.length_singleton]; omega
     have hsl2:S'.sets.length ≤ 1000:=by have:=hB'.f; have:=hB'.s; omega
     have hset:(S'.pop S.stk s).set = s.foldl (fun l g=>l.set g.toNat q) S'.set:=by rw [hq]; rfl
     obtain ⟨W,hW⟩:∃ W,W = s.foldl (fun l g=>l.set g.toNat q) S'.set:=⟨_,rfl⟩
     rw [← hW] at hset ⊢
     have hns:=newsI1 0
     have hnS:newsOk Try.prog 40 [[.sl (ints s)]] = true:=by simp [newsOk,PV.cell,tyC]
     have eS:intss S'.sets ++ [[.sl (ints s)]] = intss (S'.sets ++ [s]):=by simp [intss,PV.encII]
     rcases hZC.y with ⟨rfl,q2⟩ | ⟨u,w,rfl,q2⟩
     ·unfold stF finR
      simp -dsimp (maxSteps:=4000000) +contextual (disch:=first | omega | decide +kernel) only [↓vsD,vsE,↓Nat.reduceLT,simprocAttr,vcel,e8,hnS]
      refine ⟨S'.pop S.stk s,[],_,_,_,⟨rfl,rfl,by rw [hset],rfl,rfl⟩,?_,hbp,hlv⟩
      show ZK _ S.stk (S'.sets ++ [s]) _ _
      rw [q2] at hZC ⊢
      exact hZC.addS0 s
     ·have e9:(intss S'.sets).length = S'.sets.length:=encs_length _ _
      unfold stF finR
      simp -dsimp (maxSteps:=4000000) +contextual (disch:=first | omega | decide +kernel) only [↓vsD,vsE,↓Nat.reduceLT,simprocAttr,vcel,e8,hnS,q2,e9,bytesC,lenC]
      refine ⟨S'.pop S.stk s,[],_,_,_,⟨rfl,rfl,by rw [hset],rfl,rfl⟩,?_,hbp,hlv⟩
      show ZK _ S.stk (S'.sets ++ [s]) _ _
      rw [eS]
      exact hZC.addS q2 s
end Go.Proofs.Ythginmfobikdgaa
