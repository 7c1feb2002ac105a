import Derived.Test.YthjoehaglonjaaaGreatSuO
import Derived.Test.YthjoehaglonjaaaGreatSvO
import Derived.Test.YthjoehaglonjaaaGreatSvP
import Derived.Test.YthjoehaglonjaaaGreatSuP
set_option maxRecDepth 8000
set_option linter.unusedSimpArgs false
set_option linter.unusedVariables false
namespace Go.Proofs.YthjoehaglonjaaaGreat
open Go.PV
structure OdR (N:Nat) (S:StS):Prop where
 z:2 * S.cs.length + S.ps.length ≤ N + 2
 f:∀ p ∈ S.ps,FitP p ∧ ∀ x ∈ p.fs,SmC x
theorem OdR.fit {N:Nat} {S:StS} (h:OdR N S) (hn:N ≤ 100):FitS S:=by
 have:=h.z
 exact ⟨by omega,by omega,fun p hp=>(h.f p hp).1⟩
theorem oddC_ok {l:List Int} (hl:okInts .u8 l) {k:Nat} (hk:k ≤ l.length) {x:FC} (hx:DrF x):SmC (oddC l k x).1 ∧ (oddC l k x).2 ≤ l.length:=by
 have h1:=hx.b
 have h2:=hx.e
 have h3:=hx.sm
 have c0:=nxt_le hk 6
 have c1:=nxt_le c0 2
 have c2:=nxt_le c1 2
 have sm:∀ y:FC,y.blocks.length ≤ 3 → y.edges.length ≤ 3 → y.sites = x.sites → SmC y:=fun y q1 q2 q3=>⟨by omega,by omega,by rw [q3]; exact h3.2.2.1,by rw [q3]; exact h3.2.2.2⟩
 unfold oddC
 split
 ·exact ⟨sm _ (by dsimp only; omega) (by dsimp only; omega) rfl,intC_le c0⟩
 ·split
  ·exact ⟨sm _ (by dsimp only; rw [List.length_set]; omega) (by dsimp only; omega) rfl,intC_le c1⟩
  ·split
   ·exact ⟨sm _ (by dsimp only; omega) (by dsimp only; rw [List.length_set]; omega) rfl,intC_le c2⟩
   ·split
    ·exact ⟨sm _ (by dsimp only; rw [List.length_append]; simp; omega) (by dsimp only; omega) rfl,c0⟩
    ·split
     ·exact ⟨sm _ (by dsimp only; omega) (by dsimp only; rw [List.length_append]; simp; omega) rfl,c0⟩
     ·exact ⟨h3,c0⟩
theorem oddS_ok {l:List Int} (hl:okInts .u8 l) {k:Nat} (hk:k ≤ l.length) {N:Nat} {S:StS} {L:List Pc} (hS:FilR N S L):OdR N (oddS l k S).1 ∧ (oddS l k S).2 ≤ l.length:=by
 have ht:=hS.s.two
 have hll:=hS.l
 have hd:=hS.dr
 have hdf:∀ p ∈ S.ps,FitP p ∧ ∀ x ∈ p.fs,SmC x:=fun p hp=>⟨(hd p hp).fit,(hd p hp).sm⟩
 have c0:=nxt_le hk 5
 have hself:OdR N S:=⟨by omega,hdf⟩
 unfold oddS
 split
 ·have hp:=pieceF_ok hl c0
  refine ⟨⟨by dsimp only; rw [List.length_append]; simp; omega,fun p hp2=>?_⟩,hp.2⟩
  rcases List.mem_append.1 hp2 with h | h
  ·exact hdf p h
  ·rw [List.mem_singleton] at h
   rw [h]; exact ⟨hp.1.fit,hp.1.sm⟩
 ·split
  ·exact ⟨⟨by dsimp only; rw [List.length_append]; simp; omega,hdf⟩,nxt_le (nxt_le (nxt_le c0 3) 2) 2⟩
  ·split
   ·split
    ·exact ⟨hself,c0⟩
    ·rename_i hz
     have a1:=nxt_lt hl (nxt l k 5).2 S.ps.length (by omega)
     have c1:=nxt_le c0 (S.ps.length:Int)
     refine ⟨⟨by dsimp only; rw [List.length_set]; omega,fun p hp=>?_⟩,intC_le c1⟩
     rcases List.mem_or_eq_of_mem_set hp with h | rfl
     ·exact hdf p h
     ·have hm:S.ps.getD (nxt l (nxt l k 5).2 S.ps.length).1.toNat default ∈ S.ps:=gtD (show (nxt l (nxt l k 5).2 S.ps.length).1.toNat < S.ps.length by omega)
      exact ⟨(hdf _ hm).1,(hdf _ hm).2⟩
   ·split
    ·split
     ·exact ⟨hself,c0⟩
     ·rename_i hz
      have a1:=nxt_lt hl (nxt l k 5).2 S.ps.length (by omega)
      have c1:=nxt_le c0 (S.ps.length:Int)
      have hm:S.ps.getD (nxt l (nxt l k 5).2 S.ps.length).1.toNat default ∈ S.ps:=gtD (show (nxt l (nxt l k 5).2 S.ps.length).1.toNat < S.ps.length by omega)
      have hpd:=hd _ hm
      have hxd:=hpd.f _ (gtD (d:=default) (i:=0) (by have:=hpd.n; omega))
      have hoc:=oddC_ok hl c1 hxd
      refine ⟨⟨by dsimp only; rw [List.length_set]; omega,fun p hp=>?_⟩,hoc.2⟩
      rcases List.mem_or_eq_of_mem_set hp with h | rfl
      ·exact hdf p h
      ·have hsm:∀ y ∈ (S.ps.getD (nxt l (nxt l k 5).2 S.ps.length).1.toNat default).fs.set 0 (oddC l (nxt l (nxt l k 5).2 S.ps.length).2 ((S.ps.getD (nxt l (nxt l k 5).2 S.ps.length).1.toNat default).fs.getD 0 default)).1,SmC y:=fun y hy=>by
        rcases List.mem_or_eq_of_mem_set hy with h | rfl
        ·exact hpd.sm y h
        ·exact hoc.1
       exact ⟨⟨by show (List.set _ _ _).length < _; rw [List.length_set]; have:=hpd.n; omega,fun y hy=>(hsm y hy).fit⟩,hsm⟩
    ·exact ⟨hself,c0⟩
theorem bel_stx (k:Nat) (S:StS):∀ p ∈ [stV S],Bel k p:=fun p hp=>by
 rw [List.mem_singleton] at hp; rw [hp]; exact bel_st _ _
end Go.Proofs.YthjoehaglonjaaaGreat
namespace Go.Proofs.YthjoehaglonjaaaGreat
open Go.PV
theorem DrF.one' {x:FC} (h:DrF x):One1 x.sites ∧ x.sites.length ≤ 1:=by
 rcases h.s with hs | ⟨b,i,c,_,_,hc,hs⟩
 ·rw [hs]; exact ⟨fun s h=>by simp at h,by simp⟩
 ·rw [hs]
  exact ⟨fun s h=>by
   rw [List.mem_singleton.1 h]
   exact ⟨c,rfl,by omega,by omega⟩,by simp⟩
theorem oddC_sites (l:List Int) (k:Nat) (x:FC):(oddC l k x).1.sites = x.sites:=by
 unfold oddC
 repeat' (first | rfl | split)
theorem oddS_sites {l:List Int} (hl:okInts .u8 l) {k:Nat} (hk:k ≤ l.length) {S:StS} (hd:∀ p ∈ S.ps,DrP p):∀ p ∈ (oddS l k S).1.ps,∀ x ∈ p.fs,One1 x.sites ∧ x.sites.length ≤ 1:=by
 have hself:∀ p ∈ S.ps,∀ x ∈ p.fs,One1 x.sites ∧ x.sites.length ≤ 1:=fun p hp x hx=>((hd p hp).f x hx).one'
 have c0:=nxt_le hk 5
 have a0:=nxt_lt hl k 5 (by omega)
 unfold oddS
 split
 ·intro p hp x hx
  rcases List.mem_append.1 hp with h | h
  ·exact hself p h x hx
  ·rw [List.mem_singleton.1 h] at hx
   exact ((pieceF_ok hl c0).1.f x hx).one'
 ·split
  ·exact hself
  ·split
   ·split
    ·exact hself
    ·rename_i hz
     have a1:=nxt_lt hl (nxt l k 5).2 S.ps.length (by omega)
     intro p hp x hx
     rcases List.mem_or_eq_of_mem_set hp with h | rfl
     ·exact hself p h x hx
     ·exact hself _ (gtD (d:=default) (show (nxt l (nxt l k 5).2 S.ps.length).1.toNat < S.ps.length by omega)) x hx
   ·split
    ·split
     ·exact hself
     ·rename_i hz
      have a1:=nxt_lt hl (nxt l k 5).2 S.ps.length (by omega)
      intro p hp x hx
      have hm:S.ps.getD (nxt l (nxt l k 5).2 S.ps.length).1.toNat default ∈ S.ps:=gtD (show (nxt l (nxt l k 5).2 S.ps.length).1.toNat < S.ps.length by omega)
      rcases List.mem_or_eq_of_mem_set hp with h | rfl
      ·exact hself p h x hx
      ·rcases List.mem_or_eq_of_mem_set hx with h | rfl
       ·exact hself _ hm x h
       ·rw [oddC_sites]
        exact hself _ hm _ (gtD (i:=0) (by have:=(hd _ hm).n; omega))
    ·exact hself
theorem zero_G (n:Nat):CntG n 0 (zeroF n):=by
 refine ⟨by simp [zeroF],by simp [zeroF],by unfold cntd zeroF; dsimp only; omega,fun k hk=>?_,fun k hk=>?_,fun s hs=>by simp [zeroF] at hs,List.Pairwise.nil,by simp [zeroF]⟩
 ·have:(zeroF n).blocks.getD k 0 = -1:=by simp [zeroF,List.getD_eq_getElem?_getD,hk]
  rw [this]; unfold cntd; omega
 ·have:(zeroF n).edges.getD k (0,0) = (-1,-1):=by simp [zeroF,List.getD_eq_getElem?_getD,hk]
  rw [this]; unfold cntd; dsimp only; omega
theorem fold_G {n:Nat}:∀ (l:List FC) (z:FC) (c:Nat),CntG n c z → (∀ x ∈ l,CntG n 1 x) → CntG n (c + l.length) (l.foldl sumF z)
 | [],z,c,h,_=>h
 | x :: l,z,c,h,hx=>by
  have h1:=fold_G l (sumF z x) (c + 1) (h.sum (hx x (by simp))) (fun y hy=>hx y (by simp [hy]))
  rw [List.length_cons,show c + (l.length + 1) = c + 1 + l.length by omega]
  exact h1
theorem totF_fit {s:StS} (h:SmP s) (ho:OkSt s) (r:Int) (hsh:notAll (ofR s.ps r) ≠ true) (hne:ofR s.ps r ≠ []):(totF (ofR s.ps r)).length < 2 ^ 63 ∧ ∀ x ∈ totF (ofR s.ps r),FitC x:=by
 obtain ⟨L,hL⟩:∃ L,L = ofR s.ps r:=⟨_,rfl⟩
 have hL1:=oneSh_of hsh
 have hmem:∀ l ∈ L,∃ p ∈ s.ps,l = p.fs:=fun l hl=>by rw [hL] at hl; exact ofR_mem hl
 have hll:=ofR_len s.ps r
 rw [← hL] at hne hL1 hll ⊢
 have hn:=h.n
 have hLm:L.getD 0 [] ∈ L:=gtD (List.length_pos_iff.2 hne)
 obtain ⟨p0,hp0,he⟩:=hmem _ hLm
 have hp64:=(okG h ho hp0).1.2
 refine ⟨by rw [totF_length,he]; omega,fun x hx=>?_⟩
 obtain ⟨f,hf,rfl⟩:=List.mem_iff_getElem.1 hx
 have hf2:f < (L.getD 0 []).length:=by rw [← totF_length]; exact hf
 have e1:=totF_at L f hf2
 rw [List.getD_eq_getElem?_getD,List.getElem?_eq_getElem hf,Option.getD_some] at e1
 rw [e1]
 have hx0:(L.getD 0 []).getD f default ∈ p0.fs:=by rw [← he]; exact gtD hf2
 have hb:=(okG h ho hp0).2 _ hx0
 have hG:CntG ((L.getD 0 []).getD f default).blocks.length (0 + L.length) (totC L f):=by
  have:=fold_G (L.map fun l=>l.getD f default) (zeroF ((L.getD 0 []).getD f default).blocks.length) 0 (zero_G _) (fun x hx=>by
   obtain ⟨l,hl,rfl⟩:=List.mem_map.1 hx
   obtain ⟨p,hp,hpe⟩:=hmem l hl
   have h1:=hL1 l hl
   have hfl:f < l.length:=by rw [← shp_len,h1,shp_len]; exact hf2
   have h2:=(okG h ho hp).2 (l.getD f default) (by rw [← hpe]; exact gtD hfl)
   have h3:(l.getD f default).blocks.length = ((L.getD 0 []).getD f default).blocks.length:=by rw [← shp_get l f hfl,h1,shp_get _ _ hf2]
   rw [← h3]; exact h2.1)
  rw [List.length_map] at this
  exact this
 exact ⟨by rw [hG.b]; omega,by rw [hG.e]; omega,by have:=hG.sl; omega,fun s hs=>by have:=OneG.tg hG s hs; omega⟩
theorem totR_fit {s:StS} (h:SmP s) (r:Int):(totR s r).1.length < 2 ^ 63 ∧ ∀ x ∈ (totR s r).1,FitC x:=by
 by_cases ho:OkSt s
 ·rw [totR_t ho]
  split
  ·exact ⟨by simp,fun x hx=>by simp at hx⟩
  ·rename_i hne
   split
   ·exact ⟨by simp,fun x hx=>by simp at hx⟩
   ·rename_i hsh
    exact totF_fit h ho r hsh hne
 ·rw [totR_no ho]
  exact ⟨by simp,fun x hx=>by simp at hx⟩
set_option maxRecDepth 8000 in
set_option maxHeartbeats 16000000 in
theorem totals31_ok (l0:List Int) (hl0:okInts .u8 l0) (r0:Int):PCall Tryz.prog 4 [.sl (PV.encI .u8 l0),.int .i64 r0] [] (fun p _=>p = .bool true):=by
 have n1:∀ args σ,noE.f 13 args σ = none:=fun _ _=>rfl
 have n2:∀ args σ,noE.f 14 args σ = none:=fun _ _=>rfl
 have n3:∀ args σ,noE.f 5 args σ = none:=fun _ _=>rfl
 have n4:∀ args σ,noE.f 7 args σ = none:=fun _ _=>rfl
 have n5:∀ args σ,noE.f 6 args σ = none:=fun _ _=>rfl
 have n6:∀ args σ,noE.f 11 args σ = none:=fun _ _=>rfl
 have n7:∀ args σ,noE.f 9 args σ = none:=fun _ _=>rfl
 have n8:∀ args σ,noE.f 15 args σ = none:=fun _ _=>rfl
 have n9:∀ args σ,noE.f 12 args σ = none:=fun _ _=>rfl
 have n10:∀ args σ,noE.f 16 args σ = none:=fun _ _=>rfl
 refine PCall.vfrz [] 151115727720141697056767 80 [.tmp 4] (noE_ok _) mix Tryz.func4 rfl (by decide) rfl rfl (by simp) ?_
 simp -dsimp only [initFr,List.zipIdx_cons,List.zipIdx_nil,List.map_cons,List.map_nil,Nat.zero_add,Nat.reduceAdd]
 simp -dsimp (maxSteps:=4000000) +contextual (disch:=first | omega | decide +kernel) only [↓vsD,vsE,↓Nat.reduceLT,simprocAttr,n3]
 refine PCall.mono (awake_on _) ?_
 rintro p σ' ⟨rfl,rfl⟩
 simp -dsimp (maxSteps:=4000000) +contextual (disch:=first | omega | decide +kernel) only [↓vsD,vsE,↓Nat.reduceLT,simprocAttr,n5]
 refine PCall.mono (newS_on l0 600 _) ?_
 rintro p σ' ⟨rfl,rfl⟩
 obtain ⟨cs,hcs⟩:∃ cs,cs = l0.take 600:=⟨_,rfl⟩
 have hcl:okInts .u8 cs:=fun n hn=>hl0 n (by rw [hcs] at hn; exact List.mem_of_mem_take hn)
 have hcn:cs.length ≤ 600:=by rw [hcs]; simp; omega
 rw [← hcs]
 simp -dsimp (maxSteps:=4000000) +contextual (disch:=first | omega | decide +kernel) only [↓vsD,vsE,↓Nat.reduceLT,simprocAttr,n4]
 refine filled_on cs 0 7 (by omega) hcl (by omega) (Nat.zero_le _) 0 rfl ?_
 intro X LX kx hX hkx
 simp -dsimp only [List.set_cons_zero,stV,List.nil_append,List.cons_append]
 simp -dsimp (maxSteps:=4000000) +contextual (disch:=first | omega | decide +kernel) only [↓vsD,vsE,↓Nat.reduceLT,simprocAttr,vcel,n4]
 have o1:=oddS_ok hcl hkx hX
 have w1:=odd_w cs kx hcl (by omega) hkx X hX.dr (by have:=hX.sz; unfold sizeS at this; omega) (by have:=hX.sz; unfold sizeS at this; omega)
 have hos:=oddS_sites hcl hkx hX.dr
 have d1:∀ σ:Store,σ[0]? = some (codes cs kx) → PCall Tryz.prog 11 [.ptr 0 0 0 0,.agg [.sl (encP X.ps),.sl (encD X.cs)]] σ (fun q τ=>q = .agg [.sl (encP (oddS cs kx X).1.ps),.sl (encD (oddS cs kx X).1.cs)] ∧ τ = σ.set 0 (codes cs (oddS cs kx X).2)):=fun σ h =>
  codes_onX 0 cs kx _ _ _ w1 (bel_stx _ X) (bel_st _ _) h ⟨rfl,rfl⟩
 obtain ⟨Y,hY⟩:∃ Y,Y = oddS cs kx X:=⟨_,rfl⟩
 rw [← hY] at o1 d1 hos
 refine v_draws _ _ _ _ _ _ [3] [] [(0,1),(0,0),(0,0),(0,0),(1,1),(1,1),(0,1)] (by decide +kernel) (by decide +kernel) (by decide +kernel) (by decide +kernel) ?_
 simp -dsimp (maxSteps:=4000000) +contextual (disch:=first | omega | decide +kernel) only [↓vsD,vsE,↓Nat.reduceLT,simprocAttr,vdA,↓vd_end,↓vdm_go,↓vd_op,↓guard_none,↓guard_some,vcel,n6]
 refine ⟨_,_,d1 _ rfl,by simp [outR,rowsAt],?_⟩
 simp -dsimp (maxSteps:=4000000) +contextual (disch:=first | omega | decide +kernel) only [↓vsD,vsE,↓Nat.reduceLT,simprocAttr,vdA,↓vd_end,↓vdm_go,↓vd_op,↓guard_none,↓guard_some,vcel,n6]
 obtain ⟨R,hR⟩:∃ R:List (List PV),R = [[.sl (encP X.ps),.sl (encD X.cs)],[.sl (encP Y.1.ps),.sl (encD Y.1.cs)]]:=⟨_,rfl⟩
 have hRl:R.length = 2:=by rw [hR]; rfl
 have hXz:=hX.sz
 unfold sizeS at hXz
 have hz:=o1.1.z
 have m1:SmP X:=⟨by omega,by omega,fun p hp=>(hX.dr p hp).fit,fun p hp x hx=>((hX.dr p hp).f x hx).one'⟩
 have m2:SmP Y.1:=⟨by omega,by omega,fun p hp=>(o1.1.f p hp).1,hos⟩
 rw [← hR]
 refine v_loopS (fun t:Nat × Store=>[(1,.int .i64 r0),(31,.sl R),(32,.int .i64 2),(33,.int .i64 t.1)]) (fun t=>t.2) (fun t=>t.1 ≤ 2) (fun t=>2 - t.1) (0,_) (by simp [weaker,Go.PV.look]) rfl (Nat.zero_le _) ?_
 rintro ⟨k,Q⟩ hk
 dsimp only at hk ⊢
 by_cases hk2:k < 2
 ·obtain ⟨s,hs,hg⟩:∃ s:StS,SmP s ∧ R.getD k [] = [.sl (encP s.ps),.sl (encD s.cs)]:=by
   rcases (show k = 0 ∨ k = 1 by omega) with rfl | rfl
   ·exact ⟨X,m1,by rw [hR]; rfl⟩
   ·exact ⟨Y.1,m2,by rw [hR]; rfl⟩
  have hn:=hs.n
  have h1:=rels_on s hs.fit (by omega)
  have h2:=rrels_on s hs.fit (by omega)
  have hlr:(relR s).length < 2 ^ 63:=by
   by_cases ho:OkSt s
   ·rw [relR_t ho]
    have:=relN_len (s.ps.map (·.id.1)) s.ps.length
    omega
   ·rw [relR_f ho]; simp
  have h3:=rInts_ok (relR s) (relR s) hlr
  rw [eqB_t rfl] at h3
  unfold stV at h1 h2
  simp -dsimp (maxSteps:=4000000) +contextual (disch:=first | omega | decide +kernel) only [↓vsD,vsE,↓Nat.reduceLT,simprocAttr,vcel,vgap,hRl,hg]
  refine v_draws _ _ _ _ _ _ [1,3,4] [] [(0,0),(0,0),(0,1),(0,0),(0,0),(3,3)] (by decide +kernel) (by decide +kernel) (by decide +kernel) (by decide +kernel) ?_
  simp -dsimp (maxSteps:=4000000) +contextual (disch:=first | omega | decide +kernel) only [↓vsD,vsE,↓Nat.reduceLT,simprocAttr,vdA,↓vd_end,↓vdm_go,↓vd_op,↓guard_none,↓guard_some,vcel,vgap,n1]
  refine ⟨_,_,h1 _,by simp [outR,rowsAt],?_⟩
  simp -dsimp (maxSteps:=4000000) +contextual (disch:=first | omega | decide +kernel) only [↓vsD,vsE,↓Nat.reduceLT,simprocAttr,vdA,↓vd_end,↓vdm_go,↓vd_op,↓guard_none,↓guard_some,vcel,vgap,n2]
  refine ⟨_,_,h2 _,by simp [outR,rowsAt],?_⟩
  simp -dsimp (maxSteps:=4000000) +contextual (disch:=first | omega | decide +kernel) only [↓vsD,vsE,↓Nat.reduceLT,simprocAttr,vdA,↓vd_end,↓vdm_go,↓vd_op,↓guard_none,↓guard_some,vcel,vgap,n9]
  refine ⟨_,_,h3 _,by simp [outR,rowsAt],?_⟩
  simp -dsimp (maxSteps:=4000000) +contextual (disch:=first | omega | decide +kernel) only [↓vsD,vsE,↓Nat.reduceLT,simprocAttr,vdA,↓vd_end,↓vdm_go,↓vd_op,↓guard_none,↓guard_some,vcel,vgap]
  obtain ⟨V,hV⟩:∃ V:List Int,V = [r0,0,1,2]:=⟨_,rfl⟩
  have hVe:[[PV.int IntKind.i64 r0],[.int .i64 0],[.int .i64 1],[.int .i64 2]] = ints V:=by rw [hV]; rfl
  have hVl:V.length = 4:=by rw [hV]; rfl
  rw [hVe]
  refine v_loopS (fun t:Nat × Store=>[(1,.int .i64 r0),(31,.sl R),(32,.int .i64 2),(33,.int .i64 k),(9,.ptr Q.length 0 0 0),(44,.sl (ints V)),(45,.int .i64 4),(46,.int .i64 t.1)]) (fun t=>t.2) (fun t=>t.1 ≤ 4 ∧ t.2[Q.length]? = some (.rows 29 2 [[.sl (encP s.ps),.sl (encD s.cs)]] 0)) (fun t=>4 - t.1) (0,_) (by simp [weaker,Go.PV.look]) rfl ⟨Nat.zero_le _,by dsimp only; rw [gapp0]; rfl⟩ ?_
  rintro ⟨i,Z⟩ ⟨hi,hZ⟩
  dsimp only at hi hZ ⊢
  have hZl:=(List.getElem?_eq_some_iff.1 hZ).1
  have hZA:∀ X:Store,(Z ++ X)[Q.length]? = some (.rows 29 2 [[.sl (encP s.ps),.sl (encD s.cs)]] 0):=fun X=>by rw [List.getElem?_append_left hZl,hZ]
  by_cases hi4:i < 4
  ·have hVi:=ints_getD V i (by omega)
   obtain ⟨r,hr⟩:∃ r,r = V.getD i 0:=⟨_,rfl⟩
   rw [← hr] at hVi
   have t1:=total_on s r hs
   have t2:=rtotal_on s r hs
   have t3:=rAll_on (totR s r).1 (totR s r).1 (totR_fit hs r).1 (totR_fit hs r).2
   rw [eqB_t rfl] at t3
   unfold stV cntV at t1 t2
   unfold cntV at t3
   obtain ⟨T,hT⟩:∃ T,T = totR s r:=⟨_,rfl⟩
   rw [← hT] at t1 t2 t3
   simp -dsimp (maxSteps:=4000000) +contextual (disch:=first | omega | decide +kernel) only [↓vsD,vsE,↓Nat.reduceLT,simprocAttr,vcel,vgap,hZ,hVl,hVi,ints_len,n7]
   refine PCall.mono (t1 _) ?_
   rintro q τ ⟨rfl,rfl⟩
   simp -dsimp (maxSteps:=4000000) +contextual (disch:=first | omega | decide +kernel) only [↓vsD,vsE,↓Nat.reduceLT,simprocAttr,vcel,vgap,hZ,hZA,n8]
   refine PCall.mono (t2 _) ?_
   rintro q τ ⟨rfl,rfl⟩
   simp -dsimp (maxSteps:=4000000) +contextual (disch:=first | omega | decide +kernel) only [↓vsD,vsE,↓Nat.reduceLT,simprocAttr,vcel,vgap,hZ,hZA,n10,List.append_assoc,List.length_append]
   refine PCall.mono (t3 _) ?_
   rintro q τ2 ⟨rfl,rfl⟩
   simp -dsimp (maxSteps:=4000000) +contextual (disch:=first | omega | decide +kernel) only [↓vsD,vsE,↓Nat.reduceLT,simprocAttr,vcel,vgap]
   exact ⟨(i + 1,_),(by (try dsimp only); omega),(by simp [weaker,Go.PV.look]),rfl,hi4,hZA _⟩
  ·obtain rfl:i = 4:=by omega
   simp -dsimp (maxSteps:=4000000) +contextual (disch:=first | omega | decide +kernel) only [↓vsD,vsE,↓Nat.reduceLT,simprocAttr,vcel,vgap]
   exact ⟨(k + 1,Z),(by (try dsimp only); omega),(by simp [weaker,Go.PV.look]),rfl,hk2⟩
 ·obtain rfl:k = 2:=by omega
  simp -dsimp (maxSteps:=4000000) +contextual (disch:=first | omega | decide +kernel) only [↓vsD,vsE,↓Nat.reduceLT,simprocAttr,vcel,vgap]
  exact fin0 (.keep _ (bel_bool _ _)) rfl
end Go.Proofs.YthjoehaglonjaaaGreat
