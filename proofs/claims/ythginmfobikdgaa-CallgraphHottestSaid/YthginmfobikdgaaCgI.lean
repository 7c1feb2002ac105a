import Derived.Test.YthginmfobikdgaaCgC
import Derived.Test.YthginmfobikdgaaDrA
import Derived.Test.YthginmfobikdgaaTjD
import Derived.Test.YthginmfobikdgaaCgG
set_option maxRecDepth 8000
set_option maxRecDepth 8000
set_option linter.unusedSimpArgs false
set_option linter.unusedVariables false
namespace Go.Proofs.Ythginmfobikdgaa
open Go.PV
theorem fin_setC {σ X:Store} {o:Nat} {B B2:Go.PV.Obj} {K:PV → Store → Prop} {p p2:PV} (hf:Frz σ.length (σ.set o B2 ++ X) p p2) (hB:ObjBel σ.length B2) (hk:K p2 (σ.set o B2)):Go.PV.Fin (σ.set o B) K p (σ.set o B2 ++ X) :=
 ⟨p2,by rw [List.length_set]; exact hf,fun i hi=>by
  rw [List.length_set] at hi
  by_cases h:i = o
  ·subst h
   exact ⟨B2,by rw [List.getElem?_append_left (by rw [List.length_set]; exact hi),List.getElem?_set_self hi],.inr (by rw [List.length_set]; exact hB)⟩
  ·refine ⟨σ[i],by rw [List.getElem?_append_left (by rw [List.length_set]; exact hi),List.getElem?_set_ne (fun e=>h e.symm),List.getElem?_eq_getElem hi],.inl ?_⟩
   rw [List.getElem?_set_ne (fun e=>h e.symm),List.getElem?_eq_getElem hi],by
  rw [List.length_set,List.take_append_of_le_length (by rw [List.length_set]; exact Nat.le_refl _),List.take_of_length_le (by rw [List.length_set]; exact Nat.le_refl _)]
  exact hk⟩
theorem mvl_keepC {os:List Nat}:∀ {l:List PV},(∀ p ∈ l,Bel 0 p) → MvL os l l
 | [],_=>MvL.nil _
 | a :: l,h=>MvL.cons (.keep _ (h a (by simp))) (mvl_keepC (fun p hp=>h p (by simp [hp])))
theorem codes_onC {F:FuncId} {σ:Store} {K:PV → Store → Prop} (o:Nat) (l:List Int) (k:Nat) (ar:List PV) {Φ:PV → Prop} (h:PCall Try.prog F (.ptr 0 0 0 0 :: ar) [codes l k] (fun p τ=>Φ p ∧ ∃ k',k' ≤ l.length ∧ τ = [codes l k'])) (has:∀ p ∈ ar,Bel 0 p) (hv:∀ p,Φ p → Bel 0 p) (ho:σ[o]? = some (codes l k))
  (hK:∀ p k',Φ p → k' ≤ l.length → K p (σ.set o (codes l k'))):PCall Try.prog F (.ptr o 0 0 0 :: ar) σ K:=by
 refine PCall.use_on [o] h (by simp) rfl (fun j o' hj=>?_) (fun X hX=>?_) (MvL.cons (.ptr 0 o 0 0 0 rfl) (mvl_keepC has)) ?_
 ·match j with
  | 0=>simp at hj; rw [← hj]; exact ho
  | j + 1=>simp at hj
 ·rw [List.mem_singleton] at hX
  rw [hX]; exact codes_bel _ _ _
 ·rintro p σ2 ⟨hp,k',hk',rfl⟩
  refine ⟨hv _ hp,rfl,fun X hX=>?_,hK _ _ hp hk'⟩
  rw [List.mem_singleton] at hX
  rw [hX]; exact codes_bel _ _ _
theorem upG_len {G:Nat → List Int} {j q:Nat} (h:∀ f,(G f).length + (j + 1) ≤ q) (f:Nat) (g:Int):∀ f2,(upG G f (G f ++ [g]) f2).length + j ≤ q:=fun f2=>by
 have h2:=h f2
 have h1:=h f
 unfold upG
 split
 ·rw [List.length_append,List.length_singleton]; omega
 ·omega
set_option maxHeartbeats 8000000 in
theorem calls_w (l:List Int) (hl:okInts .u8 l) (hl2:l.length < 2 ^ 40) (k0:Nat) (hk0:k0 ≤ l.length):PCall Try.prog 18 [.ptr 0 0 0 0] [codes l k0]
  (fun q τ=>(∃ C:List (List Int),q = .sl (intss C) ∧ 1 ≤ C.length ∧ C.length ≤ 7 ∧ ∀ c ∈ C,c.length ≤ 1000) ∧ ∃ k,k ≤ l.length ∧ τ = [codes l k]):=by
 have a1:=nxt_lt hl k0 7 (by omega)
 have b1:=nxt_le hk0 7
 have a2:=nxt_lt hl (nxt l k0 7).2 14 (by omega)
 have b2:=nxt_le b1 14
 obtain ⟨n,hn⟩:∃ n:Nat,(n:Int) = 1 + (nxt l k0 7).1:=⟨(1 + (nxt l k0 7).1).toNat,by omega⟩
 obtain ⟨q,hq⟩:∃ q:Nat,(q:Int) = (nxt l (nxt l k0 7).2 14).1:=⟨((nxt l (nxt l k0 7).2 14).1).toNat,by omega⟩
 refine PCall.vfrz [] 8255 38 [.tmp 2] nx_ok mix Try.func18 rfl (by decide) rfl rfl (by simp) ?_
 simp -dsimp only [initFr,List.zipIdx_cons,List.zipIdx_nil,List.map_cons,List.map_nil,Nat.zero_add,Nat.reduceAdd]
 simp -dsimp (maxSteps:=4000000) +contextual (disch:=first | omega | decide +kernel) only [↓vsD,vsE,↓Nat.reduceLT,simprocAttr,nx_next,exNextO_codes,← hn,← hq,hl,bytesC,lenC]
 refine v_loopS (fun s:Nat × Nat × List (List PV) × Store × (Nat → List Int)=>[(0,.ptr 0 0 0 0),(3,.msl 1 0),(4,.int .i64 (s.1:Int))])
  (fun s=>codes l s.2.1 :: .rows 40 1 s.2.2.1 0 :: s.2.2.2.1) (fun s=>s.1 ≤ q ∧ s.2.1 ≤ l.length ∧ GX s.2.2.2.1 s.2.2.1 s.2.2.2.2 n ∧ ∀ f,(s.2.2.2.2 f).length + s.1 ≤ q) (fun s=>s.1) (q,_,List.replicate n [.nils],[],fun _=>[]) (by simp [weaker,Go.PV.look]) rfl ⟨Nat.le_refl _,b2,GX.start _ _,fun f=>by simp⟩ ?_
 rintro ⟨j,k,R,Z,G⟩ ⟨hj,hk,hG,hlen⟩
 dsimp only at hj hk hG hlen ⊢
 have hRl:=hG.len
 have hn1:1 ≤ n ∧ n ≤ 7:=by omega
 cases j with
 | zero =>
  simp -dsimp (maxSteps:=4000000) +contextual (disch:=first | omega | decide +kernel) only [↓vsD,vsE,↓Nat.reduceLT,simprocAttr,nx_next,exNextO_codes,hl,hRl,vcel]
  have hf:=hG.fz
  refine fin_setC (σ:=[codes l k0]) (o:=0) (B2:=codes l k) (p2:=.sl (intss (tabG G n))) ?_ ?_ ?_
  ·exact (Fz.of_rows (A:=fun u=>1 ≤ u) (elem:=40) (sz:=1) (rows:=R) (by omega) rfl (hf.to (fun u h=>by omega) (zz_keep _ _ Z (fun u h=>h)))).frz _ (fun _ h=>h)
  ·exact codes_bel _ _ _
  ·refine ⟨⟨_,rfl,by rw [tabG_length]; omega,by rw [tabG_length]; omega,fun c hc=>?_⟩,k,hk,rfl⟩
   obtain ⟨f,_,rfl⟩:=List.mem_map.1 hc
   have:=hlen f
   omega
 | succ j =>
  have d1:=nxt_lt hl k n (by omega)
  have e1:=nxt_le hk n
  have d2:=nxt_lt hl (nxt l k n).2 ((n:Int) + 1) (by omega)
  have e2:=nxt_le e1 ((n:Int) + 1)
  have d3:=nxt_lt hl (nxt l (nxt l k n).2 ((n:Int) + 1)).2 2 (by omega)
  have e3:=nxt_le e2 2
  obtain ⟨f,hf⟩:∃ f:Nat,(f:Int) = (nxt l k n).1:=⟨((nxt l k n).1).toNat,by omega⟩
  obtain ⟨g,hg⟩:∃ g:Int,g = (nxt l (nxt l k n).2 ((n:Int) + 1)).1 - (nxt l (nxt l (nxt l k n).2 ((n:Int) + 1)).2 2).1:=⟨_,rfl⟩
  have hn2:=newsI1 g
  have hlf:=hlen f
  rcases hG.row f (by omega) with ⟨q1,q2⟩ | ⟨o,v,q1,q2⟩
  ·simp -dsimp (maxSteps:=4000000) +contextual (disch:=first | omega | decide +kernel) only [↓vsD,vsE,↓Nat.reduceLT,simprocAttr,nx_next,exNextO_codes,hl,hRl,← hf,vcel]
   refine v_draws _ _ _ _ _ _ [10,12,15,17] [] [(0,3),(0,3),(0,2),(0,2),(0,2),(0,2),(0,0),(0,0),(0,0),(0,0),(0,0),(0,1),(0,0),(2,2),(2,2),(0,0),(3,3),(0,0)] (by decide +kernel) (by decide +kernel) (by decide +kernel) (by decide +kernel) ?_
   simp -dsimp (maxSteps:=4000000) +contextual (disch:=first | omega | decide +kernel) only [↓vsD,vsE,↓Nat.reduceLT,simprocAttr,nx_next,exNextO_codes,vdA,↓vd_end,↓vdm_go,↓vd_op,↓guard_none,↓guard_some,hl,e2,← hg,hRl,q1,vcel,vgap,hn2,List.length_append,List.length_singleton,List.append_assoc]
   refine ⟨(j,_,R.set f [.msl (Z.length + 2) 0],Z ++ [.rows 3 1 [[.int .i64 g]] 0],upG G f (G f ++ [g])),(by (try dsimp only); omega),(by simp [weaker,Go.PV.look]),rfl,by omega,e3,hG.new (by omega) q1 g,upG_len hlen f g⟩
  ·simp -dsimp (maxSteps:=4000000) +contextual (disch:=first | omega | decide +kernel) only [↓vsD,vsE,↓Nat.reduceLT,simprocAttr,nx_next,exNextO_codes,hl,hRl,← hf,vcel]
   have hol:=(List.getElem?_eq_some_iff.1 q2).1
   have g1:∀ Y,(Z ++ Y)[o]? = some (.rows 3 1 (ints (G f)) v):=fun Y=>by rw [List.getElem?_append_left hol,q2]
   have g2:∀ Y y,(Z ++ Y).set o y = Z.set o y ++ Y:=fun Y y=>by rw [List.set_append_left _ _ hol]
   have el:(ints (G f)).length = (G f).length:=enc_length _ _
   refine v_draws _ _ _ _ _ _ [10,12,15,17] [] [(0,3),(0,3),(0,2),(0,2),(0,2),(0,2),(0,0),(0,0),(0,0),(0,0),(0,0),(0,1),(0,0),(2,2),(2,2),(0,0),(3,3),(0,0)] (by decide +kernel) (by decide +kernel) (by decide +kernel) (by decide +kernel) ?_
   simp -dsimp (maxSteps:=4000000) +contextual (disch:=first | omega | decide +kernel) only [↓vsD,vsE,↓Nat.reduceLT,simprocAttr,nx_next,exNextO_codes,vdA,↓vd_end,↓vdm_go,↓vd_op,↓guard_none,↓guard_some,hl,e2,← hg,hRl,q1,q2,vcel,vgap,hn2,g1,g2,el,bytesC,lenC,List.length_append,List.length_singleton,List.append_assoc]
   refine ⟨(j,_,R.set f [.msl (o + 2) (v + 1)],Z.set o _,upG G f (G f ++ [g])),(by (try dsimp only); omega),(by simp [weaker,Go.PV.look]),rfl,by omega,e3,hG.ext (by omega) q1 q2 g,upG_len hlen f g⟩
theorem calls_on (l:List Int) (hl:okInts .u8 l) (hl2:l.length < 2 ^ 40) (k0:Nat) (hk0:k0 ≤ l.length) (o:Nat) (σ:Store) (ho:σ[o]? = some (codes l k0)):PCall Try.prog 18 [.ptr o 0 0 0] σ
  (fun q τ=>∃ C:List (List Int),q = .sl (intss C) ∧ 1 ≤ C.length ∧ C.length ≤ 7 ∧ (∀ c ∈ C,c.length ≤ 1000) ∧ ∃ k,k ≤ l.length ∧ τ = σ.set o (codes l k)) :=
 codes_onC o l k0 [] (calls_w l hl hl2 k0 hk0) (fun p hp=>by simp at hp) (fun p ⟨C,h,_⟩=>by rw [h]; exact bel_intss _ _) ho
  (fun p k ⟨C,h1,h2,h3,h4⟩ hk=>⟨C,h1,h2,h3,h4,k,hk,rfl⟩)
end Go.Proofs.Ythginmfobikdgaa

set_option linter.unusedSimpArgs false
set_option linter.unusedVariables false
namespace Go.Proofs.Ythginmfobikdgaa.Tj
theorem visit_ex {n:Nat} {C:List (List Int)} (hC:OkC n C):∀ (m:Nat) (S:TJ) (f:Int),cnt0 S.num ≤ m → WF n C S → nd n f → S.nm f = 0 → ∃ S' R,VisR n C S S' f R:=by
 intro m
 induction m with
 | zero =>
  intro S f hm hw hf h0
  have:=(enter_ok hw hf h0).less hw h0
  omega
 | succ m ih =>
  intro S f hm hw hf h0
  have loop:∀ k,k ≤ (C.getD f.toNat []).length → ∃ S1 R,VisJ n C S S1 f R k:=by
   intro k
   induction k with
   | zero=>exact fun _=>⟨_,_,enter_ok hw hf h0⟩
   | succ k ihk =>
    intro hk
    obtain ⟨S1,R,hV⟩:=ihk (by omega)
    have hgn:=hC f hf _ (getD_mem (C.getD f.toNat []) (show k < _ by omega))
    obtain ⟨g,hg⟩:∃ g,g = (C.getD f.toNat []).getD k 0:=⟨_,rfl⟩
    rw [← hg] at hgn
    by_cases hz:S1.nm g = 0
    ·obtain ⟨S2,Rh,hv⟩:=ih S1 g (by have:=hV.less hw h0; omega) hV.wf hgn hz
     exact ⟨_,_,hV.child hC (by omega) hg hgn hz h0 hv⟩
    ·have ho:=hV.old (by omega) hg hgn hz h0
     by_cases hs:0 ≤ S1.st g
     ·exact ⟨_,_,ho.1 hs⟩
     ·exact ⟨_,_,ho.2 (by omega)⟩
  obtain ⟨S1,R,hV⟩:=loop _ (Nat.le_refl _)
  by_cases hlt:S1.lw f < S1.nm f
  ·exact ⟨_,_,hV.stay hlt⟩
  ·exact ⟨_,_,hV.leave hC hlt hw (List.mergeSort_perm (f :: R) (fun x y=>decide (x ≤ y)))
    ((List.pairwise_mergeSort (le:=fun x y:Int=>decide (x ≤ y)) (fun a b c h1 h2=>by simp at h1 h2 ⊢; omega) (fun a b=>by simp; omega) _).imp (fun h=>of_decide_eq_true h))⟩
theorem find_ex {n:Nat} {C:List (List Int)} (hC:OkC n C):∃ S,FinJ n C S n:=by
 have:∀ k,k ≤ n → ∃ S,FinJ n C S k:=by
  intro k
  induction k with
  | zero=>exact fun _=>⟨TJ.init n,init_wf n C,rfl,fun g hg hlt=>by have:=hg.1; omega⟩
  | succ k ih =>
   intro hk
   obtain ⟨S,hS⟩:=ih (by omega)
   have hkn:nd n (k:Int):=⟨by omega,by omega⟩
   by_cases hz:S.nm k = 0
   ·obtain ⟨S',R,hv⟩:=visit_ex hC _ S k (Nat.le_refl _) hS.wf hkn hz
    exact ⟨S',hS.next hkn hv⟩
   ·exact ⟨S,hS.skip hz⟩
 exact this n (Nat.le_refl _)
theorem least_ex (p:Nat → Prop) (h:Nat → Int):∀ m,(∃ s,s < m ∧ p s) → ∃ s,s < m ∧ p s ∧ ∀ t,t < m → p t → h s ≤ h t:=by
 intro m
 induction m with
 | zero=>rintro ⟨s,hs,_⟩; omega
 | succ m ih =>
  rintro ⟨s,hs,hp⟩
  by_cases hm:∃ s,s < m ∧ p s
  ·obtain ⟨u,hu,hpu,hl⟩:=ih hm
   by_cases hpm:p m ∧ h m < h u
   ·refine ⟨m,by omega,hpm.1,fun t ht hpt=>?_⟩
    by_cases e:t = m
    ·subst e; exact Int.le_refl _
    ·have:=hl t (by omega) hpt; omega
   ·refine ⟨u,by omega,hpu,fun t ht hpt=>?_⟩
    by_cases e:t = m
    ·subst e
     false_or_by_contra
     exact hpm ⟨hpt,by omega⟩
    ·exact hl t (by omega) hpt
  ·have hsm:s = m:=by
    false_or_by_contra
    exact hm ⟨s,by omega,hp⟩
   subst hsm
   refine ⟨s,hs,hp,fun t ht hpt=>?_⟩
   by_cases e:t = s
   ·subst e; exact Int.le_refl _
   ·exact absurd ⟨t,by omega,hpt⟩ hm
theorem out_ex {n:Nat} {C:List (List Int)} (hC:OkC n C):∃ S out,FinJ n C S n ∧ OutR n C S out:=by
 obtain ⟨S,hS⟩:=find_ex hC
 have:∀ r,r ≤ S.sets.length → ∃ dn ord,ComJ n C S dn ord ∧ ord.length = r:=by
  intro r
  induction r with
  | zero=>exact fun _=>⟨_,_,comJ_start,rfl⟩
  | succ r ih =>
   intro hr
   obtain ⟨dn,ord,hJ,hl⟩:=ih (by omega)
   obtain ⟨s,hs,hrd,hmin⟩:=least_ex (rdy C S dn) (fun s=>(S.sets.getD s []).getD 0 0) _ (hJ.has hS hC (by omega))
   exact ⟨_,_,hJ.next hS hC hs hrd hmin,by rw [List.length_append,hl]; rfl⟩
 obtain ⟨dn,ord,hJ,hl⟩:=this _ (Nat.le_refl _)
 exact ⟨S,_,hS,hJ.out hS hC hl⟩
end Go.Proofs.Ythginmfobikdgaa.Tj

set_option linter.unusedSimpArgs false
set_option linter.unusedVariables false
namespace Go.Proofs.Ythginmfobikdgaa
open Go.PV Tj
theorem comps_eq (L:List (List Int)) (hL:L.length ≤ 1000) (hl:∀ l ∈ L,l.length ≤ 1000) {S:TJ} {out:List (List Int)} (hO:OutR L.length (calL L) S out) (σ:Store):PCall Try.prog 21 [progV L] σ (fun q τ=>q = .sl (intss out) ∧ τ = σ):=by
 refine PCall.mono (comps_on L hL hl σ) ?_
 rintro q τ ⟨⟨S2,out2,_,h2,rfl⟩,rfl⟩
 exact ⟨by rw [hO.uniq (calL_ok L) h2],rfl⟩
theorem recs_eq (L:List (List Int)) (hL:L.length ≤ 1000) (hl:∀ l ∈ L,l.length ≤ 1000) {S:TJ} (hS:FinJ L.length (calL L) S L.length) (σ:Store):PCall Try.prog 22 [progV L] σ (fun q τ=>q = .sl (boolsR (recL S (calL L) L.length)) ∧ τ = σ):=by
 refine PCall.mono (recs_on L hL hl σ) ?_
 rintro q τ ⟨⟨S2,h2,rfl⟩,rfl⟩
 refine ⟨?_,rfl⟩
 have:recL S2 (calL L) L.length = recL S (calL L) L.length:=by
  refine List.map_congr_left (fun f hf=>?_)
  unfold recB
  have:=h2.size_eq (calL_ok L) hS (f:=(f:Int)) ⟨by omega,by have:=List.mem_range.1 hf; omega⟩
  simp only [this]
 rw [this]
def exL:List (List Int):=[[1,2],[],[1]]
theorem exL_out:∃ S out,FinJ 3 (calL exL) S 3 ∧ OutR 3 (calL exL) S out:=out_ex (calL_ok exL)
set_option maxHeartbeats 4000000 in
theorem awake33_w:PCall Try.prog 17 [] [] (fun q _=>q = .bool true):=by
 have hp:=program_on exL (by decide) (by decide)
 obtain ⟨S,out,_,hO⟩:=exL_out
 have hc:=comps_eq exL (by decide) (by decide) (S:=S) (out:=out) hO
 have e:calL exL = [[1,2],[],[1]]:=by decide +kernel
 rw [e] at hO
 rw [example_out hO] at hc
 have k0:∀ args σ,noE.f 20 args σ = none:=fun _ _=>rfl
 have k1:∀ args σ,noE.f 21 args σ = none:=fun _ _=>rfl
 have e1:intss exL = [[.sl [[.int .i64 1],[.int .i64 2]]],[.sl []],[.sl [[.int .i64 1]]]]:=rfl
 have e2:intss [[1],[2],[0]] = [[.sl [[.int .i64 1]]],[.sl [[.int .i64 2]]],[.sl [[.int .i64 0]]]]:=rfl
 rw [e1] at hp
 rw [e2] at hc
 refine PCall.vfrz [] 3 42 [.tmp 0] (noE_ok _) mix Try.func17 rfl (by decide) rfl rfl (by simp) ?_
 simp -dsimp only [initFr,List.zipIdx_cons,List.zipIdx_nil,List.map_cons,List.map_nil,Nat.zero_add,Nat.reduceAdd]
 simp -dsimp (maxSteps:=4000000) +contextual (disch:=first | omega | decide +kernel) only [↓vsD,vsE,↓Nat.reduceLT,simprocAttr,k0]
 refine PCall.mono (hp _) ?_
 rintro p σ' ⟨rfl,rfl⟩
 simp -dsimp (maxSteps:=4000000) +contextual (disch:=first | omega | decide +kernel) only [↓vsD,vsE,↓Nat.reduceLT,simprocAttr,k0,k1]
 refine PCall.mono (hc _) ?_
 rintro p σ' ⟨rfl,rfl⟩
 simp -dsimp (maxSteps:=4000000) +contextual (disch:=first | omega | decide +kernel) only [↓vsD,vsE,↓Nat.reduceLT,simprocAttr,k0,k1]
 exact fin0 (.keep _ (bel_bool _ _)) rfl
theorem awake33_on (σ:Store):PCall Try.prog 17 [] σ (fun p σ'=>p = .bool true ∧ σ' = σ) :=
 PCall.lift awake33_w (by simp) (fun p h=>⟨by rw [h]; exact bel_bool _ _,h,rfl⟩)
end Go.Proofs.Ythginmfobikdgaa
