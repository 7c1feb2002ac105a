import Derived.Test.YthginmfobikdgaaTjD
set_option maxRecDepth 8000
set_option linter.unusedSimpArgs false
set_option linter.unusedVariables false
namespace Go.Proofs.Ythginmfobikdgaa.Tj
theorem visit_ex {n:Nat} {C:List (List Int)} (hC:OkC n C):∀ (m:Nat) (S:TJ) (f:Int),cnt0 S.num ≤ m → WF n C S → nd n f → S.nm f = 0 → ∃ S' R,VisR n C S S' f R:=by
 intro m
 induction m with
 | zero =>
  intro S f hm hw hf h0
  have:=(enter_ok hw hf h0).less hw h0
  omega
 | succ m ih =>
  intro S f hm hw hf h0
  have loop:∀ k,k ≤ (C.getD f.toNat []).length → ∃ S1 R,VisJ n C S S1 f R k:=by
   intro k
   induction k with
   | zero=>exact fun _=>⟨_,_,enter_ok hw hf h0⟩
   | succ k ihk =>
    intro hk
    obtain ⟨S1,R,hV⟩:=ihk (by omega)
    have hgn:=hC f hf _ (getD_mem (C.getD f.toNat []) (show k < _ by omega))
    obtain ⟨g,hg⟩:∃ g,g = (C.getD f.toNat []).getD k 0:=⟨_,rfl⟩
    rw [← hg] at hgn
    by_cases hz:S1.nm g = 0
    ·obtain ⟨S2,Rh,hv⟩:=ih S1 g (by have:=hV.less hw h0; omega) hV.wf hgn hz
     exact ⟨_,_,hV.child hC (by omega) hg hgn hz h0 hv⟩
    ·have ho:=hV.old (by omega) hg hgn hz h0
     by_cases hs:0 ≤ S1.st g
     ·exact ⟨_,_,ho.1 hs⟩
     ·exact ⟨_,_,ho.2 (by omega)⟩
  obtain ⟨S1,R,hV⟩:=loop _ (Nat.le_refl _)
  by_cases hlt:S1.lw f < S1.nm f
  ·exact ⟨_,_,hV.stay hlt⟩
  ·exact ⟨_,_,hV.leave hC hlt hw (List.mergeSort_perm (f :: R) (fun x y=>decide (x ≤ y)))
    ((List.pairwise_mergeSort (le:=fun x y:Int=>decide (x ≤ y)) (fun a b c h1 h2=>by simp at h1 h2 ⊢; omega) (fun a b=>by simp; omega) _).imp (fun h=>of_decide_eq_true h))⟩
theorem find_ex {n:Nat} {C:List (List Int)} (hC:OkC n C):∃ S,FinJ n C S n:=by
 have:∀ k,k ≤ n → ∃ S,FinJ n C S k:=by
  intro k
  induction k with
  | zero=>exact fun _=>⟨TJ.init n,init_wf n C,rfl,fun g hg hlt=>by have:=hg.1; omega⟩
  | succ k ih =>
   intro hk
   obtain ⟨S,hS⟩:=ih (by omega)
   have hkn:nd n (k:Int):=⟨by omega,by omega⟩
   by_cases hz:S.nm k = 0
   ·obtain ⟨S',R,hv⟩:=visit_ex hC _ S k (Nat.le_refl _) hS.wf hkn hz
    exact ⟨S',hS.next hkn hv⟩
   ·exact ⟨S,hS.skip hz⟩
 exact this n (Nat.le_refl _)
theorem least_ex (p:Nat → Prop) (h:Nat → Int):∀ m,(∃ s,s < m ∧ p s) → ∃ s,s < m ∧ p s ∧ ∀ t,t < m → p t → h s ≤ h t:=by
 intro m
 induction m with
 | zero=>rintro ⟨s,hs,_⟩; omega
 | succ m ih =>
  rintro ⟨s,hs,hp⟩
  by_cases hm:∃ s,s < m ∧ p s
  ·obtain ⟨u,hu,hpu,hl⟩:=ih hm
   by_cases hpm:p m ∧ h m < h u
   ·refine ⟨m,by omega,hpm.1,fun t ht hpt=>?_⟩
    by_cases e:t = m
    ·subst e; exact Int.le_refl _
    ·have:=hl t (by omega) hpt; omega
   ·refine ⟨u,by omega,hpu,fun t ht hpt=>?_⟩
    by_cases e:t = m
    ·subst e
     false_or_by_contra
     exact hpm ⟨hpt,by omega⟩
    ·exact hl t (by omega) hpt
  ·have hsm:s = m:=by
    false_or_by_contra
    exact hm ⟨s,by omega,hp⟩
   subst hsm
   refine ⟨s,hs,hp,fun t ht hpt=>?_⟩
   by_cases e:t = s
   ·subst e; exact Int.le_refl _
   ·exact absurd ⟨t,by omega,hpt⟩ hm
theorem out_ex {n:Nat} {C:List (List Int)} (hC:OkC n C):∃ S out,FinJ n C S n ∧ OutR n C S out:=by
 obtain ⟨S,hS⟩:=find_ex hC
 have:∀ r,r ≤ S.sets.length → ∃ dn ord,ComJ n C S dn ord ∧ ord.length = r:=by
  intro r
  induction r with
  | zero=>exact fun _=>⟨_,_,comJ_start,rfl⟩
  | succ r ih =>
   intro hr
   obtain ⟨dn,ord,hJ,hl⟩:=ih (by omega)
   obtain ⟨s,hs,hrd,hmin⟩:=least_ex (rdy C S dn) (fun s=>(S.sets.getD s []).getD 0 0) _ (hJ.has hS hC (by omega))
   exact ⟨_,_,hJ.next hS hC hs hrd hmin,by rw [List.length_append,hl]; rfl⟩
 obtain ⟨dn,ord,hJ,hl⟩:=this _ (Nat.le_refl _)
 exact ⟨S,_,hS,hJ.out hS hC hl⟩
end Go.Proofs.Ythginmfobikdgaa.Tj
