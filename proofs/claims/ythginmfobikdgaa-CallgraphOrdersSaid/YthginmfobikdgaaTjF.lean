import Derived.Test.YthginmfobikdgaaTjE
set_option maxRecDepth 8000
set_option linter.unusedSimpArgs false
set_option linter.unusedVariables false
namespace Go.Proofs.Ythginmfobikdgaa.Tj
structure AtI (n:Nat) (out:List (List Int)) (A:List Int) (i j:Nat):Prop where
 len:A.length = n
 old:∀ f,nd n f → ∀ k:Nat,k < i → f ∈ out.getD k [] → A.getD f.toNat 0 = k
 cur:∀ f,nd n f → f ∈ (out.getD i []).take j → A.getD f.toNat 0 = i
 inv:∀ f,nd n f → 0 ≤ A.getD f.toNat 0 → (∃ k,k < i ∧ f ∈ out.getD k []) ∨ f ∈ (out.getD i []).take j
theorem AtI.start {n:Nat} {out:List (List Int)}:AtI n out (List.replicate n (-1)) 0 0 :=
 ⟨by simp,fun f hf k hk=>by omega,fun f hf h=>by simp at h,fun f hf h=>by
  have:=hf.1; have:=hf.2
  rw [List.getD_eq_getElem?_getD,List.getElem?_replicate,if_pos (by omega)] at h
  simp at h⟩
variable {n:Nat} {C:List (List Int)} {S:TJ} {out:List (List Int)} {A:List Int} {i j:Nat}
theorem AtI.fresh (h:AtI n out A i j) (hO:OutR n C S out) (hi:i < out.length) (hj:j < (out.getD i []).length):nd n ((out.getD i []).getD j 0) ∧ A.getD ((out.getD i []).getD j 0).toNat 0 < 0:=by
 have hm:=getD_mem (out.getD i []) hj
 have hn:=hO.nd i hi _ hm
 refine ⟨hn,?_⟩
 false_or_by_contra
 rename_i hc
 rcases h.inv _ hn (by omega) with ⟨k,hk,hmk⟩ | ht
 ·have:=hO.un k i _ (by omega) hi hmk hm
  omega
 ·obtain ⟨t,ht,he⟩:=List.mem_iff_getElem.1 ht
  rw [List.length_take] at ht
  have e2:(out.getD i []).getD j 0 = (out.getD i [])[j]:=by rw [List.getD_eq_getElem?_getD (l:=out.getD i []),List.getElem?_eq_getElem hj]; rfl
  rw [List.getElem_take,e2] at he
  exact List.pairwise_iff_getElem.1 (hO.nod i hi) t j (by omega) hj (by omega) he
theorem AtI.next (h:AtI n out A i j) (hO:OutR n C S out) (hi:i < out.length) (hj:j < (out.getD i []).length):AtI n out (A.set ((out.getD i []).getD j 0).toNat (i:Int)) i (j + 1):=by
 have hm:=getD_mem (out.getD i []) hj
 have hn:=hO.nd i hi _ hm
 obtain ⟨f,hf⟩:∃ f,f = (out.getD i []).getD j 0:=⟨_,rfl⟩
 have htk:(out.getD i []).take (j + 1) = (out.getD i []).take j ++ [f]:=by
  rw [List.take_add_one,List.getElem?_eq_getElem hj,hf,List.getD_eq_getElem?_getD (l:=out.getD i []),List.getElem?_eq_getElem hj]; rfl
 rw [← hf] at hm hn ⊢
 have hg:∀ g,nd n g → (A.set f.toNat (i:Int)).getD g.toNat 0 = if g = f then (i:Int) else A.getD g.toNat 0:=fun g hg=>getD_set A f g _ (by rw [h.len]; exact hn) hg.1
 refine ⟨by rw [List.length_set]; exact h.len,fun g hgn k hk hm2=>?_,fun g hgn hm2=>?_,fun g hgn h0=>?_⟩
 ·rw [hg g hgn,if_neg (fun e=>?_)]
  ·exact h.old g hgn k hk hm2
  ·rw [e] at hm2
   have:=hO.un k i f (by omega) hi hm2 hm
   omega
 ·rw [hg g hgn]
  by_cases e:g = f
  ·rw [if_pos e]
  ·rw [if_neg e]
   rw [htk,List.mem_append,List.mem_singleton] at hm2
   exact h.cur g hgn (hm2.resolve_right e)
 ·rw [hg g hgn] at h0
  rw [htk,List.mem_append,List.mem_singleton]
  by_cases e:g = f
  ·exact .inr (.inr e)
  ·rw [if_neg e] at h0
   exact (h.inv g hgn h0).imp id .inl
theorem AtI.up (h:AtI n out A i j) (hj:j = (out.getD i []).length):AtI n out A (i + 1) 0:=by
 subst hj
 have hc:=h.cur
 have hv:=h.inv
 rw [List.take_length] at hc hv
 refine ⟨h.len,fun f hf k hk hm=>?_,fun f hf hm=>by simp at hm,fun f hf h0=>?_⟩
 ·by_cases e:k = i
  ·subst e; exact hc f hf hm
  ·exact h.old f hf k (by omega) hm
 ·rcases hv f hf h0 with ⟨k,hk,hm⟩ | hm
  ·exact .inl ⟨k,by omega,hm⟩
  ·exact .inl ⟨i,by omega,hm⟩
theorem AtI.fin (h:AtI n out A out.length 0) (hO:OutR n C S out) {f:Int} (hf:nd n f):∃ k:Nat,k < out.length ∧ f ∈ out.getD k [] ∧ A.getD f.toNat 0 = k:=by
 obtain ⟨k,hk,hm⟩:=hO.ex f hf
 exact ⟨k,hk,hm,h.old f hf k hk hm⟩
end Go.Proofs.Ythginmfobikdgaa.Tj
