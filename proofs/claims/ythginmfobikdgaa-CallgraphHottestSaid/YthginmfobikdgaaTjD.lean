import Derived.Test.YthginmfobikdgaaTjC
set_option maxRecDepth 8000
set_option linter.unusedSimpArgs false
set_option linter.unusedVariables false
namespace Go.Proofs.Ythginmfobikdgaa.Tj
theorem OutR.reach {n:Nat} {C:List (List Int)} (hC:OkC n C) {S:TJ} {out:List (List Int)} (h:OutR n C S out) {f g:Int} (hr:Rch C f g):∀ i j,i < out.length → j < out.length → f ∈ out.getD i [] → g ∈ out.getD j [] → j ≤ i:=by
 induction hr with
 | refl a=>intro i j hi hj h1 h2; exact Nat.le_of_eq (h.un j i a hj hi h2 h1)
 | step hb _ ih =>
  intro i j hi hj h1 h2
  obtain ⟨k,hk,hbk⟩:=h.ex _ (hC _ (h.nd i hi _ h1) _ hb)
  have a:=h.ed i k _ _ hi hk h1 hb hbk
  have b:=ih k j hk hj hbk h2
  omega
theorem OutR.mem {n:Nat} {C:List (List Int)} (hC:OkC n C) {S:TJ} {out:List (List Int)} (h:OutR n C S out) {i:Nat} (hi:i < out.length) {f:Int} (hf:f ∈ out.getD i []) (g:Int):g ∈ out.getD i [] ↔ Tj.nd n g ∧ Rch C f g ∧ Rch C g f:=by
 constructor
 ·intro hg
  exact ⟨h.nd i hi g hg,h.cn i f g hi hf hg,h.cn i g f hi hg hf⟩
 ·rintro ⟨hg,h1,h2⟩
  obtain ⟨j,hj,hgj⟩:=h.ex g hg
  have a:=h.reach hC h1 i j hi hj hf hgj
  have b:=h.reach hC h2 j i hj hi hgj hf
  obtain rfl:i = j:=by omega
  exact hgj
theorem sorted_eq {a b:List Int} (h1:a.Pairwise (· ≤ ·)) (h2:b.Pairwise (· ≤ ·)) (n1:a.Nodup) (n2:b.Nodup) (h:∀ x,x ∈ a ↔ x ∈ b):a = b :=
 List.Perm.eq_of_pairwise (le:=(· ≤ ·)) (fun x y _ _ p q=>Int.le_antisymm p q) h1 h2 ((List.perm_ext_iff_of_nodup n1 n2).2 h)
theorem OutR.same {n:Nat} {C:List (List Int)} (hC:OkC n C) {S S2:TJ} {out out2:List (List Int)} (h:OutR n C S out) (h2:OutR n C S2 out2) {i j:Nat} (hi:i < out.length) (hj:j < out2.length) {f:Int} (hf:f ∈ out.getD i []) (hf2:f ∈ out2.getD j []):out.getD i [] = out2.getD j [] :=
 sorted_eq (h.srt i hi) (h2.srt j hj) (h.nod i hi) (h2.nod j hj) (fun x=>by rw [h.mem hC hi hf,h2.mem hC hj hf2])
theorem head_mem {l:List Int} (h:l ≠ []):l.getD 0 0 ∈ l:=by
 match l,h with
 | a :: l,_=>simp
theorem OutR.pre {n:Nat} {C:List (List Int)} (hC:OkC n C) {S S2:TJ} {out out2:List (List Int)} (h:OutR n C S out) (h2:OutR n C S2 out2):∀ i,i < out.length → i < out2.length ∧ out.getD i [] = out2.getD i []:=by
 intro i
 induction i using Nat.strongRecOn with
 | _ i ih =>
  intro hi
  have hx:=head_mem (h.ne i hi)
  obtain ⟨j,hj,hxj⟩:=h2.ex _ (h.nd i hi _ hx)
  have e1:=h.same hC h2 hi hj hx hxj
  have hij:i ≤ j:=by
   false_or_by_contra
   have q:=ih j (by omega) (by omega)
   rw [← q.2] at hxj
   have:=h.un i j _ hi (by omega) hx hxj
   omega
  have hi2:i < out2.length:=by omega
  refine ⟨hi2,?_⟩
  have hy:=head_mem (h2.ne i hi2)
  obtain ⟨k,hk,hyk⟩:=h.ex _ (h2.nd i hi2 _ hy)
  have e2:=h.same hC h2 hk hi2 hyk hy
  have hik:i ≤ k:=by
   false_or_by_contra
   have q:=ih k (by omega) hk
   rw [q.2] at hyk
   have:=h2.un i k _ hi2 q.1 hy hyk
   omega
  have a1:=h.lst i hi k hik hk (fun f hf g hg=>by
   rw [e2] at hf ⊢
   obtain ⟨t,ht,hgt⟩:=h2.ex g (hC f (h2.nd i hi2 f hf) g hg)
   have hti:=h2.ed i t f g hi2 ht hf hg hgt
   by_cases e:t = i
   ·subst e; exact .inl hgt
   ·exact .inr ⟨t,by omega,by rw [(ih t (by omega) (by omega)).2]; exact hgt⟩)
  have a2:=h2.lst i hi2 j hij hj (fun f hf g hg=>by
   rw [← e1] at hf ⊢
   obtain ⟨t,ht,hgt⟩:=h.ex g (hC f (h.nd i hi f hf) g hg)
   have hti:=h.ed i t f g hi ht hf hg hgt
   by_cases e:t = i
   ·subst e; exact .inl hgt
   ·exact .inr ⟨t,by omega,by rw [← (ih t (by omega) (by omega)).2]; exact hgt⟩)
  rw [e2] at a1
  rw [← e1] at a2
  have:(out.getD i []).getD 0 0 = (out2.getD i []).getD 0 0:=by omega
  rw [this] at hx
  exact h.same hC h2 hi hi2 hx hy
theorem OutR.uniq {n:Nat} {C:List (List Int)} (hC:OkC n C) {S S2:TJ} {out out2:List (List Int)} (h:OutR n C S out) (h2:OutR n C S2 out2):out = out2:=by
 have a:=h.pre hC h2
 have b:=h2.pre hC h
 have hl:out.length = out2.length:=by
  rcases Nat.lt_trichotomy out.length out2.length with q | q | q
  ·have:=(b _ q).1; omega
  ·exact q
  ·have:=(a _ q).1; omega
 refine List.ext_getElem hl (fun i h1 h2=>?_)
 have:=(a i h1).2
 rw [List.getD_eq_getElem?_getD,List.getD_eq_getElem?_getD,List.getElem?_eq_getElem h1,List.getElem?_eq_getElem h2] at this
 exact this
theorem FinJ.down {n:Nat} {C:List (List Int)} (hC:OkC n C) {S:TJ} (h:FinJ n C S n) {f g:Int} (hr:Rch C f g):nd n f → S.st g ≤ S.st f:=by
 induction hr with
 | refl a=>intro _; exact Int.le_refl _
 | step hb _ ih =>
  intro hf
  have a:=h.wf.topo _ hf (h.all _ hf) _ hb
  have b:=ih (hC _ hf _ hb)
  omega
theorem FinJ.size {n:Nat} {C:List (List Int)} (hC:OkC n C) {S:TJ} (h:FinJ n C S n) {f:Int} (hf:nd n f):(1 < (S.sets.getD (S.st f).toNat []).length) ↔ ∃ g,nd n g ∧ g ≠ f ∧ Rch C f g ∧ Rch C g f:=by
 have h0:=h.all f hf
 have hk:=(h.wf.rng f hf).2
 have hm:=h.wf.mem (S.st f).toNat f (by omega)
 have hn:=h.wf.nod (S.st f).toNat (by omega)
 have hfm:=hm.2 ⟨hf,by omega⟩
 constructor
 ·intro hl
  have:∃ g,g ∈ S.sets.getD (S.st f).toNat [] ∧ g ≠ f:=by
   false_or_by_contra
   rename_i hno
   have:=single (x:=f) hn (h.wf.ne _ (by omega)) (fun y hy=>Decidable.byContradiction fun q=>hno ⟨y,hy,q⟩)
   rw [this] at hl; simp at hl
  obtain ⟨g,hg,hne⟩:=this
  obtain ⟨a,b⟩:=(h.wf.mem (S.st f).toNat g (by omega)).1 hg
  exact ⟨g,a,hne,h.wf.conn f g hf a (by omega) (by omega),h.wf.conn g f a hf (by omega) (by omega)⟩
 ·rintro ⟨g,hg,hne,h1,h2⟩
  have a:=h.down hC h1 hf
  have b:=h.down hC h2 hg
  have hgm:=(h.wf.mem (S.st f).toNat g (by omega)).2 ⟨hg,by omega⟩
  match hs:S.sets.getD (S.st f).toNat [] with
  | []=>rw [hs] at hfm; simp at hfm
  | [x] =>
   rw [hs] at hfm hgm
   rw [List.mem_singleton] at hfm hgm
   exact absurd (by rw [hgm,hfm]) hne
  | x :: y :: l=>simp
theorem FinJ.size_eq {n:Nat} {C:List (List Int)} (hC:OkC n C) {S S2:TJ} (h:FinJ n C S n) (h2:FinJ n C S2 n) {f:Int} (hf:nd n f):(1 < (S.sets.getD (S.st f).toNat []).length) ↔ 1 < (S2.sets.getD (S2.st f).toNat []).length:=by
 rw [h.size hC hf,h2.size hC hf]
end Go.Proofs.Ythginmfobikdgaa.Tj
