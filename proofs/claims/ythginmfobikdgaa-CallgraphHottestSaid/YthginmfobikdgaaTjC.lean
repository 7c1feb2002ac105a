import Derived.Test.YthginmfobikdgaaTjB
set_option maxRecDepth 8000
set_option linter.unusedSimpArgs false
set_option linter.unusedVariables false
namespace Go.Proofs.Ythginmfobikdgaa.Tj
structure OutR (n:Nat) (C:List (List Int)) (S:TJ) (out:List (List Int)):Prop where
 nd:∀ i,i < out.length → ∀ f ∈ out.getD i [],nd n f
 nod:∀ i,i < out.length → (out.getD i []).Nodup
 ne:∀ i,i < out.length → out.getD i [] ≠ []
 ex:∀ f,Tj.nd n f → ∃ i,i < out.length ∧ f ∈ out.getD i []
 un:∀ i j f,i < out.length → j < out.length → f ∈ out.getD i [] → f ∈ out.getD j [] → i = j
 ed:∀ i j f g,i < out.length → j < out.length → f ∈ out.getD i [] → g ∈ C.getD f.toNat [] → g ∈ out.getD j [] → j ≤ i
 st:∀ i f,i < out.length → f ∈ out.getD i [] → S.sets.getD (S.st f).toNat [] = out.getD i []
 cn:∀ i f g,i < out.length → f ∈ out.getD i [] → g ∈ out.getD i [] → Rch C f g
 srt:∀ i,i < out.length → (out.getD i []).Pairwise (· ≤ ·)
 lst:∀ i,i < out.length → ∀ t,i ≤ t → t < out.length → (∀ f ∈ out.getD t [],∀ g ∈ C.getD f.toNat [],g ∈ out.getD t [] ∨ ∃ k,k < i ∧ g ∈ out.getD k []) → (out.getD i []).getD 0 0 ≤ (out.getD t []).getD 0 0
theorem ComJ.out {n:Nat} {C:List (List Int)} {S:TJ} (hw:FinJ n C S n) (hC:OkC n C) {dn:List Bool} {ord:List Nat} (h:ComJ n C S dn ord) (hl:ord.length = S.sets.length):OutR n C S (ord.map fun s=>S.sets.getD s []):=by
 have hlen:(ord.map fun s=>S.sets.getD s []).length = ord.length:=by simp
 have hg:∀ i,i < ord.length → (ord.map fun s=>S.sets.getD s []).getD i [] = S.sets.getD (ord.getD i 0) [] ∧ ord.getD i 0 < S.sets.length:=fun i hi=>by
  have e:ord.getD i 0 = ord[i]:=by rw [List.getD_eq_getElem?_getD,List.getElem?_eq_getElem hi]; rfl
  refine ⟨?_,by rw [e]; exact h.lt _ (List.getElem_mem hi)⟩
  rw [List.getD_eq_getElem?_getD,List.getElem?_map,List.getElem?_eq_getElem hi,e]; rfl
 have hst:∀ i f,i < ord.length → f ∈ (ord.map fun s=>S.sets.getD s []).getD i [] → Tj.nd n f ∧ S.st f = (ord.getD i 0:Nat):=fun i f hi hf=>by
  rw [(hg i hi).1] at hf
  exact (hw.wf.mem _ f (hg i hi).2).1 hf
 have huniq:∀ i j,i < ord.length → j < ord.length → ord.getD i 0 = ord.getD j 0 → i = j:=fun i j hi hj he=>by
  have hp:=List.pairwise_iff_getElem.1 h.nod
  have e:ord[i] = ord[j]:=by
   rw [List.getD_eq_getElem?_getD,List.getD_eq_getElem?_getD,List.getElem?_eq_getElem hi,List.getElem?_eq_getElem hj] at he
   exact he
  rcases Nat.lt_trichotomy i j with q | q | q
  ·exact absurd e (hp i j hi hj q)
  ·exact q
  ·exact absurd e.symm (hp j i hj hi q)
 have hall:∀ s,s < S.sets.length → s ∈ ord:=fun s hs=>by
  false_or_by_contra
  rename_i hno
  have:=nodup_le_len (l:=s :: ord) (m:=List.range S.sets.length) (List.nodup_cons.2 ⟨hno,h.nod⟩) (fun x hx=>List.mem_range.2 (by
   rcases List.mem_cons.1 hx with rfl | q
   ·exact hs
   ·exact h.lt x q))
  simp at this; omega
 rw [← hlen] at hg hst huniq
 refine ⟨fun i hi f hf=>(hst i f hi hf).1,fun i hi=>?_,fun i hi=>?_,fun f hf=>?_,fun i j f hi hj h1 h2=>?_,fun i j f g hi hj h1 h2 h3=>?_,fun i f hi hf=>?_,fun i f g hi h1 h2=>?_,fun i hi=>?_,fun i hi t hit ht hed=>?_⟩
 ·rw [(hg i hi).1]; exact hw.wf.nod _ (hg i hi).2
 ·rw [(hg i hi).1]; exact hw.wf.ne _ (hg i hi).2
 ·have h0:=hw.all f hf
  have h1:=(hw.wf.rng f hf).2
  obtain ⟨i,hi,he⟩:=List.mem_iff_getElem.1 (hall (S.st f).toNat (by omega))
  refine ⟨i,by rw [hlen]; exact hi,?_⟩
  rw [(hg i (by rw [hlen]; exact hi)).1,hw.wf.mem _ f (hg i (by rw [hlen]; exact hi)).2]
  refine ⟨hf,?_⟩
  rw [List.getD_eq_getElem?_getD,List.getElem?_eq_getElem hi,he]
  simp only [Option.getD_some]; omega
 ·have a:=(hst i f hi h1).2
  have b:=(hst j f hj h2).2
  exact huniq i j hi hj (by omega)
 ·rw [(hg i hi).1] at h1
  obtain ⟨k,hk,he⟩:=h.ed i (by rw [← hlen]; exact hi) f h1 g h2
  have b:=(hst j g hj h3).2
  have:=huniq j k hj (by omega) (by omega)
  omega
 ·have a:=(hst i f hi hf).2
  rw [(hg i hi).1,show (S.st f).toNat = ord.getD i 0 by omega]
 ·have a:=hst i f hi h1
  have b:=hst i g hi h2
  exact hw.wf.conn f g a.1 b.1 (by omega) (by omega)
 ·rw [(hg i hi).1]; exact hw.wf.srt _ (hg i hi).2
 ·have hio:i < ord.length:=by rw [← hlen]; exact hi
  have hto:t < ord.length:=by rw [← hlen]; exact ht
  rw [(hg i hi).1,(hg t ht).1]
  refine h.lst i hio _ (hg t ht).2 (fun hm=>?_) (fun f hf g hgg=>?_)
  ·obtain ⟨k,hk,he⟩:=List.mem_iff_getElem.1 hm
   rw [List.length_take] at hk
   rw [List.getElem_take] at he
   have:=huniq k t (by rw [hlen]; omega) ht (by rw [List.getD_eq_getElem?_getD,List.getElem?_eq_getElem (show k < ord.length by omega),he]; rfl)
   omega
  ·rcases hed f (by rw [(hg t ht).1]; exact hf) g hgg with q | ⟨k,hk,q⟩
   ·exact .inl (hst t g ht q).2
   ·refine .inr ?_
    rw [(hst k g (by omega) q).2,Int.toNat_natCast]
    refine List.mem_iff_getElem.2 ⟨k,by rw [List.length_take]; omega,?_⟩
    rw [List.getElem_take,List.getD_eq_getElem?_getD,List.getElem?_eq_getElem (show k < ord.length by omega)]; rfl
theorem single {l:List Int} {x:Int} (hn:l.Nodup) (he:l ≠ []) (h:∀ y ∈ l,y = x):l = [x]:=by
 match l,he with
 | [a],_=>rw [h a (by simp)]
 | a :: b :: l,_ =>
  have h1:=h a (by simp)
  have h2:=h b (by simp)
  rw [List.nodup_cons] at hn
  exact absurd (by rw [h1,h2]; simp) hn.1
theorem example_out {S:TJ} {out:List (List Int)} (h:OutR 3 [[1,2],[],[1]] S out):out = [[1],[2],[0]]:=by
 have r1:∀ g,Rch [[1,2],[],[1]] 1 g → g = 1:=fun g hr=>by
  cases hr with
  | refl=>rfl
  | step h1 _=>simp at h1
 have r2:∀ g,Rch [[1,2],[],[1]] 2 g → g = 2 ∨ g = 1:=fun g hr=>by
  cases hr with
  | refl=>exact .inl rfl
  | step h1 h2=>simp at h1; subst h1; exact .inr (r1 g h2)
 obtain ⟨i0,a0,b0⟩:=h.ex 0 ⟨by omega,by omega⟩
 obtain ⟨i1,a1,b1⟩:=h.ex 1 ⟨by omega,by omega⟩
 obtain ⟨i2,a2,b2⟩:=h.ex 2 ⟨by omega,by omega⟩
 have e1:out.getD i1 [] = [1]:=single (h.nod i1 a1) (h.ne i1 a1) (fun y hy=>r1 y (h.cn i1 1 y a1 b1 hy))
 have e2:out.getD i2 [] = [2]:=single (h.nod i2 a2) (h.ne i2 a2) (fun y hy=>by
  rcases r2 y (h.cn i2 2 y a2 b2 hy) with q | q
  ·exact q
  ·subst q
   have:=r1 2 (h.cn i2 1 2 a2 hy b2)
   omega)
 have e0:out.getD i0 [] = [0]:=single (h.nod i0 a0) (h.ne i0 a0) (fun y hy=>by
  have hy3:=h.nd i0 a0 y hy
  have:y = 0 ∨ y = 1 ∨ y = 2:=by have:=hy3.1; have:=hy3.2; omega
  rcases this with q | q | q
  ·exact q
  ·subst q
   have:=r1 0 (h.cn i0 1 0 a0 hy b0)
   omega
  ·subst q
   have:=r2 0 (h.cn i0 2 0 a0 hy b0)
   omega)
 have q01:i1 ≤ i0:=h.ed i0 i1 0 1 a0 a1 b0 (by simp) b1
 have q02:i2 ≤ i0:=h.ed i0 i2 0 2 a0 a2 b0 (by simp) b2
 have q21:i1 ≤ i2:=h.ed i2 i1 2 1 a2 a1 b2 (by simp) b1
 have n01:i0 ≠ i1:=fun e=>by rw [e,e1] at e0; simp at e0
 have n02:i0 ≠ i2:=fun e=>by rw [e,e2] at e0; simp at e0
 have n12:i1 ≠ i2:=fun e=>by rw [e,e2] at e1; simp at e1
 have hall:∀ i,i < out.length → i = i0 ∨ i = i1 ∨ i = i2:=fun i hi=>by
  obtain ⟨y,hy⟩:=List.exists_mem_of_ne_nil _ (h.ne i hi)
  have hy3:=h.nd i hi y hy
  have:y = 0 ∨ y = 1 ∨ y = 2:=by have:=hy3.1; have:=hy3.2; omega
  rcases this with q | q | q
  ·subst q; exact .inl (h.un i i0 0 hi a0 hy b0)
  ·subst q; exact .inr (.inl (h.un i i1 1 hi a1 hy b1))
  ·subst q; exact .inr (.inr (h.un i i2 2 hi a2 hy b2))
 have h3:out.length = 3:=by
  by_cases e:3 < out.length
  ·have c0:=hall 0 (by omega)
   have c1:=hall 1 (by omega)
   have c2:=hall 2 (by omega)
   have c3:=hall 3 e
   omega
  ·omega
 obtain rfl:i1 = 0:=by omega
 obtain rfl:i2 = 1:=by omega
 obtain rfl:i0 = 2:=by omega
 match out,h3 with
 | [a,b,c],_ =>
  simp at e0 e1 e2
  rw [e0,e1,e2]
end Go.Proofs.Ythginmfobikdgaa.Tj
