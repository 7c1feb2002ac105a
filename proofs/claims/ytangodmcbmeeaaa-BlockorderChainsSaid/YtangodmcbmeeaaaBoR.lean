import Derived.Test.YtangodmcbmeeaaaBoQ
set_option maxRecDepth 8000
set_option linter.unusedSimpArgs false
set_option linter.unusedVariables false
namespace Go.Proofs.Ytangodmcbmeeaaa
def mget (M:List (List Int)) (s l:Nat):Int:=(M.getD s []).getD l 0
def mput (M:List (List Int)) (s l:Nat) (x:Int):List (List Int):=M.set s ((M.getD s []).set l x)
section
variable (W:Nat → Nat → Int) (n:Nat)
def foldM (g:Nat → Nat → List (List Int) → List (List Int)) (s:Nat):Nat → List (List Int) → List (List Int)
 | 0,M=>M
 | b + 1,M=>if s.testBit b = true then foldM g s b M else g (addB s b) b (foldM g s b M)
def follM:Nat → Nat → Nat → List (List Int) → List (List Int)
 | 0,s,last,M=>if 0 ≤ mget M s last then M else mput M s last (GS W n s last)
 | m + 1,s,last,M=>if 0 ≤ mget M s last then M else mput (foldM (follM m) s n M) s last (GS W n s last)
structure MOK (M:List (List Int)):Prop where
 len:M.length = 2 ^ n
 row:∀ s,s < 2 ^ n → (M.getD s []).length = 9
 val:∀ s l,s < 2 ^ n → l < n → mget M s l = -1 ∨ mget M s l = GS W n s l
theorem addB_lt {s b:Nat} (hs:s < 2 ^ n) (hb:b < n):addB s b < 2 ^ n :=
 Nat.or_lt_two_pow hs (Nat.pow_lt_pow_right (by decide) hb)
theorem mput_get {M:List (List Int)} {s l:Nat} {x:Int} (hs:s < M.length) (hl:l < (M.getD s []).length) (s2 l2:Nat):mget (mput M s l x) s2 l2 = if s = s2 ∧ l = l2 then x else mget M s2 l2:=by
 unfold mget mput
 rw [getD_setB _ _ _ _ _ hs]
 by_cases h1:s = s2
 ·subst h1
  rw [if_pos rfl,getD_setB _ _ _ _ _ hl]
  by_cases h2:l = l2
  ·rw [if_pos h2,if_pos ⟨rfl,h2⟩]
  ·rw [if_neg h2,if_neg (fun h=>h2 h.2)]
 ·rw [if_neg h1,if_neg (fun h=>h1 h.1)]
theorem MOK.put {M:List (List Int)} (h:MOK W n M) {s l:Nat} (hs:s < 2 ^ n) (hl:l < n) (hn:n ≤ 9):MOK W n (mput M s l (GS W n s l)):=by
 have hsM:s < M.length:=by rw [h.len]; exact hs
 have hlM:l < (M.getD s []).length:=by rw [h.row s hs]; omega
 refine ⟨by rw [mput,List.length_set,h.len],fun s2 h2=>?_,fun s2 l2 h2 h3=>?_⟩
 ·unfold mput
  rw [getD_setB _ _ _ _ _ hsM]
  split
  ·rw [List.length_set]; exact h.row s hs
  ·exact h.row s2 h2
 ·rw [mput_get hsM hlM]
  split
  ·rename_i e; right; rw [e.1,e.2]
  ·exact h.val s2 l2 h2 h3
theorem foldM_ok {g:Nat → Nat → List (List Int) → List (List Int)} {s:Nat} (hs:s < 2 ^ n) (hg:∀ b M,b < n → s.testBit b = false → MOK W n M → MOK W n (g (addB s b) b M)):∀ {k:Nat} {M:List (List Int)},k ≤ n → MOK W n M → MOK W n (foldM g s k M)
 | 0,M,_,h=>h
 | k + 1,M,hk,h=>by
  have ih:=foldM_ok hs hg (k:=k) (by omega) h
  rw [foldM]
  split
  ·exact ih
  ·rename_i hb
   exact hg k _ (by omega) (by simpa using hb) ih
theorem foldM_full {g:Nat → Nat → List (List Int) → List (List Int)} {s:Nat} {M:List (List Int)}:∀ {k:Nat},(∀ b,b < k → s.testBit b = true) → foldM g s k M = M
 | 0,_=>rfl
 | k + 1,h=>by rw [foldM,if_pos (h k (by omega)),foldM_full (fun b hb=>h b (by omega))]
theorem follM_eq {m s last:Nat} {M:List (List Int)} (hm:miss n s = m):follM W n m s last M = if 0 ≤ mget M s last then M else mput (foldM (follM W n (m - 1)) s n M) s last (GS W n s last):=by
 cases m with
 | zero=>rw [follM,foldM_full (miss_zero hm)]
 | succ m=>rw [follM]; rfl
theorem follM_ok (hn:n ≤ 9):∀ {m s last:Nat} {M:List (List Int)},s < 2 ^ n → last < n → MOK W n M → MOK W n (follM W n m s last M)
 | 0,s,last,M,hs,hl,h=>by
  rw [follM]
  split
  ·exact h
  ·exact h.put W n hs hl hn
 | m + 1,s,last,M,hs,hl,h=>by
  rw [follM]
  split
  ·exact h
  ·exact (foldM_ok W n hs (fun b M hb _ hM=>follM_ok hn (addB_lt n hs hb) hb hM) (Nat.le_refl _) h).put W n hs hl hn
theorem MOK.known {M:List (List Int)} (h:MOK W n M) {s l:Nat} (hs:s < 2 ^ n) (hl:l < n) (h0:0 ≤ mget M s l):mget M s l = GS W n s l:=by
 rcases h.val s l hs hl with h1 | h1
 ·omega
 ·exact h1
theorem bestK_le {W:Nat → Nat → Int} {g:Nat → Nat → Int} {s last:Nat} {A D:Int} (hW:∀ a b,W a b ≤ A) (hg:∀ b,b < n → s.testBit b = false → g (addB s b) b ≤ D) (h0:0 ≤ A + D):∀ {k:Nat},k ≤ n → bestK W g s last k ≤ A + D
 | 0,_=>h0
 | k + 1,hk=>by
  have ih:=bestK_le (last:=last) hW hg h0 (k:=k) (by omega)
  rw [bestK]
  split
  ·exact ih
  ·rename_i hs
   have h1:=hg k (by omega) (by simpa using hs)
   have h2:=hW last k
   split <;> omega
theorem G_le {W:Nat → Nat → Int} (hW:∀ a b,W a b ≤ 1000000):∀ (m s last:Nat),G W n m s last ≤ 1000000 * m
 | 0,_,_=>by simp [G]
 | m + 1,s,last=>by
  rw [G]
  have:=bestK_le n (last:=last) (s:=s) hW (D:=1000000 * m) (fun b _ _=>G_le hW m (addB s b) b) (by omega) (Nat.le_refl n)
  omega
theorem GS_le {W:Nat → Nat → Int} (hW:∀ a b,W a b ≤ 1000000) (s last:Nat) (hn:n ≤ 9):GS W n s last ≤ 9000000:=by
 have h1:=G_le n hW (miss n s) s last
 have h2:=miss_le s n
 unfold GS
 omega
end
def memo0 (n:Nat):List (List Int):=List.replicate (2 ^ n) (List.replicate 9 (-1))
theorem memo0_ok (W:Nat → Nat → Int) (n:Nat) (hn:n ≤ 9):MOK W n (memo0 n):=by
 have e:∀ s,s < 2 ^ n → (memo0 n).getD s [] = List.replicate 9 (-1):=fun s hs=>by
  simp [memo0,List.getD_eq_getElem?_getD,hs]
 refine ⟨by simp [memo0],fun s hs=>by rw [e s hs]; simp,fun s l hs hl=>.inl ?_⟩
 rw [mget,e s hs,List.getD_eq_getElem?_getD,List.getElem?_replicate_of_lt (by omega)]; rfl
end Go.Proofs.Ytangodmcbmeeaaa
