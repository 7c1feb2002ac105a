/- Chapter 38, the walks: check and Weight in full. -/
import Derived.Test.YthginmfobikdgaaPlC
set_option linter.unusedSimpArgs false
set_option linter.unusedVariables false
namespace Go.Proofs.Ythginmfobikdgaa
open Go.PV

/-! What is wrong. -/
def badS (s : Int) : Bool := decide (s < 0 ∨ 1048576 < s)
def badE (n : Nat) (c : CallI) : Bool := decide ((c.fn < 0 ∨ (n : Int) ≤ c.fn) ∨ (c.cal < 0 ∨ (n : Int) ≤ c.cal))
def badN (c : CallI) : Bool := decide (c.cnt < 0 ∨ 1099511627776 < c.cnt)
def okRange (n : Nat) (page : Int) : Prop := (1 ≤ n ∧ n ≤ 64) ∧ (1 ≤ page ∧ page ≤ 65536)
instance (n : Nat) (page : Int) : Decidable (okRange n page) := inferInstanceAs (Decidable (_ ∧ _))
def checkF (sizes : List Int) (calls : List CallI) (page : Int) : Int :=
  if ¬ okRange sizes.length page then 1 else if sizes.any badS = true then 1 else if calls.any (badE sizes.length) = true then 15 else if calls.any badN = true then 21 else 0
theorem any_find {α : Type} (p : α → Bool) (l : List α) : l.any p = decide (l.findIdx p < l.length) := by
  by_cases h : l.any p = true
  · rw [h, decide_eq_true]
    obtain ⟨x, hx, hp⟩ := List.any_eq_true.1 h
    exact List.findIdx_lt_length_of_exists ⟨x, hx, hp⟩
  · have h2 : l.any p = false := by simpa using h
    rw [h2, decide_eq_false]
    rw [List.findIdx_eq_length.2 (fun x hx => by
      cases hp : p x with
      | false => rfl
      | true => exact absurd (List.any_eq_true.2 ⟨x, hx, hp⟩) h)]
    omega
def fstA {α : Type} (p : α → Bool) (l : List α) : Int := if l.findIdx p = l.length then -1 else (l.findIdx p : Int)
theorem fstA_any {α : Type} (p : α → Bool) (l : List α) : (decide (0 ≤ fstA p l) : Bool) = l.any p := by
  have := List.findIdx_le_length (p := p) (xs := l)
  rw [any_find, fstA, decide_eq_decide]
  split <;> omega
theorem findA_at {α : Type} [Inhabited α] (p : α → Bool) (l : List α) (k : Nat) (hk : k < l.length) (h : ∀ j, j < k → p (l.getD j default) = false) (hp : p (l.getD k default) = true) : fstA p l = k := by
  have : l.findIdx p = k := by
    rw [List.findIdx_eq hk]
    refine ⟨by simpa [List.getD_eq_getElem?_getD, List.getElem?_eq_getElem hk] using hp, fun j hj => ?_⟩
    simpa [List.getD_eq_getElem?_getD, List.getElem?_eq_getElem (show j < l.length by omega)] using h j hj
  rw [fstA, this, if_neg (by omega)]
theorem findA_none {α : Type} [Inhabited α] (p : α → Bool) (l : List α) (h : ∀ j, j < l.length → p (l.getD j default) = false) : fstA p l = -1 := by
  rw [fstA, if_pos]
  refine List.findIdx_eq_length.2 (fun x hx => ?_)
  obtain ⟨j, hj, rfl⟩ := List.getElem_of_mem hx
  simpa [List.getD_eq_getElem?_getD, List.getElem?_eq_getElem hj] using h j hj
theorem before_succ {α : Type} [Inhabited α] {p : α → Bool} {l : List α} {k : Nat} (h : ∀ j, j < k → p (l.getD j default) = false) (hb : p (l.getD k default) = false) : ∀ j, j < k + 1 → p (l.getD j default) = false := fun j hj => by
  rcases Nat.lt_succ_iff_lt_or_eq.1 hj with hj | rfl
  · exact h j hj
  · exact hb
set_option maxHeartbeats 4000000 in
theorem indexI_any (l : List Int) (hll : l.length < 2 ^ 40) (F : FuncId) (cap : List PV) (p : Int → Bool) (σ : Store) (hF : ∀ x ∈ l, PCall Try.prog F (.int .i64 x :: cap) σ (fun q τ => q = .bool (p x) ∧ τ = σ)) :
    PCall Try.prog 83 [.sl (ints l), .func (.func F) [] cap] σ (fun q τ => q = .int .i64 (fstA p l) ∧ τ = σ) := by
  refine PCall.vraw [] 66495 19 [.tmp 4] (noE_ok _) mix Try.func83 rfl (by decide) rfl rfl (by simp) ?_
  simp -dsimp only [initFr, List.zipIdx_cons, List.zipIdx_nil, List.map_cons, List.map_nil, Nat.zero_add, Nat.reduceAdd]
  simp -dsimp (maxSteps := 4000000) +contextual (disch := first | omega | decide +kernel) only [↓vsD, vsU, Bool.or_false, Bool.true_or, resW, fnRet, cond_true, cond_false, Nat.reduceShiftRight, Nat.reduceAnd, Go.PV.fits, Go.PV.mutOf, Go.PV.splice, Int.reduceToNat, Int.reduceEq, Int.reduceAdd, Int.reduceSub, Int.reduceMul, Int.reduceLE, Int.reduceLT, Int.reduceNeg, Nat.reduceMul, Nat.reduceLeDiff, ne_eq, if_true, if_false, reduceIte, Nat.reduceEqDiff, ↓Nat.reduceLT, Nat.reduceAdd, Nat.reduceBEq, reduceCtorEq, enc_length, encs_length, tyU, tyC, tyB, tyA, tyI, tyZ, tyF, tyP, enc_getD, encs_getD, wrap_i64, enc_set, splice_one, set_last, bin_snn, bin_snm, bin_sns, bin_tnn, bin_tnm, bin_tns, enc_length]
  refine v_loopS (fun k : Nat => [(0, .sl (ints l)), (1, .func (.func F) [] cap), (7, .int .i64 l.length), (8, .int .i64 k)]) (fun _ => σ) (fun k => k ≤ l.length ∧ ∀ j, j < k → p (l.getD j default) = false) (fun k => l.length - k) 0 (by simp [weaker, Go.PV.look]) rfl ⟨by omega, fun j h => by omega⟩ ?_
  rintro k ⟨hk, hp⟩
  by_cases hkl : k < l.length
  · simp -dsimp (maxSteps := 4000000) +contextual (disch := first | omega | decide +kernel) only [↓vsD, vsU, Bool.or_false, Bool.true_or, resW, fnRet, cond_true, cond_false, Nat.reduceShiftRight, Nat.reduceAnd, Go.PV.fits, Go.PV.mutOf, Go.PV.splice, Int.reduceToNat, Int.reduceEq, Int.reduceAdd, Int.reduceSub, Int.reduceMul, Int.reduceLE, Int.reduceLT, Int.reduceNeg, Nat.reduceMul, Nat.reduceLeDiff, ne_eq, if_true, if_false, reduceIte, Nat.reduceEqDiff, ↓Nat.reduceLT, Nat.reduceAdd, Nat.reduceBEq, reduceCtorEq, enc_length, encs_length, tyU, tyC, tyB, tyA, tyI, tyZ, tyF, tyP, enc_getD, encs_getD, wrap_i64, enc_set, splice_one, set_last, bin_snn, bin_snm, bin_sns, bin_tnn, bin_tnm, bin_tns, enc_length, enc_getD]
    refine PCall.mono (hF (l.getD k 0) (getDm hkl)) ?_
    rintro q σ' ⟨rfl, rfl⟩
    obtain ⟨b, hb⟩ : ∃ b, p (l.getD k 0) = b := ⟨_, rfl⟩
    rw [hb]
    cases b with
    | false =>
      simp -dsimp (maxSteps := 4000000) +contextual (disch := first | omega | decide +kernel) only [↓vsD, vsU, Bool.or_false, Bool.true_or, resW, fnRet, cond_true, cond_false, Nat.reduceShiftRight, Nat.reduceAnd, Go.PV.fits, Go.PV.mutOf, Go.PV.splice, Int.reduceToNat, Int.reduceEq, Int.reduceAdd, Int.reduceSub, Int.reduceMul, Int.reduceLE, Int.reduceLT, Int.reduceNeg, Nat.reduceMul, Nat.reduceLeDiff, ne_eq, if_true, if_false, reduceIte, Nat.reduceEqDiff, ↓Nat.reduceLT, Nat.reduceAdd, Nat.reduceBEq, reduceCtorEq, enc_length, encs_length, tyU, tyC, tyB, tyA, tyI, tyZ, tyF, tyP, enc_getD, encs_getD, wrap_i64, enc_set, splice_one, set_last, bin_snn, bin_snm, bin_sns, bin_tnn, bin_tnm, bin_tns]
      exact ⟨k + 1, (by (try dsimp only); omega), (by simp [weaker, Go.PV.look]), rfl, by omega, before_succ hp hb⟩
    | true =>
      have e2 := findA_at p l k hkl hp hb
      simp -dsimp (maxSteps := 4000000) +contextual (disch := first | omega | decide +kernel) only [↓vsD, vsU, Bool.or_false, Bool.true_or, resW, fnRet, cond_true, cond_false, Nat.reduceShiftRight, Nat.reduceAnd, Go.PV.fits, Go.PV.mutOf, Go.PV.splice, Int.reduceToNat, Int.reduceEq, Int.reduceAdd, Int.reduceSub, Int.reduceMul, Int.reduceLE, Int.reduceLT, Int.reduceNeg, Nat.reduceMul, Nat.reduceLeDiff, ne_eq, if_true, if_false, reduceIte, Nat.reduceEqDiff, ↓Nat.reduceLT, Nat.reduceAdd, Nat.reduceBEq, reduceCtorEq, enc_length, encs_length, tyU, tyC, tyB, tyA, tyI, tyZ, tyF, tyP, enc_getD, encs_getD, wrap_i64, enc_set, splice_one, set_last, bin_snn, bin_snm, bin_sns, bin_tnn, bin_tnm, bin_tns, e2]
  · have e2 := findA_none p l (fun j hj => hp j (by omega))
    simp -dsimp (maxSteps := 4000000) +contextual (disch := first | omega | decide +kernel) only [↓vsD, vsU, Bool.or_false, Bool.true_or, resW, fnRet, cond_true, cond_false, Nat.reduceShiftRight, Nat.reduceAnd, Go.PV.fits, Go.PV.mutOf, Go.PV.splice, Int.reduceToNat, Int.reduceEq, Int.reduceAdd, Int.reduceSub, Int.reduceMul, Int.reduceLE, Int.reduceLT, Int.reduceNeg, Nat.reduceMul, Nat.reduceLeDiff, ne_eq, if_true, if_false, reduceIte, Nat.reduceEqDiff, ↓Nat.reduceLT, Nat.reduceAdd, Nat.reduceBEq, reduceCtorEq, enc_length, encs_length, tyU, tyC, tyB, tyA, tyI, tyZ, tyF, tyP, enc_getD, encs_getD, wrap_i64, enc_set, splice_one, set_last, bin_snn, bin_snm, bin_sns, bin_tnn, bin_tnm, bin_tns, enc_length, e2]
theorem containsI_any (l : List Int) (hll : l.length < 2 ^ 40) (F : FuncId) (cap : List PV) (p : Int → Bool) (σ : Store) (hF : ∀ x ∈ l, PCall Try.prog F (.int .i64 x :: cap) σ (fun q τ => q = .bool (p x) ∧ τ = σ)) :
    PCall Try.prog 51 [.sl (ints l), .func (.func F) [] cap] σ (fun q τ => q = .bool (l.any p) ∧ τ = σ) := by
  have e := fstA_any p l
  refine PCall.vraw [] 31 9 [.tmp 4] (noE_ok _) mix Try.func51 rfl (by decide) rfl rfl (by simp) ?_
  simp -dsimp only [initFr, List.zipIdx_cons, List.zipIdx_nil, List.map_cons, List.map_nil, Nat.zero_add, Nat.reduceAdd]
  simp -dsimp (maxSteps := 4000000) +contextual (disch := first | omega | decide +kernel) only [↓vsD, vsU, Bool.or_false, Bool.true_or, resW, fnRet, cond_true, cond_false, Nat.reduceShiftRight, Nat.reduceAnd, Go.PV.fits, Go.PV.mutOf, Go.PV.splice, Int.reduceToNat, Int.reduceEq, Int.reduceAdd, Int.reduceSub, Int.reduceMul, Int.reduceLE, Int.reduceLT, Int.reduceNeg, Nat.reduceMul, Nat.reduceLeDiff, ne_eq, if_true, if_false, reduceIte, Nat.reduceEqDiff, ↓Nat.reduceLT, Nat.reduceAdd, Nat.reduceBEq, reduceCtorEq, enc_length, encs_length, tyU, tyC, tyB, tyA, tyI, tyZ, tyF, tyP, enc_getD, encs_getD, wrap_i64, enc_set, splice_one, set_last, bin_snn, bin_snm, bin_sns, bin_tnn, bin_tnm, bin_tns]
  refine PCall.mono (indexI_any l hll F cap p σ hF) ?_
  rintro q σ' ⟨rfl, rfl⟩
  simp -dsimp (maxSteps := 4000000) +contextual (disch := first | omega | decide +kernel) only [↓vsD, vsU, Bool.or_false, Bool.true_or, resW, fnRet, cond_true, cond_false, Nat.reduceShiftRight, Nat.reduceAnd, Go.PV.fits, Go.PV.mutOf, Go.PV.splice, Int.reduceToNat, Int.reduceEq, Int.reduceAdd, Int.reduceSub, Int.reduceMul, Int.reduceLE, Int.reduceLT, Int.reduceNeg, Nat.reduceMul, Nat.reduceLeDiff, ne_eq, if_true, if_false, reduceIte, Nat.reduceEqDiff, ↓Nat.reduceLT, Nat.reduceAdd, Nat.reduceBEq, reduceCtorEq, enc_length, encs_length, tyU, tyC, tyB, tyA, tyI, tyZ, tyF, tyP, enc_getD, encs_getD, wrap_i64, enc_set, splice_one, set_last, bin_snn, bin_snm, bin_sns, bin_tnn, bin_tnm, bin_tns]
  rw [← e]
  exact ⟨fun h => by rw [decide_eq_true h], fun h => by rw [decide_eq_false h]⟩
theorem indexL_any (l : List CallI) (hll : l.length < 2 ^ 40) (F : FuncId) (cap : List PV) (p : CallI → Bool) (σ : Store) (hF : ∀ x ∈ l, ∀ τ, σ <+: τ → PCall Try.prog F (.agg x.row :: cap) τ (fun q τ' => q = .bool (p x) ∧ τ <+: τ')) :
    PCall Try.prog 124 [.sl (encL l), .func (.func F) [] cap] σ (fun q τ => q = .int .i64 (fstA p l) ∧ σ <+: τ) := by
  refine PCall.vraw [] 66495 19 [.tmp 4] (noE_ok _) mix Try.func124 rfl (by decide) rfl rfl (by simp) ?_
  simp -dsimp only [initFr, List.zipIdx_cons, List.zipIdx_nil, List.map_cons, List.map_nil, Nat.zero_add, Nat.reduceAdd]
  simp -dsimp (maxSteps := 4000000) +contextual (disch := first | omega | decide +kernel) only [↓vsD, vsU, Bool.or_false, Bool.true_or, resW, fnRet, cond_true, cond_false, Nat.reduceShiftRight, Nat.reduceAnd, Go.PV.fits, Go.PV.mutOf, Go.PV.splice, Int.reduceToNat, Int.reduceEq, Int.reduceAdd, Int.reduceSub, Int.reduceMul, Int.reduceLE, Int.reduceLT, Int.reduceNeg, Nat.reduceMul, Nat.reduceLeDiff, ne_eq, if_true, if_false, reduceIte, Nat.reduceEqDiff, ↓Nat.reduceLT, Nat.reduceAdd, Nat.reduceBEq, reduceCtorEq, enc_length, encs_length, tyU, tyC, tyB, tyA, tyI, tyZ, tyF, tyP, enc_getD, encs_getD, wrap_i64, enc_set, splice_one, set_last, bin_snn, bin_snm, bin_sns, bin_tnn, bin_tnm, bin_tns, encL_length]
  refine v_loopS (fun k : Nat × Store => [(0, .sl (encL l)), (1, .func (.func F) [] cap), (7, .int .i64 l.length), (8, .int .i64 k.1)]) (fun k => k.2) (fun k => k.1 ≤ l.length ∧ σ <+: k.2 ∧ ∀ j, j < k.1 → p (l.getD j default) = false) (fun k => l.length - k.1) (0, σ) (by simp [weaker, Go.PV.look]) rfl (by simp) ?_
  rintro ⟨k, τ⟩ ⟨hk, hτ, hp⟩
  dsimp only at hk hτ hp ⊢
  by_cases hkl : k < l.length
  · simp -dsimp (maxSteps := 4000000) +contextual (disch := first | omega | decide +kernel) only [↓vsD, vsU, Bool.or_false, Bool.true_or, resW, fnRet, cond_true, cond_false, Nat.reduceShiftRight, Nat.reduceAnd, Go.PV.fits, Go.PV.mutOf, Go.PV.splice, Int.reduceToNat, Int.reduceEq, Int.reduceAdd, Int.reduceSub, Int.reduceMul, Int.reduceLE, Int.reduceLT, Int.reduceNeg, Nat.reduceMul, Nat.reduceLeDiff, ne_eq, if_true, if_false, reduceIte, Nat.reduceEqDiff, ↓Nat.reduceLT, Nat.reduceAdd, Nat.reduceBEq, reduceCtorEq, enc_length, encs_length, tyU, tyC, tyB, tyA, tyI, tyZ, tyF, tyP, enc_getD, encs_getD, wrap_i64, enc_set, splice_one, set_last, bin_snn, bin_snm, bin_sns, bin_tnn, bin_tnm, bin_tns, encL_length, encL_getD]
    refine PCall.mono (hF (l.getD k default) (getDm hkl) τ hτ) ?_
    rintro q σ' ⟨rfl, hτ'⟩
    obtain ⟨b, hb⟩ : ∃ b, p (l.getD k default) = b := ⟨_, rfl⟩
    rw [hb]
    cases b with
    | false =>
      simp -dsimp (maxSteps := 4000000) +contextual (disch := first | omega | decide +kernel) only [↓vsD, vsU, Bool.or_false, Bool.true_or, resW, fnRet, cond_true, cond_false, Nat.reduceShiftRight, Nat.reduceAnd, Go.PV.fits, Go.PV.mutOf, Go.PV.splice, Int.reduceToNat, Int.reduceEq, Int.reduceAdd, Int.reduceSub, Int.reduceMul, Int.reduceLE, Int.reduceLT, Int.reduceNeg, Nat.reduceMul, Nat.reduceLeDiff, ne_eq, if_true, if_false, reduceIte, Nat.reduceEqDiff, ↓Nat.reduceLT, Nat.reduceAdd, Nat.reduceBEq, reduceCtorEq, enc_length, encs_length, tyU, tyC, tyB, tyA, tyI, tyZ, tyF, tyP, enc_getD, encs_getD, wrap_i64, enc_set, splice_one, set_last, bin_snn, bin_snm, bin_sns, bin_tnn, bin_tnm, bin_tns]
      exact ⟨(k + 1, σ'), (by (try dsimp only); omega), (by simp [weaker, Go.PV.look]), rfl, by dsimp only; omega, hτ.trans hτ', before_succ hp hb⟩
    | true =>
      have e2 := findA_at p l k hkl hp hb
      simp -dsimp (maxSteps := 4000000) +contextual (disch := first | omega | decide +kernel) only [↓vsD, vsU, Bool.or_false, Bool.true_or, resW, fnRet, cond_true, cond_false, Nat.reduceShiftRight, Nat.reduceAnd, Go.PV.fits, Go.PV.mutOf, Go.PV.splice, Int.reduceToNat, Int.reduceEq, Int.reduceAdd, Int.reduceSub, Int.reduceMul, Int.reduceLE, Int.reduceLT, Int.reduceNeg, Nat.reduceMul, Nat.reduceLeDiff, ne_eq, if_true, if_false, reduceIte, Nat.reduceEqDiff, ↓Nat.reduceLT, Nat.reduceAdd, Nat.reduceBEq, reduceCtorEq, enc_length, encs_length, tyU, tyC, tyB, tyA, tyI, tyZ, tyF, tyP, enc_getD, encs_getD, wrap_i64, enc_set, splice_one, set_last, bin_snn, bin_snm, bin_sns, bin_tnn, bin_tnm, bin_tns, e2]
      exact hτ.trans hτ'
  · have e2 := findA_none p l (fun j hj => hp j (by omega))
    simp -dsimp (maxSteps := 4000000) +contextual (disch := first | omega | decide +kernel) only [↓vsD, vsU, Bool.or_false, Bool.true_or, resW, fnRet, cond_true, cond_false, Nat.reduceShiftRight, Nat.reduceAnd, Go.PV.fits, Go.PV.mutOf, Go.PV.splice, Int.reduceToNat, Int.reduceEq, Int.reduceAdd, Int.reduceSub, Int.reduceMul, Int.reduceLE, Int.reduceLT, Int.reduceNeg, Nat.reduceMul, Nat.reduceLeDiff, ne_eq, if_true, if_false, reduceIte, Nat.reduceEqDiff, ↓Nat.reduceLT, Nat.reduceAdd, Nat.reduceBEq, reduceCtorEq, enc_length, encs_length, tyU, tyC, tyB, tyA, tyI, tyZ, tyF, tyP, enc_getD, encs_getD, wrap_i64, enc_set, splice_one, set_last, bin_snn, bin_snm, bin_sns, bin_tnn, bin_tnm, bin_tns, encL_length, e2]
    exact hτ
theorem containsL_any (l : List CallI) (hll : l.length < 2 ^ 40) (F : FuncId) (cap : List PV) (p : CallI → Bool) (σ : Store) (hF : ∀ x ∈ l, ∀ τ, σ <+: τ → PCall Try.prog F (.agg x.row :: cap) τ (fun q τ' => q = .bool (p x) ∧ τ <+: τ')) :
    PCall Try.prog 101 [.sl (encL l), .func (.func F) [] cap] σ (fun q τ => q = .bool (l.any p) ∧ σ <+: τ) := by
  have e := fstA_any p l
  refine PCall.vraw [] 31 9 [.tmp 4] (noE_ok _) mix Try.func101 rfl (by decide) rfl rfl (by simp) ?_
  simp -dsimp only [initFr, List.zipIdx_cons, List.zipIdx_nil, List.map_cons, List.map_nil, Nat.zero_add, Nat.reduceAdd]
  simp -dsimp (maxSteps := 4000000) +contextual (disch := first | omega | decide +kernel) only [↓vsD, vsU, Bool.or_false, Bool.true_or, resW, fnRet, cond_true, cond_false, Nat.reduceShiftRight, Nat.reduceAnd, Go.PV.fits, Go.PV.mutOf, Go.PV.splice, Int.reduceToNat, Int.reduceEq, Int.reduceAdd, Int.reduceSub, Int.reduceMul, Int.reduceLE, Int.reduceLT, Int.reduceNeg, Nat.reduceMul, Nat.reduceLeDiff, ne_eq, if_true, if_false, reduceIte, Nat.reduceEqDiff, ↓Nat.reduceLT, Nat.reduceAdd, Nat.reduceBEq, reduceCtorEq, enc_length, encs_length, tyU, tyC, tyB, tyA, tyI, tyZ, tyF, tyP, enc_getD, encs_getD, wrap_i64, enc_set, splice_one, set_last, bin_snn, bin_snm, bin_sns, bin_tnn, bin_tnm, bin_tns]
  refine PCall.mono (indexL_any l hll F cap p σ hF) ?_
  rintro q σ' ⟨rfl, hσ⟩
  simp -dsimp (maxSteps := 4000000) +contextual (disch := first | omega | decide +kernel) only [↓vsD, vsU, Bool.or_false, Bool.true_or, resW, fnRet, cond_true, cond_false, Nat.reduceShiftRight, Nat.reduceAnd, Go.PV.fits, Go.PV.mutOf, Go.PV.splice, Int.reduceToNat, Int.reduceEq, Int.reduceAdd, Int.reduceSub, Int.reduceMul, Int.reduceLE, Int.reduceLT, Int.reduceNeg, Nat.reduceMul, Nat.reduceLeDiff, ne_eq, if_true, if_false, reduceIte, Nat.reduceEqDiff, ↓Nat.reduceLT, Nat.reduceAdd, Nat.reduceBEq, reduceCtorEq, enc_length, encs_length, tyU, tyC, tyB, tyA, tyI, tyZ, tyF, tyP, enc_getD, encs_getD, wrap_i64, enc_set, splice_one, set_last, bin_snn, bin_snm, bin_sns, bin_tnn, bin_tnm, bin_tns]
  rw [← e]
  exact ⟨fun h => by rw [decide_eq_true h]; exact ⟨rfl, hσ⟩, fun h => by rw [decide_eq_false h]; exact ⟨rfl, hσ⟩⟩

/-! check's functions. -/
theorem there_ok (f n : Int) (o : Nat) (σ : Store) (ho : σ[o]? = some (.rows 3 1 [[.int .i64 n]] 0)) : PCall Try.prog 99 [.int .i64 f, .ptr o 0 0 0] σ (fun q τ => q = .bool (decide (0 ≤ f ∧ f < n)) ∧ τ = σ) := by
  refine PCall.vraw [] 15 11 [.tmp 3] (noE_ok _) mix Try.func99 rfl (by decide) rfl rfl (by simp) ?_
  simp -dsimp only [initFr, List.zipIdx_cons, List.zipIdx_nil, List.map_cons, List.map_nil, Nat.zero_add, Nat.reduceAdd]
  simp -dsimp (maxSteps := 4000000) +contextual (disch := first | omega | decide +kernel) only [↓vsD, vsU, Bool.or_false, Bool.true_or, resW, fnRet, cond_true, cond_false, Nat.reduceShiftRight, Nat.reduceAnd, Go.PV.fits, Go.PV.mutOf, Go.PV.splice, Int.reduceToNat, Int.reduceEq, Int.reduceAdd, Int.reduceSub, Int.reduceMul, Int.reduceLE, Int.reduceLT, Int.reduceNeg, Nat.reduceMul, Nat.reduceLeDiff, ne_eq, if_true, if_false, reduceIte, Nat.reduceEqDiff, ↓Nat.reduceLT, Nat.reduceAdd, Nat.reduceBEq, reduceCtorEq, enc_length, encs_length, tyU, tyC, tyB, tyA, tyI, tyZ, tyF, tyP, enc_getD, encs_getD, wrap_i64, enc_set, splice_one, set_last, bin_snn, bin_snm, bin_sns, bin_tnn, bin_tnm, bin_tns, ho]
  exact ⟨fun _ => ⟨fun _ => trivial, fun _ => trivial⟩, fun _ => by simp⟩
theorem badS_ok (s : Int) (σ : Store) : PCall Try.prog 100 [.int .i64 s] σ (fun q τ => q = .bool (badS s) ∧ τ = σ) := by
  refine PCall.vraw [] 7 9 [.tmp 2] (noE_ok _) mix Try.func100 rfl (by decide) rfl rfl (by simp) ?_
  simp -dsimp only [initFr, List.zipIdx_cons, List.zipIdx_nil, List.map_cons, List.map_nil, Nat.zero_add, Nat.reduceAdd]
  simp -dsimp (maxSteps := 4000000) +contextual (disch := first | omega | decide +kernel) only [↓vsD, vsU, Bool.or_false, Bool.true_or, resW, fnRet, cond_true, cond_false, Nat.reduceShiftRight, Nat.reduceAnd, Go.PV.fits, Go.PV.mutOf, Go.PV.splice, Int.reduceToNat, Int.reduceEq, Int.reduceAdd, Int.reduceSub, Int.reduceMul, Int.reduceLE, Int.reduceLT, Int.reduceNeg, Nat.reduceMul, Nat.reduceLeDiff, ne_eq, if_true, if_false, reduceIte, Nat.reduceEqDiff, ↓Nat.reduceLT, Nat.reduceAdd, Nat.reduceBEq, reduceCtorEq, enc_length, encs_length, tyU, tyC, tyB, tyA, tyI, tyZ, tyF, tyP, enc_getD, encs_getD, wrap_i64, enc_set, splice_one, set_last, bin_snn, bin_snm, bin_sns, bin_tnn, bin_tnm, bin_tns]
  exact ⟨fun h => (decide_eq_true (.inl h)).symm, fun h => ⟨fun h2 => (decide_eq_true (.inr h2)).symm, fun h2 => (decide_eq_false (by omega)).symm⟩⟩
theorem badE_ok (c : CallI) (n : Nat) (o o2 : Nat) (σ : Store) (ho : σ[o]? = some (.rows 3 1 [[.int .i64 n]] 0)) (ho2 : σ[o2]? = some (.rows 119 1 [[.func (.func 99) [] [.ptr o 0 0 0]]] 0)) :
    PCall Try.prog 102 [.agg c.row, .ptr o2 0 0 0] σ (fun q τ => q = .bool (badE n c) ∧ σ <+: τ) := by
  have g1 : ∀ X, (σ ++ X)[o]? = some (.rows 3 1 [[.int .i64 n]] 0) := fun X => by rw [List.getElem?_append_left (List.getElem?_eq_some_iff.1 ho).1, ho]
  have g2 : ∀ X, (σ ++ X)[o2]? = some (.rows 119 1 [[.func (.func 99) [] [.ptr o 0 0 0]]] 0) := fun X => by rw [List.getElem?_append_left (List.getElem?_eq_some_iff.1 ho2).1, ho2]
  refine PCall.vraw [] 15 16 [.tmp 3] (noE_ok _) mix Try.func102 rfl (by decide) rfl rfl (by simp) ?_
  simp -dsimp only [initFr, List.zipIdx_cons, List.zipIdx_nil, List.map_cons, List.map_nil, Nat.zero_add, Nat.reduceAdd]
  simp -dsimp (maxSteps := 4000000) +contextual (disch := first | omega | decide +kernel) only [↓vsD, vsU, Bool.or_false, Bool.true_or, resW, fnRet, cond_true, cond_false, Nat.reduceShiftRight, Nat.reduceAnd, Go.PV.fits, Go.PV.mutOf, Go.PV.splice, Int.reduceToNat, Int.reduceEq, Int.reduceAdd, Int.reduceSub, Int.reduceMul, Int.reduceLE, Int.reduceLT, Int.reduceNeg, Nat.reduceMul, Nat.reduceLeDiff, ne_eq, if_true, if_false, reduceIte, Nat.reduceEqDiff, ↓Nat.reduceLT, Nat.reduceAdd, Nat.reduceBEq, reduceCtorEq, enc_length, encs_length, tyU, tyC, tyB, tyA, tyI, tyZ, tyF, tyP, enc_getD, encs_getD, wrap_i64, enc_set, splice_one, set_last, bin_snn, bin_snm, bin_sns, bin_tnn, bin_tnm, bin_tns, CallI.row, g2, gapp0, gappk, sapp0, sappk, gappn0, gappnk, sappn0, sappnk, aggF, undF]
  refine PCall.mono (there_ok c.fn n o (σ ++ [.rows 78 5 [c.row] 0]) (g1 _)) ?_
  rintro p σ' ⟨rfl, rfl⟩
  by_cases h1 : 0 ≤ c.fn ∧ c.fn < n
  · rw [decide_eq_true h1]
    simp -dsimp (maxSteps := 4000000) +contextual (disch := first | omega | decide +kernel) only [↓vsD, vsU, Bool.or_false, Bool.true_or, resW, fnRet, cond_true, cond_false, Nat.reduceShiftRight, Nat.reduceAnd, Go.PV.fits, Go.PV.mutOf, Go.PV.splice, Int.reduceToNat, Int.reduceEq, Int.reduceAdd, Int.reduceSub, Int.reduceMul, Int.reduceLE, Int.reduceLT, Int.reduceNeg, Nat.reduceMul, Nat.reduceLeDiff, ne_eq, if_true, if_false, reduceIte, Nat.reduceEqDiff, ↓Nat.reduceLT, Nat.reduceAdd, Nat.reduceBEq, reduceCtorEq, enc_length, encs_length, tyU, tyC, tyB, tyA, tyI, tyZ, tyF, tyP, enc_getD, encs_getD, wrap_i64, enc_set, splice_one, set_last, bin_snn, bin_snm, bin_sns, bin_tnn, bin_tnm, bin_tns, CallI.row, g2, gapp0, gappk, sapp0, sappk, gappn0, gappnk, sappn0, sappnk, aggF, undF]
    refine PCall.mono (there_ok c.cal n o (σ ++ [.rows 78 5 [c.row] 0]) (g1 _)) ?_
    rintro p σ' ⟨rfl, rfl⟩
    by_cases h2 : 0 ≤ c.cal ∧ c.cal < n
    · rw [decide_eq_true h2]
      have e : badE n c = false := decide_eq_false (by omega)
      simp -dsimp (maxSteps := 4000000) +contextual (disch := first | omega | decide +kernel) only [↓vsD, vsU, Bool.or_false, Bool.true_or, resW, fnRet, cond_true, cond_false, Nat.reduceShiftRight, Nat.reduceAnd, Go.PV.fits, Go.PV.mutOf, Go.PV.splice, Int.reduceToNat, Int.reduceEq, Int.reduceAdd, Int.reduceSub, Int.reduceMul, Int.reduceLE, Int.reduceLT, Int.reduceNeg, Nat.reduceMul, Nat.reduceLeDiff, ne_eq, if_true, if_false, reduceIte, Nat.reduceEqDiff, ↓Nat.reduceLT, Nat.reduceAdd, Nat.reduceBEq, reduceCtorEq, enc_length, encs_length, tyU, tyC, tyB, tyA, tyI, tyZ, tyF, tyP, enc_getD, encs_getD, wrap_i64, enc_set, splice_one, set_last, bin_snn, bin_snm, bin_sns, bin_tnn, bin_tnm, bin_tns, CallI.row, g2, gapp0, gappk, sapp0, sappk, gappn0, gappnk, sappn0, sappnk, aggF, undF, e]
      exact List.prefix_append _ _
    · rw [decide_eq_false h2]
      have e : badE n c = true := decide_eq_true (by omega)
      simp -dsimp (maxSteps := 4000000) +contextual (disch := first | omega | decide +kernel) only [↓vsD, vsU, Bool.or_false, Bool.true_or, resW, fnRet, cond_true, cond_false, Nat.reduceShiftRight, Nat.reduceAnd, Go.PV.fits, Go.PV.mutOf, Go.PV.splice, Int.reduceToNat, Int.reduceEq, Int.reduceAdd, Int.reduceSub, Int.reduceMul, Int.reduceLE, Int.reduceLT, Int.reduceNeg, Nat.reduceMul, Nat.reduceLeDiff, ne_eq, if_true, if_false, reduceIte, Nat.reduceEqDiff, ↓Nat.reduceLT, Nat.reduceAdd, Nat.reduceBEq, reduceCtorEq, enc_length, encs_length, tyU, tyC, tyB, tyA, tyI, tyZ, tyF, tyP, enc_getD, encs_getD, wrap_i64, enc_set, splice_one, set_last, bin_snn, bin_snm, bin_sns, bin_tnn, bin_tnm, bin_tns, CallI.row, g2, gapp0, gappk, sapp0, sappk, gappn0, gappnk, sappn0, sappnk, aggF, undF, e]
      exact List.prefix_append _ _
  · rw [decide_eq_false h1]
    have e : badE n c = true := decide_eq_true (by omega)
    simp -dsimp (maxSteps := 4000000) +contextual (disch := first | omega | decide +kernel) only [↓vsD, vsU, Bool.or_false, Bool.true_or, resW, fnRet, cond_true, cond_false, Nat.reduceShiftRight, Nat.reduceAnd, Go.PV.fits, Go.PV.mutOf, Go.PV.splice, Int.reduceToNat, Int.reduceEq, Int.reduceAdd, Int.reduceSub, Int.reduceMul, Int.reduceLE, Int.reduceLT, Int.reduceNeg, Nat.reduceMul, Nat.reduceLeDiff, ne_eq, if_true, if_false, reduceIte, Nat.reduceEqDiff, ↓Nat.reduceLT, Nat.reduceAdd, Nat.reduceBEq, reduceCtorEq, enc_length, encs_length, tyU, tyC, tyB, tyA, tyI, tyZ, tyF, tyP, enc_getD, encs_getD, wrap_i64, enc_set, splice_one, set_last, bin_snn, bin_snm, bin_sns, bin_tnn, bin_tnm, bin_tns, CallI.row, g2, gapp0, gappk, sapp0, sappk, gappn0, gappnk, sappn0, sappnk, aggF, undF, e]
    exact List.prefix_append _ _
theorem badN_ok (c : CallI) (σ : Store) : PCall Try.prog 103 [.agg c.row] σ (fun q τ => q = .bool (badN c) ∧ σ <+: τ) := by
  refine PCall.vraw [] 7 11 [.tmp 2] (noE_ok _) mix Try.func103 rfl (by decide) rfl rfl (by simp) ?_
  simp -dsimp only [initFr, List.zipIdx_cons, List.zipIdx_nil, List.map_cons, List.map_nil, Nat.zero_add, Nat.reduceAdd]
  simp -dsimp (maxSteps := 4000000) +contextual (disch := first | omega | decide +kernel) only [↓vsD, vsU, Bool.or_false, Bool.true_or, resW, fnRet, cond_true, cond_false, Nat.reduceShiftRight, Nat.reduceAnd, Go.PV.fits, Go.PV.mutOf, Go.PV.splice, Int.reduceToNat, Int.reduceEq, Int.reduceAdd, Int.reduceSub, Int.reduceMul, Int.reduceLE, Int.reduceLT, Int.reduceNeg, Nat.reduceMul, Nat.reduceLeDiff, ne_eq, if_true, if_false, reduceIte, Nat.reduceEqDiff, ↓Nat.reduceLT, Nat.reduceAdd, Nat.reduceBEq, reduceCtorEq, enc_length, encs_length, tyU, tyC, tyB, tyA, tyI, tyZ, tyF, tyP, enc_getD, encs_getD, wrap_i64, enc_set, splice_one, set_last, bin_snn, bin_snm, bin_sns, bin_tnn, bin_tnm, bin_tns, CallI.row, gapp0, gappk, sapp0, sappk, gappn0, gappnk, sappn0, sappnk]
  exact ⟨fun h => ⟨(decide_eq_true (.inl h)).symm, List.prefix_append _ _⟩, fun h => ⟨fun h2 => ⟨(decide_eq_true (.inr h2)).symm, List.prefix_append _ _⟩, fun h2 => ⟨(decide_eq_false (by omega)).symm, List.prefix_append _ _⟩⟩⟩
theorem badE_iff {n : Nat} {c : CallI} : badE n c = false ↔ (0 ≤ c.fn ∧ c.fn < n) ∧ (0 ≤ c.cal ∧ c.cal < n) := by
  unfold badE
  rw [decide_eq_false_iff_not]
  omega
theorem badN_iff {c : CallI} : badN c = false ↔ 0 ≤ c.cnt ∧ c.cnt ≤ 1099511627776 := by
  unfold badN
  rw [decide_eq_false_iff_not]
  omega
theorem badS_iff {s : Int} : badS s = false ↔ 0 ≤ s ∧ s ≤ 1048576 := by
  unfold badS
  rw [decide_eq_false_iff_not]
  omega
theorem any_no {α : Type} {p : α → Bool} {l : List α} (h : l.any p = false) : ∀ x ∈ l, p x = false := fun x hx => by
  cases hp : p x with
  | false => rfl
  | true => rw [List.any_eq_true.2 ⟨x, hx, hp⟩] at h; cases h
theorem checkF_good {sizes : List Int} {calls : List CallI} {page : Int} (hc : calls.length ≤ 100) (h : checkF sizes calls page = 0) : GoodP sizes calls page := by
  unfold checkF at h
  split at h
  · cases h
  · rename_i hr
    have hr2 : okRange sizes.length page := Decidable.not_not.1 hr
    split at h
    · cases h
    · rename_i h1
      split at h
      · cases h
      · rename_i h2
        split at h
        · cases h
        · rename_i h3
          have h1 := any_no (Bool.not_eq_true _ ▸ h1)
          have h2 := any_no (Bool.not_eq_true _ ▸ h2)
          have h3 := any_no (Bool.not_eq_true _ ▸ h3)
          exact ⟨by have := hr2.1; omega, hr2.1.2, hr2.2, fun s hs => badS_iff.1 (h1 s hs), fun c hc => badE_iff.1 (h2 c hc), fun c hc => badN_iff.1 (h3 c hc), by omega⟩
theorem range_cases {n : Nat} {page : Int} (h : ¬ okRange n page) : n < 1 ∨ (1 ≤ n ∧ 64 < n) ∨ ((1 ≤ n ∧ n ≤ 64) ∧ page < 1) ∨ ((1 ≤ n ∧ n ≤ 64) ∧ 1 ≤ page ∧ 65536 < page) := by
  unfold okRange at h
  omega
set_option maxHeartbeats 4000000 in
theorem pcheckF_w (sizes : List Int) (E : PV) (calls : List CallI) (page : Int) (hE : PV.cell E = true) (hs : sizes.length ≤ 100) (hc : calls.length ≤ 100) :
    PCall Try.prog 68 [.sl (ints sizes), graphV E calls, .int .i64 page] [] (fun p _ => p = .int .i64 (checkF sizes calls page)) := by
  unfold graphV
  refine PCall.vfrz [] 35567702527 45 [.tmp 6] (noE_ok _) mix Try.func68 rfl (by decide) rfl rfl (by simp) ?_
  simp -dsimp only [initFr, List.zipIdx_cons, List.zipIdx_nil, List.map_cons, List.map_nil, Nat.zero_add, Nat.reduceAdd]
  by_cases hr : okRange sizes.length page
  · have hr2 := hr
    obtain ⟨⟨r1, r2⟩, r3, r4⟩ := hr2
    simp -dsimp (maxSteps := 4000000) +contextual (disch := first | omega | decide +kernel) only [↓vsD, vsU, Bool.or_false, Bool.true_or, resW, fnRet, cond_true, cond_false, Nat.reduceShiftRight, Nat.reduceAnd, Go.PV.fits, Go.PV.mutOf, Go.PV.splice, Int.reduceToNat, Int.reduceEq, Int.reduceAdd, Int.reduceSub, Int.reduceMul, Int.reduceLE, Int.reduceLT, Int.reduceNeg, Nat.reduceMul, Nat.reduceLeDiff, ne_eq, if_true, if_false, reduceIte, Nat.reduceEqDiff, ↓Nat.reduceLT, Nat.reduceAdd, Nat.reduceBEq, reduceCtorEq, enc_length, encs_length, tyU, tyC, tyB, tyA, tyI, tyZ, tyF, tyP, enc_getD, encs_getD, wrap_i64, enc_set, splice_one, set_last, bin_snn, bin_snm, bin_sns, bin_tnn, bin_tnm, bin_tns, enc_length, hE, aggF, undF, zF, cF, cells_func]
    refine PCall.mono (containsI_any sizes (by omega) _ [] badS _ (fun s hs => badS_ok s _)) ?_
    rintro p σ' ⟨rfl, rfl⟩
    obtain ⟨b1, hb1⟩ : ∃ b, b = sizes.any badS := ⟨_, rfl⟩
    rw [← hb1]
    cases b1 with
    | true =>
      simp -dsimp (maxSteps := 4000000) +contextual (disch := first | omega | decide +kernel) only [↓vsD, vsU, Bool.or_false, Bool.true_or, resW, fnRet, cond_true, cond_false, Nat.reduceShiftRight, Nat.reduceAnd, Go.PV.fits, Go.PV.mutOf, Go.PV.splice, Int.reduceToNat, Int.reduceEq, Int.reduceAdd, Int.reduceSub, Int.reduceMul, Int.reduceLE, Int.reduceLT, Int.reduceNeg, Nat.reduceMul, Nat.reduceLeDiff, ne_eq, if_true, if_false, reduceIte, Nat.reduceEqDiff, ↓Nat.reduceLT, Nat.reduceAdd, Nat.reduceBEq, reduceCtorEq, enc_length, encs_length, tyU, tyC, tyB, tyA, tyI, tyZ, tyF, tyP, enc_getD, encs_getD, wrap_i64, enc_set, splice_one, set_last, bin_snn, bin_snm, bin_sns, bin_tnn, bin_tnm, bin_tns, enc_length, hE]
      refine fin0 (.keep _ (bel_int _ _ _)) ?_
      rw [checkF, if_neg (fun h => h hr), if_pos hb1.symm]
    | false =>
      simp -dsimp (maxSteps := 4000000) +contextual (disch := first | omega | decide +kernel) only [↓vsD, vsU, Bool.or_false, Bool.true_or, resW, fnRet, cond_true, cond_false, Nat.reduceShiftRight, Nat.reduceAnd, Go.PV.fits, Go.PV.mutOf, Go.PV.splice, Int.reduceToNat, Int.reduceEq, Int.reduceAdd, Int.reduceSub, Int.reduceMul, Int.reduceLE, Int.reduceLT, Int.reduceNeg, Nat.reduceMul, Nat.reduceLeDiff, ne_eq, if_true, if_false, reduceIte, Nat.reduceEqDiff, ↓Nat.reduceLT, Nat.reduceAdd, Nat.reduceBEq, reduceCtorEq, enc_length, encs_length, tyU, tyC, tyB, tyA, tyI, tyZ, tyF, tyP, enc_getD, encs_getD, wrap_i64, enc_set, splice_one, set_last, bin_snn, bin_snm, bin_sns, bin_tnn, bin_tnm, bin_tns, enc_length, hE]
      refine PCall.mono (containsL_any calls (by omega) _ _ (badE sizes.length) _ (fun c hc τ hτ => badE_ok c sizes.length 1 2 τ (by obtain ⟨X, rfl⟩ := hτ; rfl) (by obtain ⟨X, rfl⟩ := hτ; rfl))) ?_
      rintro p σ' ⟨rfl, X, rfl⟩
      obtain ⟨b2, hb2⟩ : ∃ b, b = calls.any (badE sizes.length) := ⟨_, rfl⟩
      rw [← hb2]
      cases b2 with
      | true =>
        simp -dsimp (maxSteps := 4000000) +contextual (disch := first | omega | decide +kernel) only [↓vsD, vsU, Bool.or_false, Bool.true_or, resW, fnRet, cond_true, cond_false, Nat.reduceShiftRight, Nat.reduceAnd, Go.PV.fits, Go.PV.mutOf, Go.PV.splice, Int.reduceToNat, Int.reduceEq, Int.reduceAdd, Int.reduceSub, Int.reduceMul, Int.reduceLE, Int.reduceLT, Int.reduceNeg, Nat.reduceMul, Nat.reduceLeDiff, ne_eq, if_true, if_false, reduceIte, Nat.reduceEqDiff, ↓Nat.reduceLT, Nat.reduceAdd, Nat.reduceBEq, reduceCtorEq, enc_length, encs_length, tyU, tyC, tyB, tyA, tyI, tyZ, tyF, tyP, enc_getD, encs_getD, wrap_i64, enc_set, splice_one, set_last, bin_snn, bin_snm, bin_sns, bin_tnn, bin_tnm, bin_tns, enc_length, encL_length, hE]
        refine fin0 (.keep _ (bel_int _ _ _)) ?_
        rw [checkF, if_neg (fun h => h hr), if_neg (by rw [← hb1]; simp), if_pos hb2.symm]
      | false =>
        simp -dsimp (maxSteps := 4000000) +contextual (disch := first | omega | decide +kernel) only [↓vsD, vsU, Bool.or_false, Bool.true_or, resW, fnRet, cond_true, cond_false, Nat.reduceShiftRight, Nat.reduceAnd, Go.PV.fits, Go.PV.mutOf, Go.PV.splice, Int.reduceToNat, Int.reduceEq, Int.reduceAdd, Int.reduceSub, Int.reduceMul, Int.reduceLE, Int.reduceLT, Int.reduceNeg, Nat.reduceMul, Nat.reduceLeDiff, ne_eq, if_true, if_false, reduceIte, Nat.reduceEqDiff, ↓Nat.reduceLT, Nat.reduceAdd, Nat.reduceBEq, reduceCtorEq, enc_length, encs_length, tyU, tyC, tyB, tyA, tyI, tyZ, tyF, tyP, enc_getD, encs_getD, wrap_i64, enc_set, splice_one, set_last, bin_snn, bin_snm, bin_sns, bin_tnn, bin_tnm, bin_tns, enc_length, encL_length, hE]
        refine PCall.mono (containsL_any calls (by omega) _ _ badN _ (fun c hc τ hτ => badN_ok c τ)) ?_
        rintro p σ' ⟨rfl, X, rfl⟩
        obtain ⟨b3, hb3⟩ : ∃ b, b = calls.any badN := ⟨_, rfl⟩
        rw [← hb3]
        cases b3 with
        | true =>
          simp -dsimp (maxSteps := 4000000) +contextual (disch := first | omega | decide +kernel) only [↓vsD, vsU, Bool.or_false, Bool.true_or, resW, fnRet, cond_true, cond_false, Nat.reduceShiftRight, Nat.reduceAnd, Go.PV.fits, Go.PV.mutOf, Go.PV.splice, Int.reduceToNat, Int.reduceEq, Int.reduceAdd, Int.reduceSub, Int.reduceMul, Int.reduceLE, Int.reduceLT, Int.reduceNeg, Nat.reduceMul, Nat.reduceLeDiff, ne_eq, if_true, if_false, reduceIte, Nat.reduceEqDiff, ↓Nat.reduceLT, Nat.reduceAdd, Nat.reduceBEq, reduceCtorEq, enc_length, encs_length, tyU, tyC, tyB, tyA, tyI, tyZ, tyF, tyP, enc_getD, encs_getD, wrap_i64, enc_set, splice_one, set_last, bin_snn, bin_snm, bin_sns, bin_tnn, bin_tnm, bin_tns, enc_length, encL_length, hE]
          refine fin0 (.keep _ (bel_int _ _ _)) ?_
          rw [checkF, if_neg (fun h => h hr), if_neg (by rw [← hb1]; simp), if_neg (by rw [← hb2]; simp), if_pos hb3.symm]
        | false =>
          simp -dsimp (maxSteps := 4000000) +contextual (disch := first | omega | decide +kernel) only [↓vsD, vsU, Bool.or_false, Bool.true_or, resW, fnRet, cond_true, cond_false, Nat.reduceShiftRight, Nat.reduceAnd, Go.PV.fits, Go.PV.mutOf, Go.PV.splice, Int.reduceToNat, Int.reduceEq, Int.reduceAdd, Int.reduceSub, Int.reduceMul, Int.reduceLE, Int.reduceLT, Int.reduceNeg, Nat.reduceMul, Nat.reduceLeDiff, ne_eq, if_true, if_false, reduceIte, Nat.reduceEqDiff, ↓Nat.reduceLT, Nat.reduceAdd, Nat.reduceBEq, reduceCtorEq, enc_length, encs_length, tyU, tyC, tyB, tyA, tyI, tyZ, tyF, tyP, enc_getD, encs_getD, wrap_i64, enc_set, splice_one, set_last, bin_snn, bin_snm, bin_sns, bin_tnn, bin_tnm, bin_tns, enc_length, encL_length, hE]
          refine fin0 (.keep _ (bel_int _ _ _)) ?_
          rw [checkF, if_neg (fun h => h hr), if_neg (by rw [← hb1]; simp), if_neg (by rw [← hb2]; simp), if_neg (by rw [← hb3]; simp)]
  · have e : checkF sizes calls page = 1 := by rw [checkF, if_pos hr]
    rw [e]
    rcases range_cases hr with r | ⟨r1, r2⟩ | ⟨⟨r1, r2⟩, r3⟩ | ⟨⟨r1, r2⟩, r3, r4⟩
    · simp -dsimp (maxSteps := 4000000) +contextual (disch := first | omega | decide +kernel) only [↓vsD, vsU, Bool.or_false, Bool.true_or, resW, fnRet, cond_true, cond_false, Nat.reduceShiftRight, Nat.reduceAnd, Go.PV.fits, Go.PV.mutOf, Go.PV.splice, Int.reduceToNat, Int.reduceEq, Int.reduceAdd, Int.reduceSub, Int.reduceMul, Int.reduceLE, Int.reduceLT, Int.reduceNeg, Nat.reduceMul, Nat.reduceLeDiff, ne_eq, if_true, if_false, reduceIte, Nat.reduceEqDiff, ↓Nat.reduceLT, Nat.reduceAdd, Nat.reduceBEq, reduceCtorEq, enc_length, encs_length, tyU, tyC, tyB, tyA, tyI, tyZ, tyF, tyP, enc_getD, encs_getD, wrap_i64, enc_set, splice_one, set_last, bin_snn, bin_snm, bin_sns, bin_tnn, bin_tnm, bin_tns, enc_length, hE, aggF, undF, zF, cF, cells_func]
      exact fin0 (.keep _ (bel_int _ _ _)) rfl
    · simp -dsimp (maxSteps := 4000000) +contextual (disch := first | omega | decide +kernel) only [↓vsD, vsU, Bool.or_false, Bool.true_or, resW, fnRet, cond_true, cond_false, Nat.reduceShiftRight, Nat.reduceAnd, Go.PV.fits, Go.PV.mutOf, Go.PV.splice, Int.reduceToNat, Int.reduceEq, Int.reduceAdd, Int.reduceSub, Int.reduceMul, Int.reduceLE, Int.reduceLT, Int.reduceNeg, Nat.reduceMul, Nat.reduceLeDiff, ne_eq, if_true, if_false, reduceIte, Nat.reduceEqDiff, ↓Nat.reduceLT, Nat.reduceAdd, Nat.reduceBEq, reduceCtorEq, enc_length, encs_length, tyU, tyC, tyB, tyA, tyI, tyZ, tyF, tyP, enc_getD, encs_getD, wrap_i64, enc_set, splice_one, set_last, bin_snn, bin_snm, bin_sns, bin_tnn, bin_tnm, bin_tns, enc_length, hE, aggF, undF, zF, cF, cells_func]
      exact fin0 (.keep _ (bel_int _ _ _)) rfl
    · simp -dsimp (maxSteps := 4000000) +contextual (disch := first | omega | decide +kernel) only [↓vsD, vsU, Bool.or_false, Bool.true_or, resW, fnRet, cond_true, cond_false, Nat.reduceShiftRight, Nat.reduceAnd, Go.PV.fits, Go.PV.mutOf, Go.PV.splice, Int.reduceToNat, Int.reduceEq, Int.reduceAdd, Int.reduceSub, Int.reduceMul, Int.reduceLE, Int.reduceLT, Int.reduceNeg, Nat.reduceMul, Nat.reduceLeDiff, ne_eq, if_true, if_false, reduceIte, Nat.reduceEqDiff, ↓Nat.reduceLT, Nat.reduceAdd, Nat.reduceBEq, reduceCtorEq, enc_length, encs_length, tyU, tyC, tyB, tyA, tyI, tyZ, tyF, tyP, enc_getD, encs_getD, wrap_i64, enc_set, splice_one, set_last, bin_snn, bin_snm, bin_sns, bin_tnn, bin_tnm, bin_tns, enc_length, hE, aggF, undF, zF, cF, cells_func]
      exact fin0 (.keep _ (bel_int _ _ _)) rfl
    · simp -dsimp (maxSteps := 4000000) +contextual (disch := first | omega | decide +kernel) only [↓vsD, vsU, Bool.or_false, Bool.true_or, resW, fnRet, cond_true, cond_false, Nat.reduceShiftRight, Nat.reduceAnd, Go.PV.fits, Go.PV.mutOf, Go.PV.splice, Int.reduceToNat, Int.reduceEq, Int.reduceAdd, Int.reduceSub, Int.reduceMul, Int.reduceLE, Int.reduceLT, Int.reduceNeg, Nat.reduceMul, Nat.reduceLeDiff, ne_eq, if_true, if_false, reduceIte, Nat.reduceEqDiff, ↓Nat.reduceLT, Nat.reduceAdd, Nat.reduceBEq, reduceCtorEq, enc_length, encs_length, tyU, tyC, tyB, tyA, tyI, tyZ, tyF, tyP, enc_getD, encs_getD, wrap_i64, enc_set, splice_one, set_last, bin_snn, bin_snm, bin_sns, bin_tnn, bin_tnm, bin_tns, enc_length, hE, aggF, undF, zF, cF, cells_func]
      exact fin0 (.keep _ (bel_int _ _ _)) rfl
set_option maxRecDepth 8000 in
set_option maxHeartbeats 8000000 in
theorem rcheckF_w (sizes : List Int) (E : PV) (calls : List CallI) (page : Int) (hE : PV.cell E = true) (hs : sizes.length ≤ 100) (hc : calls.length ≤ 100) :
    PCall Try.prog 74 [.sl (ints sizes), graphV E calls, .int .i64 page] [] (fun p _ => p = .int .i64 (checkF sizes calls page)) := by
  unfold graphV
  refine PCall.vfrz [] 4960982938884711765812191231 94 [.tmp 6] (noE_ok _) mix Try.func74 rfl (by decide) rfl rfl (by simp) ?_
  simp -dsimp only [initFr, List.zipIdx_cons, List.zipIdx_nil, List.map_cons, List.map_nil, Nat.zero_add, Nat.reduceAdd]
  by_cases hr : okRange sizes.length page
  · have hr2 := hr
    obtain ⟨⟨r1, r2⟩, r3, r4⟩ := hr2
    simp -dsimp (maxSteps := 4000000) +contextual (disch := first | omega | decide +kernel) only [↓vsD, vsU, Bool.or_false, Bool.true_or, resW, fnRet, cond_true, cond_false, Nat.reduceShiftRight, Nat.reduceAnd, Go.PV.fits, Go.PV.mutOf, Go.PV.splice, Int.reduceToNat, Int.reduceEq, Int.reduceAdd, Int.reduceSub, Int.reduceMul, Int.reduceLE, Int.reduceLT, Int.reduceNeg, Nat.reduceMul, Nat.reduceLeDiff, ne_eq, if_true, if_false, reduceIte, Nat.reduceEqDiff, ↓Nat.reduceLT, Nat.reduceAdd, Nat.reduceBEq, reduceCtorEq, enc_length, encs_length, tyU, tyC, tyB, tyA, tyI, tyZ, tyF, tyP, enc_getD, encs_getD, wrap_i64, enc_set, splice_one, set_last, bin_snn, bin_snm, bin_sns, bin_tnn, bin_tnm, bin_tns, enc_length, hE]
    refine v_loopS (fun k : Nat => [(0, .sl (ints sizes)), (4, .ptr 0 0 0 0), (7, .int .i64 sizes.length), (8, .int .i64 k)]) (fun _ => [.rows 76 2 [[E, .sl (encL calls)]] 0]) (fun k => k ≤ sizes.length ∧ ∀ j, j < k → badS (sizes.getD j default) = false) (fun k => sizes.length - k) 0 (by simp [weaker, Go.PV.look]) rfl ⟨by omega, fun j h => by omega⟩ ?_
    rintro k ⟨hk, hp⟩
    by_cases hkl : k < sizes.length
    · have hfail : badS (sizes.getD k 0) = true → checkF sizes calls page = 1 := fun h => by
        rw [checkF, if_neg (fun h => h hr), if_pos (List.any_eq_true.2 ⟨_, getDm hkl, h⟩)]
      simp -dsimp (maxSteps := 4000000) +contextual (disch := first | omega | decide +kernel) only [↓vsD, vsU, Bool.or_false, Bool.true_or, resW, fnRet, cond_true, cond_false, Nat.reduceShiftRight, Nat.reduceAnd, Go.PV.fits, Go.PV.mutOf, Go.PV.splice, Int.reduceToNat, Int.reduceEq, Int.reduceAdd, Int.reduceSub, Int.reduceMul, Int.reduceLE, Int.reduceLT, Int.reduceNeg, Nat.reduceMul, Nat.reduceLeDiff, ne_eq, if_true, if_false, reduceIte, Nat.reduceEqDiff, ↓Nat.reduceLT, Nat.reduceAdd, Nat.reduceBEq, reduceCtorEq, enc_length, encs_length, tyU, tyC, tyB, tyA, tyI, tyZ, tyF, tyP, enc_getD, encs_getD, wrap_i64, enc_set, splice_one, set_last, bin_snn, bin_snm, bin_sns, bin_tnn, bin_tnm, bin_tns, enc_length, enc_getD]
      refine ⟨fun h => fin0 (.keep _ (bel_int _ _ _)) (by rw [hfail (decide_eq_true (.inl h))]), fun h => ⟨fun h2 => fin0 (.keep _ (bel_int _ _ _)) (by rw [hfail (decide_eq_true (.inr h2))]), fun h2 => ?_⟩⟩
      have hb : badS (sizes.getD k 0) = false := decide_eq_false (by omega)
      exact ⟨k + 1, (by (try dsimp only); omega), by simp [weaker, Go.PV.look], rfl, by omega, before_succ hp hb⟩
    · have hany : sizes.any badS = false := by
        rw [any_find, decide_eq_false]
        have := findA_none badS sizes (fun j hj => hp j (by omega))
        rw [fstA] at this
        split at this <;> omega
      have hgo : ∀ v, (if calls.any (badE sizes.length) = true then 15 else if calls.any badN = true then 21 else 0) = v → checkF sizes calls page = v := fun v hv => by
        rw [checkF, if_neg (fun h => h hr), if_neg (by rw [hany]; simp)]; exact hv
      clear hp hk
      simp -dsimp (maxSteps := 4000000) +contextual (disch := first | omega | decide +kernel) only [↓vsD, vsU, Bool.or_false, Bool.true_or, resW, fnRet, cond_true, cond_false, Nat.reduceShiftRight, Nat.reduceAnd, Go.PV.fits, Go.PV.mutOf, Go.PV.splice, Int.reduceToNat, Int.reduceEq, Int.reduceAdd, Int.reduceSub, Int.reduceMul, Int.reduceLE, Int.reduceLT, Int.reduceNeg, Nat.reduceMul, Nat.reduceLeDiff, ne_eq, if_true, if_false, reduceIte, Nat.reduceEqDiff, ↓Nat.reduceLT, Nat.reduceAdd, Nat.reduceBEq, reduceCtorEq, enc_length, encs_length, tyU, tyC, tyB, tyA, tyI, tyZ, tyF, tyP, enc_getD, encs_getD, wrap_i64, enc_set, splice_one, set_last, bin_snn, bin_snm, bin_sns, bin_tnn, bin_tnm, bin_tns, enc_length, encL_length]
      refine v_loopS (fun t : Nat × Store => [(4, .ptr 0 0 0 0), (7, .int .i64 sizes.length), (47, .sl (encL calls)), (48, .int .i64 calls.length), (49, .int .i64 t.1)]) (fun t => .rows 76 2 [[E, .sl (encL calls)]] 0 :: t.2) (fun t => t.1 ≤ calls.length ∧ ∀ j, j < t.1 → badE sizes.length (calls.getD j default) = false) (fun t => calls.length - t.1) (0, []) (by simp [weaker, Go.PV.look]) rfl ⟨by simp, fun j h => by simp at h⟩ ?_
      rintro ⟨i, Q⟩ ⟨hi, hp⟩
      dsimp only at hi hp ⊢
      by_cases hil : i < calls.length
      · obtain ⟨c, hc⟩ : ∃ c, c = calls.getD i default := ⟨_, rfl⟩
        have hcm : c ∈ calls := by rw [hc]; exact getDm hil
        have hfail : badE sizes.length c = true → checkF sizes calls page = 15 := fun h => hgo _ (by rw [if_pos (List.any_eq_true.2 ⟨c, hcm, h⟩)])
        have hf : badE sizes.length c = true → Go.PV.Fin [] (fun p _ => p = PV.int .i64 (checkF sizes calls page)) (.int .i64 15) (.rows 76 2 [[E, .sl (encL calls)]] 0 :: (Q ++ [Obj.rows 78 5 [[PV.int .i64 c.fn, .int .i64 c.blk, .int .i64 c.ins, .int .i64 c.cal, .int .i64 c.cnt]] 0])) := fun h => fin0 (.keep _ (bel_int _ _ _)) (by rw [hfail h])
        simp -dsimp (maxSteps := 4000000) +contextual (disch := first | omega | decide +kernel) only [↓vsD, vsU, Bool.or_false, Bool.true_or, resW, fnRet, cond_true, cond_false, Nat.reduceShiftRight, Nat.reduceAnd, Go.PV.fits, Go.PV.mutOf, Go.PV.splice, Int.reduceToNat, Int.reduceEq, Int.reduceAdd, Int.reduceSub, Int.reduceMul, Int.reduceLE, Int.reduceLT, Int.reduceNeg, Nat.reduceMul, Nat.reduceLeDiff, ne_eq, if_true, if_false, reduceIte, Nat.reduceEqDiff, ↓Nat.reduceLT, Nat.reduceAdd, Nat.reduceBEq, reduceCtorEq, enc_length, encs_length, tyU, tyC, tyB, tyA, tyI, tyZ, tyF, tyP, enc_getD, encs_getD, wrap_i64, enc_set, splice_one, set_last, bin_snn, bin_snm, bin_sns, bin_tnn, bin_tnm, bin_tns, encL_length, encL_getD, ← hc, gapp0, gappk, sapp0, sappk, gappn0, gappnk, sappn0, sappnk]
        refine ⟨fun h => hf (decide_eq_true (.inl (.inl h))), fun h1 => ⟨fun h => hf (decide_eq_true (.inl (.inr h))), fun h2 => ⟨fun h => hf (decide_eq_true (.inr (.inl h))), fun h3 => ⟨fun h => hf (decide_eq_true (.inr (.inr h))), fun h4 => ?_⟩⟩⟩⟩
        have hb : badE sizes.length (calls.getD i default) = false := by rw [← hc]; exact decide_eq_false (by omega)
        exact ⟨(i + 1, _), (by (try dsimp only); omega), by simp [weaker, Go.PV.look], rfl, by dsimp only; omega, before_succ hp hb⟩
      · have hany2 : calls.any (badE sizes.length) = false := by
          rw [any_find, decide_eq_false]
          have := findA_none (badE sizes.length) calls (fun j hj => hp j (by omega))
          rw [fstA] at this
          split at this <;> omega
        have hgo2 : ∀ v, (if calls.any badN = true then 21 else 0) = v → checkF sizes calls page = v := fun v hv => hgo v (by rw [if_neg (by rw [hany2]; simp)]; exact hv)
        clear hp hi hgo
        simp -dsimp (maxSteps := 4000000) +contextual (disch := first | omega | decide +kernel) only [↓vsD, vsU, Bool.or_false, Bool.true_or, resW, fnRet, cond_true, cond_false, Nat.reduceShiftRight, Nat.reduceAnd, Go.PV.fits, Go.PV.mutOf, Go.PV.splice, Int.reduceToNat, Int.reduceEq, Int.reduceAdd, Int.reduceSub, Int.reduceMul, Int.reduceLE, Int.reduceLT, Int.reduceNeg, Nat.reduceMul, Nat.reduceLeDiff, ne_eq, if_true, if_false, reduceIte, Nat.reduceEqDiff, ↓Nat.reduceLT, Nat.reduceAdd, Nat.reduceBEq, reduceCtorEq, enc_length, encs_length, tyU, tyC, tyB, tyA, tyI, tyZ, tyF, tyP, enc_getD, encs_getD, wrap_i64, enc_set, splice_one, set_last, bin_snn, bin_snm, bin_sns, bin_tnn, bin_tnm, bin_tns, encL_length]
        refine v_loopS (fun t : Nat × Store => [(79, .sl (encL calls)), (80, .int .i64 calls.length), (81, .int .i64 t.1)]) (fun t => .rows 76 2 [[E, .sl (encL calls)]] 0 :: t.2) (fun t => t.1 ≤ calls.length ∧ ∀ j, j < t.1 → badN (calls.getD j default) = false) (fun t => calls.length - t.1) (0, Q) (by simp [weaker, Go.PV.look]) rfl ⟨by simp, fun j h => by simp at h⟩ ?_
        rintro ⟨i, Q⟩ ⟨hi, hp⟩
        dsimp only at hi hp ⊢
        by_cases hil : i < calls.length
        · obtain ⟨c, hc⟩ : ∃ c, c = calls.getD i default := ⟨_, rfl⟩
          have hcm : c ∈ calls := by rw [hc]; exact getDm hil
          have hfail : badN c = true → checkF sizes calls page = 21 := fun h => hgo2 _ (by rw [if_pos (List.any_eq_true.2 ⟨c, hcm, h⟩)])
          have hf : badN c = true → Go.PV.Fin [] (fun p _ => p = PV.int .i64 (checkF sizes calls page)) (.int .i64 21) (.rows 76 2 [[E, .sl (encL calls)]] 0 :: (Q ++ [Obj.rows 78 5 [[PV.int .i64 c.fn, .int .i64 c.blk, .int .i64 c.ins, .int .i64 c.cal, .int .i64 c.cnt]] 0])) := fun h => fin0 (.keep _ (bel_int _ _ _)) (by rw [hfail h])
          simp -dsimp (maxSteps := 4000000) +contextual (disch := first | omega | decide +kernel) only [↓vsD, vsU, Bool.or_false, Bool.true_or, resW, fnRet, cond_true, cond_false, Nat.reduceShiftRight, Nat.reduceAnd, Go.PV.fits, Go.PV.mutOf, Go.PV.splice, Int.reduceToNat, Int.reduceEq, Int.reduceAdd, Int.reduceSub, Int.reduceMul, Int.reduceLE, Int.reduceLT, Int.reduceNeg, Nat.reduceMul, Nat.reduceLeDiff, ne_eq, if_true, if_false, reduceIte, Nat.reduceEqDiff, ↓Nat.reduceLT, Nat.reduceAdd, Nat.reduceBEq, reduceCtorEq, enc_length, encs_length, tyU, tyC, tyB, tyA, tyI, tyZ, tyF, tyP, enc_getD, encs_getD, wrap_i64, enc_set, splice_one, set_last, bin_snn, bin_snm, bin_sns, bin_tnn, bin_tnm, bin_tns, encL_length, encL_getD, ← hc, gapp0, gappk, sapp0, sappk, gappn0, gappnk, sappn0, sappnk]
          refine ⟨fun h => hf (decide_eq_true (.inl h)), fun h1 => ⟨fun h => hf (decide_eq_true (.inr h)), fun h2 => ?_⟩⟩
          have hb : badN (calls.getD i default) = false := by rw [← hc]; exact decide_eq_false (by omega)
          exact ⟨(i + 1, _), (by (try dsimp only); omega), by simp [weaker, Go.PV.look], rfl, by dsimp only; omega, before_succ hp hb⟩
        · have hany3 : calls.any badN = false := by
            rw [any_find, decide_eq_false]
            have := findA_none badN calls (fun j hj => hp j (by omega))
            rw [fstA] at this
            split at this <;> omega
          simp -dsimp (maxSteps := 4000000) +contextual (disch := first | omega | decide +kernel) only [↓vsD, vsU, Bool.or_false, Bool.true_or, resW, fnRet, cond_true, cond_false, Nat.reduceShiftRight, Nat.reduceAnd, Go.PV.fits, Go.PV.mutOf, Go.PV.splice, Int.reduceToNat, Int.reduceEq, Int.reduceAdd, Int.reduceSub, Int.reduceMul, Int.reduceLE, Int.reduceLT, Int.reduceNeg, Nat.reduceMul, Nat.reduceLeDiff, ne_eq, if_true, if_false, reduceIte, Nat.reduceEqDiff, ↓Nat.reduceLT, Nat.reduceAdd, Nat.reduceBEq, reduceCtorEq, enc_length, encs_length, tyU, tyC, tyB, tyA, tyI, tyZ, tyF, tyP, enc_getD, encs_getD, wrap_i64, enc_set, splice_one, set_last, bin_snn, bin_snm, bin_sns, bin_tnn, bin_tnm, bin_tns, encL_length]
          refine fin0 (.keep _ (bel_int _ _ _)) ?_
          rw [hgo2 0 (by rw [if_neg (by rw [hany3]; simp)])]
  · have e : checkF sizes calls page = 1 := by rw [checkF, if_pos hr]
    rw [e]
    rcases range_cases hr with r | ⟨r1, r2⟩ | ⟨⟨r1, r2⟩, r3⟩ | ⟨⟨r1, r2⟩, r3, r4⟩
    · simp -dsimp (maxSteps := 4000000) +contextual (disch := first | omega | decide +kernel) only [↓vsD, vsU, Bool.or_false, Bool.true_or, resW, fnRet, cond_true, cond_false, Nat.reduceShiftRight, Nat.reduceAnd, Go.PV.fits, Go.PV.mutOf, Go.PV.splice, Int.reduceToNat, Int.reduceEq, Int.reduceAdd, Int.reduceSub, Int.reduceMul, Int.reduceLE, Int.reduceLT, Int.reduceNeg, Nat.reduceMul, Nat.reduceLeDiff, ne_eq, if_true, if_false, reduceIte, Nat.reduceEqDiff, ↓Nat.reduceLT, Nat.reduceAdd, Nat.reduceBEq, reduceCtorEq, enc_length, encs_length, tyU, tyC, tyB, tyA, tyI, tyZ, tyF, tyP, enc_getD, encs_getD, wrap_i64, enc_set, splice_one, set_last, bin_snn, bin_snm, bin_sns, bin_tnn, bin_tnm, bin_tns, enc_length, hE]
      exact fin0 (.keep _ (bel_int _ _ _)) rfl
    · simp -dsimp (maxSteps := 4000000) +contextual (disch := first | omega | decide +kernel) only [↓vsD, vsU, Bool.or_false, Bool.true_or, resW, fnRet, cond_true, cond_false, Nat.reduceShiftRight, Nat.reduceAnd, Go.PV.fits, Go.PV.mutOf, Go.PV.splice, Int.reduceToNat, Int.reduceEq, Int.reduceAdd, Int.reduceSub, Int.reduceMul, Int.reduceLE, Int.reduceLT, Int.reduceNeg, Nat.reduceMul, Nat.reduceLeDiff, ne_eq, if_true, if_false, reduceIte, Nat.reduceEqDiff, ↓Nat.reduceLT, Nat.reduceAdd, Nat.reduceBEq, reduceCtorEq, enc_length, encs_length, tyU, tyC, tyB, tyA, tyI, tyZ, tyF, tyP, enc_getD, encs_getD, wrap_i64, enc_set, splice_one, set_last, bin_snn, bin_snm, bin_sns, bin_tnn, bin_tnm, bin_tns, enc_length, hE]
      exact fin0 (.keep _ (bel_int _ _ _)) rfl
    · simp -dsimp (maxSteps := 4000000) +contextual (disch := first | omega | decide +kernel) only [↓vsD, vsU, Bool.or_false, Bool.true_or, resW, fnRet, cond_true, cond_false, Nat.reduceShiftRight, Nat.reduceAnd, Go.PV.fits, Go.PV.mutOf, Go.PV.splice, Int.reduceToNat, Int.reduceEq, Int.reduceAdd, Int.reduceSub, Int.reduceMul, Int.reduceLE, Int.reduceLT, Int.reduceNeg, Nat.reduceMul, Nat.reduceLeDiff, ne_eq, if_true, if_false, reduceIte, Nat.reduceEqDiff, ↓Nat.reduceLT, Nat.reduceAdd, Nat.reduceBEq, reduceCtorEq, enc_length, encs_length, tyU, tyC, tyB, tyA, tyI, tyZ, tyF, tyP, enc_getD, encs_getD, wrap_i64, enc_set, splice_one, set_last, bin_snn, bin_snm, bin_sns, bin_tnn, bin_tnm, bin_tns, enc_length, hE]
      exact fin0 (.keep _ (bel_int _ _ _)) rfl
    · simp -dsimp (maxSteps := 4000000) +contextual (disch := first | omega | decide +kernel) only [↓vsD, vsU, Bool.or_false, Bool.true_or, resW, fnRet, cond_true, cond_false, Nat.reduceShiftRight, Nat.reduceAnd, Go.PV.fits, Go.PV.mutOf, Go.PV.splice, Int.reduceToNat, Int.reduceEq, Int.reduceAdd, Int.reduceSub, Int.reduceMul, Int.reduceLE, Int.reduceLT, Int.reduceNeg, Nat.reduceMul, Nat.reduceLeDiff, ne_eq, if_true, if_false, reduceIte, Nat.reduceEqDiff, ↓Nat.reduceLT, Nat.reduceAdd, Nat.reduceBEq, reduceCtorEq, enc_length, encs_length, tyU, tyC, tyB, tyA, tyI, tyZ, tyF, tyP, enc_getD, encs_getD, wrap_i64, enc_set, splice_one, set_last, bin_snn, bin_snm, bin_sns, bin_tnn, bin_tnm, bin_tns, enc_length, hE]
      exact fin0 (.keep _ (bel_int _ _ _)) rfl
end Go.Proofs.Ythginmfobikdgaa
