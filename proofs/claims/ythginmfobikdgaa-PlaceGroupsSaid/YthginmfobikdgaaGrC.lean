/- Chapter 38, the walks: natural, Clone as objects; the groups. -/
import Derived.Test.YthginmfobikdgaaGrA
import Derived.Test.YthginmfobikdgaaPlD
set_option linter.unusedSimpArgs false
set_option linter.unusedVariables false
namespace Go.Proofs.Ythginmfobikdgaa
open Go.PV

theorem natural_m (n : Nat) (hn : n ≤ 1000) (σ : Store) : PCall Try.prog 72 [.int .i64 n] σ (fun p σ' => p = .msl σ.length 0 ∧ σ' = σ ++ [.rows 3 1 (ints (natI n)) 0]) := by
  refine PCall.vraw [] 1823 18 [.tmp 2] (noE_ok _) mix Try.func72 rfl (by decide) rfl rfl (by simp) ?_
  simp -dsimp only [initFr, List.zipIdx_cons, List.zipIdx_nil, List.map_cons, List.map_nil, Nat.zero_add, Nat.reduceAdd]
  simp -dsimp (maxSteps := 4000000) +contextual (disch := first | omega | decide +kernel) only [↓vsD, vsU, Bool.or_false, Bool.true_or, resW, fnRet, cond_true, cond_false, Nat.reduceShiftRight, Nat.reduceAnd, Go.PV.fits, Go.PV.mutOf, Go.PV.splice, Int.reduceToNat, Int.reduceEq, Int.reduceAdd, Int.reduceSub, Int.reduceMul, Int.reduceLE, Int.reduceLT, Int.reduceNeg, Nat.reduceMul, Nat.reduceLeDiff, ne_eq, if_true, if_false, reduceIte, Nat.reduceEqDiff, ↓Nat.reduceLT, Nat.reduceAdd, Nat.reduceBEq, reduceCtorEq, enc_length, encs_length, tyU, tyC, tyB, tyA, tyI, tyZ, tyF, tyP, enc_getD, encs_getD, wrap_i64, enc_set, splice_one, set_last, bin_snn, bin_snm, bin_sns, bin_tnn, bin_tnm, bin_tns, bytesOk, lenOk]
  refine v_loopS (fun k : Nat => [(3, .msl σ.length 0), (8, .int .i64 n), (9, .int .i64 k)]) (fun k => σ ++ [.rows 3 1 (ints (natI k ++ List.replicate (n - k) 0)) 0]) (fun k => k ≤ n) (fun k => n - k) 0 (by simp [weaker, Go.PV.look]) (by simp only [natI, List.range_zero, List.map_nil, List.nil_append, Nat.sub_zero, Int.toNat_natCast]; show _ = σ ++ [Go.PV.Obj.rows _ _ (List.map _ _) _]; rw [List.map_replicate]) (by simp) ?_
  intro k hk
  have hl : (natI k ++ List.replicate (n - k) 0).length = n := by simp [natI_length]; omega
  by_cases hkn : k < n
  · simp -dsimp (maxSteps := 4000000) +contextual (disch := first | omega | decide +kernel) only [↓vsD, vsU, Bool.or_false, Bool.true_or, resW, fnRet, cond_true, cond_false, Nat.reduceShiftRight, Nat.reduceAnd, Go.PV.fits, Go.PV.mutOf, Go.PV.splice, Int.reduceToNat, Int.reduceEq, Int.reduceAdd, Int.reduceSub, Int.reduceMul, Int.reduceLE, Int.reduceLT, Int.reduceNeg, Nat.reduceMul, Nat.reduceLeDiff, ne_eq, if_true, if_false, reduceIte, Nat.reduceEqDiff, ↓Nat.reduceLT, Nat.reduceAdd, Nat.reduceBEq, reduceCtorEq, enc_length, encs_length, tyU, tyC, tyB, tyA, tyI, tyZ, tyF, tyP, enc_getD, encs_getD, wrap_i64, enc_set, splice_one, set_last, bin_snn, bin_snm, bin_sns, bin_tnn, bin_tnm, bin_tns, enc_length, hl, gapp0, gappk, sapp0, sappk, gappn0, gappnk, sappn0, sappnk]
    refine ⟨k + 1, (by (try dsimp only); omega), (by simp [weaker, Go.PV.look]), ?_, by omega⟩
    have e : (natI k ++ List.replicate (n - k) 0).set k (k : Int) = natI (k + 1) ++ List.replicate (n - (k + 1)) 0 := by
      rw [List.set_append_right _ _ (by rw [natI_length]; exact Nat.le_refl _), natI_length, Nat.sub_self, show n - k = (n - (k + 1)) + 1 by omega, List.replicate_succ, List.set_cons_zero, natI_succ, List.append_assoc]; rfl
    rw [e]
  · have : k = n := by omega
    subst this
    simp -dsimp (maxSteps := 4000000) +contextual (disch := first | omega | decide +kernel) only [↓vsD, vsU, Bool.or_false, Bool.true_or, resW, fnRet, cond_true, cond_false, Nat.reduceShiftRight, Nat.reduceAnd, Go.PV.fits, Go.PV.mutOf, Go.PV.splice, Int.reduceToNat, Int.reduceEq, Int.reduceAdd, Int.reduceSub, Int.reduceMul, Int.reduceLE, Int.reduceLT, Int.reduceNeg, Nat.reduceMul, Nat.reduceLeDiff, ne_eq, if_true, if_false, reduceIte, Nat.reduceEqDiff, ↓Nat.reduceLT, Nat.reduceAdd, Nat.reduceBEq, reduceCtorEq, enc_length, encs_length, tyU, tyC, tyB, tyA, tyI, tyZ, tyF, tyP, enc_getD, encs_getD, wrap_i64, enc_set, splice_one, set_last, bin_snn, bin_snm, bin_sns, bin_tnn, bin_tnm, bin_tns, enc_length, hl, gapp0, gappk, sapp0, sappk, gappn0, gappnk, sappn0, sappnk]
    simp
theorem clone_sl (x : Int) (l : List Int) (hl : l.length ≤ 1000) (σ : Store) : PCall Try.prog 107 [.sl (ints (x :: l))] σ (fun p σ' => p = .msl σ.length 1 ∧ σ' = σ ++ [.rows 3 1 (ints (x :: l)) 1]) := by
  refine PCall.vraw [5] 23 8 [.tmp 2] (noE_ok _) mix Try.func107 rfl (by decide) rfl rfl (by simp) ?_
  simp -dsimp only [initFr, List.zipIdx_cons, List.zipIdx_nil, List.map_cons, List.map_nil, Nat.zero_add, Nat.reduceAdd]
  have hn : newsOk Try.prog 3 (ints (x :: l)) = true := by
    show newsOk _ _ (List.map _ _) = true
    simp [newsOk, PV.cell, tyC]
  have hc : ints (x :: l) = [.int .i64 x] :: ints l := rfl
  have hi : (ints l).length = l.length := enc_length _ _
  rw [hc] at hn ⊢
  simp -dsimp (maxSteps := 4000000) +contextual (disch := first | omega | decide +kernel) only [↓vsD, vsU, Bool.or_false, Bool.true_or, resW, fnRet, cond_true, cond_false, Nat.reduceShiftRight, Nat.reduceAnd, Go.PV.fits, Go.PV.mutOf, Go.PV.splice, Int.reduceToNat, Int.reduceEq, Int.reduceAdd, Int.reduceSub, Int.reduceMul, Int.reduceLE, Int.reduceLT, Int.reduceNeg, Nat.reduceMul, Nat.reduceLeDiff, ne_eq, if_true, if_false, reduceIte, Nat.reduceEqDiff, ↓Nat.reduceLT, Nat.reduceAdd, Nat.reduceBEq, reduceCtorEq, enc_length, encs_length, tyU, tyC, tyB, tyA, tyI, tyZ, tyF, tyP, enc_getD, encs_getD, wrap_i64, enc_set, splice_one, set_last, bin_snn, bin_snm, bin_sns, bin_tnn, bin_tnm, bin_tns, slcI, gapp0, gappk, sapp0, sappk, gappn0, gappnk, sappn0, sappnk, bytesOk, lenOk, Bool.or_false, Bool.true_or, hn, hi]

theorem clone_sl2 (l : List Int) (h0 : 0 < l.length) (hl : l.length ≤ 1000) (σ : Store) : PCall Try.prog 107 [.sl (ints l)] σ (fun p σ' => p = .msl σ.length 1 ∧ σ' = σ ++ [.rows 3 1 (ints l) 1]) := by
  cases l with
  | nil => simp at h0
  | cons x l => exact clone_sl x l (by simp at hl; omega) σ

/-! The groups: for each number its list (none, once it has been joined to another one) and its object's version. -/
abbrev Grp := List Int × Nat
def hdG (k : Nat) (g : Grp) : PV := if g.1 = [] then .nils else .msl (k + 5) g.2
def encG (gs : List Grp) : List (List PV) := gs.mapIdx fun k g => [hdG k g]
theorem encG_length (gs : List Grp) : (encG gs).length = gs.length := by simp [encG]
theorem encG_getD (gs : List Grp) (k : Nat) (h : k < gs.length) : (encG gs).getD k [] = [hdG k (gs.getD k default)] := by
  simp [encG, List.getD_eq_getElem?_getD, h]
theorem encG_set (gs : List Grp) (k : Nat) (g : Grp) : (encG gs).set k [hdG k g] = encG (gs.set k g) := by
  apply List.ext_getElem?
  intro j
  simp only [encG, List.getElem?_set, List.getElem?_mapIdx, List.length_mapIdx]
  by_cases h : k = j
  · subst h
    by_cases h2 : k < gs.length
    · simp [h2]
    · simp [h2]
  · simp [h]
def QG (gs : List Grp) (Q : Store) : Prop := ∀ k, k < gs.length → (gs.getD k default).1 ≠ [] → Q[k]? = some (.rows 3 1 (ints (gs.getD k default).1) (gs.getD k default).2)

/-! IndexFunc, of an object. -/
def fst1 (p : Int → Bool) (l : List Int) : Int := if l.findIdx p = l.length then -1 else (l.findIdx p : Int)
theorem findIdx_take (p : Int → Bool) (l : List Int) (k : Nat) (hk : k < l.length) (h : ∀ j, j < k → p (l.getD j 0) = false) (hp : p (l.getD k 0) = true) : l.findIdx p = k := by
  rw [List.findIdx_eq hk]
  refine ⟨by simpa [List.getD_eq_getElem?_getD, List.getElem?_eq_getElem hk] using hp, fun j hj => ?_⟩
  simpa [List.getD_eq_getElem?_getD, List.getElem?_eq_getElem (show j < l.length by omega)] using h j hj
theorem findIdx_none (p : Int → Bool) (l : List Int) (h : ∀ j, j < l.length → p (l.getD j 0) = false) : l.findIdx p = l.length := by
  refine List.findIdx_eq_length.2 (fun x hx => ?_)
  obtain ⟨j, hj, rfl⟩ := List.getElem_of_mem hx
  simpa [List.getD_eq_getElem?_getD, List.getElem?_eq_getElem hj] using h j hj
set_option maxHeartbeats 4000000 in
theorem indexM_ok (o v : Nat) (l : List Int) (hll : l.length < 2 ^ 40) (F : FuncId) (cap : List PV) (p : Int → Bool) (σ : Store) (ho : σ[o]? = some (.rows 3 1 (ints l) v)) (hF : ∀ x ∈ l, PCall Try.prog F (.int .i64 x :: cap) σ (fun q τ => q = .bool (p x) ∧ τ = σ)) :
    PCall Try.prog 83 [.msl o v, .func (.func F) [] cap] σ (fun q τ => q = .int .i64 (fst1 p l) ∧ τ = σ) := by
  refine PCall.vraw [] 66495 19 [.tmp 4] (noE_ok _) mix Try.func83 rfl (by decide) rfl rfl (by simp) ?_
  simp -dsimp only [initFr, List.zipIdx_cons, List.zipIdx_nil, List.map_cons, List.map_nil, Nat.zero_add, Nat.reduceAdd]
  simp -dsimp (maxSteps := 4000000) +contextual (disch := first | omega | decide +kernel) only [↓vsD, vsU, Bool.or_false, Bool.true_or, resW, fnRet, cond_true, cond_false, Nat.reduceShiftRight, Nat.reduceAnd, Go.PV.fits, Go.PV.mutOf, Go.PV.splice, Int.reduceToNat, Int.reduceEq, Int.reduceAdd, Int.reduceSub, Int.reduceMul, Int.reduceLE, Int.reduceLT, Int.reduceNeg, Nat.reduceMul, Nat.reduceLeDiff, ne_eq, if_true, if_false, reduceIte, Nat.reduceEqDiff, ↓Nat.reduceLT, Nat.reduceAdd, Nat.reduceBEq, reduceCtorEq, enc_length, encs_length, tyU, tyC, tyB, tyA, tyI, tyZ, tyF, tyP, enc_getD, encs_getD, wrap_i64, enc_set, splice_one, set_last, bin_snn, bin_snm, bin_sns, bin_tnn, bin_tnm, bin_tns, enc_length, ho]
  refine v_loopS (fun k : Nat => [(0, .msl o v), (1, .func (.func F) [] cap), (7, .int .i64 l.length), (8, .int .i64 k)]) (fun _ => σ) (fun k => k ≤ l.length ∧ ∀ j, j < k → p (l.getD j 0) = false) (fun k => l.length - k) 0 (by simp [weaker, Go.PV.look]) rfl ⟨by omega, fun j hj => by omega⟩ ?_
  rintro k ⟨hk, hp⟩
  by_cases hkl : k < l.length
  · simp -dsimp (maxSteps := 4000000) +contextual (disch := first | omega | decide +kernel) only [↓vsD, vsU, Bool.or_false, Bool.true_or, resW, fnRet, cond_true, cond_false, Nat.reduceShiftRight, Nat.reduceAnd, Go.PV.fits, Go.PV.mutOf, Go.PV.splice, Int.reduceToNat, Int.reduceEq, Int.reduceAdd, Int.reduceSub, Int.reduceMul, Int.reduceLE, Int.reduceLT, Int.reduceNeg, Nat.reduceMul, Nat.reduceLeDiff, ne_eq, if_true, if_false, reduceIte, Nat.reduceEqDiff, ↓Nat.reduceLT, Nat.reduceAdd, Nat.reduceBEq, reduceCtorEq, enc_length, encs_length, tyU, tyC, tyB, tyA, tyI, tyZ, tyF, tyP, enc_getD, encs_getD, wrap_i64, enc_set, splice_one, set_last, bin_snn, bin_snm, bin_sns, bin_tnn, bin_tnm, bin_tns, enc_length, enc_getD, ho]
    refine PCall.mono (hF (l.getD k 0) (getDm hkl)) ?_
    rintro q σ' ⟨rfl, rfl⟩
    obtain ⟨b, hb⟩ : ∃ b, p (l.getD k 0) = b := ⟨_, rfl⟩
    rw [hb]
    cases b with
    | false =>
      simp -dsimp (maxSteps := 4000000) +contextual (disch := first | omega | decide +kernel) only [↓vsD, vsU, Bool.or_false, Bool.true_or, resW, fnRet, cond_true, cond_false, Nat.reduceShiftRight, Nat.reduceAnd, Go.PV.fits, Go.PV.mutOf, Go.PV.splice, Int.reduceToNat, Int.reduceEq, Int.reduceAdd, Int.reduceSub, Int.reduceMul, Int.reduceLE, Int.reduceLT, Int.reduceNeg, Nat.reduceMul, Nat.reduceLeDiff, ne_eq, if_true, if_false, reduceIte, Nat.reduceEqDiff, ↓Nat.reduceLT, Nat.reduceAdd, Nat.reduceBEq, reduceCtorEq, enc_length, encs_length, tyU, tyC, tyB, tyA, tyI, tyZ, tyF, tyP, enc_getD, encs_getD, wrap_i64, enc_set, splice_one, set_last, bin_snn, bin_snm, bin_sns, bin_tnn, bin_tnm, bin_tns]
      refine ⟨k + 1, (by (try dsimp only); omega), (by simp [weaker, Go.PV.look]), rfl, by omega, fun j hj => ?_⟩
      rcases Nat.lt_succ_iff_lt_or_eq.1 hj with hj | rfl
      · exact hp j hj
      · exact hb
    | true =>
      have e := findIdx_take p l k hkl hp hb
      have e2 : fst1 p l = k := by rw [fst1, e, if_neg (by omega)]
      simp -dsimp (maxSteps := 4000000) +contextual (disch := first | omega | decide +kernel) only [↓vsD, vsU, Bool.or_false, Bool.true_or, resW, fnRet, cond_true, cond_false, Nat.reduceShiftRight, Nat.reduceAnd, Go.PV.fits, Go.PV.mutOf, Go.PV.splice, Int.reduceToNat, Int.reduceEq, Int.reduceAdd, Int.reduceSub, Int.reduceMul, Int.reduceLE, Int.reduceLT, Int.reduceNeg, Nat.reduceMul, Nat.reduceLeDiff, ne_eq, if_true, if_false, reduceIte, Nat.reduceEqDiff, ↓Nat.reduceLT, Nat.reduceAdd, Nat.reduceBEq, reduceCtorEq, enc_length, encs_length, tyU, tyC, tyB, tyA, tyI, tyZ, tyF, tyP, enc_getD, encs_getD, wrap_i64, enc_set, splice_one, set_last, bin_snn, bin_snm, bin_sns, bin_tnn, bin_tnm, bin_tns, e2]
  · have e2 : fst1 p l = -1 := by rw [fst1, if_pos (findIdx_none p l (fun j hj => hp j (by omega)))]
    simp -dsimp (maxSteps := 4000000) +contextual (disch := first | omega | decide +kernel) only [↓vsD, vsU, Bool.or_false, Bool.true_or, resW, fnRet, cond_true, cond_false, Nat.reduceShiftRight, Nat.reduceAnd, Go.PV.fits, Go.PV.mutOf, Go.PV.splice, Int.reduceToNat, Int.reduceEq, Int.reduceAdd, Int.reduceSub, Int.reduceMul, Int.reduceLE, Int.reduceLT, Int.reduceNeg, Nat.reduceMul, Nat.reduceLeDiff, ne_eq, if_true, if_false, reduceIte, Nat.reduceEqDiff, ↓Nat.reduceLT, Nat.reduceAdd, Nat.reduceBEq, reduceCtorEq, enc_length, encs_length, tyU, tyC, tyB, tyA, tyI, tyZ, tyF, tyP, enc_getD, encs_getD, wrap_i64, enc_set, splice_one, set_last, bin_snn, bin_snm, bin_sns, bin_tnn, bin_tnm, bin_tns, enc_length, e2]

/-! DeleteFunc. -/
theorem take_set_app {α : Type} (M : List α) (i : Nat) (x : α) (h : i < M.length) : (M.set i x).take (i + 1) = M.take i ++ [x] := by
  rw [List.take_add_one, List.take_set_of_le (Nat.le_refl _)]
  simp [h]
theorem drop_set_lt {α : Type} (M : List α) (i j : Nat) (x : α) (h : i < j) : (M.set i x).drop j = M.drop j := by
  rw [List.drop_set]
  rw [if_pos h]
theorem drop_getD (l M : List Int) (j : Nat) (hj : j < l.length) (h : M.drop j = l.drop j) : M.getD j 0 = l.getD j 0 ∧ M.drop (j + 1) = l.drop (j + 1) := by
  constructor
  · have := congrArg (fun x => x[0]?) h
    simp only [List.getElem?_drop, Nat.add_zero] at this
    rw [List.getD_eq_getElem?_getD, List.getD_eq_getElem?_getD, this]
  · have := congrArg (List.drop 1) h
    simpa [List.drop_drop, Nat.add_comm] using this
theorem filter_takeI (p : Int → Bool) (l : List Int) (k : Nat) (h : k < l.length) : (l.take (k + 1)).filter p = if p (l.getD k 0) = true then (l.take k).filter p ++ [l.getD k 0] else (l.take k).filter p := by
  rw [List.take_add_one, List.getElem?_eq_getElem h, List.filter_append, List.getD_eq_getElem?_getD, List.getElem?_eq_getElem h]
  simp only [Option.toList_some, Option.getD_some]
  split
  · rw [List.filter_cons_of_pos (by assumption)]; rfl
  · rw [List.filter_cons_of_neg (by assumption), List.filter_nil, List.append_nil]
theorem notAny (p : Int → Bool) (l : List Int) (h : l.findIdx p = l.length) : l.filter (fun x => !p x) = l := by
  rw [List.filter_eq_self]
  intro x hx
  simpa using List.findIdx_eq_length.1 h x hx
theorem takeFst (p : Int → Bool) (l : List Int) (h : l.findIdx p < l.length) : (l.take (l.findIdx p + 1)).filter (fun x => !p x) = l.take (l.findIdx p) := by
  rw [filter_takeI _ _ _ h, if_neg, List.filter_eq_self]
  · intro x hx
    obtain ⟨j, hj, rfl⟩ := List.getElem_of_mem hx
    rw [List.length_take] at hj
    have hj2 : j < l.findIdx p := by omega
    have := List.not_of_lt_findIdx hj2
    simpa using this
  · have := List.findIdx_getElem (w := h)
    simp [List.getD_eq_getElem?_getD, List.getElem?_eq_getElem h, this]
set_option maxRecDepth 8000 in
set_option maxHeartbeats 8000000 in
theorem delete_ok (o v : Nat) (l : List Int) (hll : l.length < 2 ^ 40) (F : FuncId) (cap : List PV) (p : Int → Bool) (σ : Store) (ho : σ[o]? = some (.rows 3 1 (ints l) v)) (hF : ∀ X, ∀ x ∈ l, PCall Try.prog F (.int .i64 x :: cap) (σ.set o X) (fun q τ => q = .bool (p x) ∧ τ = σ.set o X)) :
    PCall Try.prog 108 [.msl o v, .func (.func F) [] cap] σ (fun q τ => ∃ v', q = .msl o v' ∧ τ = σ.set o (.rows 3 1 (ints (l.filter fun x => !p x)) v')) := by
  have hol := (List.getElem?_eq_some_iff.1 ho).1
  have hs : ∀ X, (σ.set o X)[o]? = some X := fun X => List.getElem?_set_self hol
  have hset : σ = σ.set o (.rows 3 1 (ints l) v) := by
    obtain ⟨h1, h2⟩ := List.getElem?_eq_some_iff.1 ho
    rw [← h2]; exact List.set_getElem_self h1 |>.symm
  refine PCall.vraw [38] 537399551 42 [.tmp 4] (noE_ok _) mix Try.func108 rfl (by decide) rfl rfl (by simp) ?_
  simp -dsimp only [initFr, List.zipIdx_cons, List.zipIdx_nil, List.map_cons, List.map_nil, Nat.zero_add, Nat.reduceAdd]
  simp -dsimp (maxSteps := 4000000) +contextual (disch := first | omega | decide +kernel) only [↓vsD, vsU, Bool.or_false, Bool.true_or, resW, fnRet, cond_true, cond_false, Nat.reduceShiftRight, Nat.reduceAnd, Go.PV.fits, Go.PV.mutOf, Go.PV.splice, Int.reduceToNat, Int.reduceEq, Int.reduceAdd, Int.reduceSub, Int.reduceMul, Int.reduceLE, Int.reduceLT, Int.reduceNeg, Nat.reduceMul, Nat.reduceLeDiff, ne_eq, if_true, if_false, reduceIte, Nat.reduceEqDiff, ↓Nat.reduceLT, Nat.reduceAdd, Nat.reduceBEq, reduceCtorEq, enc_length, encs_length, tyU, tyC, tyB, tyA, tyI, tyZ, tyF, tyP, enc_getD, encs_getD, wrap_i64, enc_set, splice_one, set_last, bin_snn, bin_snm, bin_sns, bin_tnn, bin_tnm, bin_tns]
  refine PCall.mono (indexM_ok o v l hll F cap p σ ho (fun x hx => by have := hF (.rows 3 1 (ints l) v) x hx; rw [← hset] at this; exact this)) ?_
  rintro q σ' ⟨rfl, rfl⟩
  by_cases hn : l.findIdx p = l.length
  · have e2 : fst1 p l = -1 := by rw [fst1, if_pos hn]
    rw [e2]
    simp -dsimp (maxSteps := 4000000) +contextual (disch := first | omega | decide +kernel) only [↓vsD, vsU, Bool.or_false, Bool.true_or, resW, fnRet, cond_true, cond_false, Nat.reduceShiftRight, Nat.reduceAnd, Go.PV.fits, Go.PV.mutOf, Go.PV.splice, Int.reduceToNat, Int.reduceEq, Int.reduceAdd, Int.reduceSub, Int.reduceMul, Int.reduceLE, Int.reduceLT, Int.reduceNeg, Nat.reduceMul, Nat.reduceLeDiff, ne_eq, if_true, if_false, reduceIte, Nat.reduceEqDiff, ↓Nat.reduceLT, Nat.reduceAdd, Nat.reduceBEq, reduceCtorEq, enc_length, encs_length, tyU, tyC, tyB, tyA, tyI, tyZ, tyF, tyP, enc_getD, encs_getD, wrap_i64, enc_set, splice_one, set_last, bin_snn, bin_snm, bin_sns, bin_tnn, bin_tnm, bin_tns]
    rw [notAny p l hn]
    exact ⟨v, rfl, hset⟩
  · have hle := List.findIdx_le_length (p := p) (xs := l)
    obtain ⟨i0, hi0⟩ : ∃ i0, i0 = l.findIdx p := ⟨_, rfl⟩
    have e2 : fst1 p l = i0 := by rw [fst1, if_neg hn, hi0]
    have ht := takeFst p l (by omega)
    rw [← hi0] at ht hn hle
    rw [e2]
    simp -dsimp (maxSteps := 4000000) +contextual (disch := first | omega | decide +kernel) only [↓vsD, vsU, Bool.or_false, Bool.true_or, resW, fnRet, cond_true, cond_false, Nat.reduceShiftRight, Nat.reduceAnd, Go.PV.fits, Go.PV.mutOf, Go.PV.splice, Int.reduceToNat, Int.reduceEq, Int.reduceAdd, Int.reduceSub, Int.reduceMul, Int.reduceLE, Int.reduceLT, Int.reduceNeg, Nat.reduceMul, Nat.reduceLeDiff, ne_eq, if_true, if_false, reduceIte, Nat.reduceEqDiff, ↓Nat.reduceLT, Nat.reduceAdd, Nat.reduceBEq, reduceCtorEq, enc_length, encs_length, tyU, tyC, tyB, tyA, tyI, tyZ, tyF, tyP, enc_getD, encs_getD, wrap_i64, enc_set, splice_one, set_last, bin_snn, bin_snm, bin_sns, bin_tnn, bin_tnm, bin_tns]
    refine v_loopS (fun s : Nat × Nat × List Int => [(0, .msl o v), (1, .func (.func F) [] cap), (5, .int .i64 s.1), (6, .int .i64 s.2.1)]) (fun s => σ'.set o (.rows 3 1 (ints s.2.2) v)) (fun s => s.1 < s.2.1 ∧ s.2.1 ≤ l.length ∧ s.2.2.length = l.length ∧ s.2.2.take s.1 = (l.take s.2.1).filter (fun x => !p x) ∧ s.2.2.drop s.2.1 = l.drop s.2.1) (fun s => l.length - s.2.1) (i0, i0 + 1, l) (by simp [weaker, Go.PV.look]) hset ⟨by simp, by dsimp only; omega, rfl, ht.symm, rfl⟩ ?_
    rintro ⟨i, j, M⟩ ⟨hij, hj, hM, ht1, ht2⟩
    dsimp only at hij hj hM ht1 ht2 ⊢
    by_cases hjl : j < l.length
    · obtain ⟨d1, d2⟩ := drop_getD l M j hjl ht2
      have hf := filter_takeI (fun x => !p x) l j hjl
      simp -dsimp (maxSteps := 4000000) +contextual (disch := first | omega | decide +kernel) only [↓vsD, vsU, Bool.or_false, Bool.true_or, resW, fnRet, cond_true, cond_false, Nat.reduceShiftRight, Nat.reduceAnd, Go.PV.fits, Go.PV.mutOf, Go.PV.splice, Int.reduceToNat, Int.reduceEq, Int.reduceAdd, Int.reduceSub, Int.reduceMul, Int.reduceLE, Int.reduceLT, Int.reduceNeg, Nat.reduceMul, Nat.reduceLeDiff, ne_eq, if_true, if_false, reduceIte, Nat.reduceEqDiff, ↓Nat.reduceLT, Nat.reduceAdd, Nat.reduceBEq, reduceCtorEq, enc_length, encs_length, tyU, tyC, tyB, tyA, tyI, tyZ, tyF, tyP, enc_getD, encs_getD, wrap_i64, enc_set, splice_one, set_last, bin_snn, bin_snm, bin_sns, bin_tnn, bin_tnm, bin_tns, enc_length, enc_getD, hs, hM]
      refine PCall.mono (hF _ (M.getD j 0) (by rw [d1]; exact getDm hjl)) ?_
      rintro q σ'' ⟨rfl, rfl⟩
      obtain ⟨b, hb⟩ : ∃ b, p (M.getD j 0) = b := ⟨_, rfl⟩
      rw [hb]
      cases b with
      | true =>
        simp -dsimp (maxSteps := 4000000) +contextual (disch := first | omega | decide +kernel) only [↓vsD, vsU, Bool.or_false, Bool.true_or, resW, fnRet, cond_true, cond_false, Nat.reduceShiftRight, Nat.reduceAnd, Go.PV.fits, Go.PV.mutOf, Go.PV.splice, Int.reduceToNat, Int.reduceEq, Int.reduceAdd, Int.reduceSub, Int.reduceMul, Int.reduceLE, Int.reduceLT, Int.reduceNeg, Nat.reduceMul, Nat.reduceLeDiff, ne_eq, if_true, if_false, reduceIte, Nat.reduceEqDiff, ↓Nat.reduceLT, Nat.reduceAdd, Nat.reduceBEq, reduceCtorEq, enc_length, encs_length, tyU, tyC, tyB, tyA, tyI, tyZ, tyF, tyP, enc_getD, encs_getD, wrap_i64, enc_set, splice_one, set_last, bin_snn, bin_snm, bin_sns, bin_tnn, bin_tnm, bin_tns, hs]
        refine ⟨(i, j + 1, M), (by (try dsimp only); omega), (by simp [weaker, Go.PV.look]), rfl, by dsimp only; omega, by dsimp only; omega, hM, ?_, d2⟩
        rw [hf, if_neg (by rw [← d1, hb]; simp)]
        exact ht1
      | false =>
        simp -dsimp (maxSteps := 4000000) +contextual (disch := first | omega | decide +kernel) only [↓vsD, vsU, Bool.or_false, Bool.true_or, resW, fnRet, cond_true, cond_false, Nat.reduceShiftRight, Nat.reduceAnd, Go.PV.fits, Go.PV.mutOf, Go.PV.splice, Int.reduceToNat, Int.reduceEq, Int.reduceAdd, Int.reduceSub, Int.reduceMul, Int.reduceLE, Int.reduceLT, Int.reduceNeg, Nat.reduceMul, Nat.reduceLeDiff, ne_eq, if_true, if_false, reduceIte, Nat.reduceEqDiff, ↓Nat.reduceLT, Nat.reduceAdd, Nat.reduceBEq, reduceCtorEq, enc_length, encs_length, tyU, tyC, tyB, tyA, tyI, tyZ, tyF, tyP, enc_getD, encs_getD, wrap_i64, enc_set, splice_one, set_last, bin_snn, bin_snm, bin_sns, bin_tnn, bin_tnm, bin_tns, enc_length, enc_getD, hs, hM]
        refine ⟨(i + 1, j + 1, M.set i (M.getD j 0)), (by (try dsimp only); omega), (by simp [weaker, Go.PV.look]), by simp [ints, enc_set], by dsimp only; omega, by dsimp only; omega, by rw [List.length_set]; exact hM, ?_, ?_⟩
        · rw [hf, if_pos (by rw [← d1, hb]; rfl), take_set_app _ _ _ (by omega), ht1, d1]
        · dsimp only
          rw [drop_set_lt _ _ _ _ (by omega)]
          exact d2
    · have hjz : j = l.length := by omega
      subst hjz
      rw [List.take_length] at ht1
      have hall : List.all [PV.int IntKind.i64 0] PV.cell = true := rfl
      simp -dsimp (maxSteps := 4000000) +contextual (disch := first | omega | decide +kernel) only [↓vsD, vsU, Bool.or_false, Bool.true_or, resW, fnRet, cond_true, cond_false, Nat.reduceShiftRight, Nat.reduceAnd, Go.PV.fits, Go.PV.mutOf, Go.PV.splice, Int.reduceToNat, Int.reduceEq, Int.reduceAdd, Int.reduceSub, Int.reduceMul, Int.reduceLE, Int.reduceLT, Int.reduceNeg, Nat.reduceMul, Nat.reduceLeDiff, ne_eq, if_true, if_false, reduceIte, Nat.reduceEqDiff, ↓Nat.reduceLT, Nat.reduceAdd, Nat.reduceBEq, reduceCtorEq, enc_length, encs_length, tyU, tyC, tyB, tyA, tyI, tyZ, tyF, tyP, enc_getD, encs_getD, wrap_i64, enc_set, splice_one, set_last, bin_snn, bin_snm, bin_sns, bin_tnn, bin_tnm, bin_tns, enc_length, hs, hM, hall, Bool.or_false, Bool.true_or, List.set_set, List.length_append, List.length_take, List.length_replicate]
      refine ⟨v + 1, rfl, ?_⟩
      rw [List.take_append_of_le_length (by rw [List.length_take, enc_length]; omega), List.take_take, Nat.min_self, ← ints_take, ht1]
end Go.Proofs.Ythginmfobikdgaa
