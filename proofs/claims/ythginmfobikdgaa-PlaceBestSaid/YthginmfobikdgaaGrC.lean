/- Chapter 38, the walks: natural, Clone as objects; the groups. -/
import Derived.Test.YthginmfobikdgaaGrB
import Derived.Test.YthginmfobikdgaaPlD
set_option linter.unusedSimpArgs false
set_option linter.unusedVariables false
namespace Go.Proofs.Ythginmfobikdgaa
open Go.PV

theorem natural_m (n : Nat) (hn : n ≤ 1000) (σ : Store) : PCall Try.prog 72 [.int .i64 n] σ (fun p σ' => p = .msl σ.length 0 ∧ σ' = σ ++ [.rows 3 1 (ints (natI n)) 0]) := by
  refine PCall.vraw [] 1823 18 [.tmp 2] (noE_ok _) mix Try.func72 rfl (by decide) rfl rfl (by simp) ?_
  simp -dsimp only [initFr, List.zipIdx_cons, List.zipIdx_nil, List.map_cons, List.map_nil, Nat.zero_add, Nat.reduceAdd]
  simp -dsimp (maxSteps := 4000000) +contextual (disch := first | omega | decide +kernel) only [↓vsD, vsU, resW, fnRet, cond_true, cond_false, Nat.reduceShiftRight, Nat.reduceAnd, Go.PV.fits, Go.PV.mutOf, Go.PV.splice, Int.reduceToNat, Int.reduceEq, Int.reduceAdd, Int.reduceSub, Int.reduceMul, Int.reduceLE, Int.reduceLT, Int.reduceNeg, Nat.reduceMul, Nat.reduceLeDiff, ne_eq, if_true, if_false, reduceIte, Nat.reduceEqDiff, ↓Nat.reduceLT, Nat.reduceAdd, Nat.reduceBEq, reduceCtorEq, enc_length, encs_length, tyU, tyC, tyB, tyA, tyI, tyZ, tyF, tyP, enc_getD, encs_getD, wrap_i64, enc_set, splice_one, set_last, bin_snn, bin_snm, bin_sns, bin_tnn, bin_tnm, bin_tns, bytesOk, lenOk]
  refine v_loopS (fun k : Nat => [(3, .msl σ.length 0), (8, .int .i64 n), (9, .int .i64 k)]) (fun k => σ ++ [.rows 3 1 (ints (natI k ++ List.replicate (n - k) 0)) 0]) (fun k => k ≤ n) (fun k => n - k) 0 (by simp [weaker, Go.PV.look]) (by simp only [natI, List.range_zero, List.map_nil, List.nil_append, Nat.sub_zero, Int.toNat_natCast]; show _ = σ ++ [Go.PV.Obj.rows _ _ (List.map _ _) _]; rw [List.map_replicate]) (by simp) ?_
  intro k hk
  have hl : (natI k ++ List.replicate (n - k) 0).length = n := by simp [natI_length]; omega
  by_cases hkn : k < n
  · simp -dsimp (maxSteps := 4000000) +contextual (disch := first | omega | decide +kernel) only [↓vsD, vsU, resW, fnRet, cond_true, cond_false, Nat.reduceShiftRight, Nat.reduceAnd, Go.PV.fits, Go.PV.mutOf, Go.PV.splice, Int.reduceToNat, Int.reduceEq, Int.reduceAdd, Int.reduceSub, Int.reduceMul, Int.reduceLE, Int.reduceLT, Int.reduceNeg, Nat.reduceMul, Nat.reduceLeDiff, ne_eq, if_true, if_false, reduceIte, Nat.reduceEqDiff, ↓Nat.reduceLT, Nat.reduceAdd, Nat.reduceBEq, reduceCtorEq, enc_length, encs_length, tyU, tyC, tyB, tyA, tyI, tyZ, tyF, tyP, enc_getD, encs_getD, wrap_i64, enc_set, splice_one, set_last, bin_snn, bin_snm, bin_sns, bin_tnn, bin_tnm, bin_tns, enc_length, hl, gapp0, gappk, sapp0, sappk, gappn0, gappnk, sappn0, sappnk]
    refine ⟨k + 1, (by (try dsimp only); omega), (by simp [weaker, Go.PV.look]), ?_, by omega⟩
    have e : (natI k ++ List.replicate (n - k) 0).set k (k : Int) = natI (k + 1) ++ List.replicate (n - (k + 1)) 0 := by
      rw [List.set_append_right _ _ (by rw [natI_length]; exact Nat.le_refl _), natI_length, Nat.sub_self, show n - k = (n - (k + 1)) + 1 by omega, List.replicate_succ, List.set_cons_zero, natI_succ, List.append_assoc]; rfl
    rw [e]
  · have : k = n := by omega
    subst this
    simp -dsimp (maxSteps := 4000000) +contextual (disch := first | omega | decide +kernel) only [↓vsD, vsU, resW, fnRet, cond_true, cond_false, Nat.reduceShiftRight, Nat.reduceAnd, Go.PV.fits, Go.PV.mutOf, Go.PV.splice, Int.reduceToNat, Int.reduceEq, Int.reduceAdd, Int.reduceSub, Int.reduceMul, Int.reduceLE, Int.reduceLT, Int.reduceNeg, Nat.reduceMul, Nat.reduceLeDiff, ne_eq, if_true, if_false, reduceIte, Nat.reduceEqDiff, ↓Nat.reduceLT, Nat.reduceAdd, Nat.reduceBEq, reduceCtorEq, enc_length, encs_length, tyU, tyC, tyB, tyA, tyI, tyZ, tyF, tyP, enc_getD, encs_getD, wrap_i64, enc_set, splice_one, set_last, bin_snn, bin_snm, bin_sns, bin_tnn, bin_tnm, bin_tns, enc_length, hl, gapp0, gappk, sapp0, sappk, gappn0, gappnk, sappn0, sappnk]
    simp
theorem clone_sl (x : Int) (l : List Int) (hl : l.length ≤ 1000) (σ : Store) : PCall Try.prog 107 [.sl (ints (x :: l))] σ (fun p σ' => p = .msl σ.length 1 ∧ σ' = σ ++ [.rows 3 1 (ints (x :: l)) 1]) := by
  refine PCall.vraw [5] 23 8 [.tmp 2] (noE_ok _) mix Try.func107 rfl (by decide) rfl rfl (by simp) ?_
  simp -dsimp only [initFr, List.zipIdx_cons, List.zipIdx_nil, List.map_cons, List.map_nil, Nat.zero_add, Nat.reduceAdd]
  have hn : newsOk Try.prog 3 (ints (x :: l)) = true := by
    show newsOk _ _ (List.map _ _) = true
    simp [newsOk, PV.cell, tyC]
  have hc : ints (x :: l) = [.int .i64 x] :: ints l := rfl
  have hi : (ints l).length = l.length := enc_length _ _
  rw [hc] at hn ⊢
  simp -dsimp (maxSteps := 4000000) +contextual (disch := first | omega | decide +kernel) only [↓vsD, vsU, resW, fnRet, cond_true, cond_false, Nat.reduceShiftRight, Nat.reduceAnd, Go.PV.fits, Go.PV.mutOf, Go.PV.splice, Int.reduceToNat, Int.reduceEq, Int.reduceAdd, Int.reduceSub, Int.reduceMul, Int.reduceLE, Int.reduceLT, Int.reduceNeg, Nat.reduceMul, Nat.reduceLeDiff, ne_eq, if_true, if_false, reduceIte, Nat.reduceEqDiff, ↓Nat.reduceLT, Nat.reduceAdd, Nat.reduceBEq, reduceCtorEq, enc_length, encs_length, tyU, tyC, tyB, tyA, tyI, tyZ, tyF, tyP, enc_getD, encs_getD, wrap_i64, enc_set, splice_one, set_last, bin_snn, bin_snm, bin_sns, bin_tnn, bin_tnm, bin_tns, slcI, gapp0, gappk, sapp0, sappk, gappn0, gappnk, sappn0, sappnk, bytesOk, lenOk, Bool.or_false, Bool.true_or, hn, hi]

theorem clone_sl2 (l : List Int) (h0 : 0 < l.length) (hl : l.length ≤ 1000) (σ : Store) : PCall Try.prog 107 [.sl (ints l)] σ (fun p σ' => p = .msl σ.length 1 ∧ σ' = σ ++ [.rows 3 1 (ints l) 1]) := by
  cases l with
  | nil => simp at h0
  | cons x l => exact clone_sl x l (by simp at hl; omega) σ

/-! The groups: for each number its list (none, once it has been joined to another one) and its object's version. -/
abbrev Grp := List Int × Nat
def hdG (k : Nat) (g : Grp) : PV := if g.1 = [] then .nils else .msl (k + 5) g.2
def encG (gs : List Grp) : List (List PV) := gs.mapIdx fun k g => [hdG k g]
theorem encG_length (gs : List Grp) : (encG gs).length = gs.length := by simp [encG]
theorem encG_getD (gs : List Grp) (k : Nat) (h : k < gs.length) : (encG gs).getD k [] = [hdG k (gs.getD k default)] := by
  simp [encG, List.getD_eq_getElem?_getD, h]
theorem encG_set (gs : List Grp) (k : Nat) (g : Grp) : (encG gs).set k [hdG k g] = encG (gs.set k g) := by
  apply List.ext_getElem?
  intro j
  simp only [encG, List.getElem?_set, List.getElem?_mapIdx, List.length_mapIdx]
  by_cases h : k = j
  · subst h
    by_cases h2 : k < gs.length
    · simp [h2]
    · simp [h2]
  · simp [h]
def QG (gs : List Grp) (Q : Store) : Prop := ∀ k, k < gs.length → (gs.getD k default).1 ≠ [] → Q[k]? = some (.rows 3 1 (ints (gs.getD k default).1) (gs.getD k default).2)
end Go.Proofs.Ythginmfobikdgaa
