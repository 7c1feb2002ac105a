/- Chapter 38, the walks: the law's own example. -/
import Derived.Test.YthginmfobikdgaaPlE
import Derived.Test.YthginmfobikdgaaNxA
set_option linter.unusedSimpArgs false
set_option linter.unusedVariables false
namespace Go.Proofs.Ythginmfobikdgaa
open Go.PV

theorem newC_on (l : List Int) (n : Nat) (σ : Store) : PCall Try.prog 19 [.sl (PV.encI .u8 l), .int .i64 n] σ (fun p σ' => p = .ptr σ.length 0 0 0 ∧ σ' = σ ++ [codes (l.take n) 0]) := by
  refine PCall.vraw [] 287 15 [.tmp 4] (noE_ok _) mix Try.func19 rfl (by decide) rfl rfl (by simp) ?_
  simp -dsimp only [initFr, List.zipIdx_cons, List.zipIdx_nil, List.map_cons, List.map_nil, Nat.zero_add, Nat.reduceAdd]
  simp -dsimp (maxSteps := 4000000) +contextual (disch := first | omega | decide +kernel) only [↓vsD, vsU, Bool.or_false, Bool.true_or, resW, fnRet, cond_true, cond_false, Nat.reduceShiftRight, Nat.reduceAnd, Go.PV.fits, Go.PV.mutOf, Go.PV.splice, Int.reduceToNat, Int.reduceEq, Int.reduceAdd, Int.reduceSub, Int.reduceMul, Int.reduceLE, Int.reduceLT, Int.reduceNeg, Nat.reduceMul, Nat.reduceLeDiff, ne_eq, if_true, if_false, reduceIte, Nat.reduceEqDiff, ↓Nat.reduceLT, Nat.reduceAdd, Nat.reduceBEq, reduceCtorEq, enc_length, encs_length, tyU, tyC, tyB, tyA, tyI, tyZ, tyF, tyP, enc_getD, encs_getD, wrap_i64, enc_set, splice_one, set_last, bin_snn, bin_snm, bin_sns, bin_tnn, bin_tnm, bin_tns, enc_length, enc_all, enc_take]
  exact ⟨fun h => rfl, fun h => by rw [List.take_of_length_le (show l.length ≤ n by omega)]; rfl⟩
def awC : List CallI := [⟨0, 0, 0, 2, 9⟩, ⟨0, 0, 0, 1, 1⟩]
theorem awGood : GoodP [60, 60, 60] awC 100 := by
  constructor <;> simp [awC]
theorem awBest : bestO [60, 60, 60] awC 100 = [0, 2, 1] := by decide +kernel
theorem awWgt : wgt [60, 60, 60] awC 100 [0, 2, 1] = 1 := by decide +kernel
theorem awPerm : ([0, 2, 1] : List Int).Perm (natI 3) := by decide +kernel
set_option maxHeartbeats 4000000 in
theorem awake38_ok : PCall Try.prog 38 [] [] (fun p _ => p = .bool true) := by
  have ho := pOrder_on [60, 60, 60] .nils awC 100 rfl (bel_nils _) awGood (by simp)
  have hw := pWeight_on [60, 60, 60] .nils awC 100 [0, 2, 1] rfl (bel_nils _) awGood awPerm
  rw [awBest] at ho
  rw [awWgt] at hw
  unfold graphV at ho hw
  refine PCall.vfrz [] 63 44 [.tmp 0] (noE_ok _) mix Try.func38 rfl (by decide) rfl rfl (by simp) ?_
  simp -dsimp only [initFr, List.zipIdx_cons, List.zipIdx_nil, List.map_cons, List.map_nil, Nat.zero_add, Nat.reduceAdd]
  simp -dsimp (maxSteps := 4000000) +contextual (disch := first | omega | decide +kernel) only [↓vsD, vsU, Bool.or_false, Bool.true_or, resW, fnRet, cond_true, cond_false, Nat.reduceShiftRight, Nat.reduceAnd, Go.PV.fits, Go.PV.mutOf, Go.PV.splice, Int.reduceToNat, Int.reduceEq, Int.reduceAdd, Int.reduceSub, Int.reduceMul, Int.reduceLE, Int.reduceLT, Int.reduceNeg, Nat.reduceMul, Nat.reduceLeDiff, ne_eq, if_true, if_false, reduceIte, Nat.reduceEqDiff, ↓Nat.reduceLT, Nat.reduceAdd, Nat.reduceBEq, reduceCtorEq, enc_length, encs_length, tyU, tyC, tyB, tyA, tyI, tyZ, tyF, tyP, enc_getD, encs_getD, wrap_i64, enc_set, splice_one, set_last, bin_snn, bin_snm, bin_sns, bin_tnn, bin_tnm, bin_tns]
  refine PCall.mono (ho _) ?_
  rintro p σ' ⟨rfl, rfl⟩
  simp -dsimp (maxSteps := 4000000) +contextual (disch := first | omega | decide +kernel) only [↓vsD, vsU, Bool.or_false, Bool.true_or, resW, fnRet, cond_true, cond_false, Nat.reduceShiftRight, Nat.reduceAnd, Go.PV.fits, Go.PV.mutOf, Go.PV.splice, Int.reduceToNat, Int.reduceEq, Int.reduceAdd, Int.reduceSub, Int.reduceMul, Int.reduceLE, Int.reduceLT, Int.reduceNeg, Nat.reduceMul, Nat.reduceLeDiff, ne_eq, if_true, if_false, reduceIte, Nat.reduceEqDiff, ↓Nat.reduceLT, Nat.reduceAdd, Nat.reduceBEq, reduceCtorEq, enc_length, encs_length, tyU, tyC, tyB, tyA, tyI, tyZ, tyF, tyP, enc_getD, encs_getD, wrap_i64, enc_set, splice_one, set_last, bin_snn, bin_snm, bin_sns, bin_tnn, bin_tnm, bin_tns, enc_length]
  refine PCall.mono (hw _) ?_
  rintro p σ' ⟨rfl, rfl⟩
  simp -dsimp (maxSteps := 4000000) +contextual (disch := first | omega | decide +kernel) only [↓vsD, vsU, Bool.or_false, Bool.true_or, resW, fnRet, cond_true, cond_false, Nat.reduceShiftRight, Nat.reduceAnd, Go.PV.fits, Go.PV.mutOf, Go.PV.splice, Int.reduceToNat, Int.reduceEq, Int.reduceAdd, Int.reduceSub, Int.reduceMul, Int.reduceLE, Int.reduceLT, Int.reduceNeg, Nat.reduceMul, Nat.reduceLeDiff, ne_eq, if_true, if_false, reduceIte, Nat.reduceEqDiff, ↓Nat.reduceLT, Nat.reduceAdd, Nat.reduceBEq, reduceCtorEq, enc_length, encs_length, tyU, tyC, tyB, tyA, tyI, tyZ, tyF, tyP, enc_getD, encs_getD, wrap_i64, enc_set, splice_one, set_last, bin_snn, bin_snm, bin_sns, bin_tnn, bin_tnm, bin_tns, enc_length]
  exact fin0 (.keep _ (bel_bool _ _)) rfl
theorem awake38_on (σ : Store) : PCall Try.prog 38 [] σ (fun p σ' => p = .bool true ∧ σ' = σ) :=
  PCall.lift awake38_ok (by simp) (fun p h => ⟨by rw [h]; exact bel_bool _ _, h, rfl⟩)
end Go.Proofs.Ythginmfobikdgaa
