/- Chapter 38, the walks: check, natural, Equal, weight, Weight. -/
import Derived.Test.YthginmfobikdgaaPlA
import Derived.Test.YthginmfobikdgaaKsD
set_option linter.unusedSimpArgs false
set_option linter.unusedVariables false
namespace Go.Proofs.Ythginmfobikdgaa
open Go.PV

def graphV (E : PV) (calls : List CallI) : PV := .agg [E, .sl (encL calls)]
set_option maxHeartbeats 4000000 in
theorem pcheck_w (sizes : List Int) (E : PV) (calls : List CallI) (page : Int) (hE : PV.cell E = true) (h : GoodP sizes calls page) :
    PCall Try.prog 68 [.sl (ints sizes), graphV E calls, .int .i64 page] [] (fun p _ => p = .int .i64 0) := by
  have h1 := h.n0
  have h2 := h.n
  have h3 := h.pg
  have h4 := h.few
  unfold graphV
  refine PCall.vfrz [] 35567702527 45 [.tmp 6] (noE_ok _) mix Try.func68 rfl (by decide) rfl rfl (by simp) ?_
  simp -dsimp only [initFr, List.zipIdx_cons, List.zipIdx_nil, List.map_cons, List.map_nil, Nat.zero_add, Nat.reduceAdd]
  simp -dsimp (maxSteps := 4000000) +contextual (disch := first | omega | decide +kernel) only [↓vsD, vsU, Bool.or_false, Bool.true_or, resW, fnRet, cond_true, cond_false, Nat.reduceShiftRight, Nat.reduceAnd, Go.PV.fits, Go.PV.mutOf, Go.PV.splice, Int.reduceToNat, Int.reduceEq, Int.reduceAdd, Int.reduceSub, Int.reduceMul, Int.reduceLE, Int.reduceLT, Int.reduceNeg, Nat.reduceMul, Nat.reduceLeDiff, ne_eq, if_true, if_false, reduceIte, Nat.reduceEqDiff, ↓Nat.reduceLT, Nat.reduceAdd, Nat.reduceBEq, reduceCtorEq, enc_length, encs_length, tyU, tyC, tyB, tyA, tyI, tyZ, tyF, tyP, enc_getD, encs_getD, wrap_i64, enc_set, splice_one, set_last, bin_snn, bin_snm, bin_sns, bin_tnn, bin_tnm, bin_tns, enc_length, hE, aggF, undF, zF, cF, cells_func]
  refine PCall.mono (pcontainsI_none sizes (by omega) _ [] _ (fun s hs => check2_ok s (h.sz s hs) _)) ?_
  rintro p σ' ⟨rfl, rfl⟩
  simp -dsimp (maxSteps := 4000000) +contextual (disch := first | omega | decide +kernel) only [↓vsD, vsU, Bool.or_false, Bool.true_or, resW, fnRet, cond_true, cond_false, Nat.reduceShiftRight, Nat.reduceAnd, Go.PV.fits, Go.PV.mutOf, Go.PV.splice, Int.reduceToNat, Int.reduceEq, Int.reduceAdd, Int.reduceSub, Int.reduceMul, Int.reduceLE, Int.reduceLT, Int.reduceNeg, Nat.reduceMul, Nat.reduceLeDiff, ne_eq, if_true, if_false, reduceIte, Nat.reduceEqDiff, ↓Nat.reduceLT, Nat.reduceAdd, Nat.reduceBEq, reduceCtorEq, enc_length, encs_length, tyU, tyC, tyB, tyA, tyI, tyZ, tyF, tyP, enc_getD, encs_getD, wrap_i64, enc_set, splice_one, set_last, bin_snn, bin_snm, bin_sns, bin_tnn, bin_tnm, bin_tns, enc_length, hE]
  refine PCall.mono (containsL_none calls (by omega) _ _ _ (fun c hc τ hτ => check3_ok c sizes.length 1 2 τ (by obtain ⟨X, rfl⟩ := hτ; rfl) (by obtain ⟨X, rfl⟩ := hτ; rfl) (h.ends c hc))) ?_
  rintro p σ' ⟨rfl, X, rfl⟩
  simp -dsimp (maxSteps := 4000000) +contextual (disch := first | omega | decide +kernel) only [↓vsD, vsU, Bool.or_false, Bool.true_or, resW, fnRet, cond_true, cond_false, Nat.reduceShiftRight, Nat.reduceAnd, Go.PV.fits, Go.PV.mutOf, Go.PV.splice, Int.reduceToNat, Int.reduceEq, Int.reduceAdd, Int.reduceSub, Int.reduceMul, Int.reduceLE, Int.reduceLT, Int.reduceNeg, Nat.reduceMul, Nat.reduceLeDiff, ne_eq, if_true, if_false, reduceIte, Nat.reduceEqDiff, ↓Nat.reduceLT, Nat.reduceAdd, Nat.reduceBEq, reduceCtorEq, enc_length, encs_length, tyU, tyC, tyB, tyA, tyI, tyZ, tyF, tyP, enc_getD, encs_getD, wrap_i64, enc_set, splice_one, set_last, bin_snn, bin_snm, bin_sns, bin_tnn, bin_tnm, bin_tns, enc_length, encL_length, hE]
  refine PCall.mono (containsL_none calls (by omega) _ _ _ (fun c hc τ hτ => check4_ok c τ (h.cnt c hc))) ?_
  rintro p σ' ⟨rfl, X, rfl⟩
  simp -dsimp (maxSteps := 4000000) +contextual (disch := first | omega | decide +kernel) only [↓vsD, vsU, Bool.or_false, Bool.true_or, resW, fnRet, cond_true, cond_false, Nat.reduceShiftRight, Nat.reduceAnd, Go.PV.fits, Go.PV.mutOf, Go.PV.splice, Int.reduceToNat, Int.reduceEq, Int.reduceAdd, Int.reduceSub, Int.reduceMul, Int.reduceLE, Int.reduceLT, Int.reduceNeg, Nat.reduceMul, Nat.reduceLeDiff, ne_eq, if_true, if_false, reduceIte, Nat.reduceEqDiff, ↓Nat.reduceLT, Nat.reduceAdd, Nat.reduceBEq, reduceCtorEq, enc_length, encs_length, tyU, tyC, tyB, tyA, tyI, tyZ, tyF, tyP, enc_getD, encs_getD, wrap_i64, enc_set, splice_one, set_last, bin_snn, bin_snm, bin_sns, bin_tnn, bin_tnm, bin_tns, enc_length, hE]
  exact fin0 (.keep _ (bel_int _ _ _)) rfl
theorem pcheck_on (sizes : List Int) (E : PV) (calls : List CallI) (page : Int) (hE : PV.cell E = true) (hB : Bel 0 E) (h : GoodP sizes calls page) (σ : Store) :
    PCall Try.prog 68 [.sl (ints sizes), graphV E calls, .int .i64 page] σ (fun p σ' => p = .int .i64 0 ∧ σ' = σ) :=
  PCall.lift (pcheck_w sizes E calls page hE h) (by
    simp only [List.forall_mem_cons, List.not_mem_nil, false_implies, implies_true, and_true]
    refine ⟨bel_ints _ _, bel_agg (fun p hp => ?_), bel_int _ _ _⟩
    simp only [List.mem_cons, List.not_mem_nil, or_false] at hp
    rcases hp with rfl | rfl
    · exact hB
    · exact bel_sl (encL_bel _ _)) (fun p h => ⟨by rw [h]; exact bel_int _ _ _, h, rfl⟩)

def natI (n : Nat) : List Int := (List.range n).map fun i : Nat => (i : Int)
theorem natI_length (n : Nat) : (natI n).length = n := by simp [natI]
theorem natI_succ (n : Nat) : natI (n + 1) = natI n ++ [(n : Int)] := by simp [natI, List.range_succ]
theorem natural_w (n : Nat) (hn : n ≤ 1000) : PCall Try.prog 72 [.int .i64 n] [] (fun p _ => p = .sl (ints (natI n))) := by
  refine PCall.vfrz [] 1823 18 [.tmp 2] (noE_ok _) mix Try.func72 rfl (by decide) rfl rfl (by simp) ?_
  simp -dsimp only [initFr, List.zipIdx_cons, List.zipIdx_nil, List.map_cons, List.map_nil, Nat.zero_add, Nat.reduceAdd]
  simp -dsimp (maxSteps := 4000000) +contextual (disch := first | omega | decide +kernel) only [↓vsD, vsU, Bool.or_false, Bool.true_or, resW, fnRet, cond_true, cond_false, Nat.reduceShiftRight, Nat.reduceAnd, Go.PV.fits, Go.PV.mutOf, Go.PV.splice, Int.reduceToNat, Int.reduceEq, Int.reduceAdd, Int.reduceSub, Int.reduceMul, Int.reduceLE, Int.reduceLT, Int.reduceNeg, Nat.reduceMul, Nat.reduceLeDiff, ne_eq, if_true, if_false, reduceIte, Nat.reduceEqDiff, ↓Nat.reduceLT, Nat.reduceAdd, Nat.reduceBEq, reduceCtorEq, enc_length, encs_length, tyU, tyC, tyB, tyA, tyI, tyZ, tyF, tyP, enc_getD, encs_getD, wrap_i64, enc_set, splice_one, set_last, bin_snn, bin_snm, bin_sns, bin_tnn, bin_tnm, bin_tns, bytesOk, lenOk]
  refine v_loopS (fun k : Nat => [(3, .msl 0 0), (8, .int .i64 n), (9, .int .i64 k)]) (fun k => [.rows 3 1 (ints (natI k ++ List.replicate (n - k) 0)) 0]) (fun k => k ≤ n) (fun k => n - k) 0 (by simp [weaker, Go.PV.look]) (by simp only [natI, List.range_zero, List.map_nil, List.nil_append, Nat.sub_zero, Int.toNat_natCast]; show _ = [Go.PV.Obj.rows _ _ (List.map _ _) _]; rw [List.map_replicate]) (by simp) ?_
  intro k hk
  have hl : (natI k ++ List.replicate (n - k) 0).length = n := by simp [natI_length]; omega
  by_cases hkn : k < n
  · simp -dsimp (maxSteps := 4000000) +contextual (disch := first | omega | decide +kernel) only [↓vsD, vsU, Bool.or_false, Bool.true_or, resW, fnRet, cond_true, cond_false, Nat.reduceShiftRight, Nat.reduceAnd, Go.PV.fits, Go.PV.mutOf, Go.PV.splice, Int.reduceToNat, Int.reduceEq, Int.reduceAdd, Int.reduceSub, Int.reduceMul, Int.reduceLE, Int.reduceLT, Int.reduceNeg, Nat.reduceMul, Nat.reduceLeDiff, ne_eq, if_true, if_false, reduceIte, Nat.reduceEqDiff, ↓Nat.reduceLT, Nat.reduceAdd, Nat.reduceBEq, reduceCtorEq, enc_length, encs_length, tyU, tyC, tyB, tyA, tyI, tyZ, tyF, tyP, enc_getD, encs_getD, wrap_i64, enc_set, splice_one, set_last, bin_snn, bin_snm, bin_sns, bin_tnn, bin_tnm, bin_tns, enc_length, hl]
    refine ⟨k + 1, (by (try dsimp only); omega), (by simp [weaker, Go.PV.look]), ?_, by omega⟩
    have e : (natI k ++ List.replicate (n - k) 0).set k (k : Int) = natI (k + 1) ++ List.replicate (n - (k + 1)) 0 := by
      rw [List.set_append_right _ _ (by rw [natI_length]; exact Nat.le_refl _), natI_length, Nat.sub_self, show n - k = (n - (k + 1)) + 1 by omega, List.replicate_succ, List.set_cons_zero, natI_succ, List.append_assoc]; rfl
    rw [e]
  · have : k = n := by omega
    subst this
    simp -dsimp (maxSteps := 4000000) +contextual (disch := first | omega | decide +kernel) only [↓vsD, vsU, Bool.or_false, Bool.true_or, resW, fnRet, cond_true, cond_false, Nat.reduceShiftRight, Nat.reduceAnd, Go.PV.fits, Go.PV.mutOf, Go.PV.splice, Int.reduceToNat, Int.reduceEq, Int.reduceAdd, Int.reduceSub, Int.reduceMul, Int.reduceLE, Int.reduceLT, Int.reduceNeg, Nat.reduceMul, Nat.reduceLeDiff, ne_eq, if_true, if_false, reduceIte, Nat.reduceEqDiff, ↓Nat.reduceLT, Nat.reduceAdd, Nat.reduceBEq, reduceCtorEq, enc_length, encs_length, tyU, tyC, tyB, tyA, tyI, tyZ, tyF, tyP, enc_getD, encs_getD, wrap_i64, enc_set, splice_one, set_last, bin_snn, bin_snm, bin_sns, bin_tnn, bin_tnm, bin_tns, enc_length, hl]
    refine fin0 (Frz.msl0 (elem := 3) (sz := 1) (Nat.zero_le _) rfl (enc_bel _ _ _)) ?_
    simp
theorem natural_on (n : Nat) (hn : n ≤ 1000) (σ : Store) : PCall Try.prog 72 [.int .i64 n] σ (fun p σ' => p = .sl (ints (natI n)) ∧ σ' = σ) :=
  PCall.lift (natural_w n hn) (by simp only [List.forall_mem_cons, List.not_mem_nil, false_implies, implies_true, and_true]; exact bel_int _ _ _) (fun p h => ⟨by rw [h]; exact bel_ints _ _, h, rfl⟩)
theorem equal_same (a : List Int) (ha : a.length < 2 ^ 40) (σ : Store) : PCall Try.prog 69 [.sl (ints a), .sl (ints a)] σ (fun p σ' => p = .bool true ∧ σ' = σ) := by
  refine PCall.vraw [] 16806975 26 [.tmp 4] (noE_ok _) mix Try.func69 rfl (by decide) rfl rfl (by simp) ?_
  simp -dsimp only [initFr, List.zipIdx_cons, List.zipIdx_nil, List.map_cons, List.map_nil, Nat.zero_add, Nat.reduceAdd]
  simp -dsimp (maxSteps := 4000000) +contextual (disch := first | omega | decide +kernel) only [↓vsD, vsU, Bool.or_false, Bool.true_or, resW, fnRet, cond_true, cond_false, Nat.reduceShiftRight, Nat.reduceAnd, Go.PV.fits, Go.PV.mutOf, Go.PV.splice, Int.reduceToNat, Int.reduceEq, Int.reduceAdd, Int.reduceSub, Int.reduceMul, Int.reduceLE, Int.reduceLT, Int.reduceNeg, Nat.reduceMul, Nat.reduceLeDiff, ne_eq, if_true, if_false, reduceIte, Nat.reduceEqDiff, ↓Nat.reduceLT, Nat.reduceAdd, Nat.reduceBEq, reduceCtorEq, enc_length, encs_length, tyU, tyC, tyB, tyA, tyI, tyZ, tyF, tyP, enc_getD, encs_getD, wrap_i64, enc_set, splice_one, set_last, bin_snn, bin_snm, bin_sns, bin_tnn, bin_tnm, bin_tns, enc_length]
  refine v_loopS (fun i : Nat => [(0, .sl (ints a)), (1, .sl (ints a)), (12, .int .i64 a.length), (13, .int .i64 i)]) (fun _ => σ) (fun i => i ≤ a.length) (fun i => a.length - i) 0 (by simp [weaker, Go.PV.look]) rfl (by omega) ?_
  intro i hi
  by_cases hil : i < a.length
  · simp -dsimp (maxSteps := 4000000) +contextual (disch := first | omega | decide +kernel) only [↓vsD, vsU, Bool.or_false, Bool.true_or, resW, fnRet, cond_true, cond_false, Nat.reduceShiftRight, Nat.reduceAnd, Go.PV.fits, Go.PV.mutOf, Go.PV.splice, Int.reduceToNat, Int.reduceEq, Int.reduceAdd, Int.reduceSub, Int.reduceMul, Int.reduceLE, Int.reduceLT, Int.reduceNeg, Nat.reduceMul, Nat.reduceLeDiff, ne_eq, if_true, if_false, reduceIte, Nat.reduceEqDiff, ↓Nat.reduceLT, Nat.reduceAdd, Nat.reduceBEq, reduceCtorEq, enc_length, encs_length, tyU, tyC, tyB, tyA, tyI, tyZ, tyF, tyP, enc_getD, encs_getD, wrap_i64, enc_set, splice_one, set_last, bin_snn, bin_snm, bin_sns, bin_tnn, bin_tnm, bin_tns, enc_length]
    exact ⟨i + 1, (by (try dsimp only); omega), (by simp [weaker, Go.PV.look]), rfl, by omega⟩
  · simp -dsimp (maxSteps := 4000000) +contextual (disch := first | omega | decide +kernel) only [↓vsD, vsU, Bool.or_false, Bool.true_or, resW, fnRet, cond_true, cond_false, Nat.reduceShiftRight, Nat.reduceAnd, Go.PV.fits, Go.PV.mutOf, Go.PV.splice, Int.reduceToNat, Int.reduceEq, Int.reduceAdd, Int.reduceSub, Int.reduceMul, Int.reduceLE, Int.reduceLT, Int.reduceNeg, Nat.reduceMul, Nat.reduceLeDiff, ne_eq, if_true, if_false, reduceIte, Nat.reduceEqDiff, ↓Nat.reduceLT, Nat.reduceAdd, Nat.reduceBEq, reduceCtorEq, enc_length, encs_length, tyU, tyC, tyB, tyA, tyI, tyZ, tyF, tyP, enc_getD, encs_getD, wrap_i64, enc_set, splice_one, set_last, bin_snn, bin_snm, bin_sns, bin_tnn, bin_tnm, bin_tns, enc_length]
theorem values_ok (X : PV) (hX : PV.cell X = true) (hc : cellsV X = some [X]) (σ : Store) : PCall Try.prog 71 [X] σ (fun p σ' => p = .func (.func 106) [] [.ptr σ.length 0 0 0] ∧ σ' = σ ++ [.rows 40 1 [[X]] 0]) := by
  refine PCall.vraw [] 7 4 [.tmp 2] (noE_ok _) mix Try.func71 rfl (by decide) rfl rfl (by simp) ?_
  simp -dsimp only [initFr, List.zipIdx_cons, List.zipIdx_nil, List.map_cons, List.map_nil, Nat.zero_add, Nat.reduceAdd]
  simp -dsimp (maxSteps := 4000000) +contextual (disch := first | omega | decide +kernel) only [↓vsD, vsU, Bool.or_false, Bool.true_or, resW, fnRet, cond_true, cond_false, Nat.reduceShiftRight, Nat.reduceAnd, Go.PV.fits, Go.PV.mutOf, Go.PV.splice, Int.reduceToNat, Int.reduceEq, Int.reduceAdd, Int.reduceSub, Int.reduceMul, Int.reduceLE, Int.reduceLT, Int.reduceNeg, Nat.reduceMul, Nat.reduceLeDiff, ne_eq, if_true, if_false, reduceIte, Nat.reduceEqDiff, ↓Nat.reduceLT, Nat.reduceAdd, Nat.reduceBEq, reduceCtorEq, enc_length, encs_length, tyU, tyC, tyB, tyA, tyI, tyZ, tyF, tyP, enc_getD, encs_getD, wrap_i64, enc_set, splice_one, set_last, bin_snn, bin_snm, bin_sns, bin_tnn, bin_tnm, bin_tns, hX, hc]
end Go.Proofs.Ythginmfobikdgaa
