/- Chapter 38, the walks: exact, Order of few functions. -/
import Derived.Test.YthginmfobikdgaaPlD
set_option linter.unusedSimpArgs false
set_option linter.unusedVariables false
namespace Go.Proofs.Ythginmfobikdgaa
open Go.PV

theorem zN : zeroCells Try.prog 1 = some [.nilf] := by kernel_rfl
theorem cN : Try.prog.cellsOf 1 = 1 := by kernel_rfl
theorem usedL_none (n : Nat) : List.replicate n [PV.bool false] = encB (usedL n []) := by
  apply List.ext_getElem?
  intro j
  by_cases hj : j < n
  · simp [encB, usedL, hj]
  · simp [encB, usedL, hj]
def bestO (sizes : List Int) (calls : List CallI) (page : Int) : List Int := (visitB (wgt sizes calls page) sizes.length sizes.length [] (none, 0)).1.getD []
set_option maxRecDepth 8000 in
set_option maxHeartbeats 8000000 in
theorem exact_w (sizes : List Int) (E : PV) (calls : List CallI) (page : Int) (hE : PV.cell E = true) (hB : Bel 0 E) (h : GoodP sizes calls page) :
    PCall Try.prog 78 [.sl (ints sizes), graphV E calls, .int .i64 page] [] (fun p _ => p = .sl (ints (bestO sizes calls page))) := by
  have h1 := h.n0
  have h2 := h.n
  unfold graphV
  refine PCall.vfrz [] 4095 19 [.tmp 6] (noE_ok _) mix Try.func78 rfl (by decide) rfl rfl (by simp) ?_
  simp -dsimp only [initFr, List.zipIdx_cons, List.zipIdx_nil, List.map_cons, List.map_nil, Nat.zero_add, Nat.reduceAdd]
  simp -dsimp (maxSteps := 4000000) +contextual (disch := first | omega | decide +kernel) only [↓vsD, vsU, Bool.or_false, Bool.true_or, resW, fnRet, cond_true, cond_false, Nat.reduceShiftRight, Nat.reduceAnd, Go.PV.fits, Go.PV.mutOf, Go.PV.splice, Int.reduceToNat, Int.reduceEq, Int.reduceAdd, Int.reduceSub, Int.reduceMul, Int.reduceLE, Int.reduceLT, Int.reduceNeg, Nat.reduceMul, Nat.reduceLeDiff, ne_eq, if_true, if_false, reduceIte, Nat.reduceEqDiff, ↓Nat.reduceLT, Nat.reduceAdd, Nat.reduceBEq, reduceCtorEq, enc_length, encs_length, tyU, tyC, tyB, tyA, tyI, tyZ, tyF, tyP, enc_getD, encs_getD, wrap_i64, enc_set, splice_one, set_last, bin_snn, bin_snm, bin_sns, bin_tnn, bin_tnm, bin_tns, enc_length, hE, aggN, undN, zN, cN, cells_func, bytesOk, lenOk]
  rw [usedL_none]
  refine PCall.mono (permute_ok sizes E calls page hE hB h sizes.length [] none none (none, 0) [] (by simp) (by simp) ⟨fun _ => rfl, fun o v t e => (by cases e), fun _ => rfl, fun o e => (by cases e), fun o v t o2 e => (by cases e)⟩
    (fun p σ' => ∃ oo' bo' Q', EX [] (visitB (wgt sizes calls page) sizes.length sizes.length [] (none, 0)) oo' bo' Q' ∧ p = .tup [] ∧ σ' = exS sizes E calls page (usedL sizes.length []) (BVof bo') (OVof oo') (visitB (wgt sizes calls page) sizes.length sizes.length [] (none, 0)).2 Q') (fun oo' bo' Q' hx' => ⟨oo', bo', Q', hx', rfl, rfl⟩)) ?_
  rintro p σ' ⟨oo', bo', Q', hx', rfl, rfl⟩
  unfold exS
  cases bo' with
  | none =>
    have hb := hx'.best0 rfl
    simp only [BVof]
    simp -dsimp (maxSteps := 4000000) +contextual (disch := first | omega | decide +kernel) only [↓vsD, vsU, Bool.or_false, Bool.true_or, resW, fnRet, cond_true, cond_false, Nat.reduceShiftRight, Nat.reduceAnd, Go.PV.fits, Go.PV.mutOf, Go.PV.splice, Int.reduceToNat, Int.reduceEq, Int.reduceAdd, Int.reduceSub, Int.reduceMul, Int.reduceLE, Int.reduceLT, Int.reduceNeg, Nat.reduceMul, Nat.reduceLeDiff, ne_eq, if_true, if_false, reduceIte, Nat.reduceEqDiff, ↓Nat.reduceLT, Nat.reduceAdd, Nat.reduceBEq, reduceCtorEq, enc_length, encs_length, tyU, tyC, tyB, tyA, tyI, tyZ, tyF, tyP, enc_getD, encs_getD, wrap_i64, enc_set, splice_one, set_last, bin_snn, bin_snm, bin_sns, bin_tnn, bin_tnm, bin_tns]
    refine fin0 .nils ?_
    rw [bestO, hb]; rfl
  | some o =>
    obtain ⟨l, hb, hQ⟩ := hx'.best o rfl
    simp only [BVof]
    simp -dsimp (maxSteps := 4000000) +contextual (disch := first | omega | decide +kernel) only [↓vsD, vsU, Bool.or_false, Bool.true_or, resW, fnRet, cond_true, cond_false, Nat.reduceShiftRight, Nat.reduceAnd, Go.PV.fits, Go.PV.mutOf, Go.PV.splice, Int.reduceToNat, Int.reduceEq, Int.reduceAdd, Int.reduceSub, Int.reduceMul, Int.reduceLE, Int.reduceLT, Int.reduceNeg, Nat.reduceMul, Nat.reduceLeDiff, ne_eq, if_true, if_false, reduceIte, Nat.reduceEqDiff, ↓Nat.reduceLT, Nat.reduceAdd, Nat.reduceBEq, reduceCtorEq, enc_length, encs_length, tyU, tyC, tyB, tyA, tyI, tyZ, tyF, tyP, enc_getD, encs_getD, wrap_i64, enc_set, splice_one, set_last, bin_snn, bin_snm, bin_sns, bin_tnn, bin_tnm, bin_tns]
    refine fin0 (Frz.msl0 (elem := 3) (sz := 1) (Nat.zero_le _) (show Q'[o]? = _ from hQ) (enc_bel _ _ _)) ?_
    rw [bestO, hb]; rfl
theorem exact_on (sizes : List Int) (E : PV) (calls : List CallI) (page : Int) (hE : PV.cell E = true) (hB : Bel 0 E) (h : GoodP sizes calls page) (σ : Store) :
    PCall Try.prog 78 [.sl (ints sizes), graphV E calls, .int .i64 page] σ (fun p σ' => p = .sl (ints (bestO sizes calls page)) ∧ σ' = σ) :=
  PCall.lift (exact_w sizes E calls page hE hB h) (by
    simp only [List.forall_mem_cons, List.not_mem_nil, false_implies, implies_true, and_true]
    exact ⟨bel_ints _ _, graphV_bel E calls hB, bel_int _ _ _⟩) (fun p h => ⟨by rw [h]; exact bel_ints _ _, h, rfl⟩)
set_option maxHeartbeats 4000000 in
theorem pOrder_w (sizes : List Int) (E : PV) (calls : List CallI) (page : Int) (hE : PV.cell E = true) (hB : Bel 0 E) (h : GoodP sizes calls page) (hn : sizes.length ≤ 7) :
    PCall Try.prog 43 [.sl (ints sizes), graphV E calls, .int .i64 page] [] (fun p _ => p = .tup [.sl (ints (bestO sizes calls page)), .int .i64 0]) := by
  have h1 := h.n0
  have h2 := h.n
  have hc := pcheck_on sizes E calls page hE hB h
  have hx := exact_on sizes E calls page hE hB h
  unfold graphV at hc hx ⊢
  refine PCall.vfrz [] 279039 27 [.tmp 6, .tmp 7] (noE_ok _) mix Try.func43 rfl (by decide) rfl rfl (by simp) ?_
  simp -dsimp only [initFr, List.zipIdx_cons, List.zipIdx_nil, List.map_cons, List.map_nil, Nat.zero_add, Nat.reduceAdd]
  simp -dsimp (maxSteps := 4000000) +contextual (disch := first | omega | decide +kernel) only [↓vsD, vsU, Bool.or_false, Bool.true_or, resW, fnRet, cond_true, cond_false, Nat.reduceShiftRight, Nat.reduceAnd, Go.PV.fits, Go.PV.mutOf, Go.PV.splice, Int.reduceToNat, Int.reduceEq, Int.reduceAdd, Int.reduceSub, Int.reduceMul, Int.reduceLE, Int.reduceLT, Int.reduceNeg, Nat.reduceMul, Nat.reduceLeDiff, ne_eq, if_true, if_false, reduceIte, Nat.reduceEqDiff, ↓Nat.reduceLT, Nat.reduceAdd, Nat.reduceBEq, reduceCtorEq, enc_length, encs_length, tyU, tyC, tyB, tyA, tyI, tyZ, tyF, tyP, enc_getD, encs_getD, wrap_i64, enc_set, splice_one, set_last, bin_snn, bin_snm, bin_sns, bin_tnn, bin_tnm, bin_tns, enc_length, hE]
  refine PCall.mono (hc _) ?_
  rintro p σ' ⟨rfl, rfl⟩
  simp -dsimp (maxSteps := 4000000) +contextual (disch := first | omega | decide +kernel) only [↓vsD, vsU, Bool.or_false, Bool.true_or, resW, fnRet, cond_true, cond_false, Nat.reduceShiftRight, Nat.reduceAnd, Go.PV.fits, Go.PV.mutOf, Go.PV.splice, Int.reduceToNat, Int.reduceEq, Int.reduceAdd, Int.reduceSub, Int.reduceMul, Int.reduceLE, Int.reduceLT, Int.reduceNeg, Nat.reduceMul, Nat.reduceLeDiff, ne_eq, if_true, if_false, reduceIte, Nat.reduceEqDiff, ↓Nat.reduceLT, Nat.reduceAdd, Nat.reduceBEq, reduceCtorEq, enc_length, encs_length, tyU, tyC, tyB, tyA, tyI, tyZ, tyF, tyP, enc_getD, encs_getD, wrap_i64, enc_set, splice_one, set_last, bin_snn, bin_snm, bin_sns, bin_tnn, bin_tnm, bin_tns, enc_length, hE]
  refine PCall.mono (hx _) ?_
  rintro p σ' ⟨rfl, rfl⟩
  simp -dsimp (maxSteps := 4000000) +contextual (disch := first | omega | decide +kernel) only [↓vsD, vsU, Bool.or_false, Bool.true_or, resW, fnRet, cond_true, cond_false, Nat.reduceShiftRight, Nat.reduceAnd, Go.PV.fits, Go.PV.mutOf, Go.PV.splice, Int.reduceToNat, Int.reduceEq, Int.reduceAdd, Int.reduceSub, Int.reduceMul, Int.reduceLE, Int.reduceLT, Int.reduceNeg, Nat.reduceMul, Nat.reduceLeDiff, ne_eq, if_true, if_false, reduceIte, Nat.reduceEqDiff, ↓Nat.reduceLT, Nat.reduceAdd, Nat.reduceBEq, reduceCtorEq, enc_length, encs_length, tyU, tyC, tyB, tyA, tyI, tyZ, tyF, tyP, enc_getD, encs_getD, wrap_i64, enc_set, splice_one, set_last, bin_snn, bin_snm, bin_sns, bin_tnn, bin_tnm, bin_tns]
  exact fin0 (.keep _ (bel_tup2 (bel_ints _ _) (bel_int _ _ _))) rfl
theorem pOrder_on (sizes : List Int) (E : PV) (calls : List CallI) (page : Int) (hE : PV.cell E = true) (hB : Bel 0 E) (h : GoodP sizes calls page) (hn : sizes.length ≤ 7) (σ : Store) :
    PCall Try.prog 43 [.sl (ints sizes), graphV E calls, .int .i64 page] σ (fun p σ' => p = .tup [.sl (ints (bestO sizes calls page)), .int .i64 0] ∧ σ' = σ) :=
  PCall.lift (pOrder_w sizes E calls page hE hB h hn) (by
    simp only [List.forall_mem_cons, List.not_mem_nil, false_implies, implies_true, and_true]
    exact ⟨bel_ints _ _, graphV_bel E calls hB, bel_int _ _ _⟩) (fun p h => ⟨by rw [h]; exact bel_tup2 (bel_ints _ _) (bel_int _ _ _), h, rfl⟩)
end Go.Proofs.Ythginmfobikdgaa
