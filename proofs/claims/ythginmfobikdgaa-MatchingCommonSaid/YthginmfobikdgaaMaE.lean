/- Chapter 28, the walks: the law's sanity check, small, rank. -/
import Derived.Test.YthginmfobikdgaaMaD
set_option linter.unusedSimpArgs false
namespace Go.Proofs.Ythginmfobikdgaa
open Go.PV

theorem awake_prefs : okPrefs [[0, 1], [0]] [[1, 0], [0]] := by
  refine ⟨by decide, by decide, fun li h => ?_, fun li h => ?_⟩ <;> simp at h <;> rcases h with rfl | rfl <;> exact ⟨by decide, by decide⟩
theorem awake_only (m : List Int) (h : Stab [[0, 1], [0]] [[1, 0], [0]] m) : m = [1, 0] := by
  obtain ⟨hm, hb⟩ := h
  have hlen := hm.len
  match m, hlen with
  | [a, b], _ =>
    have h0 := hm.ok 0 (by decide)
    have h1 := hm.ok 1 (by decide)
    have hi := hm.inj 0 1 (by decide) (by decide)
    simp at h0 h1 hi
    have hb1 : b = 0 := by
      rcases h1 with h1 | ⟨j, h1, h2, h3, h4⟩
      · refine absurd ?_ (hb 1 0)
        refine ⟨by decide, by decide, by decide, by decide, .inl (by simpa using h1), fun i' hi' he => ?_⟩
        match i', hi' with
        | 0, _ => decide
        | 1, _ => simp at he; omega
      · rw [h1]; omega
    have ha1 : a = 1 := by
      rcases h0 with h0 | ⟨j, h0, h2, h3, h4⟩
      · refine absurd ?_ (hb 0 1)
        refine ⟨by decide, by decide, by decide, by decide, .inl (by simpa using h0), fun i' hi' he => ?_⟩
        match i', hi' with
        | 0, _ => simp at he; omega
        | 1, _ => simp at he; omega
      · have hj : a ≠ 0 := fun e => by
          have := hi (by rw [e, hb1])
          omega
        omega
    rw [ha1, hb1]

theorem u_errno : Try.prog.underlying 52 = some (.int .i64) := by kernel_rfl

set_option maxHeartbeats 4000000 in
theorem awake_ok : PCall Try.prog 15 [] [] (fun p _ => p = .bool true) := by
  refine PCall.walk [] mix Try.func15 rfl (by decide) (by simp [Try.f15]) fun Q hQ => ?_
  simp only [Try.f15, List.toList_toArray] at hQ
  simp only [Try.f15, initFr, List.zipIdx_cons, List.zipIdx_nil, List.map_cons, List.map_nil, Nat.zero_add, Nat.reduceAdd]
  simp only [pk_nil, pk_skip, pk_seq, pk_block, pk_region, pk_cond, pk_exit, pk_endB, pk_again, pk_ret, pe_nil, pe_code, pe_again, pe_endB, po_nil, po_cons, pog_true, pog_false, por_val, por_call, pc_bool, Go.PV.guardP, Go.PV.fits, Go.PV.putF, Go.PV.setF, Go.PV.look, Go.PV.evO, Go.PV.ofVal, Go.PV.mutOf, List.contains_nil, List.contains_cons, evC, pickC, nilC, binC, intC, isShift, shiftC, strC, boolC, unC, convC, extC, fieldC, fieldAddrC, idxC, indexC, loadC, lenC, maxC, minC, allocC, boxC, storeC, makeC, sliceC, buildC, buildSliceC, appTC, appC, rowsC, callC, builtinC, Option.isSome_some, Int.reduceToNat, Int.reduceEq, Int.reduceAdd, Int.reduceSub, Int.reduceMul, List.getD_cons_zero, List.getD_cons_succ, Int.reduceLE, Int.reduceLT, Int.reduceNeg, Bool.and_self, Bool.true_and, Bool.and_true, Nat.reduceMul, Int.cast_ofNat_Int, decide_true, decide_false, beq_self_eq_true, Bool.true_beq, Bool.false_beq, Nat.le_refl, Nat.reduceLeDiff, List.length_cons, List.length_nil, ne_eq, not_false_eq_true, Nat.succ_ne_self, Nat.one_ne_zero, true_and, and_true, if_true, if_false, Bool.false_eq_true, reduceIte, Nat.reduceEqDiff, ↓Nat.reduceLT, Nat.reduceAdd, Nat.reduceBEq, reduceCtorEq, Bool.not_true, Bool.not_false, Bool.true_eq_false, decide_eq_true_eq, Option.bind_some, Option.bind_none, List.toList_toArray, List.getElem?_toArray, List.getElem?_cons_zero, List.getElem?_cons_succ, List.map_cons, List.map_nil, Option.map_some, Option.map_none, u_ints, u_intss, z_int, c_int, z_ints, c_ints, rowsP, cellsV, PV.cell]
  refine PCall.use (stable_ok [[0, 1], [0]] [[1, 0], [0]] ⟨by decide, by decide⟩ ⟨by decide, by decide⟩) (FrzL.cons (.keep _ (bel_intss 0 [[0, 1], [0]])) (FrzL.cons (.keep _ (bel_intss 0 [[1, 0], [0]])) (FrzL.nil _))) ?_
  rintro r (⟨_, m, hm, rfl⟩ | ⟨hno, _⟩)
  · rw [awake_only m hm.1]
    refine ⟨bel_tup2 (bel_ints _ _) (bel_int _ _ _), ?_⟩
    simp only [pk_nil, pk_skip, pk_seq, pk_block, pk_region, pk_cond, pk_exit, pk_endB, pk_again, pk_ret, pe_nil, pe_code, pe_again, pe_endB, po_nil, po_cons, pog_true, pog_false, por_val, por_call, pc_bool, Go.PV.guardP, Go.PV.fits, Go.PV.putF, Go.PV.setF, Go.PV.look, Go.PV.evO, Go.PV.ofVal, Go.PV.mutOf, List.contains_nil, List.contains_cons, evC, pickC, nilC, binC, intC, isShift, shiftC, strC, boolC, unC, convC, extC, fieldC, fieldAddrC, idxC, indexC, loadC, lenC, maxC, minC, allocC, boxC, storeC, makeC, sliceC, buildC, buildSliceC, appTC, appC, rowsC, callC, builtinC, Option.isSome_some, Int.reduceToNat, Int.reduceEq, Int.reduceAdd, Int.reduceSub, Int.reduceMul, List.getD_cons_zero, List.getD_cons_succ, Int.reduceLE, Int.reduceLT, Int.reduceNeg, Bool.and_self, Bool.true_and, Bool.and_true, Nat.reduceMul, Int.cast_ofNat_Int, decide_true, decide_false, beq_self_eq_true, Bool.true_beq, Bool.false_beq, Nat.le_refl, Nat.reduceLeDiff, List.length_cons, List.length_nil, ne_eq, not_false_eq_true, Nat.succ_ne_self, Nat.one_ne_zero, true_and, and_true, if_true, if_false, Bool.false_eq_true, reduceIte, Nat.reduceEqDiff, ↓Nat.reduceLT, Nat.reduceAdd, Nat.reduceBEq, reduceCtorEq, Bool.not_true, Bool.not_false, Bool.true_eq_false, decide_eq_true_eq, Option.bind_some, Option.bind_none, List.toList_toArray, List.getElem?_toArray, List.getElem?_cons_zero, List.getElem?_cons_succ, List.map_cons, List.map_nil, Option.map_some, Option.map_none, u_ints, c_int, enc_length, encI, List.getD_cons_zero, List.getD_cons_succ, loadV_int, loadOk_int]
    refine (hQ _ _ ?_).1
    simp only [resW, pk_nil, pk_skip, pk_seq, pk_block, pk_region, pk_cond, pk_exit, pk_endB, pk_again, pk_ret, pe_nil, pe_code, pe_again, pe_endB, po_nil, po_cons, pog_true, pog_false, por_val, por_call, pc_bool, Go.PV.guardP, Go.PV.fits, Go.PV.putF, Go.PV.setF, Go.PV.look, Go.PV.evO, Go.PV.ofVal, Go.PV.mutOf, List.contains_nil, List.contains_cons, evC, pickC, nilC, binC, intC, isShift, shiftC, strC, boolC, unC, convC, extC, fieldC, fieldAddrC, idxC, indexC, loadC, lenC, maxC, minC, allocC, boxC, storeC, makeC, sliceC, buildC, buildSliceC, appTC, appC, rowsC, callC, builtinC, Option.isSome_some, Int.reduceToNat, Int.reduceEq, Int.reduceAdd, Int.reduceSub, Int.reduceMul, List.getD_cons_zero, List.getD_cons_succ, Int.reduceLE, Int.reduceLT, Int.reduceNeg, Bool.and_self, Bool.true_and, Bool.and_true, Nat.reduceMul, Int.cast_ofNat_Int, decide_true, decide_false, beq_self_eq_true, Bool.true_beq, Bool.false_beq, Nat.le_refl, Nat.reduceLeDiff, List.length_cons, List.length_nil, ne_eq, not_false_eq_true, Nat.succ_ne_self, Nat.one_ne_zero, true_and, and_true, if_true, if_false, Bool.false_eq_true, reduceIte, Nat.reduceEqDiff, ↓Nat.reduceLT, Nat.reduceAdd, Nat.reduceBEq, reduceCtorEq, Bool.not_true, Bool.not_false, Bool.true_eq_false, decide_eq_true_eq, Option.bind_some, Option.bind_none, List.toList_toArray, List.getElem?_toArray, List.getElem?_cons_zero, List.getElem?_cons_succ, List.map_cons, List.map_nil, Option.map_some, Option.map_none, fnRet]
    exact Fin.closed (bel_bool _ _) rfl
  · exact absurd awake_prefs hno
end Go.Proofs.Ythginmfobikdgaa
