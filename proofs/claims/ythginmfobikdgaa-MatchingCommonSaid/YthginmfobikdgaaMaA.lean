/- Chapter 28, the walks: facts on types; nobody, ranked, both. -/
import Derived.Test.YthginmfobikdgaaPvP
import Derived.Test.YthginmfobikdgaaProg
import Derived.KernelRfl
set_option linter.unusedSimpArgs false
namespace Go.Proofs.Ythginmfobikdgaa
open Go.PV
theorem mix : Try.prog.follows .mixedOrders = true := by kernel_rfl
theorem u_bool : Try.prog.underlying 4 = some .bool := by kernel_rfl
theorem u_int : Try.prog.underlying 3 = some (.int .i64) := by kernel_rfl
theorem c_int : Try.prog.cellsOf 3 = 1 := by kernel_rfl
theorem b_int : Try.prog.bytesOf 3 = 8 := by kernel_rfl
theorem a_int : aggT Try.prog 3 = false := by kernel_rfl
theorem z_int : zeroCells Try.prog 3 = some [.int .i64 0] := by kernel_rfl
theorem u_ints : Try.prog.underlying 40 = some (.slice 3) := by kernel_rfl
theorem c_ints : Try.prog.cellsOf 40 = 1 := by kernel_rfl
theorem b_ints : Try.prog.bytesOf 40 = 24 := by kernel_rfl
theorem a_ints : aggT Try.prog 40 = false := by kernel_rfl
theorem z_ints : zeroCells Try.prog 40 = some [.nils] := by kernel_rfl
theorem u_intss : Try.prog.underlying 28 = some (.slice 40) := by kernel_rfl
theorem u_i16 : Try.prog.underlying 143 = some (.int .i16) := by kernel_rfl
theorem c_i16 : Try.prog.cellsOf 143 = 1 := by kernel_rfl
theorem a_i16 : aggT Try.prog 143 = false := by kernel_rfl
theorem u_rankrow : Try.prog.underlying 144 = some (.array 256 143) := by kernel_rfl
theorem c_rankrow : Try.prog.cellsOf 144 = 256 := by kernel_rfl
theorem u_ranks : Try.prog.underlying 189 = some (.array 256 144) := by kernel_rfl
theorem c_ranks : Try.prog.cellsOf 189 = 65536 := by kernel_rfl

theorem loadV_int (x : PV) : loadV Try.prog 3 [x] 0 = x := by simp [loadV, a_int]
theorem loadOk_int (x : PV) : loadOk Try.prog 3 [x] 0 = True := by simp [loadOk, a_int, u_int]
theorem loadV_ints (x : PV) : loadV Try.prog 40 [x] 0 = x := by simp [loadV, a_ints]
theorem loadOk_ints (x : PV) : loadOk Try.prog 40 [x] 0 = True := by simp [loadOk, a_ints, u_ints]

theorem wrap_i64 (n : Int) (h1 : -9223372036854775808 ≤ n) (h2 : n ≤ 9223372036854775807) : IntKind.i64.wrap n = n := Go.IntWalk.i64_in n ⟨h1, by omega⟩
theorem wrap_succ (n : Nat) (h : n < 2 ^ 62) : IntKind.i64.wrap ((n : Int) + 1) = ((n + 1 : Nat) : Int) := by rw [wrap_i64 _ (by omega) (by omega)]; rfl

/-! ### Lists of integers as rows -/
abbrev ints (l : List Int) : List (List PV) := encI .i64 l
abbrev intss (l : List (List Int)) : List (List PV) := encII .i64 l
theorem enc_length (k : IntKind) (l : List Int) : (encI k l).length = l.length := by simp [encI]
theorem enc_getD (k : IntKind) (l : List Int) (i : Nat) (h : i < l.length) : (encI k l).getD i [] = [.int k (l.getD i 0)] := by simp [encI, List.getD_eq_getElem?_getD, h]
theorem encs_length (k : IntKind) (l : List (List Int)) : (encII k l).length = l.length := by simp [encII]
theorem encs_getD (k : IntKind) (l : List (List Int)) (i : Nat) (h : i < l.length) : (encII k l).getD i [] = [.sl (encI k (l.getD i []))] := by simp [encII, List.getD_eq_getElem?_getD, h]
theorem enc_set (k : IntKind) (l : List Int) (i : Nat) (x : Int) : (encI k l).set i [.int k x] = encI k (l.set i x) := by simp [encI, List.map_set]
theorem enc_replicate (k : IntKind) (n : Nat) (x : Int) : List.replicate n [PV.int k x] = encI k (List.replicate n x) := by simp [encI]
theorem enc_append (k : IntKind) (l : List Int) (x : Int) : encI k l ++ [[PV.int k x]] = encI k (l ++ [x]) := by simp [encI]
theorem enc_bel (k : IntKind) (n : Nat) (l : List Int) : ∀ row ∈ encI k l, ∀ p ∈ row, Bel n p := fun row hr p hp => by
  obtain ⟨x, _, rfl⟩ := List.mem_map.1 hr
  rw [List.mem_singleton] at hp
  rw [hp]
  exact bel_int _ _ _
theorem encs_bel (k : IntKind) (n : Nat) (l : List (List Int)) : ∀ row ∈ encII k l, ∀ p ∈ row, Bel n p := fun row hr p hp => by
  obtain ⟨x, _, rfl⟩ := List.mem_map.1 hr
  rw [List.mem_singleton] at hp
  rw [hp]
  exact bel_sl (enc_bel k n x)
theorem set_last (σ : Store) (x y : Go.PV.Obj) : List.set (σ ++ [x]) (List.length σ) y = σ ++ [y] := by
  rw [List.set_append_right _ _ (Nat.le_refl _), Nat.sub_self]; rfl
theorem splice_one (x y : PV) : splice [x] 0 [y] = [y] := by simp [splice]

/-! ### nobody -/
set_option maxHeartbeats 1000000 in
theorem nobody_ok (σ : Store) (n : Nat) (hn : n < 2 ^ 40) : PCall Try.prog 80 [.int .i64 n] σ (fun p σ' => p = .msl σ.length 0 ∧ σ' = σ ++ [.rows 3 1 (ints (List.replicate n (-1))) 0]) := by
  refine PCall.walk_raw [] mix Try.func80 rfl (by decide) (by simp [Try.f80]) fun Q hQ => ?_
  simp only [Try.f80, List.toList_toArray] at hQ
  simp only [Try.f80, initFr, List.zipIdx_cons, List.zipIdx_nil, List.map_cons, List.map_nil, Nat.zero_add, Nat.reduceAdd]
  simp only [pk_nil, pk_skip, pk_seq, pk_block, pk_region, pk_cond, pk_exit, pk_endB, pk_again, pk_ret, pe_nil, pe_code, pe_again, pe_endB, po_nil, po_cons, pog_true, pog_false, por_val, por_call, pc_bool, Go.PV.guardP, Go.PV.fits, Go.PV.putF, Go.PV.setF, Go.PV.look, Go.PV.evO, Go.PV.ofVal, Go.PV.mutOf, List.contains_nil, List.contains_cons, evC, pickC, nilC, binC, intC, isShift, shiftC, strC, boolC, unC, convC, extC, fieldC, fieldAddrC, idxC, indexC, loadC, lenC, maxC, minC, allocC, boxC, storeC, makeC, sliceC, buildC, buildSliceC, appTC, appC, rowsC, callC, builtinC, Option.isSome_some, Int.reduceToNat, Int.reduceEq, Int.reduceAdd, Int.reduceSub, Int.reduceMul, List.getD_cons_zero, List.getD_cons_succ, Int.reduceLE, Int.reduceLT, Int.reduceNeg, Bool.and_self, Bool.true_and, Bool.and_true, Nat.reduceMul, Int.cast_ofNat_Int, decide_true, decide_false, beq_self_eq_true, Bool.true_beq, Bool.false_beq, Nat.le_refl, Nat.reduceLeDiff, List.length_cons, List.length_nil, ne_eq, not_false_eq_true, Nat.succ_ne_self, Nat.one_ne_zero, true_and, and_true, if_true, if_false, Bool.false_eq_true, reduceIte, Nat.reduceEqDiff, ↓Nat.reduceLT, Nat.reduceAdd, Nat.reduceBEq, reduceCtorEq, Bool.not_true, Bool.not_false, Bool.true_eq_false, decide_eq_true_eq, Option.bind_some, Option.bind_none, List.toList_toArray, List.getElem?_toArray, List.getElem?_cons_zero, List.getElem?_cons_succ, List.map_cons, List.map_nil, Option.map_some, Option.map_none, u_ints, z_int, c_int, b_int]
  have hnn : (n : Int) ≤ 9223372036854775807 := by omega
  have hmax : n * 8 ≤ maxBytes := by unfold maxBytes; omega
  simp only [hnn, hmax, Int.natCast_nonneg, Int.toNat_natCast, List.getElem?_concat_length, enc_replicate, pk_nil, pk_skip, pk_seq, pk_block, pk_region, pk_cond, pk_exit, pk_endB, pk_again, pk_ret, pe_nil, pe_code, pe_again, pe_endB, po_nil, po_cons, pog_true, pog_false, por_val, por_call, pc_bool, Go.PV.guardP, Go.PV.fits, Go.PV.putF, Go.PV.setF, Go.PV.look, Go.PV.evO, Go.PV.ofVal, Go.PV.mutOf, List.contains_nil, List.contains_cons, evC, pickC, nilC, binC, intC, isShift, shiftC, strC, boolC, unC, convC, extC, fieldC, fieldAddrC, idxC, indexC, loadC, lenC, maxC, minC, allocC, boxC, storeC, makeC, sliceC, buildC, buildSliceC, appTC, appC, rowsC, callC, builtinC, Option.isSome_some, Int.reduceToNat, Int.reduceEq, Int.reduceAdd, Int.reduceSub, Int.reduceMul, List.getD_cons_zero, List.getD_cons_succ, Int.reduceLE, Int.reduceLT, Int.reduceNeg, Bool.and_self, Bool.true_and, Bool.and_true, Nat.reduceMul, Int.cast_ofNat_Int, decide_true, decide_false, beq_self_eq_true, Bool.true_beq, Bool.false_beq, Nat.le_refl, Nat.reduceLeDiff, List.length_cons, List.length_nil, ne_eq, not_false_eq_true, Nat.succ_ne_self, Nat.one_ne_zero, true_and, and_true, if_true, if_false, Bool.false_eq_true, reduceIte, Nat.reduceEqDiff, ↓Nat.reduceLT, Nat.reduceAdd, Nat.reduceBEq, reduceCtorEq, Bool.not_true, Bool.not_false, Bool.true_eq_false, decide_eq_true_eq, Option.bind_some, Option.bind_none, List.toList_toArray, List.getElem?_toArray, List.getElem?_cons_zero, List.getElem?_cons_succ, List.map_cons, List.map_nil, Option.map_some, Option.map_none, enc_length, List.length_replicate]
  refine pk_loop _ _ _ _ (fun k fr σ' => ∃ i : Nat, k + i = n ∧ fr = [(0, .int .i64 n), (3, .msl σ.length 0), (8, .int .i64 n), (9, .int .i64 i)] ∧ σ' = σ ++ [.rows 3 1 (ints (List.replicate i (-1) ++ List.replicate k 0)) 0]) n
    [(0, .int .i64 n), (3, .msl σ.length 0), (8, .int .i64 n), (9, .int .i64 0)] (by simp [weaker, Go.PV.look]) ⟨0, by omega, rfl, by simp⟩ ?_
  rintro k fr σ' ⟨i, hi, rfl, rfl⟩ R hR
  simp only [pk_nil, pk_skip, pk_seq, pk_block, pk_region, pk_cond, pk_exit, pk_endB, pk_again, pk_ret, pe_nil, pe_code, pe_again, pe_endB, po_nil, po_cons, pog_true, pog_false, por_val, por_call, pc_bool, Go.PV.guardP, Go.PV.fits, Go.PV.putF, Go.PV.setF, Go.PV.look, Go.PV.evO, Go.PV.ofVal, Go.PV.mutOf, List.contains_nil, List.contains_cons, evC, pickC, nilC, binC, intC, isShift, shiftC, strC, boolC, unC, convC, extC, fieldC, fieldAddrC, idxC, indexC, loadC, lenC, maxC, minC, allocC, boxC, storeC, makeC, sliceC, buildC, buildSliceC, appTC, appC, rowsC, callC, builtinC, Option.isSome_some, Int.reduceToNat, Int.reduceEq, Int.reduceAdd, Int.reduceSub, Int.reduceMul, List.getD_cons_zero, List.getD_cons_succ, Int.reduceLE, Int.reduceLT, Int.reduceNeg, Bool.and_self, Bool.true_and, Bool.and_true, Nat.reduceMul, Int.cast_ofNat_Int, decide_true, decide_false, beq_self_eq_true, Bool.true_beq, Bool.false_beq, Nat.le_refl, Nat.reduceLeDiff, List.length_cons, List.length_nil, ne_eq, not_false_eq_true, Nat.succ_ne_self, Nat.one_ne_zero, true_and, and_true, if_true, if_false, Bool.false_eq_true, reduceIte, Nat.reduceEqDiff, ↓Nat.reduceLT, Nat.reduceAdd, Nat.reduceBEq, reduceCtorEq, Bool.not_true, Bool.not_false, Bool.true_eq_false, decide_eq_true_eq, Option.bind_some, Option.bind_none, List.toList_toArray, List.getElem?_toArray, List.getElem?_cons_zero, List.getElem?_cons_succ, List.map_cons, List.map_nil, Option.map_some, Option.map_none]
  by_cases hlt : i < n
  · have h1 : ((i : Int) < (n : Int)) := by omega
    have hL : (List.replicate i (-1 : Int) ++ List.replicate k 0).length = n := by simp; omega
    have hrow : (ints (List.replicate i (-1) ++ List.replicate k 0)).getD i [] = [.int .i64 0] := by
      rw [enc_getD _ _ _ (by omega)]
      simp [List.getD_eq_getElem?_getD, List.getElem?_append_right, show 0 < k by omega]
    have hset : (List.replicate i (-1 : Int) ++ List.replicate k 0).set i (-1) = List.replicate (i + 1) (-1) ++ List.replicate (k - 1) 0 := by
      rw [List.set_append_right _ _ (by simp)]
      obtain ⟨m, rfl⟩ : ∃ m, k = m + 1 := ⟨k - 1, by omega⟩
      rw [show List.replicate (m + 1) (0 : Int) = 0 :: List.replicate m 0 from rfl]
      simp [List.replicate_succ']
    simp only [h1, pk_nil, pk_skip, pk_seq, pk_block, pk_region, pk_cond, pk_exit, pk_endB, pk_again, pk_ret, pe_nil, pe_code, pe_again, pe_endB, po_nil, po_cons, pog_true, pog_false, por_val, por_call, pc_bool, Go.PV.guardP, Go.PV.fits, Go.PV.putF, Go.PV.setF, Go.PV.look, Go.PV.evO, Go.PV.ofVal, Go.PV.mutOf, List.contains_nil, List.contains_cons, evC, pickC, nilC, binC, intC, isShift, shiftC, strC, boolC, unC, convC, extC, fieldC, fieldAddrC, idxC, indexC, loadC, lenC, maxC, minC, allocC, boxC, storeC, makeC, sliceC, buildC, buildSliceC, appTC, appC, rowsC, callC, builtinC, Option.isSome_some, Int.reduceToNat, Int.reduceEq, Int.reduceAdd, Int.reduceSub, Int.reduceMul, List.getD_cons_zero, List.getD_cons_succ, Int.reduceLE, Int.reduceLT, Int.reduceNeg, Bool.and_self, Bool.true_and, Bool.and_true, Nat.reduceMul, Int.cast_ofNat_Int, decide_true, decide_false, beq_self_eq_true, Bool.true_beq, Bool.false_beq, Nat.le_refl, Nat.reduceLeDiff, List.length_cons, List.length_nil, ne_eq, not_false_eq_true, Nat.succ_ne_self, Nat.one_ne_zero, true_and, and_true, if_true, if_false, Bool.false_eq_true, reduceIte, Nat.reduceEqDiff, ↓Nat.reduceLT, Nat.reduceAdd, Nat.reduceBEq, reduceCtorEq, Bool.not_true, Bool.not_false, Bool.true_eq_false, decide_eq_true_eq, Option.bind_some, Option.bind_none, List.toList_toArray, List.getElem?_toArray, List.getElem?_cons_zero, List.getElem?_cons_succ, List.map_cons, List.map_nil, Option.map_some, Option.map_none, u_ints, c_int, Int.toNat_natCast, Int.natCast_nonneg, List.getElem?_concat_length, enc_length, hL, hlt, hrow, cellsV, PV.cell, splice_one, set_last, enc_set, hset, wrap_succ i (by omega)]
    refine hR _ _ (k - 1) [(0, .int .i64 n), (3, .msl σ.length 0), (8, .int .i64 n), (9, .int .i64 ((i + 1 : Nat) : Int))] (by omega) (by simp [weaker, Go.PV.look]) ⟨i + 1, by omega, rfl, rfl⟩
  · have h1 : ¬ ((i : Int) < (n : Int)) := by omega
    simp only [h1, pk_nil, pk_skip, pk_seq, pk_block, pk_region, pk_cond, pk_exit, pk_endB, pk_again, pk_ret, pe_nil, pe_code, pe_again, pe_endB, po_nil, po_cons, pog_true, pog_false, por_val, por_call, pc_bool, Go.PV.guardP, Go.PV.fits, Go.PV.putF, Go.PV.setF, Go.PV.look, Go.PV.evO, Go.PV.ofVal, Go.PV.mutOf, List.contains_nil, List.contains_cons, evC, pickC, nilC, binC, intC, isShift, shiftC, strC, boolC, unC, convC, extC, fieldC, fieldAddrC, idxC, indexC, loadC, lenC, maxC, minC, allocC, boxC, storeC, makeC, sliceC, buildC, buildSliceC, appTC, appC, rowsC, callC, builtinC, Option.isSome_some, Int.reduceToNat, Int.reduceEq, Int.reduceAdd, Int.reduceSub, Int.reduceMul, List.getD_cons_zero, List.getD_cons_succ, Int.reduceLE, Int.reduceLT, Int.reduceNeg, Bool.and_self, Bool.true_and, Bool.and_true, Nat.reduceMul, Int.cast_ofNat_Int, decide_true, decide_false, beq_self_eq_true, Bool.true_beq, Bool.false_beq, Nat.le_refl, Nat.reduceLeDiff, List.length_cons, List.length_nil, ne_eq, not_false_eq_true, Nat.succ_ne_self, Nat.one_ne_zero, true_and, and_true, if_true, if_false, Bool.false_eq_true, reduceIte, Nat.reduceEqDiff, ↓Nat.reduceLT, Nat.reduceAdd, Nat.reduceBEq, reduceCtorEq, Bool.not_true, Bool.not_false, Bool.true_eq_false, decide_eq_true_eq, Option.bind_some, Option.bind_none, List.toList_toArray, List.getElem?_toArray, List.getElem?_cons_zero, List.getElem?_cons_succ, List.map_cons, List.map_nil, Option.map_some, Option.map_none]
    refine (hQ _ _ ?_).1
    simp only [resW, pk_nil, pk_skip, pk_seq, pk_block, pk_region, pk_cond, pk_exit, pk_endB, pk_again, pk_ret, pe_nil, pe_code, pe_again, pe_endB, po_nil, po_cons, pog_true, pog_false, por_val, por_call, pc_bool, Go.PV.guardP, Go.PV.fits, Go.PV.putF, Go.PV.setF, Go.PV.look, Go.PV.evO, Go.PV.ofVal, Go.PV.mutOf, List.contains_nil, List.contains_cons, evC, pickC, nilC, binC, intC, isShift, shiftC, strC, boolC, unC, convC, extC, fieldC, fieldAddrC, idxC, indexC, loadC, lenC, maxC, minC, allocC, boxC, storeC, makeC, sliceC, buildC, buildSliceC, appTC, appC, rowsC, callC, builtinC, Option.isSome_some, Int.reduceToNat, Int.reduceEq, Int.reduceAdd, Int.reduceSub, Int.reduceMul, List.getD_cons_zero, List.getD_cons_succ, Int.reduceLE, Int.reduceLT, Int.reduceNeg, Bool.and_self, Bool.true_and, Bool.and_true, Nat.reduceMul, Int.cast_ofNat_Int, decide_true, decide_false, beq_self_eq_true, Bool.true_beq, Bool.false_beq, Nat.le_refl, Nat.reduceLeDiff, List.length_cons, List.length_nil, ne_eq, not_false_eq_true, Nat.succ_ne_self, Nat.one_ne_zero, true_and, and_true, if_true, if_false, Bool.false_eq_true, reduceIte, Nat.reduceEqDiff, ↓Nat.reduceLT, Nat.reduceAdd, Nat.reduceBEq, reduceCtorEq, Bool.not_true, Bool.not_false, Bool.true_eq_false, decide_eq_true_eq, Option.bind_some, Option.bind_none, List.toList_toArray, List.getElem?_toArray, List.getElem?_cons_zero, List.getElem?_cons_succ, List.map_cons, List.map_nil, Option.map_some, Option.map_none, fnRet]
    have hin : i = n := by omega
    have hk : k = 0 := by omega
    rw [hin, hk]
    simp
end Go.Proofs.Ythginmfobikdgaa
