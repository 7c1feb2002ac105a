/- The choices of a generator: New. -/
import Derived.Test.YthginmfobikdgaaDrA
set_option linter.unusedSimpArgs false
namespace Go.Proofs.Ythginmfobikdgaa
open Go.PV
theorem fs_codes : (#[{ name := "l", type := 22, offset := 0, embedded := false, tag := "", pkgPath := "warmpath/warmpathdraw", byteOffset := 0 }, { name := "at", type := 3, offset := 1, embedded := false, tag := "", pkgPath := "warmpath/warmpathdraw", byteOffset := 24 }] : Array Field).all (fun f => (Try.prog.info? f.type).isSome) = true := by kernel_rfl
theorem enc_all (k : IntKind) (l : List Int) : (encI k l).all (fun row => row.length == 1) = true := by
  rw [List.all_eq_true]
  intro row h
  obtain ⟨x, _, rfl⟩ := List.mem_map.1 h
  rfl
theorem enc_take (k : IntKind) (l : List Int) (n : Nat) : (encI k l).take n = encI k (l.take n) := by simp [encI, List.map_take]

set_option maxHeartbeats 4000000 in
set_option maxRecDepth 20000 in
theorem new_ok (l : List Int) (n : Nat) :
    PCall Try.prog 19 [.sl (encI .u8 l), .int .i64 n] [] (fun p σ' => p = .ptr 0 0 0 0 ∧ σ' = [codes (l.take n) 0]) := by
  refine PCall.walk_raw [] mix Try.func19 rfl (by decide) (by simp [Try.f19]) fun Q hQ => ?_
  simp only [Try.f19, List.toList_toArray] at hQ
  simp only [Try.f19, initFr, List.zipIdx_cons, List.zipIdx_nil, List.map_cons, List.map_nil, Nat.zero_add, Nat.reduceAdd]
  have fin : ∀ fr, Go.PV.look fr 4 = .ptr 0 0 0 0 → Q .ret fr [codes (l.take n) 0] := fun fr e4 => by
    refine (hQ _ _ ?_).1
    simp only [resW, e4, fnRet]
    trivial
  by_cases h : (n : Int) < (l.length : Int)
  · have h2 : n ≤ l.length := by omega
    simp only [pk_nil, pk_skip, pk_seq, pk_block, pk_region, pk_cond, pk_exit, pk_endB, pk_again, pk_ret, pe_nil, pe_code, pe_again, pe_endB, po_nil, po_cons, pog_true, pog_false, por_val, por_call, pc_bool, Go.PV.guardP, Go.PV.fits, Go.PV.putF, Go.PV.setF, Go.PV.look, Go.PV.evO, Go.PV.ofVal, Go.PV.mutOf, List.contains_nil, List.contains_cons, evC, pickC, nilC, binC, intC, isShift, shiftC, strC, boolC, unC, convC, extC, fieldC, fieldAddrC, idxC, indexC, loadC, lenC, maxC, minC, allocC, boxC, storeC, makeC, sliceC, buildC, buildSliceC, appTC, appC, rowsC, callC, builtinC, Option.isSome_some, Int.reduceToNat, Int.reduceEq, Int.reduceAdd, Int.reduceSub, Int.reduceMul, List.getD_cons_zero, List.getD_cons_succ, Int.reduceLE, Int.reduceLT, Int.reduceNeg, Bool.and_self, Bool.true_and, Bool.and_true, Nat.reduceMul, Int.cast_ofNat_Int, decide_true, decide_false, beq_self_eq_true, Bool.true_beq, Bool.false_beq, Nat.le_refl, Nat.reduceLeDiff, List.length_cons, List.length_nil, ne_eq, not_false_eq_true, Nat.succ_ne_self, Nat.one_ne_zero, true_and, and_true, if_true, if_false, Bool.false_eq_true, reduceIte, Nat.reduceEqDiff, ↓Nat.reduceLT, Nat.reduceAdd, Nat.reduceBEq, reduceCtorEq, Bool.not_true, Bool.not_false, Bool.true_eq_false, decide_eq_true_eq, Option.bind_some, Option.bind_none, List.toList_toArray, List.getElem?_toArray, List.getElem?_cons_zero, List.getElem?_cons_succ, List.map_cons, List.map_nil, Option.map_some, Option.map_none, u_bytes, c_u8, enc_length, boundC, Int.natCast_nonneg, Int.toNat_natCast, Nat.zero_le, enc_all, enc_take, List.drop_zero, u_codes, z_codes, fillP, cellsV, PV.cell, c_bytes, c_int, List.all_cons, List.all_nil, fs_codes, splice, List.take_zero, List.drop_succ_cons, List.nil_append, List.cons_append, h, h2]
    exact fin _ rfl
  · have ht : l.take n = l := List.take_of_length_le (by omega)
    rw [ht] at fin
    simp only [pk_nil, pk_skip, pk_seq, pk_block, pk_region, pk_cond, pk_exit, pk_endB, pk_again, pk_ret, pe_nil, pe_code, pe_again, pe_endB, po_nil, po_cons, pog_true, pog_false, por_val, por_call, pc_bool, Go.PV.guardP, Go.PV.fits, Go.PV.putF, Go.PV.setF, Go.PV.look, Go.PV.evO, Go.PV.ofVal, Go.PV.mutOf, List.contains_nil, List.contains_cons, evC, pickC, nilC, binC, intC, isShift, shiftC, strC, boolC, unC, convC, extC, fieldC, fieldAddrC, idxC, indexC, loadC, lenC, maxC, minC, allocC, boxC, storeC, makeC, sliceC, buildC, buildSliceC, appTC, appC, rowsC, callC, builtinC, Option.isSome_some, Int.reduceToNat, Int.reduceEq, Int.reduceAdd, Int.reduceSub, Int.reduceMul, List.getD_cons_zero, List.getD_cons_succ, Int.reduceLE, Int.reduceLT, Int.reduceNeg, Bool.and_self, Bool.true_and, Bool.and_true, Nat.reduceMul, Int.cast_ofNat_Int, decide_true, decide_false, beq_self_eq_true, Bool.true_beq, Bool.false_beq, Nat.le_refl, Nat.reduceLeDiff, List.length_cons, List.length_nil, ne_eq, not_false_eq_true, Nat.succ_ne_self, Nat.one_ne_zero, true_and, and_true, if_true, if_false, Bool.false_eq_true, reduceIte, Nat.reduceEqDiff, ↓Nat.reduceLT, Nat.reduceAdd, Nat.reduceBEq, reduceCtorEq, Bool.not_true, Bool.not_false, Bool.true_eq_false, decide_eq_true_eq, Option.bind_some, Option.bind_none, List.toList_toArray, List.getElem?_toArray, List.getElem?_cons_zero, List.getElem?_cons_succ, List.map_cons, List.map_nil, Option.map_some, Option.map_none, u_bytes, c_u8, enc_length, boundC, Int.natCast_nonneg, Int.toNat_natCast, Nat.zero_le, enc_all, enc_take, List.drop_zero, u_codes, z_codes, fillP, cellsV, PV.cell, c_bytes, c_int, List.all_cons, List.all_nil, fs_codes, splice, List.take_zero, List.drop_succ_cons, List.nil_append, List.cons_append, h]
    exact fin _ rfl
end Go.Proofs.Ythginmfobikdgaa
