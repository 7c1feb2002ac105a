/- Chapter 32, the walks: the choices Int, rate. -/
import Derived.Test.YthginmfobikdgaaNxA
import Derived.Test.YthginmfobikdgaaWtB
set_option linter.unusedSimpArgs false
set_option linter.unusedVariables false
namespace Go.Proofs.Ythginmfobikdgaa
open Go.PV

/-! A number, now and then one about a limit. -/
def intTbl : List Int := [9223372036854775807, -9223372036854775808, 1048576, 1048577, 65535, 65536, 255, 256, 250, 249, 1099511627776, 1099511627777, 4294967296, 1073741824, 128, 127]
def intC (l : List Int) (k : Nat) : Int × Nat :=
  let a := nxt l k 10
  if a.1 = 0 then (-1 - (nxt l a.2 3).1, (nxt l a.2 3).2)
  else if a.1 = 1 then (intTbl.getD (nxt l a.2 16).1.toNat 0, (nxt l a.2 16).2)
  else if a.1 = 2 then (256 * (nxt l a.2 256).1 + (nxt l (nxt l a.2 256).2 256).1, (nxt l (nxt l a.2 256).2 256).2)
  else nxt l a.2 40
theorem intTbl_in {i : Nat} (h : i < 16) : -9223372036854775808 ≤ intTbl.getD i 0 ∧ intTbl.getD i 0 ≤ 9223372036854775807 := by
  have : ∀ i < 16, -9223372036854775808 ≤ intTbl.getD i 0 ∧ intTbl.getD i 0 ≤ 9223372036854775807 := by decide
  exact this i h
theorem intC_le {l : List Int} {k : Nat} (hk : k ≤ l.length) : (intC l k).2 ≤ l.length := by
  have h1 := nxt_le hk 10
  simp only [intC]
  split
  · exact nxt_le h1 _
  · split
    · exact nxt_le h1 _
    · split
      · exact nxt_le (nxt_le h1 _) _
      · exact nxt_le h1 _
theorem intC_in {l : List Int} (h : okInts .u8 l) (k : Nat) : -9223372036854775808 ≤ (intC l k).1 ∧ (intC l k).1 ≤ 9223372036854775807 := by
  have a3 := nxt_lt h (nxt l k 10).2 3 (by omega)
  have a16 := nxt_lt h (nxt l k 10).2 16 (by omega)
  have a256 := nxt_lt h (nxt l k 10).2 256 (by omega)
  have b256 := nxt_lt h (nxt l (nxt l k 10).2 256).2 256 (by omega)
  have a40 := nxt_lt h (nxt l k 10).2 40 (by omega)
  simp only [intC]
  split
  · simp only; omega
  · split
    · exact intTbl_in (by omega)
    · split
      · simp only; omega
      · omega

set_option maxHeartbeats 8000000 in
theorem int_ok (l : List Int) (k : Nat) (hl : okInts .u8 l) (hll : l.length < 2 ^ 40) (hk : k ≤ l.length) :
    PCall Try.prog 30 [.ptr 0 0 0 0] [codes l k] (fun p σ' => p = .int .i64 (intC l k).1 ∧ σ' = [codes l (intC l k).2]) := by
  have r0 := nxt_lt hl k 10 (by omega)
  have h0 := nxt_le hk 10
  obtain ⟨a, ha⟩ : ∃ a, a = nxt l k 10 := ⟨_, rfl⟩
  rw [← ha] at r0 h0
  have a3 := nxt_lt hl a.2 3 (by omega)
  have a16 := nxt_lt hl a.2 16 (by omega)
  have a256 := nxt_lt hl a.2 256 (by omega)
  have b256 := nxt_lt hl (nxt l a.2 256).2 256 (by omega)
  have c256 := nxt_le h0 256
  refine PCall.vfrz [] 132151 27 [.tmp 2] nx_ok mix Try.func30 rfl (by decide) rfl rfl (by simp) ?_
  simp -dsimp only [initFr, List.zipIdx_cons, List.zipIdx_nil, List.map_cons, List.map_nil, Nat.zero_add, Nat.reduceAdd]
  have hT : ([[PV.int .i64 9223372036854775807], [PV.int .i64 (-9223372036854775808)], [PV.int .i64 1048576], [PV.int .i64 1048577], [PV.int .i64 65535], [PV.int .i64 65536], [PV.int .i64 255], [PV.int .i64 256], [PV.int .i64 250], [PV.int .i64 249], [PV.int .i64 1099511627776], [PV.int .i64 1099511627777], [PV.int .i64 4294967296], [PV.int .i64 1073741824], [PV.int .i64 128], [PV.int .i64 127]] : List (List PV)) = encI .i64 intTbl := rfl
  have hT2 : intTbl.length = 16 := rfl
  have e : ∀ v k', intC l k = (v, k') → Go.PV.Fin [codes l k] (fun p σ' => p = .int .i64 (intC l k).1 ∧ σ' = [codes l (intC l k).2]) (.int .i64 v) [codes l k'] := fun v k' h =>
    fin1 (.keep _ (bel_int _ _ _)) (codes_bel _ _ _) (by rw [h]; exact ⟨rfl, rfl⟩)
  simp -dsimp (maxSteps := 4000000) +contextual (disch := first | omega | decide +kernel) only [↓vk_nil, ↓vk_skip, ↓vk_seq, ↓vk_block, ↓vk_region, ↓vk_cond, ↓vk_exit, ↓vk_endB, ↓vk_again, ↓vk_ret, ↓vk_loop_def, ↓vk_draw_def, ↓vk_look, ↓ve_nil, ↓ve_code, ↓ve_again, ↓ve_hit, ↓ve_miss, vkeep_go, ↓vo_end, ↓vo_op, ↓vo_opn, ↓vo_opg, ↓vo_opgn, vgs_some, ↓vx_true, ↓vx_truen, ↓vx_false, ↓vx_falsen, vx_dec, vx_ndec, vor_some, vor_none, vor_bool, boolR_t, boolR_f, vor_call, vex_none, vex_someD, vex_someN, noE_none, rQ_ret, rQ_normal, resW, fnRet, vc_true, vc_false, vc_dec, vc_ndec, ↓req_true, req_and, alt_true, alt_false, alt_not, gpv_bool, gpv_undef, ↓gslotL_zero, ↓gslotL_succ, ↓look_hit, ↓look_miss, lookP_t, lookP_f, ↓look_nil, cond_true, cond_false, consF_some, consF_none, keepF_nil, keepF_cons, Nat.reduceShiftRight, Nat.reduceAnd, Go.PV.fits, Go.PV.mutOf, List.contains_nil, List.contains_cons, beq_true, beq_false, Bool.not_not, Bool.not_true, Bool.not_false, ofVal_bool, ofVal_int, ofVal_str, ofVal_nilp, ofVal_nils, ofVal_nilm, ofVal_nilf, ofVal_agg, ofVal_tup, evO_tmp, evO_const, evO_func, ev_move, ev_assign, ev_pick, ev_nilCheck, ev_binOp, ev_unOp, ev_convert, ev_extract, ev_field, ev_fieldAddr, ev_indexAddr, ev_index, ev_load, ev_makeFunc, ev_alloc, ev_box, ev_store, ev_makeSlice, ev_slice, partsC_nil, partsC_cons, ev_build, ev_buildSlice, ev_call, ev_builtin, pick_b, nil_ptr, nil_iptr, bin_add, bin_sub, bin_mul, bin_quo, bin_rem, bin_and, bin_or, bin_xor, bin_eql, bin_neq, bin_lss, bin_leq, bin_gtr, bin_geq, bin_shl, bin_shr, bin_seql, bin_sneq, bin_sadd, bin_beql, bin_bneq, un_not, un_neg, conv_int, ext_tup, fldC_some, field_agg, fldP_some, fieldA_ptr, fieldA_iptr, rowsAt_some, idx_arr, idx_iarr, idx_sl, idx_msl, index_str, index_arr, load_iptr, load_ptr, loadOk_B, loadV_B, loadOkB_t, loadOkB_f, loadVB_t, loadVB_f, bi_len, bi_max, bi_min, bi_app, len_nils, len_sl, len_msl, len_str, len_arr, max_int, min_int, alloc_z, box_z, store_ptr, make_eq, makeZ_some, slice_nils, slice_sl, slice_msl, slcN_some, slcS_some, slcM_some, bound_none, bound_some, fill_nil, fill_cons, fillK_some, buildK_some, placeF_some, build_struct, placeA_eq, build_arr, rowsP_nil, rowsP_cons, rowsK_some, bsl_eq, bslK_nil, bslK_cons, rwAt_some, rows_nils, rows_sl, rows_msl, app_eq, app_nil0, app_nil, app_msl, call_func, cells_bool, cells_int, cells_str, cells_nilp, cells_ptr, cells_iptr, cells_nils, cells_sl, cells_msl, cells_nilm, cells_map, cells_func, cells_nilf, cells_agg, cell_bool, cell_int, cell_str, cell_nilp, cell_ptr, cell_iptr, cell_nils, cell_sl, cell_msl, cell_func, news_nil, news_cons, placeS_eq, Go.PV.splice, List.take_succ_cons, List.take_zero, List.drop_succ_cons, List.drop_zero, List.cons_append, List.all_cons, List.all_nil, ev_makeMap, ev_lookup, ev_mapUpdate, look_map, lookZ_some, upd_map, mapAt_some, okKind_int, okKind_str, Option.isSome_some, Int.reduceToNat, Int.reduceEq, Int.reduceAdd, Int.reduceSub, Int.reduceMul, List.getD_cons_zero, List.getD_cons_succ, Int.reduceLE, Int.reduceLT, Int.reduceNeg, Bool.and_self, Bool.true_and, Bool.and_true, Nat.reduceMul, Int.cast_ofNat_Int, decide_true, decide_false, beq_self_eq_true, Bool.true_beq, Bool.false_beq, Nat.le_refl, Nat.reduceLeDiff, List.length_cons, List.length_nil, ne_eq, not_false_eq_true, Nat.succ_ne_self, Nat.one_ne_zero, true_and, and_true, if_true, if_false, Bool.false_eq_true, reduceIte, Nat.reduceEqDiff, ↓Nat.reduceLT, Nat.reduceAdd, Nat.reduceBEq, reduceCtorEq, Bool.not_true, Bool.not_false, Bool.true_eq_false, decide_eq_true_eq, Option.bind_some, Option.bind_none, List.toList_toArray, List.getElem?_toArray, List.getElem?_cons_zero, List.getElem?_cons_succ, List.map_cons, List.map_nil, Option.map_some, Option.map_none, List.nil_append, List.append_nil, Int.toNat_natCast, Int.natCast_nonneg, Int.natCast_eq_zero, enc_length, encs_length, Nat.zero_add, Nat.mul_one, Option.isSome_some, and_self, true_and, and_true, ne_eq, not_false_eq_true, not_true_eq_false, tyU, tyC, tyB, tyA, tyI, tyZ, tyF, tyP, nlt_t, nlt_f, nle_t, nle_f, ilt_t, ilt_f, ile_t, ile_f, ieq_t, ieq_f, PV.int.injEq, PV.bool.injEq, PV.tup.injEq, List.cons.injEq, enc_getD, encs_getD, wrap_i64, enc_set, splice_one, List.set_cons_zero, List.getElem?_concat_length, set_last, List.length_replicate, List.set_cons_succ, nx_next, exNextO_codes, hl, ← ha]
  simp -dsimp (maxSteps := 4000000) +contextual (disch := first | omega | decide +kernel) only [↓vk_nil, ↓vk_skip, ↓vk_seq, ↓vk_block, ↓vk_region, ↓vk_cond, ↓vk_exit, ↓vk_endB, ↓vk_again, ↓vk_ret, ↓vk_loop_def, ↓vk_draw_def, ↓vk_look, ↓ve_nil, ↓ve_code, ↓ve_again, ↓ve_hit, ↓ve_miss, vkeep_go, ↓vo_end, ↓vo_op, ↓vo_opn, ↓vo_opg, ↓vo_opgn, vgs_some, ↓vx_true, ↓vx_truen, ↓vx_false, ↓vx_falsen, vx_dec, vx_ndec, vor_some, vor_none, vor_bool, boolR_t, boolR_f, vor_call, vex_none, vex_someD, vex_someN, noE_none, rQ_ret, rQ_normal, resW, fnRet, vc_true, vc_false, vc_dec, vc_ndec, ↓req_true, req_and, alt_true, alt_false, alt_not, gpv_bool, gpv_undef, ↓gslotL_zero, ↓gslotL_succ, ↓look_hit, ↓look_miss, lookP_t, lookP_f, ↓look_nil, cond_true, cond_false, consF_some, consF_none, keepF_nil, keepF_cons, Nat.reduceShiftRight, Nat.reduceAnd, Go.PV.fits, Go.PV.mutOf, List.contains_nil, List.contains_cons, beq_true, beq_false, Bool.not_not, Bool.not_true, Bool.not_false, ofVal_bool, ofVal_int, ofVal_str, ofVal_nilp, ofVal_nils, ofVal_nilm, ofVal_nilf, ofVal_agg, ofVal_tup, evO_tmp, evO_const, evO_func, ev_move, ev_assign, ev_pick, ev_nilCheck, ev_binOp, ev_unOp, ev_convert, ev_extract, ev_field, ev_fieldAddr, ev_indexAddr, ev_index, ev_load, ev_makeFunc, ev_alloc, ev_box, ev_store, ev_makeSlice, ev_slice, partsC_nil, partsC_cons, ev_build, ev_buildSlice, ev_call, ev_builtin, pick_b, nil_ptr, nil_iptr, bin_add, bin_sub, bin_mul, bin_quo, bin_rem, bin_and, bin_or, bin_xor, bin_eql, bin_neq, bin_lss, bin_leq, bin_gtr, bin_geq, bin_shl, bin_shr, bin_seql, bin_sneq, bin_sadd, bin_beql, bin_bneq, un_not, un_neg, conv_int, ext_tup, fldC_some, field_agg, fldP_some, fieldA_ptr, fieldA_iptr, rowsAt_some, idx_arr, idx_iarr, idx_sl, idx_msl, index_str, index_arr, load_iptr, load_ptr, loadOk_B, loadV_B, loadOkB_t, loadOkB_f, loadVB_t, loadVB_f, bi_len, bi_max, bi_min, bi_app, len_nils, len_sl, len_msl, len_str, len_arr, max_int, min_int, alloc_z, box_z, store_ptr, make_eq, makeZ_some, slice_nils, slice_sl, slice_msl, slcN_some, slcS_some, slcM_some, bound_none, bound_some, fill_nil, fill_cons, fillK_some, buildK_some, placeF_some, build_struct, placeA_eq, build_arr, rowsP_nil, rowsP_cons, rowsK_some, bsl_eq, bslK_nil, bslK_cons, rwAt_some, rows_nils, rows_sl, rows_msl, app_eq, app_nil0, app_nil, app_msl, call_func, cells_bool, cells_int, cells_str, cells_nilp, cells_ptr, cells_iptr, cells_nils, cells_sl, cells_msl, cells_nilm, cells_map, cells_func, cells_nilf, cells_agg, cell_bool, cell_int, cell_str, cell_nilp, cell_ptr, cell_iptr, cell_nils, cell_sl, cell_msl, cell_func, news_nil, news_cons, placeS_eq, Go.PV.splice, List.take_succ_cons, List.take_zero, List.drop_succ_cons, List.drop_zero, List.cons_append, List.all_cons, List.all_nil, ev_makeMap, ev_lookup, ev_mapUpdate, look_map, lookZ_some, upd_map, mapAt_some, okKind_int, okKind_str, Option.isSome_some, Int.reduceToNat, Int.reduceEq, Int.reduceAdd, Int.reduceSub, Int.reduceMul, List.getD_cons_zero, List.getD_cons_succ, Int.reduceLE, Int.reduceLT, Int.reduceNeg, Bool.and_self, Bool.true_and, Bool.and_true, Nat.reduceMul, Int.cast_ofNat_Int, decide_true, decide_false, beq_self_eq_true, Bool.true_beq, Bool.false_beq, Nat.le_refl, Nat.reduceLeDiff, List.length_cons, List.length_nil, ne_eq, not_false_eq_true, Nat.succ_ne_self, Nat.one_ne_zero, true_and, and_true, if_true, if_false, Bool.false_eq_true, reduceIte, Nat.reduceEqDiff, ↓Nat.reduceLT, Nat.reduceAdd, Nat.reduceBEq, reduceCtorEq, Bool.not_true, Bool.not_false, Bool.true_eq_false, decide_eq_true_eq, Option.bind_some, Option.bind_none, List.toList_toArray, List.getElem?_toArray, List.getElem?_cons_zero, List.getElem?_cons_succ, List.map_cons, List.map_nil, Option.map_some, Option.map_none, List.nil_append, List.append_nil, Int.toNat_natCast, Int.natCast_nonneg, Int.natCast_eq_zero, enc_length, encs_length, Nat.zero_add, Nat.mul_one, Option.isSome_some, and_self, true_and, and_true, ne_eq, not_false_eq_true, not_true_eq_false, tyU, tyC, tyB, tyA, tyI, tyZ, tyF, tyP, nlt_t, nlt_f, nle_t, nle_f, ilt_t, ilt_f, ile_t, ile_f, ieq_t, ieq_f, PV.int.injEq, PV.bool.injEq, PV.tup.injEq, List.cons.injEq, enc_getD, encs_getD, wrap_i64, enc_set, splice_one, List.set_cons_zero, List.getElem?_concat_length, set_last, List.length_replicate, List.set_cons_succ, nx_next, exNextO_codes, hT, hT2]
  refine ⟨fun h => e _ _ (by simp only [intC, ← ha]; rw [if_pos h]), fun h => ⟨fun h1 => e _ _ (by simp only [intC, ← ha]; rw [if_neg h, if_pos h1]), fun h1 => ⟨fun h2 => e _ _ (by simp only [intC, ← ha]; rw [if_neg h, if_neg h1, if_pos h2]), fun h2 => e _ _ (by simp only [intC, ← ha]; rw [if_neg h, if_neg h1, if_neg h2])⟩⟩⟩

/-! A valid rate. -/
def rateC (l : List Int) (k : Nat) : (Int × Int) × Nat :=
  let a := nxt l k 4
  let b := nxt l a.2 (a.1 + 2)
  ((b.1, a.1 + 1), b.2)
theorem rateC_le {l : List Int} {k : Nat} (hk : k ≤ l.length) : (rateC l k).2 ≤ l.length := nxt_le (nxt_le hk 4) _
theorem rateC_in {l : List Int} (h : okInts .u8 l) (k : Nat) : (0 ≤ (rateC l k).1.1 ∧ (rateC l k).1.1 ≤ (rateC l k).1.2) ∧ 1 ≤ (rateC l k).1.2 ∧ (rateC l k).1.2 ≤ 4 := by
  have a4 := nxt_lt h k 4 (by omega)
  have b := nxt_lt h (nxt l k 4).2 ((nxt l k 4).1 + 2) (by omega)
  simp only [rateC]
  omega
set_option maxHeartbeats 8000000 in
theorem rate_ok (l : List Int) (k : Nat) (hl : okInts .u8 l) (hll : l.length < 2 ^ 40) (hk : k ≤ l.length) :
    PCall Try.prog 25 [.ptr 0 0 0 0] [codes l k] (fun p σ' => p = .agg [.int .i64 (rateC l k).1.1, .int .i64 (rateC l k).1.2] ∧ σ' = [codes l (rateC l k).2]) := by
  have r0 := nxt_lt hl k 4 (by omega)
  have h0 := nxt_le hk 4
  obtain ⟨a, ha⟩ : ∃ a, a = nxt l k 4 := ⟨_, rfl⟩
  rw [← ha] at r0 h0
  have hb := nxt_lt hl a.2 (a.1 + 2) (by omega)
  have e1 : 1 + a.1 = a.1 + 1 := by omega
  have e2 : a.1 + 1 + 1 = a.1 + 2 := by omega
  have e : rateC l k = (((nxt l a.2 (a.1 + 2)).1, a.1 + 1), (nxt l a.2 (a.1 + 2)).2) := by simp only [rateC, ← ha]
  refine PCall.vfrz [] 15 13 [.cell 2 46] nx_ok mix Try.func25 rfl (by decide) rfl rfl (by simp) ?_
  simp -dsimp only [initFr, List.zipIdx_cons, List.zipIdx_nil, List.map_cons, List.map_nil, Nat.zero_add, Nat.reduceAdd]
  simp -dsimp (maxSteps := 4000000) +contextual (disch := first | omega | decide +kernel) only [↓vk_nil, ↓vk_skip, ↓vk_seq, ↓vk_block, ↓vk_region, ↓vk_cond, ↓vk_exit, ↓vk_endB, ↓vk_again, ↓vk_ret, ↓vk_loop_def, ↓vk_draw_def, ↓vk_look, ↓ve_nil, ↓ve_code, ↓ve_again, ↓ve_hit, ↓ve_miss, vkeep_go, ↓vo_end, ↓vo_op, ↓vo_opn, ↓vo_opg, ↓vo_opgn, vgs_some, ↓vx_true, ↓vx_truen, ↓vx_false, ↓vx_falsen, vx_dec, vx_ndec, vor_some, vor_none, vor_bool, boolR_t, boolR_f, vor_call, vex_none, vex_someD, vex_someN, noE_none, rQ_ret, rQ_normal, resW, fnRet, vc_true, vc_false, vc_dec, vc_ndec, ↓req_true, req_and, alt_true, alt_false, alt_not, gpv_bool, gpv_undef, ↓gslotL_zero, ↓gslotL_succ, ↓look_hit, ↓look_miss, lookP_t, lookP_f, ↓look_nil, cond_true, cond_false, consF_some, consF_none, keepF_nil, keepF_cons, Nat.reduceShiftRight, Nat.reduceAnd, Go.PV.fits, Go.PV.mutOf, List.contains_nil, List.contains_cons, beq_true, beq_false, Bool.not_not, Bool.not_true, Bool.not_false, ofVal_bool, ofVal_int, ofVal_str, ofVal_nilp, ofVal_nils, ofVal_nilm, ofVal_nilf, ofVal_agg, ofVal_tup, evO_tmp, evO_const, evO_func, ev_move, ev_assign, ev_pick, ev_nilCheck, ev_binOp, ev_unOp, ev_convert, ev_extract, ev_field, ev_fieldAddr, ev_indexAddr, ev_index, ev_load, ev_makeFunc, ev_alloc, ev_box, ev_store, ev_makeSlice, ev_slice, partsC_nil, partsC_cons, ev_build, ev_buildSlice, ev_call, ev_builtin, pick_b, nil_ptr, nil_iptr, bin_add, bin_sub, bin_mul, bin_quo, bin_rem, bin_and, bin_or, bin_xor, bin_eql, bin_neq, bin_lss, bin_leq, bin_gtr, bin_geq, bin_shl, bin_shr, bin_seql, bin_sneq, bin_sadd, bin_beql, bin_bneq, un_not, un_neg, conv_int, ext_tup, fldC_some, field_agg, fldP_some, fieldA_ptr, fieldA_iptr, rowsAt_some, idx_arr, idx_iarr, idx_sl, idx_msl, index_str, index_arr, load_iptr, load_ptr, loadOk_B, loadV_B, loadOkB_t, loadOkB_f, loadVB_t, loadVB_f, bi_len, bi_max, bi_min, bi_app, len_nils, len_sl, len_msl, len_str, len_arr, max_int, min_int, alloc_z, box_z, store_ptr, make_eq, makeZ_some, slice_nils, slice_sl, slice_msl, slcN_some, slcS_some, slcM_some, bound_none, bound_some, fill_nil, fill_cons, fillK_some, buildK_some, placeF_some, build_struct, placeA_eq, build_arr, rowsP_nil, rowsP_cons, rowsK_some, bsl_eq, bslK_nil, bslK_cons, rwAt_some, rows_nils, rows_sl, rows_msl, app_eq, app_nil0, app_nil, app_msl, call_func, cells_bool, cells_int, cells_str, cells_nilp, cells_ptr, cells_iptr, cells_nils, cells_sl, cells_msl, cells_nilm, cells_map, cells_func, cells_nilf, cells_agg, cell_bool, cell_int, cell_str, cell_nilp, cell_ptr, cell_iptr, cell_nils, cell_sl, cell_msl, cell_func, news_nil, news_cons, placeS_eq, Go.PV.splice, List.take_succ_cons, List.take_zero, List.drop_succ_cons, List.drop_zero, List.cons_append, List.all_cons, List.all_nil, ev_makeMap, ev_lookup, ev_mapUpdate, look_map, lookZ_some, upd_map, mapAt_some, okKind_int, okKind_str, Option.isSome_some, Int.reduceToNat, Int.reduceEq, Int.reduceAdd, Int.reduceSub, Int.reduceMul, List.getD_cons_zero, List.getD_cons_succ, Int.reduceLE, Int.reduceLT, Int.reduceNeg, Bool.and_self, Bool.true_and, Bool.and_true, Nat.reduceMul, Int.cast_ofNat_Int, decide_true, decide_false, beq_self_eq_true, Bool.true_beq, Bool.false_beq, Nat.le_refl, Nat.reduceLeDiff, List.length_cons, List.length_nil, ne_eq, not_false_eq_true, Nat.succ_ne_self, Nat.one_ne_zero, true_and, and_true, if_true, if_false, Bool.false_eq_true, reduceIte, Nat.reduceEqDiff, ↓Nat.reduceLT, Nat.reduceAdd, Nat.reduceBEq, reduceCtorEq, Bool.not_true, Bool.not_false, Bool.true_eq_false, decide_eq_true_eq, Option.bind_some, Option.bind_none, List.toList_toArray, List.getElem?_toArray, List.getElem?_cons_zero, List.getElem?_cons_succ, List.map_cons, List.map_nil, Option.map_some, Option.map_none, List.nil_append, List.append_nil, Int.toNat_natCast, Int.natCast_nonneg, Int.natCast_eq_zero, enc_length, encs_length, Nat.zero_add, Nat.mul_one, Option.isSome_some, and_self, true_and, and_true, ne_eq, not_false_eq_true, not_true_eq_false, tyU, tyC, tyB, tyA, tyI, tyZ, tyF, tyP, nlt_t, nlt_f, nle_t, nle_f, ilt_t, ilt_f, ile_t, ile_f, ieq_t, ieq_f, PV.int.injEq, PV.bool.injEq, PV.tup.injEq, List.cons.injEq, enc_getD, encs_getD, wrap_i64, enc_set, splice_one, List.set_cons_zero, List.getElem?_concat_length, set_last, List.length_replicate, List.set_cons_succ, nx_next, exNextO_codes, rowAt_ptr, rowAtO_some, loadP_B, loadPB_t, loadPB_f, hl, ← ha, e1, e2]
  exact fin1 (.keep _ (bel_rate _ _ _)) (codes_bel _ _ _) (by rw [e]; exact ⟨rfl, rfl⟩)
end Go.Proofs.Ythginmfobikdgaa
