/- Known callees: the choices, small. -/
import Derived.Test.YtijigploahapfaaRfA
import Derived.Test.YtijigploahapfaaDcA
set_option linter.unusedSimpArgs false
set_option linter.unusedVariables false
namespace Go.Proofs.Ytijigploahapfaa
open Go.PV

def smallB (l : List (List Int)) : Bool := decide (l.length ≤ 12) && l.all fun li => decide (li.length ≤ 20)
theorem smallB_iff {l : List (List Int)} : smallB l = true ↔ l.length ≤ 12 ∧ ∀ li ∈ l, li.length ≤ 20 := by simp [smallB]

set_option maxHeartbeats 4000000 in
theorem small_ok (l : List (List Int)) (σ : Store) : PCall Try.prog 21 [.sl (intss l)] σ (fun p σ' => p = .bool (smallB l) ∧ σ' = σ) := by
  refine PCall.vraw [] 263247 19 [.tmp 2] (noE_ok _) mix Try.func21 rfl (by decide) rfl rfl (by simp) ?_
  simp -dsimp only [initFr, List.zipIdx_cons, List.zipIdx_nil, List.map_cons, List.map_nil, Nat.zero_add, Nat.reduceAdd]
  simp -dsimp (maxSteps := 4000000) +contextual (disch := first | omega | decide +kernel) only [↓vk_nil, ↓vk_skip, ↓vk_seq, ↓vk_block, ↓vk_region, ↓vk_cond, ↓vk_exit, ↓vk_endB, ↓vk_again, ↓vk_ret, ↓vk_loop_def, ↓vk_draw_def, ↓vk_look, ↓ve_nil, ↓ve_code, ↓ve_again, ↓ve_hit, ↓ve_miss, vkeep_go, ↓vo_end, ↓vo_op, ↓vo_opn, ↓vo_opg, ↓vo_opgn, vgs_some, ↓vx_true, ↓vx_truen, ↓vx_false, ↓vx_falsen, vx_dec, vx_ndec, vor_some, vor_none, vor_bool, boolR_t, boolR_f, vor_call, vex_none, vex_someD, vex_someN, noE_none, rQ_ret, rQ_normal, resW, fnRet, vc_true, vc_false, vc_dec, vc_ndec, ↓req_true, req_and, alt_true, alt_false, alt_not, gpv_bool, gpv_undef, ↓gslotL_zero, ↓gslotL_succ, ↓look_hit, ↓look_miss, lookP_t, lookP_f, ↓look_nil, cond_true, cond_false, consF_some, consF_none, keepF_nil, keepF_cons, Nat.reduceShiftRight, Nat.reduceAnd, Go.PV.fits, Go.PV.mutOf, List.contains_nil, List.contains_cons, beq_true, beq_false, Bool.not_not, Bool.not_true, Bool.not_false, ofVal_bool, ofVal_int, ofVal_str, ofVal_nilp, ofVal_nils, ofVal_nilm, ofVal_nilf, ofVal_agg, ofVal_tup, evO_tmp, evO_const, evO_func, ev_move, ev_assign, ev_pick, ev_nilCheck, ev_binOp, ev_unOp, ev_convert, ev_extract, ev_field, ev_fieldAddr, ev_indexAddr, ev_index, ev_load, ev_makeFunc, ev_alloc, ev_box, ev_store, ev_makeSlice, ev_slice, partsC_nil, partsC_cons, ev_build, ev_buildSlice, ev_call, ev_builtin, pick_b, nil_ptr, nil_iptr, bin_add, bin_sub, bin_mul, bin_quo, bin_rem, bin_and, bin_or, bin_xor, bin_eql, bin_neq, bin_lss, bin_leq, bin_gtr, bin_geq, bin_shl, bin_shr, bin_seql, bin_sneq, bin_sadd, bin_beql, bin_bneq, un_not, un_neg, conv_int, ext_tup, fldC_some, field_agg, fldP_some, fieldA_ptr, fieldA_iptr, rowsAt_some, idx_arr, idx_iarr, idx_sl, idx_msl, index_str, index_arr, load_iptr, load_ptr, loadOk_B, loadV_B, loadOkB_t, loadOkB_f, loadVB_t, loadVB_f, bi_len, bi_max, bi_min, bi_app, len_nils, len_sl, len_msl, len_str, len_arr, max_int, min_int, alloc_z, box_z, store_ptr, make_eq, makeZ_some, slice_nils, slice_sl, slice_msl, slcN_some, slcS_some, slcM_some, bound_none, bound_some, fill_nil, fill_cons, fillK_some, buildK_some, placeF_some, build_struct, placeA_eq, build_arr, rowsP_nil, rowsP_cons, rowsK_some, bsl_eq, bslK_nil, bslK_cons, rwAt_some, rows_nils, rows_sl, rows_msl, app_eq, app_nil0, app_nil, app_msl, call_func, cells_bool, cells_int, cells_str, cells_nilp, cells_ptr, cells_iptr, cells_nils, cells_sl, cells_msl, cells_nilm, cells_map, cells_func, cells_nilf, cells_agg, cell_bool, cell_int, cell_str, cell_nilp, cell_ptr, cell_iptr, cell_nils, cell_sl, cell_msl, cell_func, news_nil, news_cons, placeS_eq, Go.PV.splice, List.take_succ_cons, List.take_zero, List.drop_succ_cons, List.drop_zero, List.cons_append, List.all_cons, List.all_nil, Option.isSome_some, Int.reduceToNat, Int.reduceEq, Int.reduceAdd, Int.reduceSub, Int.reduceMul, List.getD_cons_zero, List.getD_cons_succ, Int.reduceLE, Int.reduceLT, Int.reduceNeg, Bool.and_self, Bool.true_and, Bool.and_true, Nat.reduceMul, Int.cast_ofNat_Int, decide_true, decide_false, beq_self_eq_true, Bool.true_beq, Bool.false_beq, Nat.le_refl, Nat.reduceLeDiff, List.length_cons, List.length_nil, ne_eq, not_false_eq_true, Nat.succ_ne_self, Nat.one_ne_zero, true_and, and_true, if_true, if_false, Bool.false_eq_true, reduceIte, Nat.reduceEqDiff, ↓Nat.reduceLT, Nat.reduceAdd, Nat.reduceBEq, reduceCtorEq, Bool.not_true, Bool.not_false, Bool.true_eq_false, decide_eq_true_eq, Option.bind_some, Option.bind_none, List.toList_toArray, List.getElem?_toArray, List.getElem?_cons_zero, List.getElem?_cons_succ, List.map_cons, List.map_nil, Option.map_some, Option.map_none, List.nil_append, List.append_nil, Int.toNat_natCast, Int.natCast_nonneg, Int.natCast_eq_zero, enc_length, encs_length, Nat.zero_add, Nat.mul_one, Option.isSome_some, and_self, true_and, and_true, ne_eq, not_false_eq_true, not_true_eq_false, tyU, tyC, tyB, tyA, tyI, tyZ, tyF, nlt_t, nlt_f, nle_t, nle_f, ilt_t, ilt_f, ile_t, ile_f, ieq_t, ieq_f, PV.int.injEq, PV.bool.injEq, PV.tup.injEq, List.cons.injEq, enc_getD, encs_getD, wrap_i64, enc_set, splice_one, List.set_cons_zero, List.getElem?_concat_length, set_last, List.length_replicate]
  have no : ¬ (l.length ≤ 12 ∧ ∀ li ∈ l, li.length ≤ 20) → false = smallB l := fun h => by
    have := mt smallB_iff.1 h
    simpa using this
  refine ⟨fun h => no (fun h2 => by omega), fun h => ?_⟩
  refine v_loopS (fun i : Nat => [(0, .sl (intss l)), (3, .int .i64 i)]) (fun _ => σ) (fun i => i ≤ l.length ∧ ∀ a, a < i → (l.getD a []).length ≤ 20) (fun i => l.length - i) 0 (by simp [weaker, Go.PV.look]) rfl ⟨by simp, fun a h => absurd h (Nat.not_lt_zero _)⟩ ?_
  rintro i ⟨hi, hall⟩
  simp -dsimp (maxSteps := 4000000) +contextual (disch := first | omega | decide +kernel) only [↓vk_nil, ↓vk_skip, ↓vk_seq, ↓vk_block, ↓vk_region, ↓vk_cond, ↓vk_exit, ↓vk_endB, ↓vk_again, ↓vk_ret, ↓vk_loop_def, ↓vk_draw_def, ↓vk_look, ↓ve_nil, ↓ve_code, ↓ve_again, ↓ve_hit, ↓ve_miss, vkeep_go, ↓vo_end, ↓vo_op, ↓vo_opn, ↓vo_opg, ↓vo_opgn, vgs_some, ↓vx_true, ↓vx_truen, ↓vx_false, ↓vx_falsen, vx_dec, vx_ndec, vor_some, vor_none, vor_bool, boolR_t, boolR_f, vor_call, vex_none, vex_someD, vex_someN, noE_none, rQ_ret, rQ_normal, resW, fnRet, vc_true, vc_false, vc_dec, vc_ndec, ↓req_true, req_and, alt_true, alt_false, alt_not, gpv_bool, gpv_undef, ↓gslotL_zero, ↓gslotL_succ, ↓look_hit, ↓look_miss, lookP_t, lookP_f, ↓look_nil, cond_true, cond_false, consF_some, consF_none, keepF_nil, keepF_cons, Nat.reduceShiftRight, Nat.reduceAnd, Go.PV.fits, Go.PV.mutOf, List.contains_nil, List.contains_cons, beq_true, beq_false, Bool.not_not, Bool.not_true, Bool.not_false, ofVal_bool, ofVal_int, ofVal_str, ofVal_nilp, ofVal_nils, ofVal_nilm, ofVal_nilf, ofVal_agg, ofVal_tup, evO_tmp, evO_const, evO_func, ev_move, ev_assign, ev_pick, ev_nilCheck, ev_binOp, ev_unOp, ev_convert, ev_extract, ev_field, ev_fieldAddr, ev_indexAddr, ev_index, ev_load, ev_makeFunc, ev_alloc, ev_box, ev_store, ev_makeSlice, ev_slice, partsC_nil, partsC_cons, ev_build, ev_buildSlice, ev_call, ev_builtin, pick_b, nil_ptr, nil_iptr, bin_add, bin_sub, bin_mul, bin_quo, bin_rem, bin_and, bin_or, bin_xor, bin_eql, bin_neq, bin_lss, bin_leq, bin_gtr, bin_geq, bin_shl, bin_shr, bin_seql, bin_sneq, bin_sadd, bin_beql, bin_bneq, un_not, un_neg, conv_int, ext_tup, fldC_some, field_agg, fldP_some, fieldA_ptr, fieldA_iptr, rowsAt_some, idx_arr, idx_iarr, idx_sl, idx_msl, index_str, index_arr, load_iptr, load_ptr, loadOk_B, loadV_B, loadOkB_t, loadOkB_f, loadVB_t, loadVB_f, bi_len, bi_max, bi_min, bi_app, len_nils, len_sl, len_msl, len_str, len_arr, max_int, min_int, alloc_z, box_z, store_ptr, make_eq, makeZ_some, slice_nils, slice_sl, slice_msl, slcN_some, slcS_some, slcM_some, bound_none, bound_some, fill_nil, fill_cons, fillK_some, buildK_some, placeF_some, build_struct, placeA_eq, build_arr, rowsP_nil, rowsP_cons, rowsK_some, bsl_eq, bslK_nil, bslK_cons, rwAt_some, rows_nils, rows_sl, rows_msl, app_eq, app_nil0, app_nil, app_msl, call_func, cells_bool, cells_int, cells_str, cells_nilp, cells_ptr, cells_iptr, cells_nils, cells_sl, cells_msl, cells_nilm, cells_map, cells_func, cells_nilf, cells_agg, cell_bool, cell_int, cell_str, cell_nilp, cell_ptr, cell_iptr, cell_nils, cell_sl, cell_msl, cell_func, news_nil, news_cons, placeS_eq, Go.PV.splice, List.take_succ_cons, List.take_zero, List.drop_succ_cons, List.drop_zero, List.cons_append, List.all_cons, List.all_nil, Option.isSome_some, Int.reduceToNat, Int.reduceEq, Int.reduceAdd, Int.reduceSub, Int.reduceMul, List.getD_cons_zero, List.getD_cons_succ, Int.reduceLE, Int.reduceLT, Int.reduceNeg, Bool.and_self, Bool.true_and, Bool.and_true, Nat.reduceMul, Int.cast_ofNat_Int, decide_true, decide_false, beq_self_eq_true, Bool.true_beq, Bool.false_beq, Nat.le_refl, Nat.reduceLeDiff, List.length_cons, List.length_nil, ne_eq, not_false_eq_true, Nat.succ_ne_self, Nat.one_ne_zero, true_and, and_true, if_true, if_false, Bool.false_eq_true, reduceIte, Nat.reduceEqDiff, ↓Nat.reduceLT, Nat.reduceAdd, Nat.reduceBEq, reduceCtorEq, Bool.not_true, Bool.not_false, Bool.true_eq_false, decide_eq_true_eq, Option.bind_some, Option.bind_none, List.toList_toArray, List.getElem?_toArray, List.getElem?_cons_zero, List.getElem?_cons_succ, List.map_cons, List.map_nil, Option.map_some, Option.map_none, List.nil_append, List.append_nil, Int.toNat_natCast, Int.natCast_nonneg, Int.natCast_eq_zero, enc_length, encs_length, Nat.zero_add, Nat.mul_one, Option.isSome_some, and_self, true_and, and_true, ne_eq, not_false_eq_true, not_true_eq_false, tyU, tyC, tyB, tyA, tyI, tyZ, tyF, nlt_t, nlt_f, nle_t, nle_f, ilt_t, ilt_f, ile_t, ile_f, ieq_t, ieq_f, PV.int.injEq, PV.bool.injEq, PV.tup.injEq, List.cons.injEq, enc_getD, encs_getD, wrap_i64, enc_set, splice_one, List.set_cons_zero, List.getElem?_concat_length, set_last, List.length_replicate]
  refine ⟨fun hil => ⟨fun h20 => no (fun h2 => ?_), fun h20 => ⟨i + 1, (by (try dsimp only); omega), (by simp [weaker, Go.PV.look]), rfl, by omega, fun a ha => ?_⟩⟩, fun hil => ?_⟩
  · have := h2.2 _ (gets_mem (show i < l.length by omega)); omega
  · by_cases hai : a < i
    · exact hall a hai
    · have : a = i := by omega
      rw [this]; omega
  · refine (smallB_iff.2 ⟨by omega, fun li hli => ?_⟩).symm
    obtain ⟨a, ha, rfl⟩ := List.mem_iff_getElem.1 hli
    have := hall a (by omega)
    rwa [List.getD_eq_getElem?_getD, List.getElem?_eq_getElem ha] at this

/-! ### A table of known callees: small, the choices, ref28.rank, law28.rank. -/
def decII (rows : List (List PV)) : List (List Int) := rows.map fun r => match r with | [.sl s] => decI s | _ => []
theorem decII_enc (k : IntKind) (l : List (List Int)) : decII (encII k l) = l := by
  simp only [decII, encII, List.map_map]
  exact (List.map_congr_left (fun x _ => decI_enc k x)).trans (List.map_id l)
def exSmall (σ : Store) : List PV → Option (Prop × PV × Store)
  | [.sl rows] => some (rows = intss (decII rows), .bool (smallB (decII rows)), σ)
  | _ => some (False, .unk, σ)
theorem exSmall_eq (σ : Store) (l : List (List Int)) : exSmall σ [.sl (encII .i64 l)] = some (True, .bool (smallB l), σ) := by
  simp only [exSmall, decII_enc, eq_self]
/-- A choice. -/
def exNextO (o : Nat) (n : Int) (σ : Store) : Option Go.PV.Obj → Option (Prop × PV × Store)
  | some (.rows t sz [[.sl rows, .int .i64 k]] 0) => some ((t = 91 ∧ sz = 2) ∧ rows = encI .u8 (decI rows) ∧ 0 ≤ k ∧ okInts .u8 (decI rows) ∧ (decI rows).length < 1099511627776 ∧ k.toNat ≤ (decI rows).length ∧ n < 4611686018427387904,
      .int .i64 (nxt (decI rows) k.toNat n).1, σ.set o (codes (decI rows) (nxt (decI rows) k.toNat n).2))
  | _ => none
def exNext (σ : Store) : List PV → Option (Prop × PV × Store)
  | [.ptr o 0 0 0, .int .i64 n] => exNextO o n σ σ[o]?
  | _ => none
theorem exNextO_codes (o : Nat) (n : Int) (σ : Store) (l : List Int) (k : Nat) : exNextO o n σ (some (codes l k)) = some (okInts .u8 l ∧ l.length < 1099511627776 ∧ k ≤ l.length ∧ n < 4611686018427387904, .int .i64 (nxt l k n).1, σ.set o (codes l (nxt l k n).2)) := by
  simp only [codes, exNextO, decI_enc, Int.toNat_natCast, and_self, true_and, Int.natCast_nonneg]
def kn2 : Ext := ⟨fun F args σ => if F = 21 then exSmall σ args else if F = 23 then exNext σ args else kn.f F args σ, 21 :: kn.pu⟩
theorem kn2_small (σ : Store) (l : List (List Int)) : kn2.f 21 [.sl (encII .i64 l)] σ = some (True, .bool (smallB l), σ) := exSmall_eq _ _
theorem kn2_next (σ : Store) (o : Nat) (n : Int) : kn2.f 23 [.ptr o 0 0 0, .int .i64 n] σ = exNextO o n σ σ[o]? := rfl
theorem kn2_rank (σ : Store) (l : List Int) (x : Int) : kn2.f 53 [.sl (encI .i64 l), .int .i64 x] σ = some (l.length < 1099511627776, .int .i64 (rkI l x), σ) := kn_rank _ _ _
theorem kn2_lrank (σ : Store) (l : List Int) (x : Int) : kn2.f 30 [.sl (encI .i64 l), .int .i64 x] σ = some (l.length < 1099511627776, .int .i64 (rkL l x), σ) := kn_lrank _ _ _
theorem kn2_ok : ExtOk Try.prog kn2 := by
  refine ⟨fun F args σ c p σ' h hc => ?_, fun F hF args σ => ?_⟩
  · simp only [kn2] at h
    split at h
    · rename_i hF; subst hF
      unfold exSmall at h
      split at h
      · rename_i rows
        cases h
        have := small_ok (decII rows) σ
        rwa [← hc] at this
      · cases h; exact hc.elim
    · split at h
      · rename_i hF; subst hF
        unfold exNext at h
        split at h
        · rename_i o n
          unfold exNextO at h
          split at h
          · rename_i t sz rows k hob
            cases h
            obtain ⟨⟨rfl, rfl⟩, h1, h2, h3, h4, h5, h6⟩ := hc
            obtain ⟨q, rfl⟩ := Int.eq_ofNat_of_zero_le h2
            rw [Int.toNat_natCast] at h5 ⊢
            refine next_on o (decI rows) q n ?_ h3 (by omega) h5 (by omega) ⟨rfl, rfl⟩
            rw [hob, codes, ← h1]
          · cases h
        · cases h
      · exact kn_ok.ok F args σ c p σ' h hc
  · simp only [kn2, List.mem_cons] at hF ⊢
    rcases hF with rfl | hF
    · simp only [if_true]
      unfold exSmall
      split <;> exact ⟨_, _, rfl⟩
    · have hne : F ≠ 21 ∧ F ≠ 23 := by
        simp only [kn, List.mem_cons, List.not_mem_nil, or_false] at hF
        rcases hF with rfl | rfl <;> decide
      rw [if_neg hne.1, if_neg hne.2]
      exact kn_ok.pure F hF args σ
end Go.Proofs.Ytijigploahapfaa
