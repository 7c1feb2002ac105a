/- Chapter 32, the walks: the law of the order. -/
import Derived.Test.YthginmfobikdgaaWtO
import Derived.Test.YthginmfobikdgaaWtP
import Derived.Test.YthginmfobikdgaaWtQ
set_option linter.unusedSimpArgs false
set_option linter.unusedVariables false
namespace Go.Proofs.Ythginmfobikdgaa
open Go.PV

theorem app_ints0 {σ : Store} {zs : List PV} {c : Prop} {l : List Int} (h : 0 < l.length) (h2 : l.length ≤ 1000) : appC Try.prog σ 3 (some zs) .nils (some (c, encI .i64 l)) = .val (c ∧ zs.length = 1) (.msl σ.length 0) (σ ++ [.rows 3 1 (encI .i64 l) 0]) := by
  obtain ⟨x, xs, rfl⟩ : ∃ x xs, l = x :: xs := by cases l with | nil => simp at h | cons x xs => exact ⟨x, xs, rfl⟩
  have e : encI .i64 (x :: xs) = [.int .i64 x] :: encI .i64 xs := rfl
  have hn : newsOk Try.prog 3 (encI .i64 (x :: xs)) = true := by simp [newsOk, encI, PV.cell, tyC]
  simp only [List.length_cons] at h2
  have m1 := mxB ((xs.length + 1) * 8) (by omega)
  have m2 := mxL (xs.length + 1) (by omega)
  rw [e, app_nil, ← e, hn]
  simp only [tyC, tyB, enc_length, m1, m2, List.length_cons, true_and, and_true, ne_eq, Nat.one_ne_zero, not_false_eq_true]
theorem app_counts0 {σ : Store} {zs : List PV} {c : Prop} {l : List FC} (h : 0 < l.length) (h2 : l.length ≤ 1000) : appC Try.prog σ 51 (some zs) .nils (some (c, encC l)) = .val (c ∧ zs.length = 1) (.msl σ.length 0) (σ ++ [.rows 51 1 (encC l) 0]) := by
  obtain ⟨x, xs, rfl⟩ : ∃ x xs, l = x :: xs := by cases l with | nil => simp at h | cons x xs => exact ⟨x, xs, rfl⟩
  have e : encC (x :: xs) = [.sl [x.row]] :: encC xs := rfl
  have hn : newsOk Try.prog 51 (encC (x :: xs)) = true := by simp [newsOk, encC, PV.cell, tyC]
  simp only [List.length_cons] at h2
  have m1 := mxB ((xs.length + 1) * 24) (by omega)
  have m2 := mxL (xs.length + 1) (by omega)
  rw [e, app_nil, ← e, hn]
  simp only [tyC, tyB, encC_length, m1, m2, List.length_cons, true_and, and_true, ne_eq, Nat.one_ne_zero, not_false_eq_true]
theorem encC_set (l : List FC) (i : Nat) (x : FC) : (encC l).set i [.sl [x.row]] = encC (l.set i x) := by simp [encC, List.map_set]
theorem zip_parts : ∀ (a : List Int) (l : List FC), a.length = l.length → ∃ z : List (Int × FC), a = z.map (·.1) ∧ l = z.map (·.2)
  | [], [], _ => ⟨[], rfl, rfl⟩
  | x :: a, y :: l, h => by
    obtain ⟨z, h1, h2⟩ := zip_parts a l (by simpa using h)
    exact ⟨(x, y) :: z, by simp [h1], by simp [h2]⟩
  | [], _ :: _, h => by simp at h
  | _ :: _, [], h => by simp at h
theorem swap_gen {α : Type} (z : List α) (i j : Nat) (d : α) (hi : i < z.length) (hj : j < z.length) : ((z.set i (z.getD j d)).set j (z.getD i d)).Perm z := by
  have := List.set_set_perm hi hj
  rwa [List.getD_eq_getElem?_getD, List.getElem?_eq_getElem hj, List.getD_eq_getElem?_getD, List.getElem?_eq_getElem hi]

set_option maxHeartbeats 16000000 in
theorem order_ok (l0 o0 : List Int) (hl0 : okInts .u8 l0) (ho0 : okInts .u8 o0) : PCall Try.prog 5 [.sl (encI .u8 l0), .sl (encI .u8 o0)] [] (fun p _ => p = .bool true) := by
  have k0 : ∀ args σ, wk3.f 23 args σ = none := fun _ _ => rfl
  have k1 : ∀ args σ, wk3.f 19 args σ = none := fun _ _ => rfl
  have k2 : ∀ args σ, wk3.f 28 args σ = none := fun _ _ => rfl
  have k3 : ∀ args σ, wk3.f 24 args σ = none := fun _ _ => rfl
  have k4 : ∀ args σ, wk3.f 27 args σ = none := fun _ _ => rfl
  refine PCall.vfrz [] 274878693375 102 [.tmp 4] wk3_ok mix Try.func5 rfl (by decide) rfl rfl (by simp) ?_
  simp -dsimp only [initFr, List.zipIdx_cons, List.zipIdx_nil, List.map_cons, List.map_nil, Nat.zero_add, Nat.reduceAdd]
  simp -dsimp (maxSteps := 4000000) +contextual (disch := first | omega | decide +kernel) only [↓vsD, vsU, resW, fnRet, cond_true, cond_false, Nat.reduceShiftRight, Nat.reduceAnd, Go.PV.fits, Go.PV.mutOf, Go.PV.splice, Int.reduceToNat, Int.reduceEq, Int.reduceAdd, Int.reduceSub, Int.reduceMul, Int.reduceLE, Int.reduceLT, Int.reduceNeg, Nat.reduceMul, Nat.reduceLeDiff, ne_eq, if_true, if_false, reduceIte, Nat.reduceEqDiff, ↓Nat.reduceLT, Nat.reduceAdd, Nat.reduceBEq, reduceCtorEq, enc_length, encs_length, tyU, tyC, tyB, tyA, tyI, tyZ, tyF, tyP, enc_getD, encs_getD, wrap_i64, enc_set, splice_one, set_last, wk3_next, exNextO_codes, wk3_int, wk3_rate, exDrawO_codes, wk3_valid, wk3_rvalid, wk3_power, intG, rateG, k0, k1]
  refine PCall.mono (awake32_on _) ?_
  rintro p σ' ⟨rfl, rfl⟩
  simp -dsimp (maxSteps := 4000000) +contextual (disch := first | omega | decide +kernel) only [↓vsD, vsU, resW, fnRet, cond_true, cond_false, Nat.reduceShiftRight, Nat.reduceAnd, Go.PV.fits, Go.PV.mutOf, Go.PV.splice, Int.reduceToNat, Int.reduceEq, Int.reduceAdd, Int.reduceSub, Int.reduceMul, Int.reduceLE, Int.reduceLT, Int.reduceNeg, Nat.reduceMul, Nat.reduceLeDiff, ne_eq, if_true, if_false, reduceIte, Nat.reduceEqDiff, ↓Nat.reduceLT, Nat.reduceAdd, Nat.reduceBEq, reduceCtorEq, enc_length, encs_length, tyU, tyC, tyB, tyA, tyI, tyZ, tyF, tyP, enc_getD, encs_getD, wrap_i64, enc_set, splice_one, set_last, wk3_next, exNextO_codes, wk3_int, wk3_rate, exDrawO_codes, wk3_valid, wk3_rvalid, wk3_power, intG, rateG, k0, k1]
  refine PCall.mono (new_on l0 400 _) ?_
  rintro p σ' ⟨rfl, rfl⟩
  obtain ⟨cs, hcs⟩ : ∃ cs, cs = l0.take 400 := ⟨_, rfl⟩
  have hcl : okInts .u8 cs := fun n hn => hl0 n (by rw [hcs] at hn; exact List.mem_of_mem_take hn)
  have hcn : cs.length ≤ 400 := by rw [hcs]; simp; omega
  rw [← hcs]
  simp -dsimp (maxSteps := 4000000) +contextual (disch := first | omega | decide +kernel) only [↓vsD, vsU, resW, fnRet, cond_true, cond_false, Nat.reduceShiftRight, Nat.reduceAnd, Go.PV.fits, Go.PV.mutOf, Go.PV.splice, Int.reduceToNat, Int.reduceEq, Int.reduceAdd, Int.reduceSub, Int.reduceMul, Int.reduceLE, Int.reduceLT, Int.reduceNeg, Nat.reduceMul, Nat.reduceLeDiff, ne_eq, if_true, if_false, reduceIte, Nat.reduceEqDiff, ↓Nat.reduceLT, Nat.reduceAdd, Nat.reduceBEq, reduceCtorEq, enc_length, encs_length, tyU, tyC, tyB, tyA, tyI, tyZ, tyF, tyP, enc_getD, encs_getD, wrap_i64, enc_set, splice_one, set_last, wk3_next, exNextO_codes, wk3_int, wk3_rate, exDrawO_codes, wk3_valid, wk3_rvalid, wk3_power, intG, rateG, k0, k1, k3]
  refine PCall.mono (draw_w cs 0 6 (by omega) (by omega) hcl (by omega) (by omega)) ?_
  rintro p σ' ⟨a, l, k, rfl, rfl, hk, hal, hll0, hll, hage, hdr⟩
  obtain ⟨num, den, hnd⟩ : ∃ num den, (rateC cs k).1 = (num, den) := ⟨_, _, rfl⟩
  have hr : validR num den := by
    have := rateC_in hcl k
    rw [hnd] at this
    exact ⟨this.1.1, this.1.2, this.2.1, this.2.2⟩
  have ha0 : 0 < a.length := by omega
  have hax : a.length ≤ 1000 := by omega
  have hlx : l.length ≤ 1000 := by omega
  simp -dsimp (maxSteps := 4000000) +contextual (disch := first | omega | decide +kernel) only [↓vsD, vsU, resW, fnRet, cond_true, cond_false, Nat.reduceShiftRight, Nat.reduceAnd, Go.PV.fits, Go.PV.mutOf, Go.PV.splice, Int.reduceToNat, Int.reduceEq, Int.reduceAdd, Int.reduceSub, Int.reduceMul, Int.reduceLE, Int.reduceLT, Int.reduceNeg, Nat.reduceMul, Nat.reduceLeDiff, ne_eq, if_true, if_false, reduceIte, Nat.reduceEqDiff, ↓Nat.reduceLT, Nat.reduceAdd, Nat.reduceBEq, reduceCtorEq, enc_length, encs_length, tyU, tyC, tyB, tyA, tyI, tyZ, tyF, tyP, enc_getD, encs_getD, wrap_i64, enc_set, splice_one, set_last, wk3_next, exNextO_codes, wk3_int, wk3_rate, exDrawO_codes, wk3_valid, wk3_rvalid, wk3_power, intG, rateG, k0, k1, k3, k4, hcl, hnd, app_ints0, app_counts0]
  refine PCall.mono (new_on o0 20 _) ?_
  rintro p σ' ⟨rfl, rfl⟩
  obtain ⟨os, hos⟩ : ∃ os, os = o0.take 20 := ⟨_, rfl⟩
  have hol : okInts .u8 os := fun n hn => ho0 n (by rw [hos] at hn; exact List.mem_of_mem_take hn)
  have hon : os.length ≤ 20 := by rw [hos]; simp; omega
  rw [← hos]
  simp -dsimp (maxSteps := 4000000) +contextual (disch := first | omega | decide +kernel) only [↓vsD, vsU, resW, fnRet, cond_true, cond_false, Nat.reduceShiftRight, Nat.reduceAnd, Go.PV.fits, Go.PV.mutOf, Go.PV.splice, Int.reduceToNat, Int.reduceEq, Int.reduceAdd, Int.reduceSub, Int.reduceMul, Int.reduceLE, Int.reduceLT, Int.reduceNeg, Nat.reduceMul, Nat.reduceLeDiff, ne_eq, if_true, if_false, reduceIte, Nat.reduceEqDiff, ↓Nat.reduceLT, Nat.reduceAdd, Nat.reduceBEq, reduceCtorEq, enc_length, encs_length, tyU, tyC, tyB, tyA, tyI, tyZ, tyF, tyP, enc_getD, encs_getD, wrap_i64, enc_set, splice_one, set_last, wk3_next, exNextO_codes, wk3_int, wk3_rate, exDrawO_codes, wk3_valid, wk3_rvalid, wk3_power, intG, rateG, k0, k1, k3, k4]
  obtain ⟨z0, rfl, rfl⟩ := zip_parts a l hal
  rw [List.length_map] at hll0 hll
  refine v_loopS (fun s : Nat × List (Int × FC) × Nat => [(6, .sl (ints (z0.map (·.1)))), (7, .sl (encC (z0.map (·.2)))), (8, .ptr 1 0 0 0), (9, .msl 2 0), (10, .msl 3 0), (11, .ptr 4 0 0 0), (12, .int .i64 s.1)])
    (fun s => [codes cs (rateC cs k).2, .rows 46 2 [[.int .i64 num, .int .i64 den]] 0, .rows 3 1 (ints (s.2.1.map (·.1))) 0, .rows 51 1 (encC (s.2.1.map (·.2))) 0, codes os s.2.2]) (fun s => s.1 ≤ z0.length ∧ z0.Perm s.2.1 ∧ s.2.2 ≤ os.length) (fun s => z0.length - s.1) (0, z0, 0) (by simp [weaker, Go.PV.look]) rfl ⟨by simp, .refl _, by simp⟩ ?_
  rintro ⟨i, z, q⟩ ⟨hi, hp, hq⟩
  dsimp only at hi hp hq ⊢
  have hzl := hp.length_eq
  by_cases hil : i < z0.length
  · have hn := nxt_lt hol q ((z0.length : Int) - i) (by omega)
    have hq2 := nxt_le hq ((z0.length : Int) - i)
    obtain ⟨j, hj⟩ : ∃ j : Nat, (i : Int) + (nxt os q ((z0.length : Int) - i)).1 = j := ⟨((i : Int) + (nxt os q ((z0.length : Int) - i)).1).toNat, by omega⟩
    have hjl : j < z.length := by omega
    have hiz : i < z.length := by omega
    have hm1 : (z.map (·.1)).length = z.length := List.length_map ..
    have hm2 : (z.map (·.2)).length = z.length := List.length_map ..
    have hm3 : ((z.map (·.1)).set i ((z.map (·.1)).getD j 0)).length = z.length := by simp
    have hm4 : ((z.map (·.2)).set i ((z.map (·.2)).getD j default)).length = z.length := by simp
    simp -dsimp (maxSteps := 4000000) +contextual (disch := first | omega | decide +kernel) only [↓vsD, vsU, resW, fnRet, cond_true, cond_false, Nat.reduceShiftRight, Nat.reduceAnd, Go.PV.fits, Go.PV.mutOf, Go.PV.splice, Int.reduceToNat, Int.reduceEq, Int.reduceAdd, Int.reduceSub, Int.reduceMul, Int.reduceLE, Int.reduceLT, Int.reduceNeg, Nat.reduceMul, Nat.reduceLeDiff, ne_eq, if_true, if_false, reduceIte, Nat.reduceEqDiff, ↓Nat.reduceLT, Nat.reduceAdd, Nat.reduceBEq, reduceCtorEq, enc_length, encs_length, tyU, tyC, tyB, tyA, tyI, tyZ, tyF, tyP, enc_getD, encs_getD, wrap_i64, enc_set, splice_one, set_last, wk3_next, exNextO_codes, wk3_int, wk3_rate, exDrawO_codes, wk3_valid, wk3_rvalid, wk3_power, intG, rateG, k0, k1, k2, k3, k4, List.length_map, ← hzl, hol, hj]
    refine v_draws _ _ _ _ _ _ [13, 15] [] [(0, 0), (0, 0), (0, 1), (0, 1), (0, 0), (0, 0), (0, 0), (0, 0), (0, 0), (0, 0), (0, 0), (0, 0), (0, 0), (0, 0), (1, 1), (0, 0)] (by decide +kernel) (by decide +kernel) (by decide +kernel) (by decide +kernel) ?_
    simp -dsimp (maxSteps := 4000000) +contextual (disch := first | omega | decide +kernel) only [↓vsD, vsU, resW, fnRet, cond_true, cond_false, Nat.reduceShiftRight, Nat.reduceAnd, Go.PV.fits, Go.PV.mutOf, Go.PV.splice, Int.reduceToNat, Int.reduceEq, Int.reduceAdd, Int.reduceSub, Int.reduceMul, Int.reduceLE, Int.reduceLT, Int.reduceNeg, Nat.reduceMul, Nat.reduceLeDiff, ne_eq, if_true, if_false, reduceIte, Nat.reduceEqDiff, ↓Nat.reduceLT, Nat.reduceAdd, Nat.reduceBEq, reduceCtorEq, enc_length, encs_length, tyU, tyC, tyB, tyA, tyI, tyZ, tyF, tyP, enc_getD, encs_getD, wrap_i64, enc_set, splice_one, set_last, wk3_next, exNextO_codes, wk3_int, wk3_rate, exDrawO_codes, wk3_valid, wk3_rvalid, wk3_power, intG, rateG, vdx_none, vkp_go, ↓vd_end, place_nil, place_cons, vdo_eff, vdo_effA, ↓vdm_go, List.take_succ_cons, List.take_zero, List.drop_succ_cons, List.drop_zero, vdo_noeff_s, vdo_noeff_n, vdo_nofloat, vdo_noread, vdo_read, vdo_floatS, vdo_floatA, vde_s, vde_n, vde_c, vdx_s, vdr_s, vdr_b, vdf_m, vdf_p, ↓vd_op, ↓guard_none, ↓guard_some, gval_some, List.forall_mem_cons, List.not_mem_nil, false_implies, implies_true, List.length_append, List.length_replicate, List.replicate_zero, List.replicate_succ, List.contains_nil, List.contains_cons, Bool.or_false, Bool.false_or, Bool.or_self, Bool.or_true, Bool.true_or, vdr_o, vdq_eq, vdw_s, outR_v, rowsAt_none, mapAt_none, lnil, drop0, k0, k1, k2, k3, k4, List.length_map, ← hzl, enc_length, encC_length, encC_getD, List.length_set]
    refine v_draws _ _ _ _ _ _ [13, 15] [] [(0, 0), (0, 0), (0, 1), (0, 1), (0, 0), (0, 0), (0, 0), (0, 0), (0, 0), (0, 0), (0, 0), (0, 0), (0, 0), (0, 0), (1, 1), (0, 0)] (by decide +kernel) (by decide +kernel) (by decide +kernel) (by decide +kernel) ?_
    simp -dsimp (maxSteps := 4000000) +contextual (disch := first | omega | decide +kernel) only [↓vsD, vsU, resW, fnRet, cond_true, cond_false, Nat.reduceShiftRight, Nat.reduceAnd, Go.PV.fits, Go.PV.mutOf, Go.PV.splice, Int.reduceToNat, Int.reduceEq, Int.reduceAdd, Int.reduceSub, Int.reduceMul, Int.reduceLE, Int.reduceLT, Int.reduceNeg, Nat.reduceMul, Nat.reduceLeDiff, ne_eq, if_true, if_false, reduceIte, Nat.reduceEqDiff, ↓Nat.reduceLT, Nat.reduceAdd, Nat.reduceBEq, reduceCtorEq, enc_length, encs_length, tyU, tyC, tyB, tyA, tyI, tyZ, tyF, tyP, enc_getD, encs_getD, wrap_i64, enc_set, splice_one, set_last, wk3_next, exNextO_codes, wk3_int, wk3_rate, exDrawO_codes, wk3_valid, wk3_rvalid, wk3_power, intG, rateG, vdx_none, vkp_go, ↓vd_end, place_nil, place_cons, vdo_eff, vdo_effA, ↓vdm_go, List.take_succ_cons, List.take_zero, List.drop_succ_cons, List.drop_zero, vdo_noeff_s, vdo_noeff_n, vdo_nofloat, vdo_noread, vdo_read, vdo_floatS, vdo_floatA, vde_s, vde_n, vde_c, vdx_s, vdr_s, vdr_b, vdf_m, vdf_p, ↓vd_op, ↓guard_none, ↓guard_some, gval_some, List.forall_mem_cons, List.not_mem_nil, false_implies, implies_true, List.length_append, List.length_replicate, List.replicate_zero, List.replicate_succ, List.contains_nil, List.contains_cons, Bool.or_false, Bool.false_or, Bool.or_self, Bool.or_true, Bool.true_or, vdr_o, vdq_eq, vdw_s, outR_v, rowsAt_none, mapAt_none, lnil, drop0, k0, k1, k2, k3, k4, List.length_map, ← hzl, enc_length, encC_length, encC_getD, encC_set, List.length_set]
    have hg1 : ∀ c, (z.map (·.1)).getD c 0 = (z.getD c (0, default)).1 := fun c => by
      simp only [List.getD_eq_getElem?_getD, List.getElem?_map]
      cases z[c]? <;> rfl
    have hg2 : ∀ c, (z.map (·.2)).getD c default = (z.getD c (0, default)).2 := fun c => by
      simp only [List.getD_eq_getElem?_getD, List.getElem?_map]
      cases z[c]? <;> rfl
    exact ⟨(i + 1, (z.set i (z.getD j (0, default))).set j (z.getD i (0, default)), (nxt os q ((z0.length : Int) - i)).2), (by (try dsimp only); omega), (by simp [weaker, Go.PV.look]), by simp only [List.map_set, hg1, hg2], by dsimp only; omega, hp.trans (swap_gen z i j _ hiz hjl).symm, hq2⟩
  · simp -dsimp (maxSteps := 4000000) +contextual (disch := first | omega | decide +kernel) only [↓vsD, vsU, resW, fnRet, cond_true, cond_false, Nat.reduceShiftRight, Nat.reduceAnd, Go.PV.fits, Go.PV.mutOf, Go.PV.splice, Int.reduceToNat, Int.reduceEq, Int.reduceAdd, Int.reduceSub, Int.reduceMul, Int.reduceLE, Int.reduceLT, Int.reduceNeg, Nat.reduceMul, Nat.reduceLeDiff, ne_eq, if_true, if_false, reduceIte, Nat.reduceEqDiff, ↓Nat.reduceLT, Nat.reduceAdd, Nat.reduceBEq, reduceCtorEq, enc_length, encs_length, tyU, tyC, tyB, tyA, tyI, tyZ, tyF, tyP, enc_getD, encs_getD, wrap_i64, enc_set, splice_one, set_last, wk3_next, exNextO_codes, wk3_int, wk3_rate, exDrawO_codes, wk3_valid, wk3_rvalid, wk3_power, intG, rateG, k0, k1, k2, k3, k4, List.length_map, ← hzl, hol]
    refine PCall.mono (combine_drawn (z0.map (·.1)) (z0.map (·.2)) num den hr hage (by simp) (by simpa using hll0) (by simp; omega) hdr _) ?_
    rintro p σ' ⟨rfl, rfl⟩
    simp -dsimp (maxSteps := 4000000) +contextual (disch := first | omega | decide +kernel) only [↓vsD, vsU, resW, fnRet, cond_true, cond_false, Nat.reduceShiftRight, Nat.reduceAnd, Go.PV.fits, Go.PV.mutOf, Go.PV.splice, Int.reduceToNat, Int.reduceEq, Int.reduceAdd, Int.reduceSub, Int.reduceMul, Int.reduceLE, Int.reduceLT, Int.reduceNeg, Nat.reduceMul, Nat.reduceLeDiff, ne_eq, if_true, if_false, reduceIte, Nat.reduceEqDiff, ↓Nat.reduceLT, Nat.reduceAdd, Nat.reduceBEq, reduceCtorEq, enc_length, encs_length, tyU, tyC, tyB, tyA, tyI, tyZ, tyF, tyP, enc_getD, encs_getD, wrap_i64, enc_set, splice_one, set_last, wk3_next, exNextO_codes, wk3_int, wk3_rate, exDrawO_codes, wk3_valid, wk3_rvalid, wk3_power, intG, rateG, k0, k1, k2, k3, k4]
    refine PCall.frz [2, 3] (args2 := [.sl (ints (z.map (·.1))), .sl (encC (z.map (·.2))), .agg [.int .i64 num, .int .i64 den]]) (PCall.mono (combine_drawn (z.map (·.1)) (z.map (·.2)) num den hr (fun x hx => hage x ((hp.map (·.1)).mem_iff.2 hx)) (by simp) (by simp; omega) (by simp; omega) (fun x hx => hdr x ((hp.map (·.2)).mem_iff.2 hx)) _) ?_) rfl ?_
    · rintro p σ' ⟨rfl, rfl⟩
      rw [← combF_perm num den hr z0 z hp (fun p hp => hage _ (List.mem_map_of_mem hp)) (fun p hp => hdr _ (List.mem_map_of_mem hp)) hll0]
      simp -dsimp (maxSteps := 4000000) +contextual (disch := first | omega | decide +kernel) only [↓vsD, vsU, resW, fnRet, cond_true, cond_false, Nat.reduceShiftRight, Nat.reduceAnd, Go.PV.fits, Go.PV.mutOf, Go.PV.splice, Int.reduceToNat, Int.reduceEq, Int.reduceAdd, Int.reduceSub, Int.reduceMul, Int.reduceLE, Int.reduceLT, Int.reduceNeg, Nat.reduceMul, Nat.reduceLeDiff, ne_eq, if_true, if_false, reduceIte, Nat.reduceEqDiff, ↓Nat.reduceLT, Nat.reduceAdd, Nat.reduceBEq, reduceCtorEq, enc_length, encs_length, tyU, tyC, tyB, tyA, tyI, tyZ, tyF, tyP, enc_getD, encs_getD, wrap_i64, enc_set, splice_one, set_last, wk3_next, exNextO_codes, wk3_int, wk3_rate, exDrawO_codes, wk3_valid, wk3_rvalid, wk3_power, intG, rateG, k0, k1, k2, k3, k4, killZ]
      obtain ⟨q1, q2, q3⟩ := combF_small z0 num den (fun p hp => hdr _ (List.mem_map_of_mem hp)) hll0
      refine PCall.mono (sameAll_on _ (by omega) (by omega) q3 _) ?_
      rintro p σ' ⟨rfl, rfl⟩
      simp -dsimp (maxSteps := 4000000) +contextual (disch := first | omega | decide +kernel) only [↓vsD, vsU, resW, fnRet, cond_true, cond_false, Nat.reduceShiftRight, Nat.reduceAnd, Go.PV.fits, Go.PV.mutOf, Go.PV.splice, Int.reduceToNat, Int.reduceEq, Int.reduceAdd, Int.reduceSub, Int.reduceMul, Int.reduceLE, Int.reduceLT, Int.reduceNeg, Nat.reduceMul, Nat.reduceLeDiff, ne_eq, if_true, if_false, reduceIte, Nat.reduceEqDiff, ↓Nat.reduceLT, Nat.reduceAdd, Nat.reduceBEq, reduceCtorEq, enc_length, encs_length, tyU, tyC, tyB, tyA, tyI, tyZ, tyF, tyP, enc_getD, encs_getD, wrap_i64, enc_set, splice_one, set_last, wk3_next, exNextO_codes, wk3_int, wk3_rate, exDrawO_codes, wk3_valid, wk3_rvalid, wk3_power, intG, rateG, k0, k1, k2, k3, k4]
      exact fin0 (.keep _ (bel_bool _ _)) rfl
    · intro j p p2 h1 h2
      match j with
      | 0 => simp at h1 h2; subst h1 h2; exact Frzn.msl0 (elem := 3) (sz := 1) (by simp) rfl
      | 1 => simp at h1 h2; subst h1 h2; exact Frzn.msl0 (elem := 51) (sz := 1) (by simp) rfl
      | 2 => simp at h1 h2; subst h1 h2; exact .keep _
      | j + 3 => simp at h1
end Go.Proofs.Ythginmfobikdgaa
