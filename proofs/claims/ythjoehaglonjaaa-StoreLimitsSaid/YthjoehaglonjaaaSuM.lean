/- Chapter 31: a store that is full, walked. -/
import Derived.Test.YthjoehaglonjaaaSuJ
set_option linter.unusedSimpArgs false
set_option linter.unusedVariables false
namespace Go.Proofs.Ythjoehaglonjaaa
open Go.PV

def fullP (m : Nat) : List Pc := (List.range m).map (fun i => pc1 (2 * (i + 1 : Nat)) 1)
def fullC (a m : Nat) : List Idn := (List.range m).map (fun i => (0, 0, (2 * (a + i + 1 : Nat) : Int)))
def fullS (n c : Nat) : StS := ⟨fullP (n - c), fullC (n - c) c⟩
theorem fullP_succ (m : Nat) : fullP (m + 1) = fullP m ++ [pc1 (2 * (m + 1 : Nat)) 1] := by simp [fullP, List.range_succ]
theorem fullC_succ (a m : Nat) : fullC a (m + 1) = fullC a m ++ [(0, 0, (2 * (a + m + 1 : Nat) : Int))] := by simp [fullC, List.range_succ]
theorem fullP_len (m : Nat) : (fullP m).length = m := by simp [fullP]
theorem fullC_len (a m : Nat) : (fullC a m).length = m := by simp [fullC]
theorem fullP_mem {m : Nat} {p : Pc} (h : p ∈ fullP m) : ∃ i, i < m ∧ p = pc1 (2 * (i + 1 : Nat)) 1 := by
  obtain ⟨i, hi, rfl⟩ := List.mem_map.1 h
  exact ⟨i, List.mem_range.1 hi, rfl⟩
theorem fullC_mem {a m : Nat} {x : Idn} (h : x ∈ fullC a m) : ∃ i, i < m ∧ x = (0, 0, (2 * (a + i + 1 : Nat) : Int)) := by
  obtain ⟨i, hi, rfl⟩ := List.mem_map.1 h
  exact ⟨i, List.mem_range.1 hi, rfl⟩
theorem fullS_ids {n c : Nat} (hc : c ≤ n) {x : Idn} (h : x ∈ idl (fullS n c)) : ∃ i, i < n ∧ x = (0, 0, (2 * (i + 1 : Nat) : Int)) := by
  rcases (idl_mem _ _).1 h with ⟨p, hp, rfl⟩ | h
  · obtain ⟨i, hi, rfl⟩ := fullP_mem hp
    exact ⟨i, by omega, rfl⟩
  · obtain ⟨i, hi, rfl⟩ := fullC_mem h
    exact ⟨n - c + i, by omega, rfl⟩
theorem fullS_size {n c : Nat} (hc : c ≤ n) : sizeS (fullS n c) = n := by
  unfold sizeS fullS
  rw [fullP_len, fullC_len]; omega
theorem num_lt {a b : Int} (h : a < b) : idlt (0, 0, a) (0, 0, b) := .inr ⟨rfl, .inr ⟨rfl, h⟩⟩
theorem fullS_okS {n c : Nat} (hc : c ≤ n) : OkS (fullS n c) := by
  refine ⟨?_, ?_, fun p hp h => ?_⟩
  · show (List.map _ _).Pairwise _
    rw [List.pairwise_map]
    exact List.pairwise_lt_range.imp (fun {a b} h => num_lt (by omega))
  · show (List.map _ _).Pairwise _
    rw [List.pairwise_map]
    exact List.pairwise_lt_range.imp (fun {a b} h => num_lt (by omega))
  · obtain ⟨i, hi, rfl⟩ := fullP_mem hp
    obtain ⟨j, hj, e⟩ := fullC_mem h
    simp only [pc1, Prod.mk.injEq, true_and] at e
    omega
theorem fullS_ok {n c : Nat} (hc : c ≤ n) (hn : n ≤ 256) : OkSt (fullS n c) := by
  have := fullS_size hc
  unfold sizeS at this
  refine ⟨by omega, fullS_okS hc, fun i hi => ?_⟩
  obtain ⟨j, hj, e⟩ := fullP_mem (show (fullS n c).ps.getD i default ∈ fullP (n - c) from gtD hi)
  rw [e]
  exact pc1_ok (by unfold numd; omega) (by unfold cntd; omega)
theorem fullS_pc {n c : Nat} : ∀ p ∈ (fullS n c).ps, ∃ v, p = pc1 v 1 := fun p hp => by
  obtain ⟨i, _, rfl⟩ := fullP_mem hp
  exact ⟨_, rfl⟩
def mv (n o : Nat) : PV := match n with | 0 => .nils | j + 1 => .msl o j
def stFu (m k : Nat) : Store := .rows 26 2 [[.nils, .nils]] 0 :: .rows 26 2 [[mv (min k m) 2, mv (k - m) 3]] 0 ::
  ((match min k m with | 0 => [] | j + 1 => [.rows 32 5 (encP (fullP (j + 1))) j]) ++ match k - m with | 0 => [] | j + 1 => [.rows 58 3 (encD (fullC m (j + 1))) j])
set_option maxHeartbeats 8000000 in
theorem full_w (n c : Nat) (hn : 200 ≤ n ∧ n ≤ 400) (hc : c ≤ 3) : PCall Try.prog 25 [.int .i64 n, .int .i64 c] [] (fun q _ => q = stV (fullS n c)) := by
  have k0 : ∀ args σ, noE.f 26 args σ = none := fun _ _ => rfl
  obtain ⟨m, hm⟩ : ∃ m, m = n - c := ⟨_, rfl⟩
  refine PCall.vfrz [] 66175 34 [.cell 4 26] (noE_ok _) mix Try.func25 rfl (by decide) rfl rfl (by simp) ?_
  simp -dsimp only [initFr, List.zipIdx_cons, List.zipIdx_nil, List.map_cons, List.map_nil, Nat.zero_add, Nat.reduceAdd]
  simp -dsimp (maxSteps := 4000000) +contextual (disch := first | omega | decide +kernel) only [↓vsD, vsU, vsE, Bool.or_false, Bool.true_or, resW, fnRet, cond_true, cond_false, Nat.reduceShiftRight, Nat.reduceAnd, Go.PV.fits, Go.PV.mutOf, Go.PV.splice, Int.reduceToNat, Int.reduceEq, Int.reduceAdd, Int.reduceSub, Int.reduceMul, Int.reduceLE, Int.reduceLT, Int.reduceNeg, Nat.reduceMul, Nat.reduceLeDiff, ne_eq, if_true, if_false, reduceIte, Nat.reduceEqDiff, ↓Nat.reduceLT, Nat.reduceAdd, Nat.reduceBEq, reduceCtorEq]
  refine v_loopS (fun k : Nat => [(0, .int .i64 n), (1, .int .i64 c), (4, .ptr 0 0 0 0), (5, .ptr 1 0 0 0), (6, .int .i64 ((k : Int) + 1))]) (fun k => stFu m k) (fun k => k ≤ n) (fun k => n - k) 0 (by simp [weaker, Go.PV.look]) (by simp [stFu, mv]) (Nat.zero_le _) ?_
  intro k hk
  by_cases hkn : k < n
  · have e2 : 2 * ((k : Int) + 1) = ((2 * (k + 1) : Nat) : Int) := by omega
    by_cases hkm : k < m
    · have hmin : min k m = k := by omega
      have hmin2 : min (k + 1) m = k + 1 := by omega
      have hd : k - m = 0 := by omega
      have hd2 : k + 1 - m = 0 := by omega
      have hp1 := piece1_on (2 * (k + 1) : Nat) 1
      have hnp := newsPc (pc1 (2 * (k + 1) : Nat) 1)
      have hfs := fullP_succ k
      have e3 : (2 * (k + 1 : Nat) : Int) = ((2 * (k + 1) : Nat) : Int) := by omega
      rw [e3] at hfs
      generalize hpp : pc1 ((2 * (k + 1) : Nat) : Int) 1 = p at hp1 hnp hfs
      rw [Pc.row] at hp1 hnp
      cases k with
      | zero =>
        simp -dsimp only [stFu, hmin, hd, mv]
        simp -dsimp (maxSteps := 4000000) +contextual (disch := first | omega | decide +kernel) only [↓vsD, vsU, vsE, Bool.or_false, Bool.true_or, resW, fnRet, cond_true, cond_false, Nat.reduceShiftRight, Nat.reduceAnd, Go.PV.fits, Go.PV.mutOf, Go.PV.splice, Int.reduceToNat, Int.reduceEq, Int.reduceAdd, Int.reduceSub, Int.reduceMul, Int.reduceLE, Int.reduceLT, Int.reduceNeg, Nat.reduceMul, Nat.reduceLeDiff, ne_eq, if_true, if_false, reduceIte, Nat.reduceEqDiff, ↓Nat.reduceLT, Nat.reduceAdd, Nat.reduceBEq, reduceCtorEq, rowAt_ptr, rowAtO_some, loadP_B, loadPB_t, loadPB_f, e2, k0]
        refine v_draws _ _ _ _ _ _ [4, 6, 8] [] [(0, 1), (0, 1), (0, 0), (0, 0), (0, 0), (1, 1), (0, 0), (2, 2), (0, 0)] (by decide +kernel) (by decide +kernel) (by decide +kernel) (by decide +kernel) ?_
        simp -dsimp (maxSteps := 4000000) +contextual (disch := first | omega | decide +kernel) only [↓vsD, vsU, vsE, Bool.or_false, Bool.true_or, resW, fnRet, cond_true, cond_false, Nat.reduceShiftRight, Nat.reduceAnd, Go.PV.fits, Go.PV.mutOf, Go.PV.splice, Int.reduceToNat, Int.reduceEq, Int.reduceAdd, Int.reduceSub, Int.reduceMul, Int.reduceLE, Int.reduceLT, Int.reduceNeg, Nat.reduceMul, Nat.reduceLeDiff, ne_eq, if_true, if_false, reduceIte, Nat.reduceEqDiff, ↓Nat.reduceLT, Nat.reduceAdd, Nat.reduceBEq, reduceCtorEq, vdx_none, vkp_go, ↓vd_end, place_nil, place_cons, vdo_eff, vdo_effA, ↓vdm_go, List.take_succ_cons, List.take_zero, List.drop_succ_cons, List.drop_zero, vdo_noeff_s, vdo_noeff_n, vdo_nofloat, vdo_noread, vdo_read, vdo_floatS, vdo_floatA, vde_s, vde_n, vde_c, vdx_s, vdr_s, vdr_b, vdf_m, vdf_p, ↓vd_op, ↓guard_none, ↓guard_some, gval_some, List.forall_mem_cons, List.not_mem_nil, false_implies, implies_true, List.length_append, List.length_replicate, List.replicate_zero, List.replicate_succ, List.contains_nil, List.contains_cons, Bool.or_false, Bool.false_or, Bool.or_self, Bool.or_true, Bool.true_or, vdr_o, vdq_eq, vdw_s, outR_v, rowsAt_none, mapAt_none, lnil, drop0, rowAt_ptr, rowAtO_some, loadP_B, loadPB_t, loadPB_f, e2, k0]
        refine ⟨_, _, hp1 _, by simp [outR, rowsAt], ?_⟩
        simp -dsimp (maxSteps := 4000000) +contextual (disch := first | omega | decide +kernel) only [↓vsD, vsU, vsE, Bool.or_false, Bool.true_or, resW, fnRet, cond_true, cond_false, Nat.reduceShiftRight, Nat.reduceAnd, Go.PV.fits, Go.PV.mutOf, Go.PV.splice, Int.reduceToNat, Int.reduceEq, Int.reduceAdd, Int.reduceSub, Int.reduceMul, Int.reduceLE, Int.reduceLT, Int.reduceNeg, Nat.reduceMul, Nat.reduceLeDiff, ne_eq, if_true, if_false, reduceIte, Nat.reduceEqDiff, ↓Nat.reduceLT, Nat.reduceAdd, Nat.reduceBEq, reduceCtorEq, vdx_none, vkp_go, ↓vd_end, place_nil, place_cons, vdo_eff, vdo_effA, ↓vdm_go, List.take_succ_cons, List.take_zero, List.drop_succ_cons, List.drop_zero, vdo_noeff_s, vdo_noeff_n, vdo_nofloat, vdo_noread, vdo_read, vdo_floatS, vdo_floatA, vde_s, vde_n, vde_c, vdx_s, vdr_s, vdr_b, vdf_m, vdf_p, ↓vd_op, ↓guard_none, ↓guard_some, gval_some, List.forall_mem_cons, List.not_mem_nil, false_implies, implies_true, List.length_append, List.length_replicate, List.replicate_zero, List.replicate_succ, List.contains_nil, List.contains_cons, Bool.or_false, Bool.false_or, Bool.or_self, Bool.or_true, Bool.true_or, vdr_o, vdq_eq, vdw_s, outR_v, rowsAt_none, mapAt_none, lnil, drop0, rowAt_ptr, rowAtO_some, loadP_B, loadPB_t, loadPB_f, hnp, bytesK, lenK]
        refine ⟨1, (by (try dsimp only); omega), by simp [weaker, Go.PV.look], ?_, by omega⟩
        simp only [Nat.zero_add] at hmin2 hd2 hfs
        simp only [stFu, hmin2, hd2, mv, hfs]
        rfl
      | succ j =>
        simp -dsimp only [stFu, hmin, hd, mv]
        simp -dsimp (maxSteps := 4000000) +contextual (disch := first | omega | decide +kernel) only [↓vsD, vsU, vsE, Bool.or_false, Bool.true_or, resW, fnRet, cond_true, cond_false, Nat.reduceShiftRight, Nat.reduceAnd, Go.PV.fits, Go.PV.mutOf, Go.PV.splice, Int.reduceToNat, Int.reduceEq, Int.reduceAdd, Int.reduceSub, Int.reduceMul, Int.reduceLE, Int.reduceLT, Int.reduceNeg, Nat.reduceMul, Nat.reduceLeDiff, ne_eq, if_true, if_false, reduceIte, Nat.reduceEqDiff, ↓Nat.reduceLT, Nat.reduceAdd, Nat.reduceBEq, reduceCtorEq, rowAt_ptr, rowAtO_some, loadP_B, loadPB_t, loadPB_f, e2, k0]
        refine v_draws _ _ _ _ _ _ [4, 6, 8] [] [(0, 1), (0, 1), (0, 0), (0, 0), (0, 0), (1, 1), (0, 0), (2, 2), (0, 0)] (by decide +kernel) (by decide +kernel) (by decide +kernel) (by decide +kernel) ?_
        simp -dsimp (maxSteps := 4000000) +contextual (disch := first | omega | decide +kernel) only [↓vsD, vsU, vsE, Bool.or_false, Bool.true_or, resW, fnRet, cond_true, cond_false, Nat.reduceShiftRight, Nat.reduceAnd, Go.PV.fits, Go.PV.mutOf, Go.PV.splice, Int.reduceToNat, Int.reduceEq, Int.reduceAdd, Int.reduceSub, Int.reduceMul, Int.reduceLE, Int.reduceLT, Int.reduceNeg, Nat.reduceMul, Nat.reduceLeDiff, ne_eq, if_true, if_false, reduceIte, Nat.reduceEqDiff, ↓Nat.reduceLT, Nat.reduceAdd, Nat.reduceBEq, reduceCtorEq, vdx_none, vkp_go, ↓vd_end, place_nil, place_cons, vdo_eff, vdo_effA, ↓vdm_go, List.take_succ_cons, List.take_zero, List.drop_succ_cons, List.drop_zero, vdo_noeff_s, vdo_noeff_n, vdo_nofloat, vdo_noread, vdo_read, vdo_floatS, vdo_floatA, vde_s, vde_n, vde_c, vdx_s, vdr_s, vdr_b, vdf_m, vdf_p, ↓vd_op, ↓guard_none, ↓guard_some, gval_some, List.forall_mem_cons, List.not_mem_nil, false_implies, implies_true, List.length_append, List.length_replicate, List.replicate_zero, List.replicate_succ, List.contains_nil, List.contains_cons, Bool.or_false, Bool.false_or, Bool.or_self, Bool.or_true, Bool.true_or, vdr_o, vdq_eq, vdw_s, outR_v, rowsAt_none, mapAt_none, lnil, drop0, rowAt_ptr, rowAtO_some, loadP_B, loadPB_t, loadPB_f, e2, k0]
        refine ⟨_, _, hp1 _, by simp [outR, rowsAt], ?_⟩
        simp -dsimp (maxSteps := 4000000) +contextual (disch := first | omega | decide +kernel) only [↓vsD, vsU, vsE, Bool.or_false, Bool.true_or, resW, fnRet, cond_true, cond_false, Nat.reduceShiftRight, Nat.reduceAnd, Go.PV.fits, Go.PV.mutOf, Go.PV.splice, Int.reduceToNat, Int.reduceEq, Int.reduceAdd, Int.reduceSub, Int.reduceMul, Int.reduceLE, Int.reduceLT, Int.reduceNeg, Nat.reduceMul, Nat.reduceLeDiff, ne_eq, if_true, if_false, reduceIte, Nat.reduceEqDiff, ↓Nat.reduceLT, Nat.reduceAdd, Nat.reduceBEq, reduceCtorEq, vdx_none, vkp_go, ↓vd_end, place_nil, place_cons, vdo_eff, vdo_effA, ↓vdm_go, List.take_succ_cons, List.take_zero, List.drop_succ_cons, List.drop_zero, vdo_noeff_s, vdo_noeff_n, vdo_nofloat, vdo_noread, vdo_read, vdo_floatS, vdo_floatA, vde_s, vde_n, vde_c, vdx_s, vdr_s, vdr_b, vdf_m, vdf_p, ↓vd_op, ↓guard_none, ↓guard_some, gval_some, List.forall_mem_cons, List.not_mem_nil, false_implies, implies_true, List.length_append, List.length_replicate, List.replicate_zero, List.replicate_succ, List.contains_nil, List.contains_cons, Bool.or_false, Bool.false_or, Bool.or_self, Bool.or_true, Bool.true_or, vdr_o, vdq_eq, vdw_s, outR_v, rowsAt_none, mapAt_none, lnil, drop0, rowAt_ptr, rowAtO_some, loadP_B, loadPB_t, loadPB_f, hnp, bytesK, lenK, encP_length, fullP_len]
        refine ⟨j + 1 + 1, (by (try dsimp only); omega), by simp [weaker, Go.PV.look], ?_, by omega⟩
        simp only [stFu, hmin2, hd2, mv, hfs]
        simp [encP, Pc.row]
    · obtain ⟨m1, rfl⟩ : ∃ m1, m = m1 + 1 := ⟨m - 1, by omega⟩
      have hmin : min k (m1 + 1) = m1 + 1 := by omega
      have hmin2 : min (k + 1) (m1 + 1) = m1 + 1 := by omega
      obtain ⟨b, hb⟩ : ∃ b, k - (m1 + 1) = b := ⟨_, rfl⟩
      have hd2 : k + 1 - (m1 + 1) = b + 1 := by omega
      have e4 : (k : Int) + 1 ≤ n := by omega
      have hfc := fullC_succ (m1 + 1) b
      have e3 : (2 * (m1 + 1 + b + 1 : Nat) : Int) = ((2 * (k + 1) : Nat) : Int) := by omega
      rw [e3] at hfc
      have hnd := newsD [(0, 0, ((2 * (k + 1) : Nat) : Int))]
      simp only [encD, List.map_cons, List.map_nil, idRow] at hnd
      have hle : ¬ (k : Int) + 1 ≤ (n : Int) - c := by omega
      cases b with
      | zero =>
        simp -dsimp only [stFu, hmin, hb, mv]
        simp -dsimp (maxSteps := 4000000) +contextual (disch := first | omega | decide +kernel) only [↓vsD, vsU, vsE, Bool.or_false, Bool.true_or, resW, fnRet, cond_true, cond_false, Nat.reduceShiftRight, Nat.reduceAnd, Go.PV.fits, Go.PV.mutOf, Go.PV.splice, Int.reduceToNat, Int.reduceEq, Int.reduceAdd, Int.reduceSub, Int.reduceMul, Int.reduceLE, Int.reduceLT, Int.reduceNeg, Nat.reduceMul, Nat.reduceLeDiff, ne_eq, if_true, if_false, reduceIte, Nat.reduceEqDiff, ↓Nat.reduceLT, Nat.reduceAdd, Nat.reduceBEq, reduceCtorEq, rowAt_ptr, rowAtO_some, loadP_B, loadPB_t, loadPB_f, e2, hnd, bytesK, lenK]
        refine ⟨k + 1, (by (try dsimp only); omega), by simp [weaker, Go.PV.look], ?_, by omega⟩
        simp only [stFu, hmin2, hd2, mv, hfc]
        simp [encD, idRow, fullC]
      | succ b =>
        have hbl : b ≤ 5 := by omega
        have hlk : (encD (fullC (m1 + 1) (b + 1))).length = b + 1 := by rw [encD_length, fullC_len]
        simp -dsimp only [stFu, hmin, hb, mv]
        simp -dsimp (maxSteps := 4000000) +contextual (disch := first | omega | decide +kernel) only [↓vsD, vsU, vsE, Bool.or_false, Bool.true_or, resW, fnRet, cond_true, cond_false, Nat.reduceShiftRight, Nat.reduceAnd, Go.PV.fits, Go.PV.mutOf, Go.PV.splice, Int.reduceToNat, Int.reduceEq, Int.reduceAdd, Int.reduceSub, Int.reduceMul, Int.reduceLE, Int.reduceLT, Int.reduceNeg, Nat.reduceMul, Nat.reduceLeDiff, ne_eq, if_true, if_false, reduceIte, Nat.reduceEqDiff, ↓Nat.reduceLT, Nat.reduceAdd, Nat.reduceBEq, reduceCtorEq, rowAt_ptr, rowAtO_some, loadP_B, loadPB_t, loadPB_f, e2, hnd, bytesK, lenK, hlk]
        refine ⟨k + 1, (by (try dsimp only); omega), by simp [weaker, Go.PV.look], ?_, by omega⟩
        simp only [stFu, hmin2, hd2, mv, hfc]
        simp [encD, idRow]
  · have hke : k = n := by omega
    obtain ⟨m1, rfl⟩ : ∃ m1, m = m1 + 1 := ⟨m - 1, by omega⟩
    have hmin : min k (m1 + 1) = m1 + 1 := by omega
    have hb : k - (m1 + 1) = c := by omega
    have hnc : n - c = m1 + 1 := hm.symm
    simp -dsimp only [stFu, hmin, hb]
    cases c with
    | zero =>
      simp -dsimp only [mv]
      simp -dsimp (maxSteps := 4000000) +contextual (disch := first | omega | decide +kernel) only [↓vsD, vsU, vsE, Bool.or_false, Bool.true_or, resW, fnRet, cond_true, cond_false, Nat.reduceShiftRight, Nat.reduceAnd, Go.PV.fits, Go.PV.mutOf, Go.PV.splice, Int.reduceToNat, Int.reduceEq, Int.reduceAdd, Int.reduceSub, Int.reduceMul, Int.reduceLE, Int.reduceLT, Int.reduceNeg, Nat.reduceMul, Nat.reduceLeDiff, ne_eq, if_true, if_false, reduceIte, Nat.reduceEqDiff, ↓Nat.reduceLT, Nat.reduceAdd, Nat.reduceBEq, reduceCtorEq, rowAt_ptr, rowAtO_some, loadP_B, loadPB_t, loadPB_f]
      refine fin0 (frz_st (s := fullS n 0) ?_ ?_) rfl
      · rw [fullS, hnc]; exact Frz.msl0 (elem := 32) (sz := 5) (Nat.zero_le _) rfl (encP_bel _ _)
      · exact .nils
    | succ c =>
      simp -dsimp only [mv]
      simp -dsimp (maxSteps := 4000000) +contextual (disch := first | omega | decide +kernel) only [↓vsD, vsU, vsE, Bool.or_false, Bool.true_or, resW, fnRet, cond_true, cond_false, Nat.reduceShiftRight, Nat.reduceAnd, Go.PV.fits, Go.PV.mutOf, Go.PV.splice, Int.reduceToNat, Int.reduceEq, Int.reduceAdd, Int.reduceSub, Int.reduceMul, Int.reduceLE, Int.reduceLT, Int.reduceNeg, Nat.reduceMul, Nat.reduceLeDiff, ne_eq, if_true, if_false, reduceIte, Nat.reduceEqDiff, ↓Nat.reduceLT, Nat.reduceAdd, Nat.reduceBEq, reduceCtorEq, rowAt_ptr, rowAtO_some, loadP_B, loadPB_t, loadPB_f]
      refine fin0 (frz_st (s := fullS n (c + 1)) ?_ ?_) rfl
      · rw [fullS, hnc]; exact Frz.msl0 (elem := 32) (sz := 5) (Nat.zero_le _) rfl (encP_bel _ _)
      · rw [fullS, hnc]; exact Frz.msl0 (elem := 58) (sz := 3) (Nat.zero_le _) rfl (encD_bel _ _)
theorem full_on (n c : Nat) (hn : 200 ≤ n ∧ n ≤ 400) (hc : c ≤ 3) (σ : Store) : PCall Try.prog 25 [.int .i64 n, .int .i64 c] σ (fun q τ => q = stV (fullS n c) ∧ τ = σ) :=
  PCall.lift (full_w n c hn hc) (bel2 (bel_int _ _ _) (bel_int _ _ _)) (fun q h => ⟨by rw [h]; exact bel_st _ _, h, rfl⟩)
end Go.Proofs.Ythjoehaglonjaaa
