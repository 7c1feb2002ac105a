/- Chapter 38, the walks: sorting few numbers; greedy's two functions. -/
import Derived.Test.YthginmfobikdgaaGrC
import Derived.Test.YthginmfobikdgaaSoA
set_option linter.unusedSimpArgs false
set_option linter.unusedVariables false
namespace Go.Proofs.Ythginmfobikdgaa
open Go.PV

/-! Sorting. -/
def ltOf (cf : Int → Int → Int) (a b : Int) : Bool := decide (cf a b < 0)
set_option maxRecDepth 8000 in
set_option maxHeartbeats 16000000 in
theorem insI_ok (o v : Nat) (L0 : List Int) (F : FuncId) (cap : List PV) (cf : Int → Int → Int) (σ : Store) (ho : σ[o]? = some (.rows 3 1 (ints L0) v)) (hl : L0.length < 2 ^ 40) (hFn : ∀ args σ, noE.f F args σ = none)
    (hF : ∀ X a b, a ∈ L0 → b ∈ L0 → PCall Try.prog F (.int .i64 a :: .int .i64 b :: cap) (σ.set o X) (fun q τ => q = .int .i64 (cf a b) ∧ τ = σ.set o X)) :
    PCall Try.prog 142 [.msl o v, .int .i64 0, .int .i64 L0.length, .func (.func F) [] cap] σ (fun p σ' => p = .tup [] ∧ σ' = σ.set o (.rows 3 1 (ints (insS (ltOf cf) L0)) v)) := by
  have hol := (List.getElem?_eq_some_iff.1 ho).1
  have hs : ∀ X, (σ.set o X)[o]? = some X := fun X => List.getElem?_set_self hol
  have hset : σ = σ.set o (.rows 3 1 (ints L0) v) := by
    obtain ⟨h1, h2⟩ := List.getElem?_eq_some_iff.1 ho
    rw [← h2]; exact List.set_getElem_self h1 |>.symm
  refine PCall.vraw [] 17179886591 53 [] (noE_ok _) mix Try.func142 rfl (by decide) rfl rfl (by simp) ?_
  simp -dsimp only [initFr, List.zipIdx_cons, List.zipIdx_nil, List.map_cons, List.map_nil, Nat.zero_add, Nat.reduceAdd]
  simp -dsimp (maxSteps := 4000000) +contextual (disch := first | omega | decide +kernel) only [↓vsD, vsU, Bool.or_false, Bool.true_or, resW, fnRet, cond_true, cond_false, Nat.reduceShiftRight, Nat.reduceAnd, Go.PV.fits, Go.PV.mutOf, Go.PV.splice, Int.reduceToNat, Int.reduceEq, Int.reduceAdd, Int.reduceSub, Int.reduceMul, Int.reduceLE, Int.reduceLT, Int.reduceNeg, Nat.reduceMul, Nat.reduceLeDiff, ne_eq, if_true, if_false, reduceIte, Nat.reduceEqDiff, ↓Nat.reduceLT, Nat.reduceAdd, Nat.reduceBEq, reduceCtorEq, enc_length, encs_length, tyU, tyC, tyB, tyA, tyI, tyZ, tyF, tyP, enc_getD, encs_getD, wrap_i64, enc_set, splice_one, set_last, bin_snn, bin_snm, bin_sns, bin_tnn, bin_tnm, bin_tns]
  refine v_loopS (fun s : Nat × List Int => [(0, .msl o v), (1, .int .i64 0), (2, .int .i64 L0.length), (3, .func (.func F) [] cap), (8, .int .i64 s.1)]) (fun s => σ.set o (.rows 3 1 (ints s.2) v)) (fun s => 1 ≤ s.1 ∧ (s.1 ≤ L0.length ∨ s.1 = 1) ∧ s.2.Perm L0 ∧ s.2 = insTo (ltOf cf) L0 s.1) (fun s => L0.length - s.1) (1, L0) (by simp [weaker, Go.PV.look]) hset ⟨by simp, .inr rfl, .refl _, rfl⟩ ?_
  rintro ⟨i, L⟩ ⟨hi, hi2, hperm, hL⟩
  dsimp only at hi hi2 hperm hL ⊢
  have hlen := hperm.length_eq
  by_cases hil : i < L0.length
  · simp -dsimp (maxSteps := 4000000) +contextual (disch := first | omega | decide +kernel) only [↓vsD, vsU, Bool.or_false, Bool.true_or, resW, fnRet, cond_true, cond_false, Nat.reduceShiftRight, Nat.reduceAnd, Go.PV.fits, Go.PV.mutOf, Go.PV.splice, Int.reduceToNat, Int.reduceEq, Int.reduceAdd, Int.reduceSub, Int.reduceMul, Int.reduceLE, Int.reduceLT, Int.reduceNeg, Nat.reduceMul, Nat.reduceLeDiff, ne_eq, if_true, if_false, reduceIte, Nat.reduceEqDiff, ↓Nat.reduceLT, Nat.reduceAdd, Nat.reduceBEq, reduceCtorEq, enc_length, encs_length, tyU, tyC, tyB, tyA, tyI, tyZ, tyF, tyP, enc_getD, encs_getD, wrap_i64, enc_set, splice_one, set_last, bin_snn, bin_snm, bin_sns, bin_tnn, bin_tnm, bin_tns]
    refine v_loopS (fun s : Nat × List Int => [(0, .msl o v), (1, .int .i64 0), (2, .int .i64 L0.length), (3, .func (.func F) [] cap), (8, .int .i64 i), (9, .int .i64 s.1)]) (fun s => σ.set o (.rows 3 1 (ints s.2) v)) (fun s => s.1 ≤ i ∧ s.2.Perm L0 ∧ ins1 (ltOf cf) s.1 s.2 = ins1 (ltOf cf) i L) (fun s => s.1) (i, L) (by simp [weaker, Go.PV.look]) rfl ⟨Nat.le_refl _, hperm, rfl⟩ ?_
    rintro ⟨j, M⟩ ⟨hj, hperm2, hM⟩
    dsimp only at hj hperm2 hM ⊢
    have hlen2 := hperm2.length_eq
    have hnext : ins1 (ltOf cf) i L = insTo (ltOf cf) L0 (i + 1) := by rw [insTo, hL]
    by_cases hj0 : 0 < j
    · obtain ⟨q, rfl⟩ : ∃ q, j = q + 1 := ⟨j - 1, by omega⟩
      have e1 : (((q + 1 : Nat) : Int) - 1).toNat = q := by omega
      have e2 : (((q + 1 : Nat) : Int) - 1) = q := by omega
      have m1 : M.getD (q + 1) 0 ∈ L0 := hperm2.mem_iff.1 (getDm (by omega))
      have m2 : M.getD q 0 ∈ L0 := hperm2.mem_iff.1 (getDm (by omega))
      simp -dsimp (maxSteps := 4000000) +contextual (disch := first | omega | decide +kernel) only [↓vsD, vsU, Bool.or_false, Bool.true_or, resW, fnRet, cond_true, cond_false, Nat.reduceShiftRight, Nat.reduceAnd, Go.PV.fits, Go.PV.mutOf, Go.PV.splice, Int.reduceToNat, Int.reduceEq, Int.reduceAdd, Int.reduceSub, Int.reduceMul, Int.reduceLE, Int.reduceLT, Int.reduceNeg, Nat.reduceMul, Nat.reduceLeDiff, ne_eq, if_true, if_false, reduceIte, Nat.reduceEqDiff, ↓Nat.reduceLT, Nat.reduceAdd, Nat.reduceBEq, reduceCtorEq, enc_length, encs_length, tyU, tyC, tyB, tyA, tyI, tyZ, tyF, tyP, enc_getD, encs_getD, wrap_i64, enc_set, splice_one, set_last, bin_snn, bin_snm, bin_sns, bin_tnn, bin_tnm, bin_tns, hFn, hs]
      refine v_draws _ _ _ _ _ _ [14] [] [(0, 0), (0, 0), (0, 0), (0, 0), (0, 0), (0, 0), (0, 0), (0, 0), (0, 0), (0, 0), (0, 0), (0, 0), (0, 0), (0, 0), (0, 0), (1, 1), (1, 1)] (by decide +kernel) (by decide +kernel) (by decide +kernel) (by decide +kernel) ?_
      simp -dsimp (maxSteps := 4000000) +contextual (disch := first | omega | decide +kernel) only [↓vsD, vsU, Bool.or_false, Bool.true_or, resW, fnRet, cond_true, cond_false, Nat.reduceShiftRight, Nat.reduceAnd, Go.PV.fits, Go.PV.mutOf, Go.PV.splice, Int.reduceToNat, Int.reduceEq, Int.reduceAdd, Int.reduceSub, Int.reduceMul, Int.reduceLE, Int.reduceLT, Int.reduceNeg, Nat.reduceMul, Nat.reduceLeDiff, ne_eq, if_true, if_false, reduceIte, Nat.reduceEqDiff, ↓Nat.reduceLT, Nat.reduceAdd, Nat.reduceBEq, reduceCtorEq, enc_length, encs_length, tyU, tyC, tyB, tyA, tyI, tyZ, tyF, tyP, enc_getD, encs_getD, wrap_i64, enc_set, splice_one, set_last, bin_snn, bin_snm, bin_sns, bin_tnn, bin_tnm, bin_tns, vdx_none, vkp_go, ↓vd_end, place_nil, place_cons, vdo_eff, vdo_effA, ↓vdm_go, List.take_succ_cons, List.take_zero, List.drop_succ_cons, List.drop_zero, vdo_noeff_s, vdo_noeff_n, vdo_nofloat, vdo_noread, vdo_read, vdo_floatS, vdo_floatA, vde_s, vde_n, vde_c, vdx_s, vdr_s, vdr_b, vdf_m, vdf_p, ↓vd_op, ↓guard_none, ↓guard_some, gval_some, List.forall_mem_cons, List.not_mem_nil, false_implies, implies_true, List.length_append, List.length_replicate, List.replicate_zero, List.replicate_succ, List.contains_nil, List.contains_cons, Bool.or_false, Bool.false_or, Bool.or_self, Bool.or_true, Bool.true_or, vdr_o, vdq_eq, vdw_s, outR_v, rowsAt_none, mapAt_none, lnil, drop0, hFn, hs, enc_length, enc_getD, e1, e2]
      refine ⟨.int .i64 (cf (M.getD (q + 1) 0) (M.getD q 0)), _, hF _ _ _ m1 m2, by simp -dsimp (maxSteps := 4000000) +contextual (disch := first | omega | decide +kernel) only [↓vsD, vsU, Bool.or_false, Bool.true_or, resW, fnRet, cond_true, cond_false, Nat.reduceShiftRight, Nat.reduceAnd, Go.PV.fits, Go.PV.mutOf, Go.PV.splice, Int.reduceToNat, Int.reduceEq, Int.reduceAdd, Int.reduceSub, Int.reduceMul, Int.reduceLE, Int.reduceLT, Int.reduceNeg, Nat.reduceMul, Nat.reduceLeDiff, ne_eq, if_true, if_false, reduceIte, Nat.reduceEqDiff, ↓Nat.reduceLT, Nat.reduceAdd, Nat.reduceBEq, reduceCtorEq, enc_length, encs_length, tyU, tyC, tyB, tyA, tyI, tyZ, tyF, tyP, enc_getD, encs_getD, wrap_i64, enc_set, splice_one, set_last, bin_snn, bin_snm, bin_sns, bin_tnn, bin_tnm, bin_tns, vdx_none, vkp_go, ↓vd_end, place_nil, place_cons, vdo_eff, vdo_effA, ↓vdm_go, List.take_succ_cons, List.take_zero, List.drop_succ_cons, List.drop_zero, vdo_noeff_s, vdo_noeff_n, vdo_nofloat, vdo_noread, vdo_read, vdo_floatS, vdo_floatA, vde_s, vde_n, vde_c, vdx_s, vdr_s, vdr_b, vdf_m, vdf_p, ↓vd_op, ↓guard_none, ↓guard_some, gval_some, List.forall_mem_cons, List.not_mem_nil, false_implies, implies_true, List.length_append, List.length_replicate, List.replicate_zero, List.replicate_succ, List.contains_nil, List.contains_cons, Bool.or_false, Bool.false_or, Bool.or_self, Bool.or_true, Bool.true_or, vdr_o, vdq_eq, vdw_s, outR_v, rowsAt_none, mapAt_none, lnil, drop0, hs, enc_length, enc_getD], ?_⟩
      simp -dsimp (maxSteps := 4000000) +contextual (disch := first | omega | decide +kernel) only [↓vsD, vsU, Bool.or_false, Bool.true_or, resW, fnRet, cond_true, cond_false, Nat.reduceShiftRight, Nat.reduceAnd, Go.PV.fits, Go.PV.mutOf, Go.PV.splice, Int.reduceToNat, Int.reduceEq, Int.reduceAdd, Int.reduceSub, Int.reduceMul, Int.reduceLE, Int.reduceLT, Int.reduceNeg, Nat.reduceMul, Nat.reduceLeDiff, ne_eq, if_true, if_false, reduceIte, Nat.reduceEqDiff, ↓Nat.reduceLT, Nat.reduceAdd, Nat.reduceBEq, reduceCtorEq, enc_length, encs_length, tyU, tyC, tyB, tyA, tyI, tyZ, tyF, tyP, enc_getD, encs_getD, wrap_i64, enc_set, splice_one, set_last, bin_snn, bin_snm, bin_sns, bin_tnn, bin_tnm, bin_tns, vdx_none, vkp_go, ↓vd_end, place_nil, place_cons, vdo_eff, vdo_effA, ↓vdm_go, List.take_succ_cons, List.take_zero, List.drop_succ_cons, List.drop_zero, vdo_noeff_s, vdo_noeff_n, vdo_nofloat, vdo_noread, vdo_read, vdo_floatS, vdo_floatA, vde_s, vde_n, vde_c, vdx_s, vdr_s, vdr_b, vdf_m, vdf_p, ↓vd_op, ↓guard_none, ↓guard_some, gval_some, List.forall_mem_cons, List.not_mem_nil, false_implies, implies_true, List.length_append, List.length_replicate, List.replicate_zero, List.replicate_succ, List.contains_nil, List.contains_cons, Bool.or_false, Bool.false_or, Bool.or_self, Bool.or_true, Bool.true_or, vdr_o, vdq_eq, vdw_s, outR_v, rowsAt_none, mapAt_none, lnil, drop0, hFn, hs, enc_length, enc_getD, e1, e2]
      rw [ins1] at hM
      refine ⟨fun hc => ?_, fun hc => ?_⟩
      · refine v_draws _ _ _ _ _ _ [15, 17] [] [(0, 0), (0, 0), (0, 1), (0, 1), (0, 1), (0, 0), (0, 0), (0, 0), (0, 0), (0, 0), (0, 0), (0, 0), (0, 0), (0, 0), (0, 0), (0, 0), (1, 1), (0, 0)] (by decide +kernel) (by decide +kernel) (by decide +kernel) (by decide +kernel) ?_
        have hgs : ∀ (x : Int) (i : Nat), i < M.length → (ints (M.set (q + 1) x)).getD i [] = [.int .i64 ((M.set (q + 1) x).getD i 0)] := fun x i h => enc_getD _ _ _ (by simpa using h)
        simp -dsimp (maxSteps := 4000000) +contextual (disch := first | omega | decide +kernel) only [↓vsD, vsU, Bool.or_false, Bool.true_or, resW, fnRet, cond_true, cond_false, Nat.reduceShiftRight, Nat.reduceAnd, Go.PV.fits, Go.PV.mutOf, Go.PV.splice, Int.reduceToNat, Int.reduceEq, Int.reduceAdd, Int.reduceSub, Int.reduceMul, Int.reduceLE, Int.reduceLT, Int.reduceNeg, Nat.reduceMul, Nat.reduceLeDiff, ne_eq, if_true, if_false, reduceIte, Nat.reduceEqDiff, ↓Nat.reduceLT, Nat.reduceAdd, Nat.reduceBEq, reduceCtorEq, enc_length, encs_length, tyU, tyC, tyB, tyA, tyI, tyZ, tyF, tyP, enc_getD, encs_getD, wrap_i64, enc_set, splice_one, set_last, bin_snn, bin_snm, bin_sns, bin_tnn, bin_tnm, bin_tns, vdx_none, vkp_go, ↓vd_end, place_nil, place_cons, vdo_eff, vdo_effA, ↓vdm_go, List.take_succ_cons, List.take_zero, List.drop_succ_cons, List.drop_zero, vdo_noeff_s, vdo_noeff_n, vdo_nofloat, vdo_noread, vdo_read, vdo_floatS, vdo_floatA, vde_s, vde_n, vde_c, vdx_s, vdr_s, vdr_b, vdf_m, vdf_p, ↓vd_op, ↓guard_none, ↓guard_some, gval_some, List.forall_mem_cons, List.not_mem_nil, false_implies, implies_true, List.length_append, List.length_replicate, List.replicate_zero, List.replicate_succ, List.contains_nil, List.contains_cons, Bool.or_false, Bool.false_or, Bool.or_self, Bool.or_true, Bool.true_or, vdr_o, vdq_eq, vdw_s, outR_v, rowsAt_none, mapAt_none, lnil, drop0, hFn, hs, enc_length, enc_getD, e1, e2, List.set_set, List.length_set, hgs]
        rw [if_pos (by simpa [ltOf] using hc)] at hM
        exact ⟨(q, swp M q), (by (try dsimp only); omega), (by simp [weaker, Go.PV.look]), rfl, by dsimp only; omega, (swp_perm M q (by omega)).trans hperm2, hM⟩
      · rw [if_neg (by simpa [ltOf] using hc)] at hM
        exact ⟨(i + 1, M), (by (try dsimp only); omega), (by simp [weaker, Go.PV.look]), rfl, by dsimp only; omega, .inl hil, hperm2, hM.trans hnext⟩
    · have hjz : j = 0 := by omega
      subst hjz
      simp -dsimp (maxSteps := 4000000) +contextual (disch := first | omega | decide +kernel) only [↓vsD, vsU, Bool.or_false, Bool.true_or, resW, fnRet, cond_true, cond_false, Nat.reduceShiftRight, Nat.reduceAnd, Go.PV.fits, Go.PV.mutOf, Go.PV.splice, Int.reduceToNat, Int.reduceEq, Int.reduceAdd, Int.reduceSub, Int.reduceMul, Int.reduceLE, Int.reduceLT, Int.reduceNeg, Nat.reduceMul, Nat.reduceLeDiff, ne_eq, if_true, if_false, reduceIte, Nat.reduceEqDiff, ↓Nat.reduceLT, Nat.reduceAdd, Nat.reduceBEq, reduceCtorEq, enc_length, encs_length, tyU, tyC, tyB, tyA, tyI, tyZ, tyF, tyP, enc_getD, encs_getD, wrap_i64, enc_set, splice_one, set_last, bin_snn, bin_snm, bin_sns, bin_tnn, bin_tnm, bin_tns, hFn, hs]
      refine v_draws _ _ _ _ _ _ [14] [] [(0, 0), (0, 0), (0, 0), (0, 0), (0, 0), (0, 0), (0, 0), (0, 0), (0, 0), (0, 0), (0, 0), (0, 0), (0, 0), (0, 0), (0, 0), (1, 1), (1, 1)] (by decide +kernel) (by decide +kernel) (by decide +kernel) (by decide +kernel) ?_
      simp -dsimp (maxSteps := 4000000) +contextual (disch := first | omega | decide +kernel) only [↓vsD, vsU, Bool.or_false, Bool.true_or, resW, fnRet, cond_true, cond_false, Nat.reduceShiftRight, Nat.reduceAnd, Go.PV.fits, Go.PV.mutOf, Go.PV.splice, Int.reduceToNat, Int.reduceEq, Int.reduceAdd, Int.reduceSub, Int.reduceMul, Int.reduceLE, Int.reduceLT, Int.reduceNeg, Nat.reduceMul, Nat.reduceLeDiff, ne_eq, if_true, if_false, reduceIte, Nat.reduceEqDiff, ↓Nat.reduceLT, Nat.reduceAdd, Nat.reduceBEq, reduceCtorEq, enc_length, encs_length, tyU, tyC, tyB, tyA, tyI, tyZ, tyF, tyP, enc_getD, encs_getD, wrap_i64, enc_set, splice_one, set_last, bin_snn, bin_snm, bin_sns, bin_tnn, bin_tnm, bin_tns, vdx_none, vkp_go, ↓vd_end, place_nil, place_cons, vdo_eff, vdo_effA, ↓vdm_go, List.take_succ_cons, List.take_zero, List.drop_succ_cons, List.drop_zero, vdo_noeff_s, vdo_noeff_n, vdo_nofloat, vdo_noread, vdo_read, vdo_floatS, vdo_floatA, vde_s, vde_n, vde_c, vdx_s, vdr_s, vdr_b, vdf_m, vdf_p, ↓vd_op, ↓guard_none, ↓guard_some, gval_some, List.forall_mem_cons, List.not_mem_nil, false_implies, implies_true, List.length_append, List.length_replicate, List.replicate_zero, List.replicate_succ, List.contains_nil, List.contains_cons, Bool.or_false, Bool.false_or, Bool.or_self, Bool.or_true, Bool.true_or, vdr_o, vdq_eq, vdw_s, outR_v, rowsAt_none, mapAt_none, lnil, drop0, hFn, hs, enc_length, enc_getD]
      exact ⟨(i + 1, M), (by (try dsimp only); omega), (by simp [weaker, Go.PV.look]), rfl, by dsimp only; omega, .inl hil, hperm2, hM.trans hnext⟩
  · simp -dsimp (maxSteps := 4000000) +contextual (disch := first | omega | decide +kernel) only [↓vsD, vsU, Bool.or_false, Bool.true_or, resW, fnRet, cond_true, cond_false, Nat.reduceShiftRight, Nat.reduceAnd, Go.PV.fits, Go.PV.mutOf, Go.PV.splice, Int.reduceToNat, Int.reduceEq, Int.reduceAdd, Int.reduceSub, Int.reduceMul, Int.reduceLE, Int.reduceLT, Int.reduceNeg, Nat.reduceMul, Nat.reduceLeDiff, ne_eq, if_true, if_false, reduceIte, Nat.reduceEqDiff, ↓Nat.reduceLT, Nat.reduceAdd, Nat.reduceBEq, reduceCtorEq, enc_length, encs_length, tyU, tyC, tyB, tyA, tyI, tyZ, tyF, tyP, enc_getD, encs_getD, wrap_i64, enc_set, splice_one, set_last, bin_snn, bin_snm, bin_sns, bin_tnn, bin_tnm, bin_tns]
    have hfin : L = insS (ltOf cf) L0 := by
      rw [hL, insS]
      rcases hi2 with h | h
      · rw [show i = L0.length by omega]
      · subst h
        rcases (show L0.length = 0 ∨ L0.length = 1 by omega) with h0 | h0
        · rw [h0]; rfl
        · rw [h0]
    rw [← hfin]
theorem pdqI_ok (o v : Nat) (L0 : List Int) (r : Int) (F : FuncId) (cap : List PV) (cf : Int → Int → Int) (σ : Store) (ho : σ[o]? = some (.rows 3 1 (ints L0) v)) (hl : L0.length ≤ 12) (hFn : ∀ args σ, noE.f F args σ = none)
    (hF : ∀ X a b, a ∈ L0 → b ∈ L0 → PCall Try.prog F (.int .i64 a :: .int .i64 b :: cap) (σ.set o X) (fun q τ => q = .int .i64 (cf a b) ∧ τ = σ.set o X)) :
    PCall Try.prog 128 [.msl o v, .int .i64 0, .int .i64 L0.length, .int .i64 r, .func (.func F) [] cap] σ (fun p σ' => p = .tup [] ∧ σ' = σ.set o (.rows 3 1 (ints (insS (ltOf cf) L0)) v)) := by
  refine PCall.vraw [] 42535296023574879666274036850519703551 148 [] (noE_ok _) mix Try.func128 rfl (by decide) rfl rfl (by simp) ?_
  simp -dsimp only [initFr, List.zipIdx_cons, List.zipIdx_nil, List.map_cons, List.map_nil, Nat.zero_add, Nat.reduceAdd]
  simp -dsimp (maxSteps := 4000000) +contextual (disch := first | omega | decide +kernel) only [↓vsD, vsU, Bool.or_false, Bool.true_or, resW, fnRet, cond_true, cond_false, Nat.reduceShiftRight, Nat.reduceAnd, Go.PV.fits, Go.PV.mutOf, Go.PV.splice, Int.reduceToNat, Int.reduceEq, Int.reduceAdd, Int.reduceSub, Int.reduceMul, Int.reduceLE, Int.reduceLT, Int.reduceNeg, Nat.reduceMul, Nat.reduceLeDiff, ne_eq, if_true, if_false, reduceIte, Nat.reduceEqDiff, ↓Nat.reduceLT, Nat.reduceAdd, Nat.reduceBEq, reduceCtorEq, enc_length, encs_length, tyU, tyC, tyB, tyA, tyI, tyZ, tyF, tyP, enc_getD, encs_getD, wrap_i64, enc_set, splice_one, set_last, bin_snn, bin_snm, bin_sns, bin_tnn, bin_tnm, bin_tns]
  refine v_loopS (fun _ : Unit => [(0, .msl o v), (1, .int .i64 0), (2, .int .i64 L0.length), (4, .func (.func F) [] cap)]) (fun _ => σ) (fun _ => True) (fun _ => 0) () (by simp [weaker, Go.PV.look]) rfl trivial ?_
  intro _ _
  simp -dsimp (maxSteps := 4000000) +contextual (disch := first | omega | decide +kernel) only [↓vsD, vsU, Bool.or_false, Bool.true_or, resW, fnRet, cond_true, cond_false, Nat.reduceShiftRight, Nat.reduceAnd, Go.PV.fits, Go.PV.mutOf, Go.PV.splice, Int.reduceToNat, Int.reduceEq, Int.reduceAdd, Int.reduceSub, Int.reduceMul, Int.reduceLE, Int.reduceLT, Int.reduceNeg, Nat.reduceMul, Nat.reduceLeDiff, ne_eq, if_true, if_false, reduceIte, Nat.reduceEqDiff, ↓Nat.reduceLT, Nat.reduceAdd, Nat.reduceBEq, reduceCtorEq, enc_length, encs_length, tyU, tyC, tyB, tyA, tyI, tyZ, tyF, tyP, enc_getD, encs_getD, wrap_i64, enc_set, splice_one, set_last, bin_snn, bin_snm, bin_sns, bin_tnn, bin_tnm, bin_tns]
  refine PCall.mono (insI_ok o v L0 F cap cf σ ho (by omega) hFn hF) ?_
  rintro p σ' ⟨rfl, rfl⟩
  simp -dsimp (maxSteps := 4000000) +contextual (disch := first | omega | decide +kernel) only [↓vsD, vsU, Bool.or_false, Bool.true_or, resW, fnRet, cond_true, cond_false, Nat.reduceShiftRight, Nat.reduceAnd, Go.PV.fits, Go.PV.mutOf, Go.PV.splice, Int.reduceToNat, Int.reduceEq, Int.reduceAdd, Int.reduceSub, Int.reduceMul, Int.reduceLE, Int.reduceLT, Int.reduceNeg, Nat.reduceMul, Nat.reduceLeDiff, ne_eq, if_true, if_false, reduceIte, Nat.reduceEqDiff, ↓Nat.reduceLT, Nat.reduceAdd, Nat.reduceBEq, reduceCtorEq, enc_length, encs_length, tyU, tyC, tyB, tyA, tyI, tyZ, tyF, tyP, enc_getD, encs_getD, wrap_i64, enc_set, splice_one, set_last, bin_snn, bin_snm, bin_sns, bin_tnn, bin_tnm, bin_tns]
theorem sortI_ok (o v : Nat) (L0 : List Int) (F : FuncId) (cap : List PV) (cf : Int → Int → Int) (σ : Store) (ho : σ[o]? = some (.rows 3 1 (ints L0) v)) (hl : L0.length ≤ 12) (hFn : ∀ args σ, noE.f F args σ = none)
    (hF : ∀ X a b, a ∈ L0 → b ∈ L0 → PCall Try.prog F (.int .i64 a :: .int .i64 b :: cap) (σ.set o X) (fun q τ => q = .int .i64 (cf a b) ∧ τ = σ.set o X)) :
    PCall Try.prog 110 [.msl o v, .func (.func F) [] cap] σ (fun p σ' => p = .tup [] ∧ σ' = σ.set o (.rows 3 1 (ints (insS (ltOf cf) L0)) v)) := by
  refine PCall.vraw [] 31 14 [] (noE_ok _) mix Try.func110 rfl (by decide) rfl rfl (by simp) ?_
  simp -dsimp only [initFr, List.zipIdx_cons, List.zipIdx_nil, List.map_cons, List.map_nil, Nat.zero_add, Nat.reduceAdd]
  simp -dsimp (maxSteps := 4000000) +contextual (disch := first | omega | decide +kernel) only [↓vsD, vsU, Bool.or_false, Bool.true_or, resW, fnRet, cond_true, cond_false, Nat.reduceShiftRight, Nat.reduceAnd, Go.PV.fits, Go.PV.mutOf, Go.PV.splice, Int.reduceToNat, Int.reduceEq, Int.reduceAdd, Int.reduceSub, Int.reduceMul, Int.reduceLE, Int.reduceLT, Int.reduceNeg, Nat.reduceMul, Nat.reduceLeDiff, ne_eq, if_true, if_false, reduceIte, Nat.reduceEqDiff, ↓Nat.reduceLT, Nat.reduceAdd, Nat.reduceBEq, reduceCtorEq, enc_length, encs_length, tyU, tyC, tyB, tyA, tyI, tyZ, tyF, tyP, enc_getD, encs_getD, wrap_i64, enc_set, splice_one, set_last, bin_snn, bin_snm, bin_sns, bin_tnn, bin_tnm, bin_tns, ho, enc_length, Go.IntWalk.u64_in]
  refine PCall.mono (blen_ok L0.length (by omega) σ) ?_
  rintro p σ' ⟨⟨r, rfl⟩, rfl⟩
  simp -dsimp (maxSteps := 4000000) +contextual (disch := first | omega | decide +kernel) only [↓vsD, vsU, Bool.or_false, Bool.true_or, resW, fnRet, cond_true, cond_false, Nat.reduceShiftRight, Nat.reduceAnd, Go.PV.fits, Go.PV.mutOf, Go.PV.splice, Int.reduceToNat, Int.reduceEq, Int.reduceAdd, Int.reduceSub, Int.reduceMul, Int.reduceLE, Int.reduceLT, Int.reduceNeg, Nat.reduceMul, Nat.reduceLeDiff, ne_eq, if_true, if_false, reduceIte, Nat.reduceEqDiff, ↓Nat.reduceLT, Nat.reduceAdd, Nat.reduceBEq, reduceCtorEq, enc_length, encs_length, tyU, tyC, tyB, tyA, tyI, tyZ, tyF, tyP, enc_getD, encs_getD, wrap_i64, enc_set, splice_one, set_last, bin_snn, bin_snm, bin_sns, bin_tnn, bin_tnm, bin_tns]
  refine PCall.mono (pdqI_ok o v L0 r F cap cf σ' ho hl hFn hF) ?_
  rintro p σ'' ⟨rfl, rfl⟩
  simp -dsimp (maxSteps := 4000000) +contextual (disch := first | omega | decide +kernel) only [↓vsD, vsU, Bool.or_false, Bool.true_or, resW, fnRet, cond_true, cond_false, Nat.reduceShiftRight, Nat.reduceAnd, Go.PV.fits, Go.PV.mutOf, Go.PV.splice, Int.reduceToNat, Int.reduceEq, Int.reduceAdd, Int.reduceSub, Int.reduceMul, Int.reduceLE, Int.reduceLT, Int.reduceNeg, Nat.reduceMul, Nat.reduceLeDiff, ne_eq, if_true, if_false, reduceIte, Nat.reduceEqDiff, ↓Nat.reduceLT, Nat.reduceAdd, Nat.reduceBEq, reduceCtorEq, enc_length, encs_length, tyU, tyC, tyB, tyA, tyI, tyZ, tyF, tyP, enc_getD, encs_getD, wrap_i64, enc_set, splice_one, set_last, bin_snn, bin_snm, bin_sns, bin_tnn, bin_tnm, bin_tns]

/-! greedy's functions. -/
structure GSt (gs : List Grp) (σ : Store) : Prop where
  hd : σ[1]? = some (.rows 40 1 (encG gs) 0)
  bx : σ[2]? = some (.rows 28 1 [[.msl 1 0]] 0)
  gr : ∀ k, k < gs.length → (gs.getD k default).1 ≠ [] → σ[k + 5]? = some (.rows 3 1 (ints (gs.getD k default).1) (gs.getD k default).2)
theorem hdG_nil {k : Nat} {g : Grp} (h : g.1 = []) : hdG k g = .nils := by rw [hdG, if_pos h]
theorem hdG_ne {k : Nat} {g : Grp} (h : g.1 ≠ []) : hdG k g = .msl (k + 5) g.2 := by rw [hdG, if_neg h]
theorem len_hd {gs : List Grp} {σ : Store} (hG : GSt gs σ) {k : Nat} (hk : k < gs.length) : lenC σ (some (.slice 3)) (hdG k (gs.getD k default)) = .val True (.int .i64 (gs.getD k default).1.length) σ := by
  by_cases he : (gs.getD k default).1 = []
  · rw [hdG_nil he, he]; rfl
  · rw [hdG_ne he]
    simp [lenC, hG.gr k hk he, ints_len]
theorem noGrp_ok (gs : List Grp) (σ : Store) (hG : GSt gs σ) (k : Nat) (hk : k < gs.length) : PCall Try.prog 109 [.int .i64 k, .ptr 2 0 0 0] σ (fun q τ => q = .bool (decide ((gs.getD k default).1 = [])) ∧ τ = σ) := by
  have h1 := hG.hd
  have h2 := hG.bx
  have h3 := len_hd hG hk
  refine PCall.vraw [] 15 10 [.tmp 3] (noE_ok _) mix Try.func109 rfl (by decide) rfl rfl (by simp) ?_
  simp -dsimp only [initFr, List.zipIdx_cons, List.zipIdx_nil, List.map_cons, List.map_nil, Nat.zero_add, Nat.reduceAdd]
  simp -dsimp (maxSteps := 4000000) +contextual (disch := first | omega | decide +kernel) only [↓vsD, vsU, Bool.or_false, Bool.true_or, resW, fnRet, cond_true, cond_false, Nat.reduceShiftRight, Nat.reduceAnd, Go.PV.fits, Go.PV.mutOf, Go.PV.splice, Int.reduceToNat, Int.reduceEq, Int.reduceAdd, Int.reduceSub, Int.reduceMul, Int.reduceLE, Int.reduceLT, Int.reduceNeg, Nat.reduceMul, Nat.reduceLeDiff, ne_eq, if_true, if_false, reduceIte, Nat.reduceEqDiff, ↓Nat.reduceLT, Nat.reduceAdd, Nat.reduceBEq, reduceCtorEq, enc_length, encs_length, tyU, tyC, tyB, tyA, tyI, tyZ, tyF, tyP, enc_getD, encs_getD, wrap_i64, enc_set, splice_one, set_last, bin_snn, bin_snm, bin_sns, bin_tnn, bin_tnm, bin_tns, h1, h2, encG_length, encG_getD, h3]
  refine ⟨fun h => ?_, fun h => ?_⟩
  · rw [decide_eq_true (List.length_eq_zero_iff.1 h)]
  · rw [decide_eq_false (fun he => h (by rw [he]; rfl))]
/-- The first of a group's numbers. -/
def g0 (gs : List Grp) (k : Int) : Int := (gs.getD k.toNat default).1.getD 0 0
def cfG (wi : List Int) (gs : List Grp) (a b : Int) : Int := if cmpG (wi.getD b.toNat 0) (wi.getD a.toNat 0) ≠ 0 then cmpG (wi.getD b.toNat 0) (wi.getD a.toNat 0) else cmpG (g0 gs a) (g0 gs b)
set_option maxRecDepth 8000 in
set_option maxHeartbeats 8000000 in
theorem cmpGrp_ok (gs : List Grp) (wi : List Int) (ow oi : Nat) (σ : Store) (hG : GSt gs σ) (hw : σ[ow]? = some (.rows 40 1 [[.msl oi 0]] 0)) (hi : σ[oi]? = some (.rows 3 1 (ints wi) 0)) (hwl : wi.length = gs.length)
    (a b : Nat) (ha : a < gs.length) (hb : b < gs.length) (hae : (gs.getD a default).1 ≠ []) (hbe : (gs.getD b default).1 ≠ []) : PCall Try.prog 111 [.int .i64 a, .int .i64 b, .ptr ow 0 0 0, .ptr 2 0 0 0] σ (fun q τ => q = .int .i64 (cfG wi gs a b) ∧ τ = σ) := by
  have h1 := hG.hd
  have h2 := hG.bx
  have ea := hdG_ne (k := a) hae
  have eb := hdG_ne (k := b) hbe
  have qa := hG.gr a ha hae
  have qb := hG.gr b hb hbe
  have pa := List.length_pos_iff.2 hae
  have pb := List.length_pos_iff.2 hbe
  have g1 : g0 gs a = (gs.getD a default).1.getD 0 0 := rfl
  have g2 : g0 gs b = (gs.getD b default).1.getD 0 0 := rfl
  have k0 : ∀ args σ, noE.f 67 args σ = none := fun _ _ => rfl
  have k1 : ∀ args σ, noE.f 112 args σ = none := fun _ _ => rfl
  refine PCall.vraw [] 127 31 [.tmp 6] (noE_ok _) mix Try.func111 rfl (by decide) rfl rfl (by simp) ?_
  simp -dsimp only [initFr, List.zipIdx_cons, List.zipIdx_nil, List.map_cons, List.map_nil, Nat.zero_add, Nat.reduceAdd]
  simp -dsimp (maxSteps := 4000000) +contextual (disch := first | omega | decide +kernel) only [↓vsD, vsU, Bool.or_false, Bool.true_or, resW, fnRet, cond_true, cond_false, Nat.reduceShiftRight, Nat.reduceAnd, Go.PV.fits, Go.PV.mutOf, Go.PV.splice, Int.reduceToNat, Int.reduceEq, Int.reduceAdd, Int.reduceSub, Int.reduceMul, Int.reduceLE, Int.reduceLT, Int.reduceNeg, Nat.reduceMul, Nat.reduceLeDiff, ne_eq, if_true, if_false, reduceIte, Nat.reduceEqDiff, ↓Nat.reduceLT, Nat.reduceAdd, Nat.reduceBEq, reduceCtorEq, enc_length, encs_length, tyU, tyC, tyB, tyA, tyI, tyZ, tyF, tyP, enc_getD, encs_getD, wrap_i64, enc_set, splice_one, set_last, bin_snn, bin_snm, bin_sns, bin_tnn, bin_tnm, bin_tns, k0, k1]
  refine v_draws _ _ _ _ _ _ [8, 21, 23] [] [(0, 0), (0, 0), (0, 0), (0, 0), (0, 0), (0, 0), (0, 0), (0, 0), (0, 0), (0, 1), (0, 1), (0, 1), (0, 1), (0, 1), (0, 1), (0, 1), (0, 1), (0, 1), (0, 1), (0, 1), (0, 1), (0, 0), (2, 2), (0, 0), (3, 3)] (by decide +kernel) (by decide +kernel) (by decide +kernel) (by decide +kernel) ?_
  simp -dsimp (maxSteps := 4000000) +contextual (disch := first | omega | decide +kernel) only [↓vsD, vsU, Bool.or_false, Bool.true_or, resW, fnRet, cond_true, cond_false, Nat.reduceShiftRight, Nat.reduceAnd, Go.PV.fits, Go.PV.mutOf, Go.PV.splice, Int.reduceToNat, Int.reduceEq, Int.reduceAdd, Int.reduceSub, Int.reduceMul, Int.reduceLE, Int.reduceLT, Int.reduceNeg, Nat.reduceMul, Nat.reduceLeDiff, ne_eq, if_true, if_false, reduceIte, Nat.reduceEqDiff, ↓Nat.reduceLT, Nat.reduceAdd, Nat.reduceBEq, reduceCtorEq, enc_length, encs_length, tyU, tyC, tyB, tyA, tyI, tyZ, tyF, tyP, enc_getD, encs_getD, wrap_i64, enc_set, splice_one, set_last, bin_snn, bin_snm, bin_sns, bin_tnn, bin_tnm, bin_tns, vdx_none, vkp_go, ↓vd_end, place_nil, place_cons, vdo_eff, vdo_effA, ↓vdm_go, List.take_succ_cons, List.take_zero, List.drop_succ_cons, List.drop_zero, vdo_noeff_s, vdo_noeff_n, vdo_nofloat, vdo_noread, vdo_read, vdo_floatS, vdo_floatA, vde_s, vde_n, vde_c, vdx_s, vdr_s, vdr_b, vdf_m, vdf_p, ↓vd_op, ↓guard_none, ↓guard_some, gval_some, List.forall_mem_cons, List.not_mem_nil, false_implies, implies_true, List.length_append, List.length_replicate, List.replicate_zero, List.replicate_succ, List.contains_nil, List.contains_cons, Bool.or_false, Bool.false_or, Bool.or_self, Bool.or_true, Bool.true_or, vdr_o, vdq_eq, vdw_s, outR_v, rowsAt_none, mapAt_none, lnil, drop0, h1, h2, hw, hi, encG_length, encG_getD, enc_length, ea, eb, qa, qb, k0, k1]
  refine ⟨_, _, gCompare_ok (wi.getD b 0) (wi.getD a 0) _, by simp, ?_⟩
  simp -dsimp (maxSteps := 4000000) +contextual (disch := first | omega | decide +kernel) only [↓vsD, vsU, Bool.or_false, Bool.true_or, resW, fnRet, cond_true, cond_false, Nat.reduceShiftRight, Nat.reduceAnd, Go.PV.fits, Go.PV.mutOf, Go.PV.splice, Int.reduceToNat, Int.reduceEq, Int.reduceAdd, Int.reduceSub, Int.reduceMul, Int.reduceLE, Int.reduceLT, Int.reduceNeg, Nat.reduceMul, Nat.reduceLeDiff, ne_eq, if_true, if_false, reduceIte, Nat.reduceEqDiff, ↓Nat.reduceLT, Nat.reduceAdd, Nat.reduceBEq, reduceCtorEq, enc_length, encs_length, tyU, tyC, tyB, tyA, tyI, tyZ, tyF, tyP, enc_getD, encs_getD, wrap_i64, enc_set, splice_one, set_last, bin_snn, bin_snm, bin_sns, bin_tnn, bin_tnm, bin_tns, vdx_none, vkp_go, ↓vd_end, place_nil, place_cons, vdo_eff, vdo_effA, ↓vdm_go, List.take_succ_cons, List.take_zero, List.drop_succ_cons, List.drop_zero, vdo_noeff_s, vdo_noeff_n, vdo_nofloat, vdo_noread, vdo_read, vdo_floatS, vdo_floatA, vde_s, vde_n, vde_c, vdx_s, vdr_s, vdr_b, vdf_m, vdf_p, ↓vd_op, ↓guard_none, ↓guard_some, gval_some, List.forall_mem_cons, List.not_mem_nil, false_implies, implies_true, List.length_append, List.length_replicate, List.replicate_zero, List.replicate_succ, List.contains_nil, List.contains_cons, Bool.or_false, Bool.false_or, Bool.or_self, Bool.or_true, Bool.true_or, vdr_o, vdq_eq, vdw_s, outR_v, rowsAt_none, mapAt_none, lnil, drop0, h1, h2, hw, hi, encG_length, encG_getD, enc_length, ea, eb, qa, qb, k0, k1]
  refine ⟨_, _, gCompare_ok (g0 gs a) (g0 gs b) _, by simp, ?_⟩
  simp -dsimp (maxSteps := 4000000) +contextual (disch := first | omega | decide +kernel) only [↓vsD, vsU, Bool.or_false, Bool.true_or, resW, fnRet, cond_true, cond_false, Nat.reduceShiftRight, Nat.reduceAnd, Go.PV.fits, Go.PV.mutOf, Go.PV.splice, Int.reduceToNat, Int.reduceEq, Int.reduceAdd, Int.reduceSub, Int.reduceMul, Int.reduceLE, Int.reduceLT, Int.reduceNeg, Nat.reduceMul, Nat.reduceLeDiff, ne_eq, if_true, if_false, reduceIte, Nat.reduceEqDiff, ↓Nat.reduceLT, Nat.reduceAdd, Nat.reduceBEq, reduceCtorEq, enc_length, encs_length, tyU, tyC, tyB, tyA, tyI, tyZ, tyF, tyP, enc_getD, encs_getD, wrap_i64, enc_set, splice_one, set_last, bin_snn, bin_snm, bin_sns, bin_tnn, bin_tnm, bin_tns, vdx_none, vkp_go, ↓vd_end, place_nil, place_cons, vdo_eff, vdo_effA, ↓vdm_go, List.take_succ_cons, List.take_zero, List.drop_succ_cons, List.drop_zero, vdo_noeff_s, vdo_noeff_n, vdo_nofloat, vdo_noread, vdo_read, vdo_floatS, vdo_floatA, vde_s, vde_n, vde_c, vdx_s, vdr_s, vdr_b, vdf_m, vdf_p, ↓vd_op, ↓guard_none, ↓guard_some, gval_some, List.forall_mem_cons, List.not_mem_nil, false_implies, implies_true, List.length_append, List.length_replicate, List.replicate_zero, List.replicate_succ, List.contains_nil, List.contains_cons, Bool.or_false, Bool.false_or, Bool.or_self, Bool.or_true, Bool.true_or, vdr_o, vdq_eq, vdw_s, outR_v, rowsAt_none, mapAt_none, lnil, drop0, h1, h2, hw, hi, encG_length, encG_getD, enc_length, ea, eb, qa, qb, k0, k1]
  refine ⟨_, _, gOr_ok _ _ _, by simp, ?_⟩
  simp -dsimp (maxSteps := 4000000) +contextual (disch := first | omega | decide +kernel) only [↓vsD, vsU, Bool.or_false, Bool.true_or, resW, fnRet, cond_true, cond_false, Nat.reduceShiftRight, Nat.reduceAnd, Go.PV.fits, Go.PV.mutOf, Go.PV.splice, Int.reduceToNat, Int.reduceEq, Int.reduceAdd, Int.reduceSub, Int.reduceMul, Int.reduceLE, Int.reduceLT, Int.reduceNeg, Nat.reduceMul, Nat.reduceLeDiff, ne_eq, if_true, if_false, reduceIte, Nat.reduceEqDiff, ↓Nat.reduceLT, Nat.reduceAdd, Nat.reduceBEq, reduceCtorEq, enc_length, encs_length, tyU, tyC, tyB, tyA, tyI, tyZ, tyF, tyP, enc_getD, encs_getD, wrap_i64, enc_set, splice_one, set_last, bin_snn, bin_snm, bin_sns, bin_tnn, bin_tnm, bin_tns, vdx_none, vkp_go, ↓vd_end, place_nil, place_cons, vdo_eff, vdo_effA, ↓vdm_go, List.take_succ_cons, List.take_zero, List.drop_succ_cons, List.drop_zero, vdo_noeff_s, vdo_noeff_n, vdo_nofloat, vdo_noread, vdo_read, vdo_floatS, vdo_floatA, vde_s, vde_n, vde_c, vdx_s, vdr_s, vdr_b, vdf_m, vdf_p, ↓vd_op, ↓guard_none, ↓guard_some, gval_some, List.forall_mem_cons, List.not_mem_nil, false_implies, implies_true, List.length_append, List.length_replicate, List.replicate_zero, List.replicate_succ, List.contains_nil, List.contains_cons, Bool.or_false, Bool.false_or, Bool.or_self, Bool.or_true, Bool.true_or, vdr_o, vdq_eq, vdw_s, outR_v, rowsAt_none, mapAt_none, lnil, drop0, h1, h2, hw, hi, encG_length, encG_getD, enc_length, ea, eb, qa, qb, k0, k1]
  rfl

/-! The groups, the number of the group of each function, the groups' bytes. -/
structure GS where
  gs : List Grp
  of : List Int
  by_ : List Int
def mov (of : List Int) (x : Int) (l : List Int) : List Int := l.foldl (fun of f => of.set f.toNat x) of
def joinG (s : GS) (x y : Nat) : GS := ⟨(s.gs.set x ((s.gs.getD x default).1 ++ (s.gs.getD y default).1, (s.gs.getD x default).2 + 1)).set y ([], 0), mov s.of x (s.gs.getD y default).1, s.by_.set x (s.by_.getD x 0 + s.by_.getD y 0)⟩
def stepG (page : Int) (s : GS) (c : CallI) : GS :=
  let x := s.of.getD c.fn.toNat 0
  let y := s.of.getD c.cal.toNat 0
  if x = y ∨ page < s.by_.getD x.toNat 0 + s.by_.getD y.toNat 0 then s else joinG s x.toNat y.toNat
def initG (sizes : List Int) : GS := ⟨(List.range sizes.length).map fun x : Nat => ([(x : Int)], 0), natI sizes.length, sizes⟩
def runG (page : Int) (s : GS) (l : List CallI) : GS := l.foldl (stepG page) s
/-- What holds all along. -/
structure GI (n : Nat) (s : GS) : Prop where
  gl : s.gs.length = n
  ol : s.of.length = n
  bl : s.by_.length = n
  ofr : ∀ f, f < n → ∃ x : Nat, x < n ∧ s.of.getD f 0 = x ∧ (f : Int) ∈ (s.gs.getD x default).1
  byr : ∀ x, x < n → 0 ≤ s.by_.getD x 0 ∧ s.by_.getD x 0 ≤ 1048576
  mem : ∀ x, x < n → ∀ f ∈ (s.gs.getD x default).1, 0 ≤ f ∧ f < n
  all : ((s.gs.map (·.1)).flatten).Perm (natI n)
theorem getD_set {α : Type} (l : List α) (i j : Nat) (a d : α) (h : i < l.length) : (l.set i a).getD j d = if i = j then a else l.getD j d := by
  rw [List.getD_eq_getElem?_getD, List.getD_eq_getElem?_getD, List.getElem?_set]
  by_cases hij : i = j
  · rw [if_pos hij, if_pos hij]; subst hij; rw [if_pos h]; rfl
  · rw [if_neg hij, if_neg hij]
theorem mov_length (x : Int) : ∀ (l of : List Int), (mov of x l).length = of.length
  | [], _ => rfl
  | f :: l, of => by rw [mov, List.foldl_cons]; exact (mov_length x l _).trans (List.length_set ..)
theorem mov_getD (x : Int) : ∀ (l of : List Int), (∀ f ∈ l, 0 ≤ f ∧ f < of.length) → ∀ j : Nat, (mov of x l).getD j 0 = if (j : Int) ∈ l then x else of.getD j 0
  | [], _, _, _ => rfl
  | f :: l, of, h, j => by
    have hf := h f (by simp)
    have ih := mov_getD x l (of.set f.toNat x) (fun g hg => by rw [List.length_set]; exact h g (by simp [hg])) j
    rw [mov, List.foldl_cons]
    rw [mov] at ih
    rw [ih, getD_set _ _ _ _ _ (by omega)]
    by_cases h1 : (j : Int) ∈ l
    · rw [if_pos h1, if_pos (by simp [h1])]
    · rw [if_neg h1]
      by_cases h2 : f.toNat = j
      · rw [if_pos h2, if_pos (by rw [List.mem_cons]; left; omega)]
      · rw [if_neg h2, if_neg (by rw [List.mem_cons, not_or]; exact ⟨by omega, h1⟩)]
theorem flat_split {gs : List Grp} {x : Nat} (h : x < gs.length) : ((gs.map (·.1)).flatten).Perm ((gs.getD x default).1 ++ ((gs.set x default).map (·.1)).flatten) := by
  rw [List.getD_eq_getElem?_getD, List.getElem?_eq_getElem h, Option.getD_some, List.set_eq_take_append_cons_drop, if_pos h]
  conv => lhs; rw [← List.take_append_drop x gs, List.drop_eq_getElem_cons h]
  simp only [List.map_append, List.map_cons, List.flatten_append, List.flatten_cons]
  rw [show ((default : Grp).1 : List Int) = [] from rfl, List.nil_append, ← List.append_assoc, ← List.append_assoc]
  exact List.Perm.append_right _ List.perm_append_comm
theorem flat_set {gs : List Grp} {x : Nat} (h : x < gs.length) (g : Grp) : (((gs.set x g).map (·.1)).flatten).Perm (g.1 ++ ((gs.set x default).map (·.1)).flatten) := by
  have h1 := flat_split (gs := gs.set x g) (x := x) (by rw [List.length_set]; exact h)
  rw [getD_set _ _ _ _ _ h, if_pos rfl, List.set_set] at h1
  exact h1
theorem joinG_flat {s : GS} {x y : Nat} (hx : x < s.gs.length) (hy : y < s.gs.length) (hxy : x ≠ y) : (((joinG s x y).gs.map (·.1)).flatten).Perm ((s.gs.map (·.1)).flatten) := by
  unfold joinG
  dsimp only
  have hl : y < (s.gs.set x ((s.gs.getD x default).1 ++ (s.gs.getD y default).1, (s.gs.getD x default).2 + 1)).length := by rw [List.length_set]; exact hy
  have h1 := flat_set hl ([], 0)
  have h2 := flat_split hl
  rw [getD_set _ _ _ _ _ hx, if_neg hxy] at h2
  have h3 := flat_set hx ((s.gs.getD x default).1 ++ (s.gs.getD y default).1, (s.gs.getD x default).2 + 1)
  have h4 := flat_split hx
  have h5 : ((s.gs.getD y default).1 ++ (((s.gs.set x ((s.gs.getD x default).1 ++ (s.gs.getD y default).1, (s.gs.getD x default).2 + 1)).set y ([], 0)).map (·.1)).flatten).Perm ((s.gs.getD y default).1 ++ (s.gs.map (·.1)).flatten) := by
    refine (List.Perm.append_left _ h1).trans ?_
    rw [List.nil_append]
    refine h2.symm.trans (h3.trans ?_)
    dsimp only
    refine (List.Perm.trans ?_ (List.Perm.append_left _ h4.symm))
    rw [← List.append_assoc]
    exact List.Perm.append_right _ List.perm_append_comm
  exact (List.perm_append_left_iff _).1 h5
theorem GI.elem {n : Nat} {s : GS} (h : GI n s) {f x : Nat} (hx : x < n) (hf : (f : Int) ∈ (s.gs.getD x default).1) : ∀ y, y < n → (f : Int) ∈ (s.gs.getD y default).1 → x = y := by
  intro y hy hfy
  refine Decidable.byContradiction fun hxy => ?_
  have hp := h.all.nodup_iff.2 (by
    unfold natI
    exact List.Pairwise.map _ (fun a b hab => by omega) List.nodup_range)
  have h1 := (flat_split (gs := s.gs) (x := x) (by rw [h.gl]; exact hx)).nodup_iff.1 hp
  have h2 := (List.nodup_append.1 h1).2.2 _ hf
  refine h2 (f : Int) ?_ rfl
  refine List.mem_flatten.2 ⟨(s.gs.getD y default).1, ?_, hfy⟩
  refine List.mem_map.2 ⟨s.gs.getD y default, ?_, rfl⟩
  have e : s.gs.getD y default = (s.gs.set x default).getD y default := by rw [getD_set _ _ _ _ _ (by rw [h.gl]; exact hx), if_neg hxy]
  rw [e]
  exact getDm (by rw [List.length_set, h.gl]; exact hy)
theorem GI.len {n : Nat} {s : GS} (h : GI n s) {x : Nat} (hx : x < n) : (s.gs.getD x default).1.length ≤ n := by
  have h1 := (flat_split (gs := s.gs) (x := x) (by rw [h.gl]; exact hx)).length_eq
  have h2 := h.all.length_eq
  rw [natI_length] at h2
  rw [List.length_append] at h1
  omega
theorem GI.join {n : Nat} {s : GS} (h : GI n s) {page : Int} (hp : page ≤ 65536) {x y : Nat} (hx : x < n) (hy : y < n) (hxy : x ≠ y) (hfit : ¬ page < s.by_.getD x 0 + s.by_.getD y 0) : GI n (joinG s x y) := by
  have hxl : x < s.gs.length := by rw [h.gl]; exact hx
  have hyl : y < (s.gs.set x ((s.gs.getD x default).1 ++ (s.gs.getD y default).1, (s.gs.getD x default).2 + 1)).length := by rw [List.length_set, h.gl]; exact hy
  have hbx := h.byr x hx
  have hby := h.byr y hy
  have hg : ∀ z, z < n → ((joinG s x y).gs.getD z default).1 = if y = z then [] else if x = z then (s.gs.getD x default).1 ++ (s.gs.getD y default).1 else (s.gs.getD z default).1 := fun z hz => by
    unfold joinG
    dsimp only
    rw [getD_set _ _ _ _ _ hyl, getD_set _ _ _ _ _ hxl]
    repeat' split
    all_goals rfl
  refine ⟨by simp [joinG, h.gl], by simp [joinG, mov_length, h.ol], by simp [joinG, h.bl], fun f hf => ?_, fun z hz => ?_, fun z hz f hf => ?_, ?_⟩
  · obtain ⟨z, hz, e, hne⟩ := h.ofr f hf
    have hm := mov_getD (x : Int) (s.gs.getD y default).1 s.of (fun g hg => by rw [h.ol]; exact h.mem y hy g hg) f
    by_cases hfy : (f : Int) ∈ (s.gs.getD y default).1
    · rw [if_pos hfy] at hm
      refine ⟨x, hx, hm, ?_⟩
      rw [hg x hx, if_neg (Ne.symm hxy), if_pos rfl]
      exact List.mem_append.2 (.inr hfy)
    · rw [if_neg hfy] at hm
      have hzy : y ≠ z := fun e => hfy (by rw [e]; exact hne)
      refine ⟨z, hz, hm.trans e, ?_⟩
      rw [hg z hz, if_neg hzy]
      split
      · rename_i hxz
        subst hxz
        exact List.mem_append.2 (.inl hne)
      · exact hne
  · show 0 ≤ (s.by_.set x _).getD z 0 ∧ (s.by_.set x _).getD z 0 ≤ _
    rw [getD_set _ _ _ _ _ (by rw [h.bl]; exact hx)]
    split
    · omega
    · exact h.byr z hz
  · rw [hg z hz] at hf
    split at hf
    · cases hf
    · split at hf
      · rcases List.mem_append.1 hf with hf | hf
        · exact h.mem x hx f hf
        · exact h.mem y hy f hf
      · exact h.mem z hz f hf
  · exact (joinG_flat hxl (by rw [h.gl]; exact hy) hxy).trans h.all
theorem GI.step {n : Nat} {s : GS} (h : GI n s) {page : Int} (hp : page ≤ 65536) {c : CallI} (hc : (0 ≤ c.fn ∧ c.fn < n) ∧ (0 ≤ c.cal ∧ c.cal < n)) : GI n (stepG page s c) := by
  obtain ⟨x, hx, ex, _⟩ := h.ofr c.fn.toNat (by omega)
  obtain ⟨y, hy, ey, _⟩ := h.ofr c.cal.toNat (by omega)
  unfold stepG
  dsimp only
  rw [ex, ey, Int.toNat_natCast, Int.toNat_natCast]
  split
  · exact h
  · rename_i hn
    rw [not_or] at hn
    exact h.join hp hx hy (fun e => hn.1 (by rw [e])) hn.2
theorem GI.init {sizes : List Int} (hs : ∀ s ∈ sizes, 0 ≤ s ∧ s ≤ 1048576) : GI sizes.length (initG sizes) := by
  have hg : ∀ x, x < sizes.length → (initG sizes).gs.getD x default = ([(x : Int)], 0) := fun x hx => by
    simp [initG, List.getD_eq_getElem?_getD, hx]
  refine ⟨by simp [initG], by simp [initG, natI_length], rfl, fun f hf => ⟨f, hf, by simp [initG, natI, List.getD_eq_getElem?_getD, hf], by rw [hg f hf]; simp⟩, fun x hx => hs _ (getDm hx), fun x hx f hf => ?_, ?_⟩
  · rw [hg x hx] at hf
    simp at hf
    omega
  · have : ((initG sizes).gs.map (·.1)).flatten = natI sizes.length := by
      unfold initG natI
      dsimp only
      rw [List.map_map, List.flatten_eq_flatMap, List.flatMap_map]
      simp [Function.comp_def]
      rw [List.flatMap_def]
      induction List.range sizes.length with
      | nil => rfl
      | cons a l ih => simp; exact ih
    rw [this]
theorem GI.run {n : Nat} {page : Int} (hp : page ≤ 65536) : ∀ (l : List CallI) (s : GS), GI n s → (∀ c ∈ l, (0 ≤ c.fn ∧ c.fn < n) ∧ (0 ≤ c.cal ∧ c.cal < n)) → GI n (runG page s l)
  | [], s, h, _ => h
  | c :: l, s, h, hc => GI.run hp l _ (h.step hp (hc c (by simp))) (fun d hd => hc d (by simp [hd]))
theorem runG_take (page : Int) (s : GS) (l : List CallI) (k : Nat) (h : k < l.length) : runG page s (l.take (k + 1)) = stepG page (runG page s (l.take k)) (l.getD k default) := by
  rw [runG, List.take_add_one, List.getElem?_eq_getElem h, List.foldl_append, List.getD_eq_getElem?_getD, List.getElem?_eq_getElem h]; rfl
end Go.Proofs.Ythginmfobikdgaa
