/- Chapter 38, the walks: the law's order. -/
import Derived.Test.YthginmfobikdgaaPlF
set_option linter.unusedSimpArgs false
set_option linter.unusedVariables false
namespace Go.Proofs.Ythginmfobikdgaa
open Go.PV

theorem ints_set (l : List Int) (i : Nat) (x : Int) : (ints l).set i [.int .i64 x] = ints (l.set i x) := by simp [ints, PV.encI, List.map_set]
theorem swap_perm {l : List Int} {i k : Nat} (hi : i < l.length) (hk : k < l.length) : ((l.set i (l.getD k 0)).set k (l.getD i 0)).Perm l := by
  have := List.set_set_perm («as» := l) hi hk
  simpa [List.getD_eq_getElem?_getD, List.getElem?_eq_getElem hi, List.getElem?_eq_getElem hk] using this
set_option maxHeartbeats 8000000 in
theorem order38_w (cs : List Int) (k0 : Nat) (n : Nat) (hn0 : 0 < n) (hn : n ≤ 1000) (hcl : okInts .u8 cs) (hcn : cs.length < 2 ^ 40) (hk0 : k0 ≤ cs.length) :
    PCall Try.prog 40 [.ptr 0 0 0 0, .int .i64 n] [codes cs k0] (fun p σ' => ∃ (l : List Int) (k : Nat), p = .sl (ints l) ∧ σ' = [codes cs k] ∧ k ≤ cs.length ∧ l.Perm (natI n)) := by
  refine PCall.vfrz [] 1051135 45 [.tmp 4] nx_ok mix Try.func40 rfl (by decide) rfl rfl (by simp) ?_
  simp -dsimp only [initFr, List.zipIdx_cons, List.zipIdx_nil, List.map_cons, List.map_nil, Nat.zero_add, Nat.reduceAdd]
  simp -dsimp (maxSteps := 4000000) +contextual (disch := first | omega | decide +kernel) only [↓vsD, vsU, Bool.or_false, Bool.true_or, resW, fnRet, cond_true, cond_false, Nat.reduceShiftRight, Nat.reduceAnd, Go.PV.fits, Go.PV.mutOf, Go.PV.splice, Int.reduceToNat, Int.reduceEq, Int.reduceAdd, Int.reduceSub, Int.reduceMul, Int.reduceLE, Int.reduceLT, Int.reduceNeg, Nat.reduceMul, Nat.reduceLeDiff, ne_eq, if_true, if_false, reduceIte, Nat.reduceEqDiff, ↓Nat.reduceLT, Nat.reduceAdd, Nat.reduceBEq, reduceCtorEq, enc_length, encs_length, tyU, tyC, tyB, tyA, tyI, tyZ, tyF, tyP, enc_getD, encs_getD, wrap_i64, enc_set, splice_one, set_last, bin_snn, bin_snm, bin_sns, bin_tnn, bin_tnm, bin_tns, nx_next, exNextO_codes]
  refine v_loopS (fun i : Nat => [(0, .ptr 0 0 0 0), (1, .int .i64 n), (5, match i with | 0 => .nils | j + 1 => .msl 1 j), (6, .int .i64 i)])
    (fun i => match i with | 0 => [codes cs k0] | j + 1 => [codes cs k0, .rows 3 1 (ints (natI (j + 1))) j]) (fun i => i ≤ n) (fun i => n - i) 0 (by simp [weaker, Go.PV.look]) rfl (by omega) ?_
  intro i hi
  by_cases hin : i < n
  · have hs := natI_succ i
    have hb : ∀ j : Nat, j < n → (j + 1 + 1) * 8 ≤ maxBytes := fun j hj => by simp only [maxBytes]; omega
    have hm : ∀ j : Nat, j < n → j + 1 + 1 ≤ maxLen := fun j hj => by simp only [maxLen]; omega
    cases i with
    | zero =>
      simp -dsimp (maxSteps := 4000000) +contextual (disch := first | omega | decide +kernel) only [↓vsD, vsU, Bool.or_false, Bool.true_or, resW, fnRet, cond_true, cond_false, Nat.reduceShiftRight, Nat.reduceAnd, Go.PV.fits, Go.PV.mutOf, Go.PV.splice, Int.reduceToNat, Int.reduceEq, Int.reduceAdd, Int.reduceSub, Int.reduceMul, Int.reduceLE, Int.reduceLT, Int.reduceNeg, Nat.reduceMul, Nat.reduceLeDiff, ne_eq, if_true, if_false, reduceIte, Nat.reduceEqDiff, ↓Nat.reduceLT, Nat.reduceAdd, Nat.reduceBEq, reduceCtorEq, enc_length, encs_length, tyU, tyC, tyB, tyA, tyI, tyZ, tyF, tyP, enc_getD, encs_getD, wrap_i64, enc_set, splice_one, set_last, bin_snn, bin_snm, bin_sns, bin_tnn, bin_tnm, bin_tns, nx_next, exNextO_codes, bytesOk, lenOk]
      exact ⟨1, (by (try dsimp only); omega), (by simp [weaker, Go.PV.look]), rfl, by omega⟩
    | succ j =>
      simp -dsimp (maxSteps := 4000000) +contextual (disch := first | omega | decide +kernel) only [↓vsD, vsU, Bool.or_false, Bool.true_or, resW, fnRet, cond_true, cond_false, Nat.reduceShiftRight, Nat.reduceAnd, Go.PV.fits, Go.PV.mutOf, Go.PV.splice, Int.reduceToNat, Int.reduceEq, Int.reduceAdd, Int.reduceSub, Int.reduceMul, Int.reduceLE, Int.reduceLT, Int.reduceNeg, Nat.reduceMul, Nat.reduceLeDiff, ne_eq, if_true, if_false, reduceIte, Nat.reduceEqDiff, ↓Nat.reduceLT, Nat.reduceAdd, Nat.reduceBEq, reduceCtorEq, enc_length, encs_length, tyU, tyC, tyB, tyA, tyI, tyZ, tyF, tyP, enc_getD, encs_getD, wrap_i64, enc_set, splice_one, set_last, bin_snn, bin_snm, bin_sns, bin_tnn, bin_tnm, bin_tns, nx_next, exNextO_codes, bytesOk, lenOk, enc_length, natI_length, hb j (by omega), hm j (by omega)]
      refine ⟨j + 1 + 1, (by (try dsimp only); omega), by simp [weaker, Go.PV.look], ?_, by omega⟩
      dsimp only
      rw [hs]
      simp [ints, PV.encI]
  · have : i = n := by omega
    subst this
    obtain ⟨m, rfl⟩ : ∃ m, i = m + 1 := ⟨i - 1, by omega⟩
    simp -dsimp (maxSteps := 4000000) +contextual (disch := first | omega | decide +kernel) only [↓vsD, vsU, Bool.or_false, Bool.true_or, resW, fnRet, cond_true, cond_false, Nat.reduceShiftRight, Nat.reduceAnd, Go.PV.fits, Go.PV.mutOf, Go.PV.splice, Int.reduceToNat, Int.reduceEq, Int.reduceAdd, Int.reduceSub, Int.reduceMul, Int.reduceLE, Int.reduceLT, Int.reduceNeg, Nat.reduceMul, Nat.reduceLeDiff, ne_eq, if_true, if_false, reduceIte, Nat.reduceEqDiff, ↓Nat.reduceLT, Nat.reduceAdd, Nat.reduceBEq, reduceCtorEq, enc_length, encs_length, tyU, tyC, tyB, tyA, tyI, tyZ, tyF, tyP, enc_getD, encs_getD, wrap_i64, enc_set, splice_one, set_last, bin_snn, bin_snm, bin_sns, bin_tnn, bin_tnm, bin_tns, nx_next, exNextO_codes]
    refine v_loopS (fun s : Nat × Nat × List Int => [(0, .ptr 0 0 0 0), (1, .int .i64 ((m + 1 : Nat) : Int)), (5, .msl 1 m), (7, .int .i64 s.1)])
      (fun s => [codes cs s.2.1, .rows 3 1 (ints s.2.2) m]) (fun s => s.1 ≤ m + 1 ∧ s.2.1 ≤ cs.length ∧ s.2.2.Perm (natI (m + 1))) (fun s => m + 1 - s.1) (0, k0, natI (m + 1)) (by simp [weaker, Go.PV.look]) rfl ⟨by simp, hk0, .rfl⟩ ?_
    rintro ⟨i, k, l⟩ ⟨hi, hk, hl⟩
    dsimp only at hi hk hl ⊢
    have hll : l.length = m + 1 := by rw [hl.length_eq, natI_length]
    by_cases hin : i < m + 1
    · have d1 := nxt_lt hcl k (((m + 1 : Nat) : Int) - i) (by omega)
      have g1 := nxt_le hk (((m + 1 : Nat) : Int) - i)
      obtain ⟨q, hq⟩ : ∃ q : Nat, (q : Int) = i + (nxt cs k (((m + 1 : Nat) : Int) - i)).1 := ⟨(i + (nxt cs k (((m + 1 : Nat) : Int) - i)).1).toNat, by omega⟩
      have hqm : q < m + 1 := by omega
      have hp := swap_perm (l := l) (i := i) (k := q) (by omega) (by omega)
      simp -dsimp (maxSteps := 4000000) +contextual (disch := first | omega | decide +kernel) only [↓vsD, vsU, Bool.or_false, Bool.true_or, resW, fnRet, cond_true, cond_false, Nat.reduceShiftRight, Nat.reduceAnd, Go.PV.fits, Go.PV.mutOf, Go.PV.splice, Int.reduceToNat, Int.reduceEq, Int.reduceAdd, Int.reduceSub, Int.reduceMul, Int.reduceLE, Int.reduceLT, Int.reduceNeg, Nat.reduceMul, Nat.reduceLeDiff, ne_eq, if_true, if_false, reduceIte, Nat.reduceEqDiff, ↓Nat.reduceLT, Nat.reduceAdd, Nat.reduceBEq, reduceCtorEq, enc_length, encs_length, tyU, tyC, tyB, tyA, tyI, tyZ, tyF, tyP, enc_getD, encs_getD, wrap_i64, enc_set, splice_one, set_last, bin_snn, bin_snm, bin_sns, bin_tnn, bin_tnm, bin_tns, nx_next, exNextO_codes, hcl, ← hq]
      refine v_draws _ _ _ _ _ _ [13, 15] [] [(0, 0), (0, 0), (0, 1), (0, 1), (0, 0), (0, 0), (0, 0), (0, 0), (0, 0), (0, 0), (0, 0), (0, 0), (0, 0), (0, 0), (1, 1), (0, 0)] (by decide +kernel) (by decide +kernel) (by decide +kernel) (by decide +kernel) ?_
      simp -dsimp (maxSteps := 4000000) +contextual (disch := first | omega | decide +kernel) only [↓vsD, vsU, Bool.or_false, Bool.true_or, resW, fnRet, cond_true, cond_false, Nat.reduceShiftRight, Nat.reduceAnd, Go.PV.fits, Go.PV.mutOf, Go.PV.splice, Int.reduceToNat, Int.reduceEq, Int.reduceAdd, Int.reduceSub, Int.reduceMul, Int.reduceLE, Int.reduceLT, Int.reduceNeg, Nat.reduceMul, Nat.reduceLeDiff, ne_eq, if_true, if_false, reduceIte, Nat.reduceEqDiff, ↓Nat.reduceLT, Nat.reduceAdd, Nat.reduceBEq, reduceCtorEq, enc_length, encs_length, tyU, tyC, tyB, tyA, tyI, tyZ, tyF, tyP, enc_getD, encs_getD, wrap_i64, enc_set, splice_one, set_last, bin_snn, bin_snm, bin_sns, bin_tnn, bin_tnm, bin_tns, nx_next, exNextO_codes, vdx_none, vkp_go, ↓vd_end, place_nil, place_cons, vdo_eff, vdo_effA, ↓vdm_go, List.take_succ_cons, List.take_zero, List.drop_succ_cons, List.drop_zero, vdo_noeff_s, vdo_noeff_n, vdo_nofloat, vdo_noread, vdo_read, vdo_floatS, vdo_floatA, vde_s, vde_n, vde_c, vdx_s, vdr_s, vdr_b, vdf_m, vdf_p, ↓vd_op, ↓guard_none, ↓guard_some, gval_some, List.forall_mem_cons, List.not_mem_nil, false_implies, implies_true, List.length_append, List.length_replicate, List.replicate_zero, List.replicate_succ, List.contains_nil, List.contains_cons, Bool.or_false, Bool.false_or, Bool.or_self, Bool.or_true, Bool.true_or, vdr_o, vdq_eq, vdw_s, outR_v, rowsAt_none, mapAt_none, lnil, drop0, hcl, enc_length, hll]
      exact ⟨by rw [List.length_set]; omega, (i + 1, _, _), (by (try dsimp only); omega), (by simp [weaker, Go.PV.look]), rfl, by dsimp only; omega, g1, hp.trans hl⟩
    · have : i = m + 1 := by omega
      subst this
      simp -dsimp (maxSteps := 4000000) +contextual (disch := first | omega | decide +kernel) only [↓vsD, vsU, Bool.or_false, Bool.true_or, resW, fnRet, cond_true, cond_false, Nat.reduceShiftRight, Nat.reduceAnd, Go.PV.fits, Go.PV.mutOf, Go.PV.splice, Int.reduceToNat, Int.reduceEq, Int.reduceAdd, Int.reduceSub, Int.reduceMul, Int.reduceLE, Int.reduceLT, Int.reduceNeg, Nat.reduceMul, Nat.reduceLeDiff, ne_eq, if_true, if_false, reduceIte, Nat.reduceEqDiff, ↓Nat.reduceLT, Nat.reduceAdd, Nat.reduceBEq, reduceCtorEq, enc_length, encs_length, tyU, tyC, tyB, tyA, tyI, tyZ, tyF, tyP, enc_getD, encs_getD, wrap_i64, enc_set, splice_one, set_last, bin_snn, bin_snm, bin_sns, bin_tnn, bin_tnm, bin_tns, nx_next, exNextO_codes, hcl]
      exact fin1 (Frz.msl0 (elem := 3) (sz := 1) (Nat.le_refl _) rfl (enc_bel _ _ _)) (codes_bel _ _ _) ⟨l, k, rfl, rfl, hk, hl⟩

/-! What is drawn. -/
structure DP (cs : List Int) (s : Nat × Nat × List Int) (n : Nat) : Prop where
  i : s.1 ≤ n
  k : s.2.1 ≤ cs.length
  len : s.2.2.length = s.1
  sz : ∀ x ∈ s.2.2, 0 ≤ x ∧ x < 60
structure DQ (cs : List Int) (n : Nat) (s : Nat × Nat × List CallI) : Prop where
  i : s.1 ≤ 12
  k : s.2.1 ≤ cs.length
  len : s.2.2.length + s.1 ≤ 12
  ends : ∀ c ∈ s.2.2, (0 ≤ c.fn ∧ c.fn < n) ∧ (0 ≤ c.cal ∧ c.cal < n)
  cnt : ∀ c ∈ s.2.2, 0 ≤ c.cnt ∧ c.cnt < 20
  ins : s.2.2.Pairwise (fun c d => c.ins < d.ins) ∧ ∀ c ∈ s.2.2, c.ins < s.2.2.length
theorem aggG : aggT Try.prog 76 = true := by kernel_rfl
theorem cG : Try.prog.cellsOf 76 = 2 := by kernel_rfl
def msl0 (o n : Nat) : PV := match n with | 0 => .nils | j + 1 => .msl o j
set_option maxRecDepth 8000 in
set_option maxHeartbeats 16000000 in
theorem draw38_w (cs : List Int) (k0 : Nat) (a b : Nat) (ha : 1 ≤ a) (hab : a ≤ b) (hb : b ≤ 64) (hcl : okInts .u8 cs) (hcn : cs.length < 2 ^ 40) (hk0 : k0 ≤ cs.length) :
    PCall Try.prog 39 [.ptr 0 0 0 0, .int .i64 a, .int .i64 b] [codes cs k0] (fun p σ' => ∃ (sizes : List Int) (calls : List CallI) (page : Int) (k : Nat), p = .tup [.sl (ints sizes), .agg [.nils, .sl (encL calls)], .int .i64 page] ∧ σ' = [codes cs k] ∧ k ≤ cs.length ∧
      a ≤ sizes.length ∧ sizes.length ≤ b ∧ (∀ x ∈ sizes, 0 ≤ x ∧ x < 60) ∧ calls.length ≤ 12 ∧ GoodP sizes calls page ∧ page ≤ 100 ∧ (∀ c ∈ calls, 0 ≤ c.cnt ∧ c.cnt < 20) ∧ calls.Pairwise (fun c d => c.ins < d.ins)) := by
  have r0 := nxt_lt hcl k0 ((b : Int) - a + 1) (by omega)
  have h0 := nxt_le hk0 ((b : Int) - a + 1)
  obtain ⟨n, hn⟩ : ∃ n : Nat, (n : Int) = a + (nxt cs k0 ((b : Int) - a + 1)).1 := ⟨(a + (nxt cs k0 ((b : Int) - a + 1)).1).toNat, by omega⟩
  obtain ⟨k1, hk1⟩ : ∃ k1, k1 = (nxt cs k0 ((b : Int) - a + 1)).2 := ⟨_, rfl⟩
  rw [← hk1] at h0
  have hn1 : 1 ≤ n := by omega
  have hnb : n ≤ b := by omega
  have hna : a ≤ n := by omega
  refine PCall.vfrz [] 34376531967 60 [.tmp 6, .cell 7 76, .tmp 8] nx_ok mix Try.func39 rfl (by decide) rfl rfl (by simp) ?_
  simp -dsimp only [initFr, List.zipIdx_cons, List.zipIdx_nil, List.map_cons, List.map_nil, Nat.zero_add, Nat.reduceAdd]
  simp -dsimp (maxSteps := 4000000) +contextual (disch := first | omega | decide +kernel) only [↓vsD, vsU, Bool.or_false, Bool.true_or, resW, fnRet, cond_true, cond_false, Nat.reduceShiftRight, Nat.reduceAnd, Go.PV.fits, Go.PV.mutOf, Go.PV.splice, Int.reduceToNat, Int.reduceEq, Int.reduceAdd, Int.reduceSub, Int.reduceMul, Int.reduceLE, Int.reduceLT, Int.reduceNeg, Nat.reduceMul, Nat.reduceLeDiff, ne_eq, if_true, if_false, reduceIte, Nat.reduceEqDiff, ↓Nat.reduceLT, Nat.reduceAdd, Nat.reduceBEq, reduceCtorEq, enc_length, encs_length, tyU, tyC, tyB, tyA, tyI, tyZ, tyF, tyP, enc_getD, encs_getD, wrap_i64, enc_set, splice_one, set_last, bin_snn, bin_snm, bin_sns, bin_tnn, bin_tnm, bin_tns, nx_next, exNextO_codes, hcl, ← hn, ← hk1]
  refine v_loopS (fun s : Nat × Nat × List Int => [(0, .ptr 0 0 0 0), (7, .ptr 1 0 0 0), (9, .int .i64 n), (10, msl0 3 s.1), (11, .ptr 2 0 0 0), (12, .int .i64 s.1)])
    (fun s => match s.1 with | 0 => [codes cs s.2.1, .rows 76 2 [[.nils, .nils]] 0, .rows 76 2 [[.nils, .nils]] 0] | j + 1 => [codes cs s.2.1, .rows 76 2 [[.nils, .nils]] 0, .rows 76 2 [[.nils, .nils]] 0, .rows 3 1 (ints s.2.2) j])
    (fun s => DP cs s n) (fun s => n - s.1) (0, k1, []) (by simp [weaker, Go.PV.look, msl0]) rfl ⟨by simp, h0, rfl, by simp⟩ ?_
  rintro ⟨i, k, l⟩ hI
  have hi := hI.i
  have hk := hI.k
  have hl := hI.len
  have hsz := hI.sz
  dsimp only at hi hk hl hsz ⊢
  by_cases hin : i < n
  · have d1 := nxt_lt hcl k 60 (by omega)
    have g1 := nxt_le hk 60
    cases i with
    | zero =>
      obtain rfl := List.length_eq_zero_iff.1 hl
      simp only [msl0]
      simp -dsimp (maxSteps := 4000000) +contextual (disch := first | omega | decide +kernel) only [↓vsD, vsU, Bool.or_false, Bool.true_or, resW, fnRet, cond_true, cond_false, Nat.reduceShiftRight, Nat.reduceAnd, Go.PV.fits, Go.PV.mutOf, Go.PV.splice, Int.reduceToNat, Int.reduceEq, Int.reduceAdd, Int.reduceSub, Int.reduceMul, Int.reduceLE, Int.reduceLT, Int.reduceNeg, Nat.reduceMul, Nat.reduceLeDiff, ne_eq, if_true, if_false, reduceIte, Nat.reduceEqDiff, ↓Nat.reduceLT, Nat.reduceAdd, Nat.reduceBEq, reduceCtorEq, enc_length, encs_length, tyU, tyC, tyB, tyA, tyI, tyZ, tyF, tyP, enc_getD, encs_getD, wrap_i64, enc_set, splice_one, set_last, bin_snn, bin_snm, bin_sns, bin_tnn, bin_tnm, bin_tns, nx_next, exNextO_codes, hcl, bytesOk, lenOk]
      exact ⟨(1, _, [(nxt cs k 60).1]), (by (try dsimp only); omega), (by simp [weaker, Go.PV.look]), rfl, by dsimp only; omega, g1, rfl, by simp; omega⟩
    | succ j =>
      have hb : (j + 1 + 1) * 8 ≤ maxBytes := by simp only [maxBytes]; omega
      have hm : j + 1 + 1 ≤ maxLen := by simp only [maxLen]; omega
      simp only [msl0]
      simp -dsimp (maxSteps := 4000000) +contextual (disch := first | omega | decide +kernel) only [↓vsD, vsU, Bool.or_false, Bool.true_or, resW, fnRet, cond_true, cond_false, Nat.reduceShiftRight, Nat.reduceAnd, Go.PV.fits, Go.PV.mutOf, Go.PV.splice, Int.reduceToNat, Int.reduceEq, Int.reduceAdd, Int.reduceSub, Int.reduceMul, Int.reduceLE, Int.reduceLT, Int.reduceNeg, Nat.reduceMul, Nat.reduceLeDiff, ne_eq, if_true, if_false, reduceIte, Nat.reduceEqDiff, ↓Nat.reduceLT, Nat.reduceAdd, Nat.reduceBEq, reduceCtorEq, enc_length, encs_length, tyU, tyC, tyB, tyA, tyI, tyZ, tyF, tyP, enc_getD, encs_getD, wrap_i64, enc_set, splice_one, set_last, bin_snn, bin_snm, bin_sns, bin_tnn, bin_tnm, bin_tns, nx_next, exNextO_codes, hcl, enc_length, hl, bytesOk, lenOk, hb, hm]
      refine ⟨(j + 1 + 1, _, l ++ [(nxt cs k 60).1]), (by (try dsimp only); omega), by simp [weaker, Go.PV.look, msl0], by simp [ints, PV.encI], by dsimp only; omega, g1, by simp [hl], fun x hx => ?_⟩
      rcases List.mem_append.1 hx with hx | hx
      · exact hsz x hx
      · rw [List.mem_singleton] at hx; omega
  · have : i = n := by omega
    subst this
    obtain ⟨m, rfl⟩ : ∃ m, i = m + 1 := ⟨i - 1, by omega⟩
    have d1 := nxt_lt hcl k 12 (by omega)
    have g1 := nxt_le hk 12
    obtain ⟨r, hr⟩ : ∃ r : Nat, (r : Int) = (nxt cs k 12).1 := ⟨(nxt cs k 12).1.toNat, by omega⟩
    obtain ⟨k2, hk2⟩ : ∃ k2, k2 = (nxt cs k 12).2 := ⟨_, rfl⟩
    rw [← hk2] at g1
    simp only [msl0]
    simp -dsimp (maxSteps := 4000000) +contextual (disch := first | omega | decide +kernel) only [↓vsD, vsU, Bool.or_false, Bool.true_or, resW, fnRet, cond_true, cond_false, Nat.reduceShiftRight, Nat.reduceAnd, Go.PV.fits, Go.PV.mutOf, Go.PV.splice, Int.reduceToNat, Int.reduceEq, Int.reduceAdd, Int.reduceSub, Int.reduceMul, Int.reduceLE, Int.reduceLT, Int.reduceNeg, Nat.reduceMul, Nat.reduceLeDiff, ne_eq, if_true, if_false, reduceIte, Nat.reduceEqDiff, ↓Nat.reduceLT, Nat.reduceAdd, Nat.reduceBEq, reduceCtorEq, enc_length, encs_length, tyU, tyC, tyB, tyA, tyI, tyZ, tyF, tyP, enc_getD, encs_getD, wrap_i64, enc_set, splice_one, set_last, bin_snn, bin_snm, bin_sns, bin_tnn, bin_tnm, bin_tns, nx_next, exNextO_codes, hcl, ← hr, ← hk2]
    refine v_loopS (fun s : Nat × Nat × List CallI => [(0, .ptr 0 0 0 0), (7, .ptr 1 0 0 0), (9, .int .i64 ((m + 1 : Nat) : Int)), (10, .msl 3 m), (11, .ptr 2 0 0 0), (13, .int .i64 s.1)])
      (fun s => match s.2.2 with | [] => [codes cs s.2.1, .rows 76 2 [[.nils, .nils]] 0, .rows 76 2 [[.nils, .nils]] 0, .rows 3 1 (ints l) m] | c :: q => [codes cs s.2.1, .rows 76 2 [[.nils, .nils]] 0, .rows 76 2 [[.nils, .msl 4 q.length]] 0, .rows 3 1 (ints l) m, .rows 78 5 (encL (c :: q)) q.length])
      (fun s => DQ cs (m + 1) s) (fun s => s.1) (r, k2, []) (by simp [weaker, Go.PV.look]) rfl ⟨by dsimp only; omega, g1, by simp; omega, by simp, by simp, by simp, by simp⟩ ?_
    rintro ⟨r, k, q⟩ hQ
    have hr12 := hQ.i
    have hk := hQ.k
    have hql := hQ.len
    have hqe := hQ.ends
    have hqc := hQ.cnt
    have hqi := hQ.ins
    dsimp only at hr12 hk hql hqe hqc hqi ⊢
    by_cases hr0 : 0 < r
    · have d1 := nxt_lt hcl k ((m + 1 : Nat) : Int) (by omega)
      have g1 := nxt_le hk ((m + 1 : Nat) : Int)
      obtain ⟨k1, hk1⟩ : ∃ k1, k1 = (nxt cs k ((m + 1 : Nat) : Int)).2 := ⟨_, rfl⟩
      obtain ⟨f1, hf1⟩ : ∃ f1, f1 = (nxt cs k ((m + 1 : Nat) : Int)).1 := ⟨_, rfl⟩
      rw [← hf1] at d1
      rw [← hk1] at g1
      have d2 := nxt_lt hcl k1 ((m + 1 : Nat) : Int) (by omega)
      have g2 := nxt_le g1 ((m + 1 : Nat) : Int)
      obtain ⟨k2, hk2⟩ : ∃ k2, k2 = (nxt cs k1 ((m + 1 : Nat) : Int)).2 := ⟨_, rfl⟩
      obtain ⟨f2, hf2⟩ : ∃ f2, f2 = (nxt cs k1 ((m + 1 : Nat) : Int)).1 := ⟨_, rfl⟩
      rw [← hf2] at d2
      rw [← hk2] at g2
      have d3 := nxt_lt hcl k2 20 (by omega)
      have g3 := nxt_le g2 20
      obtain ⟨k3, hk3⟩ : ∃ k3, k3 = (nxt cs k2 20).2 := ⟨_, rfl⟩
      obtain ⟨f3, hf3⟩ : ∃ f3, f3 = (nxt cs k2 20).1 := ⟨_, rfl⟩
      rw [← hf3] at d3
      rw [← hk3] at g3
      have fin : DQ cs (m + 1) (r - 1, k3, q ++ [⟨f1, 0, q.length, f2, f3⟩]) := by
        refine ⟨by dsimp only; omega, g3, by simp; omega, fun c hc => ?_, fun c hc => ?_, ?_, fun c hc => ?_⟩
        · rcases List.mem_append.1 hc with hc | hc
          · exact hqe c hc
          · rw [List.mem_singleton] at hc; subst hc; exact ⟨d1, d2⟩
        · rcases List.mem_append.1 hc with hc | hc
          · exact hqc c hc
          · rw [List.mem_singleton] at hc; subst hc; dsimp only; omega
        · refine List.pairwise_append.2 ⟨hqi.1, by simp, fun c hc d hd => ?_⟩
          rw [List.mem_singleton] at hd; subst hd
          exact hqi.2 c hc
        · show c.ins < ((q ++ [_]).length : Int)
          rw [List.length_append, List.length_singleton]
          rcases List.mem_append.1 hc with hc | hc
          · have := hqi.2 c hc; omega
          · rw [List.mem_singleton] at hc; subst hc; dsimp only; omega
      clear hqi
      have hrc : ((r - 1 : Nat) : Int) = (r : Int) - 1 := by omega
      cases q with
      | nil =>
        dsimp only
        simp -dsimp (maxSteps := 4000000) +contextual (disch := first | omega | decide +kernel) only [↓vsD, vsU, Bool.or_false, Bool.true_or, resW, fnRet, cond_true, cond_false, Nat.reduceShiftRight, Nat.reduceAnd, Go.PV.fits, Go.PV.mutOf, Go.PV.splice, Int.reduceToNat, Int.reduceEq, Int.reduceAdd, Int.reduceSub, Int.reduceMul, Int.reduceLE, Int.reduceLT, Int.reduceNeg, Nat.reduceMul, Nat.reduceLeDiff, ne_eq, if_true, if_false, reduceIte, Nat.reduceEqDiff, ↓Nat.reduceLT, Nat.reduceAdd, Nat.reduceBEq, reduceCtorEq, enc_length, encs_length, tyU, tyC, tyB, tyA, tyI, tyZ, tyF, tyP, enc_getD, encs_getD, wrap_i64, enc_set, splice_one, set_last, bin_snn, bin_snm, bin_sns, bin_tnn, bin_tnm, bin_tns, nx_next, exNextO_codes, hcl]
        refine v_draws _ _ _ _ _ _ [4, 7, 9, 15, 17] [] [(0, 3), (0, 3), (0, 0), (0, 0), (0, 0), (0, 1), (0, 1), (0, 0), (0, 2), (0, 0), (0, 3), (0, 3), (0, 3), (3, 3), (3, 3), (0, 0), (4, 4), (0, 0)] (by decide +kernel) (by decide +kernel) (by decide +kernel) (by decide +kernel) ?_
        simp -dsimp (maxSteps := 4000000) +contextual (disch := first | omega | decide +kernel) only [↓vsD, vsU, Bool.or_false, Bool.true_or, resW, fnRet, cond_true, cond_false, Nat.reduceShiftRight, Nat.reduceAnd, Go.PV.fits, Go.PV.mutOf, Go.PV.splice, Int.reduceToNat, Int.reduceEq, Int.reduceAdd, Int.reduceSub, Int.reduceMul, Int.reduceLE, Int.reduceLT, Int.reduceNeg, Nat.reduceMul, Nat.reduceLeDiff, ne_eq, if_true, if_false, reduceIte, Nat.reduceEqDiff, ↓Nat.reduceLT, Nat.reduceAdd, Nat.reduceBEq, reduceCtorEq, enc_length, encs_length, tyU, tyC, tyB, tyA, tyI, tyZ, tyF, tyP, enc_getD, encs_getD, wrap_i64, enc_set, splice_one, set_last, bin_snn, bin_snm, bin_sns, bin_tnn, bin_tnm, bin_tns, nx_next, exNextO_codes, vdx_none, vkp_go, ↓vd_end, place_nil, place_cons, vdo_eff, vdo_effA, ↓vdm_go, List.take_succ_cons, List.take_zero, List.drop_succ_cons, List.drop_zero, vdo_noeff_s, vdo_noeff_n, vdo_nofloat, vdo_noread, vdo_read, vdo_floatS, vdo_floatA, vde_s, vde_n, vde_c, vdx_s, vdr_s, vdr_b, vdf_m, vdf_p, ↓vd_op, ↓guard_none, ↓guard_some, gval_some, List.forall_mem_cons, List.not_mem_nil, false_implies, implies_true, List.length_append, List.length_replicate, List.replicate_zero, List.replicate_succ, List.contains_nil, List.contains_cons, Bool.or_false, Bool.false_or, Bool.or_self, Bool.or_true, Bool.true_or, vdr_o, vdq_eq, vdw_s, outR_v, rowsAt_none, mapAt_none, lnil, drop0, hcl, ← hk1, ← hk2, ← hk3, ← hf1, ← hf2, ← hf3]
        refine ⟨(r - 1, k3, [⟨f1, 0, 0, f2, f3⟩]), (by (try dsimp only); omega), by simp [weaker, Go.PV.look, hrc], rfl, fin⟩
      | cons c q =>
        dsimp only
        simp -dsimp (maxSteps := 4000000) +contextual (disch := first | omega | decide +kernel) only [↓vsD, vsU, Bool.or_false, Bool.true_or, resW, fnRet, cond_true, cond_false, Nat.reduceShiftRight, Nat.reduceAnd, Go.PV.fits, Go.PV.mutOf, Go.PV.splice, Int.reduceToNat, Int.reduceEq, Int.reduceAdd, Int.reduceSub, Int.reduceMul, Int.reduceLE, Int.reduceLT, Int.reduceNeg, Nat.reduceMul, Nat.reduceLeDiff, ne_eq, if_true, if_false, reduceIte, Nat.reduceEqDiff, ↓Nat.reduceLT, Nat.reduceAdd, Nat.reduceBEq, reduceCtorEq, enc_length, encs_length, tyU, tyC, tyB, tyA, tyI, tyZ, tyF, tyP, enc_getD, encs_getD, wrap_i64, enc_set, splice_one, set_last, bin_snn, bin_snm, bin_sns, bin_tnn, bin_tnm, bin_tns, nx_next, exNextO_codes, hcl]
        refine v_draws _ _ _ _ _ _ [4, 7, 9, 15, 17] [] [(0, 3), (0, 3), (0, 0), (0, 0), (0, 0), (0, 1), (0, 1), (0, 0), (0, 2), (0, 0), (0, 3), (0, 3), (0, 3), (3, 3), (3, 3), (0, 0), (4, 4), (0, 0)] (by decide +kernel) (by decide +kernel) (by decide +kernel) (by decide +kernel) ?_
        simp -dsimp (maxSteps := 4000000) +contextual (disch := first | omega | decide +kernel) only [↓vsD, vsU, Bool.or_false, Bool.true_or, resW, fnRet, cond_true, cond_false, Nat.reduceShiftRight, Nat.reduceAnd, Go.PV.fits, Go.PV.mutOf, Go.PV.splice, Int.reduceToNat, Int.reduceEq, Int.reduceAdd, Int.reduceSub, Int.reduceMul, Int.reduceLE, Int.reduceLT, Int.reduceNeg, Nat.reduceMul, Nat.reduceLeDiff, ne_eq, if_true, if_false, reduceIte, Nat.reduceEqDiff, ↓Nat.reduceLT, Nat.reduceAdd, Nat.reduceBEq, reduceCtorEq, enc_length, encs_length, tyU, tyC, tyB, tyA, tyI, tyZ, tyF, tyP, enc_getD, encs_getD, wrap_i64, enc_set, splice_one, set_last, bin_snn, bin_snm, bin_sns, bin_tnn, bin_tnm, bin_tns, nx_next, exNextO_codes, vdx_none, vkp_go, ↓vd_end, place_nil, place_cons, vdo_eff, vdo_effA, ↓vdm_go, List.take_succ_cons, List.take_zero, List.drop_succ_cons, List.drop_zero, vdo_noeff_s, vdo_noeff_n, vdo_nofloat, vdo_noread, vdo_read, vdo_floatS, vdo_floatA, vde_s, vde_n, vde_c, vdx_s, vdr_s, vdr_b, vdf_m, vdf_p, ↓vd_op, ↓guard_none, ↓guard_some, gval_some, List.forall_mem_cons, List.not_mem_nil, false_implies, implies_true, List.length_append, List.length_replicate, List.replicate_zero, List.replicate_succ, List.contains_nil, List.contains_cons, Bool.or_false, Bool.false_or, Bool.or_self, Bool.or_true, Bool.true_or, vdr_o, vdq_eq, vdw_s, outR_v, rowsAt_none, mapAt_none, lnil, drop0, hcl, ← hk1, ← hk2, ← hk3, ← hf1, ← hf2, ← hf3, encL_length]
        have hb : (q.length + 1 + 1) * 40 ≤ maxBytes := by simp only [maxBytes]; simp at hql; omega
        have hm : q.length + 1 + 1 ≤ maxLen := by simp only [maxLen]; simp at hql; omega
        exact ⟨hb, hm, (r - 1, k3, c :: (q ++ [(⟨f1, 0, ((q.length + 1 : Nat) : Int), f2, f3⟩ : CallI)])), (by (try dsimp only); omega), by simp [weaker, Go.PV.look, hrc], by simp [encL, CallI.row], fin⟩
    · have : r = 0 := by omega
      subst this
      have d1 := nxt_lt hcl k 100 (by omega)
      have g1 := nxt_le hk 100
      obtain ⟨k1, hk1⟩ : ∃ k1, k1 = (nxt cs k 100).2 := ⟨_, rfl⟩
      obtain ⟨f1, hf1⟩ : ∃ f1, f1 = (nxt cs k 100).1 := ⟨_, rfl⟩
      rw [← hf1] at d1
      rw [← hk1] at g1
      have good : GoodP l q (1 + f1) := ⟨by omega, by omega, by omega, fun x hx => by have := hsz x hx; omega, fun c hc => by rw [hl]; exact hqe c hc, fun c hc => by have := hqc c hc; omega, by omega⟩
      cases q with
      | nil =>
        dsimp only
        simp -dsimp (maxSteps := 4000000) +contextual (disch := first | omega | decide +kernel) only [↓vsD, vsU, Bool.or_false, Bool.true_or, resW, fnRet, cond_true, cond_false, Nat.reduceShiftRight, Nat.reduceAnd, Go.PV.fits, Go.PV.mutOf, Go.PV.splice, Int.reduceToNat, Int.reduceEq, Int.reduceAdd, Int.reduceSub, Int.reduceMul, Int.reduceLE, Int.reduceLT, Int.reduceNeg, Nat.reduceMul, Nat.reduceLeDiff, ne_eq, if_true, if_false, reduceIte, Nat.reduceEqDiff, ↓Nat.reduceLT, Nat.reduceAdd, Nat.reduceBEq, reduceCtorEq, enc_length, encs_length, tyU, tyC, tyB, tyA, tyI, tyZ, tyF, tyP, enc_getD, encs_getD, wrap_i64, enc_set, splice_one, set_last, bin_snn, bin_snm, bin_sns, bin_tnn, bin_tnm, bin_tns, nx_next, exNextO_codes, hcl]
        refine v_draws _ _ _ _ _ _ [3, 6] [] [(0, 1), (0, 1), (0, 0), (0, 0), (1, 2), (1, 1), (0, 0), (2, 2)] (by decide +kernel) (by decide +kernel) (by decide +kernel) (by decide +kernel) ?_
        simp -dsimp (maxSteps := 4000000) +contextual (disch := first | omega | decide +kernel) only [↓vsD, vsU, Bool.or_false, Bool.true_or, resW, fnRet, cond_true, cond_false, Nat.reduceShiftRight, Nat.reduceAnd, Go.PV.fits, Go.PV.mutOf, Go.PV.splice, Int.reduceToNat, Int.reduceEq, Int.reduceAdd, Int.reduceSub, Int.reduceMul, Int.reduceLE, Int.reduceLT, Int.reduceNeg, Nat.reduceMul, Nat.reduceLeDiff, ne_eq, if_true, if_false, reduceIte, Nat.reduceEqDiff, ↓Nat.reduceLT, Nat.reduceAdd, Nat.reduceBEq, reduceCtorEq, enc_length, encs_length, tyU, tyC, tyB, tyA, tyI, tyZ, tyF, tyP, enc_getD, encs_getD, wrap_i64, enc_set, splice_one, set_last, bin_snn, bin_snm, bin_sns, bin_tnn, bin_tnm, bin_tns, nx_next, exNextO_codes, vdx_none, vkp_go, ↓vd_end, place_nil, place_cons, vdo_eff, vdo_effA, ↓vdm_go, List.take_succ_cons, List.take_zero, List.drop_succ_cons, List.drop_zero, vdo_noeff_s, vdo_noeff_n, vdo_nofloat, vdo_noread, vdo_read, vdo_floatS, vdo_floatA, vde_s, vde_n, vde_c, vdx_s, vdr_s, vdr_b, vdf_m, vdf_p, ↓vd_op, ↓guard_none, ↓guard_some, gval_some, List.forall_mem_cons, List.not_mem_nil, false_implies, implies_true, List.length_append, List.length_replicate, List.replicate_zero, List.replicate_succ, List.contains_nil, List.contains_cons, Bool.or_false, Bool.false_or, Bool.or_self, Bool.or_true, Bool.true_or, vdr_o, vdq_eq, vdw_s, outR_v, rowsAt_none, mapAt_none, lnil, drop0, hcl, ← hk1, ← hf1]
        refine ⟨_, _, _, _, rfl, rfl, ?_⟩
        dsimp only
        unfold loadP
        rw [if_pos aggG]
        refine ⟨by kernel_rfl, by rw [cG]; exact Nat.le_refl _, ?_⟩
        rw [cG]
        refine fin1 (p2 := .tup [.sl (ints l), .agg [.nils, .sl (encL [])], .int .i64 (1 + f1)]) (Frz.tup _ _ rfl (fun j p hj => ?_)) (codes_bel _ _ _) ⟨l, [], 1 + f1, k1, rfl, rfl, g1, by omega, by omega, hsz, by omega, good, by omega, hqc, hqi.1⟩
        match j, hj with
        | 0, hj => cases hj; exact Frz.msl0 (elem := 3) (sz := 1) (by omega) rfl (enc_bel _ _ _)
        | 1, hj =>
          cases hj
          refine Frz.agg _ _ rfl (fun j p hj => ?_)
          match j, hj with
          | 0, hj => cases hj; exact .keep _ (bel_nils _)
          | 1, hj => cases hj; exact .nils
          | j + 2, hj => simp at hj
        | 2, hj => cases hj; exact .keep _ (bel_int _ _ _)
        | j + 3, hj => simp at hj
      | cons c q =>
        dsimp only
        simp -dsimp (maxSteps := 4000000) +contextual (disch := first | omega | decide +kernel) only [↓vsD, vsU, Bool.or_false, Bool.true_or, resW, fnRet, cond_true, cond_false, Nat.reduceShiftRight, Nat.reduceAnd, Go.PV.fits, Go.PV.mutOf, Go.PV.splice, Int.reduceToNat, Int.reduceEq, Int.reduceAdd, Int.reduceSub, Int.reduceMul, Int.reduceLE, Int.reduceLT, Int.reduceNeg, Nat.reduceMul, Nat.reduceLeDiff, ne_eq, if_true, if_false, reduceIte, Nat.reduceEqDiff, ↓Nat.reduceLT, Nat.reduceAdd, Nat.reduceBEq, reduceCtorEq, enc_length, encs_length, tyU, tyC, tyB, tyA, tyI, tyZ, tyF, tyP, enc_getD, encs_getD, wrap_i64, enc_set, splice_one, set_last, bin_snn, bin_snm, bin_sns, bin_tnn, bin_tnm, bin_tns, nx_next, exNextO_codes, hcl]
        refine v_draws _ _ _ _ _ _ [3, 6] [] [(0, 1), (0, 1), (0, 0), (0, 0), (1, 2), (1, 1), (0, 0), (2, 2)] (by decide +kernel) (by decide +kernel) (by decide +kernel) (by decide +kernel) ?_
        simp -dsimp (maxSteps := 4000000) +contextual (disch := first | omega | decide +kernel) only [↓vsD, vsU, Bool.or_false, Bool.true_or, resW, fnRet, cond_true, cond_false, Nat.reduceShiftRight, Nat.reduceAnd, Go.PV.fits, Go.PV.mutOf, Go.PV.splice, Int.reduceToNat, Int.reduceEq, Int.reduceAdd, Int.reduceSub, Int.reduceMul, Int.reduceLE, Int.reduceLT, Int.reduceNeg, Nat.reduceMul, Nat.reduceLeDiff, ne_eq, if_true, if_false, reduceIte, Nat.reduceEqDiff, ↓Nat.reduceLT, Nat.reduceAdd, Nat.reduceBEq, reduceCtorEq, enc_length, encs_length, tyU, tyC, tyB, tyA, tyI, tyZ, tyF, tyP, enc_getD, encs_getD, wrap_i64, enc_set, splice_one, set_last, bin_snn, bin_snm, bin_sns, bin_tnn, bin_tnm, bin_tns, nx_next, exNextO_codes, vdx_none, vkp_go, ↓vd_end, place_nil, place_cons, vdo_eff, vdo_effA, ↓vdm_go, List.take_succ_cons, List.take_zero, List.drop_succ_cons, List.drop_zero, vdo_noeff_s, vdo_noeff_n, vdo_nofloat, vdo_noread, vdo_read, vdo_floatS, vdo_floatA, vde_s, vde_n, vde_c, vdx_s, vdr_s, vdr_b, vdf_m, vdf_p, ↓vd_op, ↓guard_none, ↓guard_some, gval_some, List.forall_mem_cons, List.not_mem_nil, false_implies, implies_true, List.length_append, List.length_replicate, List.replicate_zero, List.replicate_succ, List.contains_nil, List.contains_cons, Bool.or_false, Bool.false_or, Bool.or_self, Bool.or_true, Bool.true_or, vdr_o, vdq_eq, vdw_s, outR_v, rowsAt_none, mapAt_none, lnil, drop0, hcl, ← hk1, ← hf1]
        refine ⟨_, _, _, _, rfl, rfl, ?_⟩
        dsimp only
        unfold loadP
        rw [if_pos aggG]
        refine ⟨by kernel_rfl, by rw [cG]; exact Nat.le_refl _, ?_⟩
        rw [cG]
        refine fin1 (p2 := .tup [.sl (ints l), .agg [.nils, .sl (encL (c :: q))], .int .i64 (1 + f1)]) (Frz.tup _ _ rfl (fun j p hj => ?_)) (codes_bel _ _ _) ⟨l, (c :: q), 1 + f1, k1, rfl, rfl, g1, by omega, by omega, hsz, by omega, good, by omega, hqc, hqi.1⟩
        match j, hj with
        | 0, hj => cases hj; exact Frz.msl0 (elem := 3) (sz := 1) (by omega) rfl (enc_bel _ _ _)
        | 1, hj =>
          cases hj
          refine Frz.agg _ _ rfl (fun j p hj => ?_)
          match j, hj with
          | 0, hj => cases hj; exact .keep _ (bel_nils _)
          | 1, hj => cases hj; exact Frz.msl0 (elem := 78) (sz := 5) (by omega) rfl (encL_bel _ _)
          | j + 2, hj => simp at hj
        | 2, hj => cases hj; exact .keep _ (bel_int _ _ _)
        | j + 3, hj => simp at hj
end Go.Proofs.Ythginmfobikdgaa
