/- Chapter 32, the walks: the law of the factors. -/
import Derived.Test.YthginmfobikdgaaWtH
import Derived.Test.YthginmfobikdgaaWtI
set_option linter.unusedSimpArgs false
set_option linter.unusedVariables false
namespace Go.Proofs.Ythginmfobikdgaa
open Go.PV

/-! The table, with choices. -/
def intG (l : List Int) (k : Nat) : PV × Nat := (.int .i64 (intC l k).1, (intC l k).2)
def rateG (l : List Int) (k : Nat) : PV × Nat := (.agg [.int .i64 (rateC l k).1.1, .int .i64 (rateC l k).1.2], (rateC l k).2)
def wk3 : Ext := ((wk1.add 26 (fun args σ => exNext σ args)).add 30 (fun args σ => exDraw intG σ args)).add 25 (fun args σ => exDraw rateG σ args)
theorem wk3_ok : ExtOk Try.prog wk3 :=
  ((wk1_ok.add rfl exNext_ok).add rfl (exDraw_ok (fun _ _ => bel_int _ _ _) (fun l k hl hll hk => int_ok l k hl hll hk))).add rfl (exDraw_ok (fun _ _ => bel_rate _ _ _) (fun l k hl hll hk => rate_ok l k hl hll hk))
section
variable (σ : Store) (n b num den : Int) (o : Nat)
theorem wk3_next : wk3.f 26 [.ptr o 0 0 0, .int .i64 n] σ = exNextO o n σ σ[o]? := rfl
theorem wk3_int : wk3.f 30 [.ptr o 0 0 0] σ = exDrawO intG o σ σ[o]? := rfl
theorem wk3_rate : wk3.f 25 [.ptr o 0 0 0] σ = exDrawO rateG o σ σ[o]? := rfl
theorem wk3_valid : wk3.f 33 [.agg [.int .i64 num, .int .i64 den]] σ = some (True, .bool (decide (validR num den)), σ) := rfl
theorem wk3_rvalid : wk3.f 34 [.agg [.int .i64 num, .int .i64 den]] σ = some (True, .bool (decide (validR num den)), σ) := rfl
theorem wk3_power : wk3.f 60 [.int .i64 b, .int .i64 n] σ = some (0 ≤ b ∧ b ≤ 4 ∧ 0 ≤ n ∧ n ≤ 8, .int .i64 (b ^ n.toNat), σ) := rfl
end
theorem new_on (l : List Int) (n : Nat) (σ : Store) : PCall Try.prog 19 [.sl (encI .u8 l), .int .i64 n] σ (fun p σ' => p = .ptr σ.length 0 0 0 ∧ σ' = σ ++ [codes (l.take n) 0]) := by
  refine PCall.vraw [] 287 15 [.tmp 4] (noE_ok _) mix Try.func19 rfl (by decide) rfl rfl (by simp) ?_
  simp -dsimp only [initFr, List.zipIdx_cons, List.zipIdx_nil, List.map_cons, List.map_nil, Nat.zero_add, Nat.reduceAdd]
  simp -dsimp (maxSteps := 4000000) +contextual (disch := first | omega | decide +kernel) only [↓vsD, vsU, resW, fnRet, cond_true, cond_false, Nat.reduceShiftRight, Nat.reduceAnd, Go.PV.fits, Go.PV.mutOf, Go.PV.splice, Int.reduceToNat, Int.reduceEq, Int.reduceAdd, Int.reduceSub, Int.reduceMul, Int.reduceLE, Int.reduceLT, Int.reduceNeg, Nat.reduceMul, Nat.reduceLeDiff, ne_eq, if_true, if_false, reduceIte, Nat.reduceEqDiff, ↓Nat.reduceLT, Nat.reduceAdd, Nat.reduceBEq, reduceCtorEq, enc_length, encs_length, tyU, tyC, tyB, tyA, tyI, tyZ, tyF, tyP, enc_getD, encs_getD, wrap_i64, enc_set, splice_one, set_last, bin_aeq2, bin_ane2, enc_length, enc_all, enc_take]
  exact ⟨fun h => rfl, fun h => by rw [List.take_of_length_le (show l.length ≤ n by omega)]; rfl⟩

/-! What Factor returns, part by part. -/
def fkA (num den age : Int) : Int := if validR num den ∧ ageOk age then num ^ age.toNat else 0
def fkB (num den age : Int) : Int := if validR num den ∧ ageOk age then den ^ age.toNat else 0
def fkE (num den age : Int) : Int := if validR num den ∧ ageOk age then 0 else 1
theorem factorK_eq (num den age : Int) : factorK num den age = .tup [.int .i64 (fkA num den age), .int .i64 (fkB num den age), .int .i64 (fkE num den age)] := by
  unfold factorK fkA fkB fkE
  split <;> rfl

set_option maxHeartbeats 16000000 in
theorem factors_ok (num den age : Int) (l : List Int) (hl : okInts .u8 l) : PCall Try.prog 7 [.agg [.int .i64 num, .int .i64 den], .int .i64 age, .sl (encI .u8 l)] [] (fun p _ => p = .bool true) := by
  have k0 : ∀ args σ, wk3.f 23 args σ = none := fun _ _ => rfl
  have k1 : ∀ args σ, wk3.f 19 args σ = none := fun _ _ => rfl
  have k2 : ∀ args σ, wk3.f 31 args σ = none := fun _ _ => rfl
  have k3 : ∀ args σ, wk3.f 32 args σ = none := fun _ _ => rfl
  have yes : ∀ σ', Go.PV.Fin [] (fun p x => p = .bool true) (.bool true) σ' := fun σ' => fin0 (.keep _ (bel_bool _ _)) rfl
  refine PCall.vfrz [] 613907642806055333527551 81 [.tmp 6] wk3_ok mix Try.func7 rfl (by decide) rfl rfl (by simp) ?_
  simp -dsimp only [initFr, List.zipIdx_cons, List.zipIdx_nil, List.map_cons, List.map_nil, Nat.zero_add, Nat.reduceAdd]
  simp -dsimp (maxSteps := 4000000) +contextual (disch := first | omega | decide +kernel) only [↓vsD, vsU, resW, fnRet, cond_true, cond_false, Nat.reduceShiftRight, Nat.reduceAnd, Go.PV.fits, Go.PV.mutOf, Go.PV.splice, Int.reduceToNat, Int.reduceEq, Int.reduceAdd, Int.reduceSub, Int.reduceMul, Int.reduceLE, Int.reduceLT, Int.reduceNeg, Nat.reduceMul, Nat.reduceLeDiff, ne_eq, if_true, if_false, reduceIte, Nat.reduceEqDiff, ↓Nat.reduceLT, Nat.reduceAdd, Nat.reduceBEq, reduceCtorEq, enc_length, encs_length, tyU, tyC, tyB, tyA, tyI, tyZ, tyF, tyP, enc_getD, encs_getD, wrap_i64, enc_set, splice_one, set_last, bin_aeq2, bin_ane2, wk3_next, exNextO_codes, wk3_int, wk3_rate, exDrawO_codes, wk3_valid, wk3_rvalid, wk3_power, intG, rateG, k0, k1]
  refine PCall.mono (awake32_on _) ?_
  rintro p σ' ⟨rfl, rfl⟩
  simp -dsimp (maxSteps := 4000000) +contextual (disch := first | omega | decide +kernel) only [↓vsD, vsU, resW, fnRet, cond_true, cond_false, Nat.reduceShiftRight, Nat.reduceAnd, Go.PV.fits, Go.PV.mutOf, Go.PV.splice, Int.reduceToNat, Int.reduceEq, Int.reduceAdd, Int.reduceSub, Int.reduceMul, Int.reduceLE, Int.reduceLT, Int.reduceNeg, Nat.reduceMul, Nat.reduceLeDiff, ne_eq, if_true, if_false, reduceIte, Nat.reduceEqDiff, ↓Nat.reduceLT, Nat.reduceAdd, Nat.reduceBEq, reduceCtorEq, enc_length, encs_length, tyU, tyC, tyB, tyA, tyI, tyZ, tyF, tyP, enc_getD, encs_getD, wrap_i64, enc_set, splice_one, set_last, bin_aeq2, bin_ane2, wk3_next, exNextO_codes, wk3_int, wk3_rate, exDrawO_codes, wk3_valid, wk3_rvalid, wk3_power, intG, rateG, k0, k1]
  refine PCall.mono (new_on l 20 _) ?_
  rintro p σ' ⟨rfl, rfl⟩
  obtain ⟨cs, hcs⟩ : ∃ cs, cs = l.take 20 := ⟨_, rfl⟩
  have hcl : okInts .u8 cs := fun n hn => hl n (by rw [hcs] at hn; exact List.mem_of_mem_take hn)
  have hcn : cs.length ≤ 20 := by rw [hcs]; simp; omega
  rw [← hcs]
  have r1 := rateC_le (l := cs) (k := 0) (by omega)
  have r2 := intC_le r1
  have r3 := nxt_le r2 6
  simp -dsimp (maxSteps := 4000000) +contextual (disch := first | omega | decide +kernel) only [↓vsD, vsU, resW, fnRet, cond_true, cond_false, Nat.reduceShiftRight, Nat.reduceAnd, Go.PV.fits, Go.PV.mutOf, Go.PV.splice, Int.reduceToNat, Int.reduceEq, Int.reduceAdd, Int.reduceSub, Int.reduceMul, Int.reduceLE, Int.reduceLT, Int.reduceNeg, Nat.reduceMul, Nat.reduceLeDiff, ne_eq, if_true, if_false, reduceIte, Nat.reduceEqDiff, ↓Nat.reduceLT, Nat.reduceAdd, Nat.reduceBEq, reduceCtorEq, enc_length, encs_length, tyU, tyC, tyB, tyA, tyI, tyZ, tyF, tyP, enc_getD, encs_getD, wrap_i64, enc_set, splice_one, set_last, bin_aeq2, bin_ane2, wk3_next, exNextO_codes, wk3_int, wk3_rate, exDrawO_codes, wk3_valid, wk3_rvalid, wk3_power, intG, rateG, k0, k1, hcl]
  refine v_draws _ _ _ _ _ _ [2, 4, 6] [] [(0, 3), (0, 0), (0, 0), (0, 1), (0, 0), (0, 2), (0, 0), (3, 3), (3, 3), (3, 3), (0, 3)] (by decide +kernel) (by decide +kernel) (by decide +kernel) (by decide +kernel) ?_
  simp -dsimp (maxSteps := 4000000) +contextual (disch := first | omega | decide +kernel) only [↓vsD, vsU, resW, fnRet, cond_true, cond_false, Nat.reduceShiftRight, Nat.reduceAnd, Go.PV.fits, Go.PV.mutOf, Go.PV.splice, Int.reduceToNat, Int.reduceEq, Int.reduceAdd, Int.reduceSub, Int.reduceMul, Int.reduceLE, Int.reduceLT, Int.reduceNeg, Nat.reduceMul, Nat.reduceLeDiff, ne_eq, if_true, if_false, reduceIte, Nat.reduceEqDiff, ↓Nat.reduceLT, Nat.reduceAdd, Nat.reduceBEq, reduceCtorEq, enc_length, encs_length, tyU, tyC, tyB, tyA, tyI, tyZ, tyF, tyP, enc_getD, encs_getD, wrap_i64, enc_set, splice_one, set_last, bin_aeq2, bin_ane2, wk3_next, exNextO_codes, wk3_int, wk3_rate, exDrawO_codes, wk3_valid, wk3_rvalid, wk3_power, intG, rateG, vdx_none, vkp_go, ↓vd_end, place_nil, place_cons, vdo_eff, vdo_effA, ↓vdm_go, List.take_succ_cons, List.take_zero, List.drop_succ_cons, List.drop_zero, vdo_noeff_s, vdo_noeff_n, vdo_nofloat, vdo_noread, vdo_read, vdo_floatS, vdo_floatA, vde_s, vde_n, vde_c, vdx_s, vdr_s, vdr_b, vdf_m, vdf_p, ↓vd_op, ↓guard_none, ↓guard_some, gval_some, List.forall_mem_cons, List.not_mem_nil, false_implies, implies_true, List.length_append, List.length_replicate, List.replicate_zero, List.replicate_succ, List.contains_nil, List.contains_cons, Bool.or_false, Bool.false_or, Bool.or_self, Bool.or_true, Bool.true_or, vdr_o, vdq_eq, vdw_s, outR_v, rowsAt_none, mapAt_none, lnil, drop0, k0, k1, hcl]
  obtain ⟨xs, hxs⟩ : ∃ xs : List (Int × Int), xs = [(num, den), ((rateC cs 0).1.1, (rateC cs 0).1.2), ((intC cs (rateC cs 0).2).1, (nxt cs (intC cs (rateC cs 0).2).2 6).1)] := ⟨_, rfl⟩
  have hxl : xs.length = 3 := by rw [hxs]; rfl
  refine v_loopS (fun s : Nat × Nat × Store => [(1, .int .i64 age), (7, .ptr 1 0 0 0), (30, .sl (encT xs)), (31, .int .i64 3), (32, .int .i64 s.1)])
    (fun s => .rows 46 2 [[.int .i64 num, .int .i64 den]] 0 :: codes cs s.2.1 :: s.2.2)
    (fun s => s.1 ≤ 3 ∧ s.2.1 ≤ cs.length) (fun s => 3 - s.1) (0, (nxt cs (intC cs (rateC cs 0).2).2 6).2, []) (by simp [weaker, Go.PV.look, hxs, encT]) rfl ⟨by simp, r3⟩ ?_
  rintro ⟨i, k, g⟩ ⟨hi, hk⟩
  dsimp only at hi hk ⊢
  by_cases hi3 : i < 3
  · have hxl' : i < xs.length := by omega
    obtain ⟨x, hx⟩ : ∃ x, x = xs.getD i (0, 0) := ⟨_, rfl⟩
    have q1 := nxt_le hk 10
    have q2 := intC_le q1
    simp -dsimp (maxSteps := 4000000) +contextual (disch := first | omega | decide +kernel) only [↓vsD, vsU, resW, fnRet, cond_true, cond_false, Nat.reduceShiftRight, Nat.reduceAnd, Go.PV.fits, Go.PV.mutOf, Go.PV.splice, Int.reduceToNat, Int.reduceEq, Int.reduceAdd, Int.reduceSub, Int.reduceMul, Int.reduceLE, Int.reduceLT, Int.reduceNeg, Nat.reduceMul, Nat.reduceLeDiff, ne_eq, if_true, if_false, reduceIte, Nat.reduceEqDiff, ↓Nat.reduceLT, Nat.reduceAdd, Nat.reduceBEq, reduceCtorEq, enc_length, encs_length, tyU, tyC, tyB, tyA, tyI, tyZ, tyF, tyP, enc_getD, encs_getD, wrap_i64, enc_set, splice_one, set_last, bin_aeq2, bin_ane2, wk3_next, exNextO_codes, wk3_int, wk3_rate, exDrawO_codes, wk3_valid, wk3_rvalid, wk3_power, intG, rateG, k0, k1, k2, k3, hcl, encT_length, encT_getD, hxl, ← hx]
    obtain ⟨ks, hks⟩ : ∃ ks : List Int, ks = [age, (nxt cs k 10).1, (intC cs (nxt cs k 10).2).1] := ⟨_, rfl⟩
    obtain ⟨k9, hk9⟩ : ∃ k9, k9 = (intC cs (nxt cs k 10).2).2 := ⟨_, rfl⟩
    have hkl : ks.length = 3 := by rw [hks]; rfl
    rw [← hk9]
    rw [← hk9] at q2
    refine v_loopS (fun s : Nat => [(1, .int .i64 age), (7, .ptr 1 0 0 0), (30, .sl (encT xs)), (31, .int .i64 3), (32, .int .i64 i), (9, .ptr (g.length + 2) 0 0 0), (41, .sl (ints ks)), (42, .int .i64 3), (43, .int .i64 s)])
      (fun _ => .rows 46 2 [[.int .i64 num, .int .i64 den]] 0 :: codes cs k9 :: (g ++ [.rows 46 2 [[.int .i64 x.1, .int .i64 x.2]] 0]))
      (fun s => s ≤ 3) (fun s => 3 - s) 0 (by simp [weaker, Go.PV.look, hks, encI]) rfl (by simp) ?_
    intro j hj
    by_cases hj3 : j < 3
    · have hjl : j < ks.length := by omega
      simp -dsimp (maxSteps := 4000000) +contextual (disch := first | omega | decide +kernel) only [↓vsD, vsU, resW, fnRet, cond_true, cond_false, Nat.reduceShiftRight, Nat.reduceAnd, Go.PV.fits, Go.PV.mutOf, Go.PV.splice, Int.reduceToNat, Int.reduceEq, Int.reduceAdd, Int.reduceSub, Int.reduceMul, Int.reduceLE, Int.reduceLT, Int.reduceNeg, Nat.reduceMul, Nat.reduceLeDiff, ne_eq, if_true, if_false, reduceIte, Nat.reduceEqDiff, ↓Nat.reduceLT, Nat.reduceAdd, Nat.reduceBEq, reduceCtorEq, enc_length, encs_length, tyU, tyC, tyB, tyA, tyI, tyZ, tyF, tyP, enc_getD, encs_getD, wrap_i64, enc_set, splice_one, set_last, bin_aeq2, bin_ane2, wk3_next, exNextO_codes, wk3_int, wk3_rate, exDrawO_codes, wk3_valid, wk3_rvalid, wk3_power, intG, rateG, k0, k1, k2, k3, hcl, encT_length, encT_getD, hxl, hkl, ← hx]
      refine PCall.mono (factor_on x.1 x.2 (ks.getD j 0) _) ?_
      rintro p σ' ⟨rfl, rfl⟩
      simp -dsimp (maxSteps := 4000000) +contextual (disch := first | omega | decide +kernel) only [↓vsD, vsU, resW, fnRet, cond_true, cond_false, Nat.reduceShiftRight, Nat.reduceAnd, Go.PV.fits, Go.PV.mutOf, Go.PV.splice, Int.reduceToNat, Int.reduceEq, Int.reduceAdd, Int.reduceSub, Int.reduceMul, Int.reduceLE, Int.reduceLT, Int.reduceNeg, Nat.reduceMul, Nat.reduceLeDiff, ne_eq, if_true, if_false, reduceIte, Nat.reduceEqDiff, ↓Nat.reduceLT, Nat.reduceAdd, Nat.reduceBEq, reduceCtorEq, enc_length, encs_length, tyU, tyC, tyB, tyA, tyI, tyZ, tyF, tyP, enc_getD, encs_getD, wrap_i64, enc_set, splice_one, set_last, bin_aeq2, bin_ane2, wk3_next, exNextO_codes, wk3_int, wk3_rate, exDrawO_codes, wk3_valid, wk3_rvalid, wk3_power, intG, rateG, k0, k1, k2, k3, hcl, factorK_eq]
      refine PCall.mono (rfactor_on x.1 x.2 (ks.getD j 0) _) ?_
      rintro p σ' ⟨rfl, rfl⟩
      simp -dsimp (maxSteps := 4000000) +contextual (disch := first | omega | decide +kernel) only [↓vsD, vsU, resW, fnRet, cond_true, cond_false, Nat.reduceShiftRight, Nat.reduceAnd, Go.PV.fits, Go.PV.mutOf, Go.PV.splice, Int.reduceToNat, Int.reduceEq, Int.reduceAdd, Int.reduceSub, Int.reduceMul, Int.reduceLE, Int.reduceLT, Int.reduceNeg, Nat.reduceMul, Nat.reduceLeDiff, ne_eq, if_true, if_false, reduceIte, Nat.reduceEqDiff, ↓Nat.reduceLT, Nat.reduceAdd, Nat.reduceBEq, reduceCtorEq, enc_length, encs_length, tyU, tyC, tyB, tyA, tyI, tyZ, tyF, tyP, enc_getD, encs_getD, wrap_i64, enc_set, splice_one, set_last, bin_aeq2, bin_ane2, wk3_next, exNextO_codes, wk3_int, wk3_rate, exDrawO_codes, wk3_valid, wk3_rvalid, wk3_power, intG, rateG, k0, k1, k2, k3, hcl, factorK_eq]
      exact ⟨j + 1, (by (try dsimp only); omega), (by simp [weaker, Go.PV.look]), rfl, by omega⟩
    · simp -dsimp (maxSteps := 4000000) +contextual (disch := first | omega | decide +kernel) only [↓vsD, vsU, resW, fnRet, cond_true, cond_false, Nat.reduceShiftRight, Nat.reduceAnd, Go.PV.fits, Go.PV.mutOf, Go.PV.splice, Int.reduceToNat, Int.reduceEq, Int.reduceAdd, Int.reduceSub, Int.reduceMul, Int.reduceLE, Int.reduceLT, Int.reduceNeg, Nat.reduceMul, Nat.reduceLeDiff, ne_eq, if_true, if_false, reduceIte, Nat.reduceEqDiff, ↓Nat.reduceLT, Nat.reduceAdd, Nat.reduceBEq, reduceCtorEq, enc_length, encs_length, tyU, tyC, tyB, tyA, tyI, tyZ, tyF, tyP, enc_getD, encs_getD, wrap_i64, enc_set, splice_one, set_last, bin_aeq2, bin_ane2, wk3_next, exNextO_codes, wk3_int, wk3_rate, exDrawO_codes, wk3_valid, wk3_rvalid, wk3_power, intG, rateG, hkl]
      exact ⟨(i + 1, k9, g ++ [.rows 46 2 [[.int .i64 x.1, .int .i64 x.2]] 0]), (by (try dsimp only); omega), (by simp [weaker, Go.PV.look]), rfl, by dsimp only; omega⟩
  · simp -dsimp (maxSteps := 4000000) +contextual (disch := first | omega | decide +kernel) only [↓vsD, vsU, resW, fnRet, cond_true, cond_false, Nat.reduceShiftRight, Nat.reduceAnd, Go.PV.fits, Go.PV.mutOf, Go.PV.splice, Int.reduceToNat, Int.reduceEq, Int.reduceAdd, Int.reduceSub, Int.reduceMul, Int.reduceLE, Int.reduceLT, Int.reduceNeg, Nat.reduceMul, Nat.reduceLeDiff, ne_eq, if_true, if_false, reduceIte, Nat.reduceEqDiff, ↓Nat.reduceLT, Nat.reduceAdd, Nat.reduceBEq, reduceCtorEq, enc_length, encs_length, tyU, tyC, tyB, tyA, tyI, tyZ, tyF, tyP, enc_getD, encs_getD, wrap_i64, enc_set, splice_one, set_last, bin_aeq2, bin_ane2, wk3_next, exNextO_codes, wk3_int, wk3_rate, exDrawO_codes, wk3_valid, wk3_rvalid, wk3_power, intG, rateG, k0, k1, hcl, encT_length]
    exact yes _
end Go.Proofs.Ythginmfobikdgaa
