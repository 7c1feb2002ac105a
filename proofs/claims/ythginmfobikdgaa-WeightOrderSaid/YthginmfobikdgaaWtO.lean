/- Chapter 32, the walks: the law of the sums. -/
import Derived.Test.YthginmfobikdgaaWtN
import Derived.Test.YthginmfobikdgaaWtJ
set_option linter.unusedSimpArgs false
set_option linter.unusedVariables false
namespace Go.Proofs.Ythginmfobikdgaa
open Go.PV

theorem factor_yes (num den age : Int) (hr : validR num den) (ha : ageOk age) (σ : Store) : PCall Try.prog 31 [.agg [.int .i64 num, .int .i64 den], .int .i64 age] σ (fun p σ' => p = .tup [.int .i64 (num ^ age.toNat), .int .i64 (den ^ age.toNat), .int .i64 0] ∧ σ' = σ) := by
  have := factor_on num den age σ
  rwa [factorK_yes ⟨hr, ha⟩] at this

set_option maxHeartbeats 16000000 in
theorem sums_ok (l0 : List Int) (hl0 : okInts .u8 l0) : PCall Try.prog 8 [.sl (encI .u8 l0)] [] (fun p _ => p = .bool true) := by
  have k0 : ∀ args σ, wk3.f 23 args σ = none := fun _ _ => rfl
  have k1 : ∀ args σ, wk3.f 19 args σ = none := fun _ _ => rfl
  have k2 : ∀ args σ, wk3.f 31 args σ = none := fun _ _ => rfl
  have k3 : ∀ args σ, wk3.f 24 args σ = none := fun _ _ => rfl
  have k4 : ∀ args σ, wk3.f 27 args σ = none := fun _ _ => rfl
  have yes : ∀ σ', Go.PV.Fin [] (fun p x => p = .bool true) (.bool true) σ' := fun σ' => fin0 (.keep _ (bel_bool _ _)) rfl
  refine PCall.vfrz [] 42537894548886462611257176518701350911 126 [.tmp 2] wk3_ok mix Try.func8 rfl (by decide) rfl rfl (by simp) ?_
  simp -dsimp only [initFr, List.zipIdx_cons, List.zipIdx_nil, List.map_cons, List.map_nil, Nat.zero_add, Nat.reduceAdd]
  simp -dsimp (maxSteps := 4000000) +contextual (disch := first | omega | decide +kernel) only [↓vsD, vsU, resW, fnRet, cond_true, cond_false, Nat.reduceShiftRight, Nat.reduceAnd, Go.PV.fits, Go.PV.mutOf, Go.PV.splice, Int.reduceToNat, Int.reduceEq, Int.reduceAdd, Int.reduceSub, Int.reduceMul, Int.reduceLE, Int.reduceLT, Int.reduceNeg, Nat.reduceMul, Nat.reduceLeDiff, ne_eq, if_true, if_false, reduceIte, Nat.reduceEqDiff, ↓Nat.reduceLT, Nat.reduceAdd, Nat.reduceBEq, reduceCtorEq, enc_length, encs_length, tyU, tyC, tyB, tyA, tyI, tyZ, tyF, tyP, enc_getD, encs_getD, wrap_i64, enc_set, splice_one, set_last, bin_aeq2, bin_ane2, wk3_next, exNextO_codes, wk3_int, wk3_rate, exDrawO_codes, wk3_valid, wk3_rvalid, wk3_power, intG, rateG, k0, k1]
  refine PCall.mono (awake32_on _) ?_
  rintro p σ' ⟨rfl, rfl⟩
  simp -dsimp (maxSteps := 4000000) +contextual (disch := first | omega | decide +kernel) only [↓vsD, vsU, resW, fnRet, cond_true, cond_false, Nat.reduceShiftRight, Nat.reduceAnd, Go.PV.fits, Go.PV.mutOf, Go.PV.splice, Int.reduceToNat, Int.reduceEq, Int.reduceAdd, Int.reduceSub, Int.reduceMul, Int.reduceLE, Int.reduceLT, Int.reduceNeg, Nat.reduceMul, Nat.reduceLeDiff, ne_eq, if_true, if_false, reduceIte, Nat.reduceEqDiff, ↓Nat.reduceLT, Nat.reduceAdd, Nat.reduceBEq, reduceCtorEq, enc_length, encs_length, tyU, tyC, tyB, tyA, tyI, tyZ, tyF, tyP, enc_getD, encs_getD, wrap_i64, enc_set, splice_one, set_last, bin_aeq2, bin_ane2, wk3_next, exNextO_codes, wk3_int, wk3_rate, exDrawO_codes, wk3_valid, wk3_rvalid, wk3_power, intG, rateG, k0, k1]
  refine PCall.mono (new_on l0 400 _) ?_
  rintro p σ' ⟨rfl, rfl⟩
  obtain ⟨cs, hcs⟩ : ∃ cs, cs = l0.take 400 := ⟨_, rfl⟩
  have hcl : okInts .u8 cs := fun n hn => hl0 n (by rw [hcs] at hn; exact List.mem_of_mem_take hn)
  have hcn : cs.length ≤ 400 := by rw [hcs]; simp; omega
  rw [← hcs]
  simp -dsimp (maxSteps := 4000000) +contextual (disch := first | omega | decide +kernel) only [↓vsD, vsU, resW, fnRet, cond_true, cond_false, Nat.reduceShiftRight, Nat.reduceAnd, Go.PV.fits, Go.PV.mutOf, Go.PV.splice, Int.reduceToNat, Int.reduceEq, Int.reduceAdd, Int.reduceSub, Int.reduceMul, Int.reduceLE, Int.reduceLT, Int.reduceNeg, Nat.reduceMul, Nat.reduceLeDiff, ne_eq, if_true, if_false, reduceIte, Nat.reduceEqDiff, ↓Nat.reduceLT, Nat.reduceAdd, Nat.reduceBEq, reduceCtorEq, enc_length, encs_length, tyU, tyC, tyB, tyA, tyI, tyZ, tyF, tyP, enc_getD, encs_getD, wrap_i64, enc_set, splice_one, set_last, bin_aeq2, bin_ane2, wk3_next, exNextO_codes, wk3_int, wk3_rate, exDrawO_codes, wk3_valid, wk3_rvalid, wk3_power, intG, rateG, k0, k1, k3]
  refine PCall.mono (draw_w cs 0 6 (by omega) (by omega) hcl (by omega) (by omega)) ?_
  rintro p σ' ⟨a, l, k, rfl, rfl, hk, hal, hll0, hll, hage, hdr⟩
  obtain ⟨num, den, hnd⟩ : ∃ num den, (rateC cs k).1 = (num, den) := ⟨_, _, rfl⟩
  have hr : validR num den := by
    have := rateC_in hcl k
    rw [hnd] at this
    exact ⟨this.1.1, this.1.2, this.2.1, this.2.2⟩
  simp -dsimp (maxSteps := 4000000) +contextual (disch := first | omega | decide +kernel) only [↓vsD, vsU, resW, fnRet, cond_true, cond_false, Nat.reduceShiftRight, Nat.reduceAnd, Go.PV.fits, Go.PV.mutOf, Go.PV.splice, Int.reduceToNat, Int.reduceEq, Int.reduceAdd, Int.reduceSub, Int.reduceMul, Int.reduceLE, Int.reduceLT, Int.reduceNeg, Nat.reduceMul, Nat.reduceLeDiff, ne_eq, if_true, if_false, reduceIte, Nat.reduceEqDiff, ↓Nat.reduceLT, Nat.reduceAdd, Nat.reduceBEq, reduceCtorEq, enc_length, encs_length, tyU, tyC, tyB, tyA, tyI, tyZ, tyF, tyP, enc_getD, encs_getD, wrap_i64, enc_set, splice_one, set_last, bin_aeq2, bin_ane2, wk3_next, exNextO_codes, wk3_int, wk3_rate, exDrawO_codes, wk3_valid, wk3_rvalid, wk3_power, intG, rateG, k0, k1, k3, k4, hcl, hnd]
  refine PCall.mono (combine_drawn a l num den hr hage hal hll0 (by omega) hdr _) ?_
  rintro p σ' ⟨rfl, rfl⟩
  obtain ⟨D, hD⟩ : ∃ D, D = den ^ 8 := ⟨_, rfl⟩
  obtain ⟨ws, hws⟩ : ∃ ws, ws = a.map (wOf num den) := ⟨_, rfl⟩
  have hDr := pow8_in den hr.2.2.1 hr.2.2.2
  rw [← hD] at hDr
  have hwr : ∀ w ∈ ws, 0 ≤ w ∧ w ≤ 65536 := fun w hw => by
    rw [hws] at hw
    obtain ⟨x, hx, rfl⟩ := List.mem_map.1 hw
    exact wOf_in num den x hr (hage x hx)
  have hwl : ws.length = l.length := by rw [hws]; simp [hal]
  obtain ⟨v, hv⟩ : ∃ v, v = combF a l num den := ⟨_, rfl⟩
  obtain ⟨vb, hvb, hvl, hvg⟩ := countsF_block ws D l (sitesF D (addAll ws l l.length)) ((hdr _ (mem_getD hll0)).ok.nb)
  have hvb' : v.blocks = vb := by rw [hv, combF, ← hws, ← hD, hvb]
  have hvg' : ∀ b, b < 2 → vb.getD b 0 = if known (fun x => x.blocks.getD b 0) l l.length then min (raw (fun x => x.blocks.getD b 0) ws l l.length / D) 1099511627776 else -1 := fun b hb => by
    rw [hvg b hb, eachF_raw _ ws l D hwr (by omega) hDr.1 hDr.2]
  rw [← hv]
  unfold FC.row
  rw [hvb']
  simp -dsimp (maxSteps := 4000000) +contextual (disch := first | omega | decide +kernel) only [↓vsD, vsU, resW, fnRet, cond_true, cond_false, Nat.reduceShiftRight, Nat.reduceAnd, Go.PV.fits, Go.PV.mutOf, Go.PV.splice, Int.reduceToNat, Int.reduceEq, Int.reduceAdd, Int.reduceSub, Int.reduceMul, Int.reduceLE, Int.reduceLT, Int.reduceNeg, Nat.reduceMul, Nat.reduceLeDiff, ne_eq, if_true, if_false, reduceIte, Nat.reduceEqDiff, ↓Nat.reduceLT, Nat.reduceAdd, Nat.reduceBEq, reduceCtorEq, enc_length, encs_length, tyU, tyC, tyB, tyA, tyI, tyZ, tyF, tyP, enc_getD, encs_getD, wrap_i64, enc_set, splice_one, set_last, bin_aeq2, bin_ane2, wk3_next, exNextO_codes, wk3_int, wk3_rate, exDrawO_codes, wk3_valid, wk3_rvalid, wk3_power, intG, rateG, k0, k1, k3, k4, hcl, hnd, enc_length, hvl]
  have hd1 := hr.2.2.1
  have hd4 := hr.2.2.2
  refine v_loopS (fun b : Nat => [(4, .sl (ints a)), (5, .sl (encC l)), (6, .ptr 1 0 0 0), (7, .ptr 2 0 0 0), (9, .int .i64 b)]) (fun _ => [codes cs (rateC cs k).2, .rows 46 2 [[.int .i64 num, .int .i64 den]] 0, .rows 51 1 [[.sl [[.int .i64 v.ent, .sl (ints vb), .sl (encT v.edges), .sl (encS v.sites)]]]] 0]) (fun b => b ≤ 2) (fun b => 2 - b) 0 (by simp [weaker, Go.PV.look]) rfl (by simp) ?_
  intro b hb
  by_cases hb2 : b < 2
  · simp -dsimp (maxSteps := 4000000) +contextual (disch := first | omega | decide +kernel) only [↓vsD, vsU, resW, fnRet, cond_true, cond_false, Nat.reduceShiftRight, Nat.reduceAnd, Go.PV.fits, Go.PV.mutOf, Go.PV.splice, Int.reduceToNat, Int.reduceEq, Int.reduceAdd, Int.reduceSub, Int.reduceMul, Int.reduceLE, Int.reduceLT, Int.reduceNeg, Nat.reduceMul, Nat.reduceLeDiff, ne_eq, if_true, if_false, reduceIte, Nat.reduceEqDiff, ↓Nat.reduceLT, Nat.reduceAdd, Nat.reduceBEq, reduceCtorEq, enc_length, encs_length, tyU, tyC, tyB, tyA, tyI, tyZ, tyF, tyP, enc_getD, encs_getD, wrap_i64, enc_set, splice_one, set_last, bin_aeq2, bin_ane2, wk3_next, exNextO_codes, wk3_int, wk3_rate, exDrawO_codes, wk3_valid, wk3_rvalid, wk3_power, intG, rateG, k0, k1, k3, k4]
    refine v_loopS (fun e : Nat => [(4, .sl (ints a)), (5, .sl (encC l)), (6, .ptr 1 0 0 0), (7, .ptr 2 0 0 0), (9, .int .i64 b), (10, .bool false), (11, .int .i64 0), (12, .int .i64 (den ^ e)), (13, .int .i64 e)]) (fun _ => [codes cs (rateC cs k).2, .rows 46 2 [[.int .i64 num, .int .i64 den]] 0, .rows 51 1 [[.sl [[.int .i64 v.ent, .sl (ints vb), .sl (encT v.edges), .sl (encS v.sites)]]]] 0]) (fun e => e ≤ 8) (fun e => 8 - e) 0 (by simp [weaker, Go.PV.look]) rfl (by simp) ?_
    intro e he
    by_cases he8 : e < 8
    · have hp := pow_small (b := den) (n := e + 1) (by omega) hd4 (by omega)
      rw [Int.pow_succ] at hp
      simp -dsimp (maxSteps := 4000000) +contextual (disch := first | omega | decide +kernel) only [↓vsD, vsU, resW, fnRet, cond_true, cond_false, Nat.reduceShiftRight, Nat.reduceAnd, Go.PV.fits, Go.PV.mutOf, Go.PV.splice, Int.reduceToNat, Int.reduceEq, Int.reduceAdd, Int.reduceSub, Int.reduceMul, Int.reduceLE, Int.reduceLT, Int.reduceNeg, Nat.reduceMul, Nat.reduceLeDiff, ne_eq, if_true, if_false, reduceIte, Nat.reduceEqDiff, ↓Nat.reduceLT, Nat.reduceAdd, Nat.reduceBEq, reduceCtorEq, enc_length, encs_length, tyU, tyC, tyB, tyA, tyI, tyZ, tyF, tyP, enc_getD, encs_getD, wrap_i64, enc_set, splice_one, set_last, bin_aeq2, bin_ane2, wk3_next, exNextO_codes, wk3_int, wk3_rate, exDrawO_codes, wk3_valid, wk3_rvalid, wk3_power, intG, rateG, k0, k1, k3, k4]
      exact ⟨e + 1, (by (try dsimp only); omega), by simp [weaker, Go.PV.look, Int.pow_succ], rfl, by omega⟩
    have he : e = 8 := by omega
    subst he
    rw [← hD]
    simp -dsimp (maxSteps := 4000000) +contextual (disch := first | omega | decide +kernel) only [↓vsD, vsU, resW, fnRet, cond_true, cond_false, Nat.reduceShiftRight, Nat.reduceAnd, Go.PV.fits, Go.PV.mutOf, Go.PV.splice, Int.reduceToNat, Int.reduceEq, Int.reduceAdd, Int.reduceSub, Int.reduceMul, Int.reduceLE, Int.reduceLT, Int.reduceNeg, Nat.reduceMul, Nat.reduceLeDiff, ne_eq, if_true, if_false, reduceIte, Nat.reduceEqDiff, ↓Nat.reduceLT, Nat.reduceAdd, Nat.reduceBEq, reduceCtorEq, enc_length, encs_length, tyU, tyC, tyB, tyA, tyI, tyZ, tyF, tyP, enc_getD, encs_getD, wrap_i64, enc_set, splice_one, set_last, bin_aeq2, bin_ane2, wk3_next, exNextO_codes, wk3_int, wk3_rate, exDrawO_codes, wk3_valid, wk3_rvalid, wk3_power, intG, rateG, k0, k1, k3, k4]
    refine v_loopS (fun s : Nat × Bool × Int => [(4, .sl (ints a)), (5, .sl (encC l)), (6, .ptr 1 0 0 0), (7, .ptr 2 0 0 0), (9, .int .i64 b), (10, .bool s.2.1), (11, .int .i64 s.2.2), (12, .int .i64 D), (14, .int .i64 s.1)]) (fun _ => [codes cs (rateC cs k).2, .rows 46 2 [[.int .i64 num, .int .i64 den]] 0, .rows 51 1 [[.sl [[.int .i64 v.ent, .sl (ints vb), .sl (encT v.edges), .sl (encS v.sites)]]]] 0]) (fun s => s.1 ≤ l.length ∧ s.2.1 = known (fun x => x.blocks.getD b 0) l s.1 ∧ s.2.2 = raw (fun x => x.blocks.getD b 0) ws l s.1) (fun s => l.length - s.1) (0, false, 0) (by simp [weaker, Go.PV.look]) rfl ⟨by simp, rfl, rfl⟩ ?_
    rintro ⟨i, u, S⟩ ⟨hi, hu, hS⟩
    dsimp only at hi hu hS ⊢
    by_cases hil : i < l.length
    · obtain ⟨x, hx⟩ : ∃ x, x = l.getD i default := ⟨_, rfl⟩
      have hxd : Drawn x := hdr x (by rw [hx]; exact mem_getD hil)
      obtain ⟨n, hn⟩ : ∃ n, n = x.blocks.getD b 0 := ⟨_, rfl⟩
      have hxb : x.blocks.length = 2 := hxd.ok.nb
      have hnr := hxd.ok.blocks n (by rw [hn]; exact mem_getD (by omega))
      obtain ⟨g, hg⟩ : ∃ g, g = a.getD i 0 := ⟨_, rfl⟩
      have hgo : ageOk g := hage g (by rw [hg]; exact mem_getD (by omega))
      have hia : i < a.length := by omega
      obtain ⟨P, hP⟩ : ∃ P, P = num ^ g.toNat := ⟨_, rfl⟩
      obtain ⟨E, hE⟩ : ∃ E, E = den ^ g.toNat := ⟨_, rfl⟩
      have hPr := pow_small (b := num) (n := g.toNat) hr.1 (by have := hr.2.1; omega) (by have := hgo.2; omega)
      have hEr := pow_small (b := den) (n := g.toNat) (by omega) hd4 (by have := hgo.2; omega)
      have hE0 : 0 < E := by rw [hE]; exact Int.pow_pos (by omega)
      rw [← hP] at hPr
      rw [← hE] at hEr
      obtain ⟨R, hR⟩ : ∃ R, R = D / E := ⟨_, rfl⟩
      have hR' : D.tdiv E = R := by rw [Int.tdiv_eq_ediv_of_nonneg (by omega), hR]
      have hRe : R = den ^ (8 - g).toNat := by
        rw [hR, hD, hE, pow_quo hd1 (by have := hgo.2; omega)]
        congr 1
        have := hgo.1; have := hgo.2; omega
      have hwi : ws.getD i 0 = P * R := by
        rw [hws, List.getD_eq_getElem?_getD, List.getElem?_map, List.getElem?_eq_getElem hia, hRe, hP, hg]
        simp [wOf, List.getD_eq_getElem?_getD, List.getElem?_eq_getElem hia]
      have hwb := hwr (ws.getD i 0) (mem_getD (by omega))
      rw [hwi] at hwb
      have hnP : 0 ≤ n → 0 ≤ n * P ∧ n * P ≤ 72057594037927936 := fun h => mul_bound h hnr.2 hPr.1 hPr.2
      have hnPR : 0 ≤ n → 0 ≤ n * P * R ∧ n * P * R ≤ 72057594037927936 := fun h => by rw [Int.mul_assoc]; exact mul_bound h hnr.2 hwb.1 hwb.2
      have hS1 := raw_le (fun x => x.blocks.getD b 0) ws l hwr (fun x hx => (hdr x hx).ok.block hb2) i (by omega) (by omega)
      have hS2 := (total_raw (fun x => x.blocks.getD b 0) ws l hwr i (by omega)).2
      rw [← hS] at hS1 hS2
      have hR0 : 0 ≤ R ∧ R ≤ 65536 := by rw [hR]; exact ⟨Int.ediv_nonneg (by omega) (by omega), Int.le_trans (Int.ediv_le_self _ (by omega)) hDr.2⟩
      have hF := fun σ => factor_yes num den g hr hgo σ
      rw [← hP, ← hE] at hF
      simp -dsimp (maxSteps := 4000000) +contextual (disch := first | omega | decide +kernel) only [↓vsD, vsU, resW, fnRet, cond_true, cond_false, Nat.reduceShiftRight, Nat.reduceAnd, Go.PV.fits, Go.PV.mutOf, Go.PV.splice, Int.reduceToNat, Int.reduceEq, Int.reduceAdd, Int.reduceSub, Int.reduceMul, Int.reduceLE, Int.reduceLT, Int.reduceNeg, Nat.reduceMul, Nat.reduceLeDiff, ne_eq, if_true, if_false, reduceIte, Nat.reduceEqDiff, ↓Nat.reduceLT, Nat.reduceAdd, Nat.reduceBEq, reduceCtorEq, enc_length, encs_length, tyU, tyC, tyB, tyA, tyI, tyZ, tyF, tyP, enc_getD, encs_getD, wrap_i64, enc_set, splice_one, set_last, bin_aeq2, bin_ane2, wk3_next, exNextO_codes, wk3_int, wk3_rate, exDrawO_codes, wk3_valid, wk3_rvalid, wk3_power, intG, rateG, k0, k1, k3, k4, encC_length, encC_getD, ← hx, FC.row, enc_length, hxb, ← hn]
      have hks := known_succ (num := fun x => x.blocks.getD b 0) hil
      have hrs : raw (fun x => x.blocks.getD b 0) ws l (i + 1) = S + (if 0 ≤ n then n * (P * R) else 0) := by
        rw [raw, ← hx, ← hn, hwi, ← hS]
      rw [← hx, ← hu] at hks
      rw [← hn] at hks
      refine ⟨fun hn0 => ?_, fun hn0 => ?_⟩
      · exact ⟨(i + 1, u, S), (by (try dsimp only); omega), (by simp [weaker, Go.PV.look]), rfl, by dsimp only; omega, by rw [hks, decide_eq_false (by omega), Bool.or_false], by rw [hrs, if_neg (by omega), Int.add_zero]⟩
      · refine v_draws _ _ _ _ _ _ [5] [] [(0, 0), (0, 0), (0, 0), (0, 0), (0, 0), (0, 0), (1, 1), (1, 1), (1, 1), (1, 1), (1, 1), (1, 1), (1, 1)] (by decide +kernel) (by decide +kernel) (by decide +kernel) (by decide +kernel) ?_
        simp -dsimp (maxSteps := 4000000) +contextual (disch := first | omega | decide +kernel) only [↓vsD, vsU, resW, fnRet, cond_true, cond_false, Nat.reduceShiftRight, Nat.reduceAnd, Go.PV.fits, Go.PV.mutOf, Go.PV.splice, Int.reduceToNat, Int.reduceEq, Int.reduceAdd, Int.reduceSub, Int.reduceMul, Int.reduceLE, Int.reduceLT, Int.reduceNeg, Nat.reduceMul, Nat.reduceLeDiff, ne_eq, if_true, if_false, reduceIte, Nat.reduceEqDiff, ↓Nat.reduceLT, Nat.reduceAdd, Nat.reduceBEq, reduceCtorEq, enc_length, encs_length, tyU, tyC, tyB, tyA, tyI, tyZ, tyF, tyP, enc_getD, encs_getD, wrap_i64, enc_set, splice_one, set_last, bin_aeq2, bin_ane2, wk3_next, exNextO_codes, wk3_int, wk3_rate, exDrawO_codes, wk3_valid, wk3_rvalid, wk3_power, intG, rateG, vdx_none, vkp_go, ↓vd_end, place_nil, place_cons, vdo_eff, vdo_effA, ↓vdm_go, List.take_succ_cons, List.take_zero, List.drop_succ_cons, List.drop_zero, vdo_noeff_s, vdo_noeff_n, vdo_nofloat, vdo_noread, vdo_read, vdo_floatS, vdo_floatA, vde_s, vde_n, vde_c, vdx_s, vdr_s, vdr_b, vdf_m, vdf_p, ↓vd_op, ↓guard_none, ↓guard_some, gval_some, List.forall_mem_cons, List.not_mem_nil, false_implies, implies_true, List.length_append, List.length_replicate, List.replicate_zero, List.replicate_succ, List.contains_nil, List.contains_cons, Bool.or_false, Bool.false_or, Bool.or_self, Bool.or_true, Bool.true_or, vdr_o, vdq_eq, vdw_s, outR_v, rowsAt_none, mapAt_none, lnil, drop0, k0, k1, k2, k3, k4, enc_length, ← hg]
        refine ⟨_, _, hF _, by simp, ?_⟩
        simp -dsimp (maxSteps := 4000000) +contextual (disch := first | omega | decide +kernel) only [↓vsD, vsU, resW, fnRet, cond_true, cond_false, Nat.reduceShiftRight, Nat.reduceAnd, Go.PV.fits, Go.PV.mutOf, Go.PV.splice, Int.reduceToNat, Int.reduceEq, Int.reduceAdd, Int.reduceSub, Int.reduceMul, Int.reduceLE, Int.reduceLT, Int.reduceNeg, Nat.reduceMul, Nat.reduceLeDiff, ne_eq, if_true, if_false, reduceIte, Nat.reduceEqDiff, ↓Nat.reduceLT, Nat.reduceAdd, Nat.reduceBEq, reduceCtorEq, enc_length, encs_length, tyU, tyC, tyB, tyA, tyI, tyZ, tyF, tyP, enc_getD, encs_getD, wrap_i64, enc_set, splice_one, set_last, bin_aeq2, bin_ane2, wk3_next, exNextO_codes, wk3_int, wk3_rate, exDrawO_codes, wk3_valid, wk3_rvalid, wk3_power, intG, rateG, vdx_none, vkp_go, ↓vd_end, place_nil, place_cons, vdo_eff, vdo_effA, ↓vdm_go, List.take_succ_cons, List.take_zero, List.drop_succ_cons, List.drop_zero, vdo_noeff_s, vdo_noeff_n, vdo_nofloat, vdo_noread, vdo_read, vdo_floatS, vdo_floatA, vde_s, vde_n, vde_c, vdx_s, vdr_s, vdr_b, vdf_m, vdf_p, ↓vd_op, ↓guard_none, ↓guard_some, gval_some, List.forall_mem_cons, List.not_mem_nil, false_implies, implies_true, List.length_append, List.length_replicate, List.replicate_zero, List.replicate_succ, List.contains_nil, List.contains_cons, Bool.or_false, Bool.false_or, Bool.or_self, Bool.or_true, Bool.true_or, vdr_o, vdq_eq, vdw_s, outR_v, rowsAt_none, mapAt_none, lnil, drop0, k0, k1, k2, k3, k4, hR']
        exact ⟨(i + 1, true, S + n * P * R), (by (try dsimp only); omega), (by simp [weaker, Go.PV.look]), rfl, by dsimp only; omega, by rw [hks, decide_eq_true (by omega), Bool.or_true], by rw [hrs, if_pos (by omega), Int.mul_assoc]⟩
    · have hiz : i = l.length := by omega
      subst hiz
      have hg := hvg' b hb2
      rw [← hu, ← hS] at hg
      have hS2 := (total_raw (fun x => x.blocks.getD b 0) ws l hwr l.length (by omega)).2
      rw [← hS] at hS2
      have e1 : S.tdiv D = S / D := Int.tdiv_eq_ediv_of_nonneg hS2
      have e2 : 0 ≤ S / D := Int.ediv_nonneg hS2 (by omega)
      have e3 : S / D ≤ S := Int.ediv_le_self _ hS2
      have hS1 := raw_le (fun x => x.blocks.getD b 0) ws l hwr (fun x hx => (hdr x hx).ok.block hb2) l.length (by omega) (by omega)
      rw [← hS] at hS1
      cases u
      · rw [if_neg (by simp)] at hg
        simp -dsimp (maxSteps := 4000000) +contextual (disch := first | omega | decide +kernel) only [↓vsD, vsU, resW, fnRet, cond_true, cond_false, Nat.reduceShiftRight, Nat.reduceAnd, Go.PV.fits, Go.PV.mutOf, Go.PV.splice, Int.reduceToNat, Int.reduceEq, Int.reduceAdd, Int.reduceSub, Int.reduceMul, Int.reduceLE, Int.reduceLT, Int.reduceNeg, Nat.reduceMul, Nat.reduceLeDiff, ne_eq, if_true, if_false, reduceIte, Nat.reduceEqDiff, ↓Nat.reduceLT, Nat.reduceAdd, Nat.reduceBEq, reduceCtorEq, enc_length, encs_length, tyU, tyC, tyB, tyA, tyI, tyZ, tyF, tyP, enc_getD, encs_getD, wrap_i64, enc_set, splice_one, set_last, bin_aeq2, bin_ane2, wk3_next, exNextO_codes, wk3_int, wk3_rate, exDrawO_codes, wk3_valid, wk3_rvalid, wk3_power, intG, rateG, k0, k1, k3, k4, encC_length, enc_length, hvl, hg]
        exact ⟨b + 1, (by (try dsimp only); omega), (by simp [weaker, Go.PV.look]), rfl, by omega⟩
      · rw [if_pos rfl] at hg
        simp -dsimp (maxSteps := 4000000) +contextual (disch := first | omega | decide +kernel) only [↓vsD, vsU, resW, fnRet, cond_true, cond_false, Nat.reduceShiftRight, Nat.reduceAnd, Go.PV.fits, Go.PV.mutOf, Go.PV.splice, Int.reduceToNat, Int.reduceEq, Int.reduceAdd, Int.reduceSub, Int.reduceMul, Int.reduceLE, Int.reduceLT, Int.reduceNeg, Nat.reduceMul, Nat.reduceLeDiff, ne_eq, if_true, if_false, reduceIte, Nat.reduceEqDiff, ↓Nat.reduceLT, Nat.reduceAdd, Nat.reduceBEq, reduceCtorEq, enc_length, encs_length, tyU, tyC, tyB, tyA, tyI, tyZ, tyF, tyP, enc_getD, encs_getD, wrap_i64, enc_set, splice_one, set_last, bin_aeq2, bin_ane2, wk3_next, exNextO_codes, wk3_int, wk3_rate, exDrawO_codes, wk3_valid, wk3_rvalid, wk3_power, intG, rateG, k0, k1, k3, k4, encC_length, enc_length, hvl, hg, e1]
        exact ⟨b + 1, (by (try dsimp only); omega), (by simp [weaker, Go.PV.look]), rfl, by omega⟩
  · simp -dsimp (maxSteps := 4000000) +contextual (disch := first | omega | decide +kernel) only [↓vsD, vsU, resW, fnRet, cond_true, cond_false, Nat.reduceShiftRight, Nat.reduceAnd, Go.PV.fits, Go.PV.mutOf, Go.PV.splice, Int.reduceToNat, Int.reduceEq, Int.reduceAdd, Int.reduceSub, Int.reduceMul, Int.reduceLE, Int.reduceLT, Int.reduceNeg, Nat.reduceMul, Nat.reduceLeDiff, ne_eq, if_true, if_false, reduceIte, Nat.reduceEqDiff, ↓Nat.reduceLT, Nat.reduceAdd, Nat.reduceBEq, reduceCtorEq, enc_length, encs_length, tyU, tyC, tyB, tyA, tyI, tyZ, tyF, tyP, enc_getD, encs_getD, wrap_i64, enc_set, splice_one, set_last, bin_aeq2, bin_ane2, wk3_next, exNextO_codes, wk3_int, wk3_rate, exDrawO_codes, wk3_valid, wk3_rvalid, wk3_power, intG, rateG, k0, k1, k3, k4]
    exact yes _
end Go.Proofs.Ythginmfobikdgaa
