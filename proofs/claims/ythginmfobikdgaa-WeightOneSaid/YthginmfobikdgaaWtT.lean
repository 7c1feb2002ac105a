/- Chapter 32, the walks: the law of a single list. -/
import Derived.Test.YthginmfobikdgaaWtS
import Derived.Test.YthginmfobikdgaaWtJ
import Derived.Test.YthginmfobikdgaaWtQ
set_option linter.unusedSimpArgs false
set_option linter.unusedVariables false
namespace Go.Proofs.Ythginmfobikdgaa
open Go.PV

/-! Sites, while they are made. -/
def encV (out : List (Site × Nat)) : List (List PV) := out.map fun u => [.int .i64 u.1.blk, .int .i64 u.1.ins, .msl (u.2 + 7) (u.1.tg.length - 1)]
theorem encV_length (out : List (Site × Nat)) : (encV out).length = out.length := by simp [encV]
structure UO (Q : Store) (uo : Nat) (out : List (Site × Nat)) : Prop where
  row : out ≠ [] → Q[uo]? = some (.rows 63 3 (encV out) (out.length - 1))
  tgs : ∀ u ∈ out, Q[u.2]? = some (.rows 65 2 (encT u.1.tg) (u.1.tg.length - 1))
theorem UO.keep {Q R : Store} {uo : Nat} {out : List (Site × Nat)} (h : UO Q uo out) (hk : ∀ o, o < Q.length → R[o]? = Q[o]?) : UO R uo out where
  row := fun hn => by
    have := h.row hn
    rw [hk uo (List.getElem?_eq_some_iff.1 this).1]; exact this
  tgs := fun u hu => by
    have := h.tgs u hu
    rw [hk u.2 (List.getElem?_eq_some_iff.1 this).1]; exact this
theorem UO.first {R : Store} {s : Site} {to : Nat} (ht : R[to]? = some (.rows 65 2 (encT s.tg) (s.tg.length - 1))) : UO (R ++ [.rows 63 3 (encV [(s, to)]) 0]) R.length [(s, to)] where
  row := fun _ => by rw [gapp0]; rfl
  tgs := fun u hu => by
    rw [List.mem_singleton] at hu
    subst hu
    rw [List.getElem?_append_left (List.getElem?_eq_some_iff.1 ht).1]; exact ht
theorem UO.more {R : Store} {uo : Nat} {out : List (Site × Nat)} (h : UO R uo out) (hn : out ≠ []) {s : Site} {to : Nat} (ht : R[to]? = some (.rows 65 2 (encT s.tg) (s.tg.length - 1))) :
    UO (R.set uo (.rows 63 3 (encV (out ++ [(s, to)])) out.length)) uo (out ++ [(s, to)]) := by
  have hr := h.row hn
  have hul := (List.getElem?_eq_some_iff.1 hr).1
  refine ⟨fun _ => ?_, fun u hu => ?_⟩
  · rw [List.getElem?_set_self hul]; simp
  · rw [List.mem_append, List.mem_singleton] at hu
    have hq : R[u.2]? = some (.rows 65 2 (encT u.1.tg) (u.1.tg.length - 1)) := by
      rcases hu with hu | rfl
      · exact h.tgs u hu
      · exact ht
    rw [List.getElem?_set_ne (fun e => by rw [e, hq] at hr; simp at hr), hq]
theorem keepS_succ (S : List Site) (j : Nat) (h : j < S.length) : keepS (S.take (j + 1)) = keepS (S.take j) ++ (if (pos (S.getD j default)).tg = [] then [] else [pos (S.getD j default)]) := by
  rw [take_get S j default h, keepS_app]
  congr 1
  simp only [keepS, List.map_cons, List.map_nil, List.filter_cons, List.filter_nil]
  cases (pos (S.getD j default)).tg <;> simp
theorem keepS_small (S : List Site) (h : S.length < 2 ^ 30 ∧ ∀ s ∈ S, s.tg.length < 2 ^ 30) : (keepS S).length < 2 ^ 30 ∧ ∀ s ∈ keepS S, s.tg.length < 2 ^ 30 := by
  refine ⟨?_, fun s hs => ?_⟩
  · have := List.length_filter_le (fun s : Site => !s.tg.isEmpty) (S.map pos)
    rw [List.length_map] at this
    exact Nat.lt_of_le_of_lt this h.1
  · obtain ⟨t, ht, rfl⟩ := List.mem_map.1 (List.mem_filter.1 hs).1
    exact Nat.lt_of_le_of_lt (List.length_filter_le _ _) (h.2 t ht)
/-- A row whose sites are objects. -/
theorem frz_V {σ : Store} {uo : Nat} {out : List (Site × Nat)} {el : Nat} (hr : σ[uo + 7]? = some (.rows el 3 (encV out) (out.length - 1))) (ht : ∀ u ∈ out, σ[u.2 + 7]? = some (.rows 65 2 (encT u.1.tg) (u.1.tg.length - 1))) :
    Frz 0 σ (.msl (uo + 7) (out.length - 1)) (.sl (encS (out.map (·.1)))) := by
  have hrow : ∀ (i : Nat) (row : List PV), (encV out)[i]? = some row → ∃ u, u ∈ out ∧ row = [.int .i64 u.1.blk, .int .i64 u.1.ins, .msl (u.2 + 7) (u.1.tg.length - 1)] ∧ (encS (out.map (·.1))).getD i [] = [.int .i64 u.1.blk, .int .i64 u.1.ins, .sl (encT u.1.tg)] := fun i row hi => by
    unfold encV at hi
    rw [List.getElem?_map, Option.map_eq_some_iff] at hi
    obtain ⟨u, hu, rfl⟩ := hi
    refine ⟨u, List.mem_of_getElem? hu, rfl, ?_⟩
    unfold encS
    rw [List.getD_eq_getElem?_getD, List.getElem?_map, List.getElem?_map, hu]; rfl
  refine .msl _ _ _ _ _ _ (Nat.zero_le _) hr (by simp [encS, encV]) (fun i row hi => ?_) (fun i row j p hi hj => ?_)
  · obtain ⟨u, hu, e1, e2⟩ := hrow i row hi
    rw [e1, e2]; rfl
  · obtain ⟨u, hu, e1, e2⟩ := hrow i row hi
    rw [e2]
    rw [e1] at hj
    match j, hj with
    | 0, hj => cases hj; exact .keep _ (bel_int _ _ _)
    | 1, hj => cases hj; exact .keep _ (bel_int _ _ _)
    | 2, hj => cases hj; exact Frz.msl0 (Nat.zero_le _) (ht u hu) (encT_bel _ _)

set_option maxRecDepth 8000 in
set_option maxHeartbeats 16000000 in
theorem one_law (l0 : List Int) (hl0 : okInts .u8 l0) (yo : Int) (hyo : 0 ≤ yo ∧ yo ≤ 255) : PCall Try.prog 6 [.sl (encI .u8 l0), .int .u8 yo] [] (fun p _ => p = .bool true) := by
  have k0 : ∀ args σ, wk3.f 23 args σ = none := fun _ _ => rfl
  have k1 : ∀ args σ, wk3.f 19 args σ = none := fun _ _ => rfl
  have k2 : ∀ args σ, wk3.f 28 args σ = none := fun _ _ => rfl
  have k3 : ∀ args σ, wk3.f 24 args σ = none := fun _ _ => rfl
  have k4 : ∀ args σ, wk3.f 27 args σ = none := fun _ _ => rfl
  have k5 : ∀ args σ, wk3.f 29 args σ = none := fun _ _ => rfl
  have yes : ∀ σ', Go.PV.Fin [] (fun p x => p = .bool true) (.bool true) σ' := fun σ' => fin0 (.keep _ (bel_bool _ _)) rfl
  refine PCall.vfrz [] 107839786669583356324822943210145289417221007173191378575317213904895 238 [.tmp 4] wk3_ok mix Try.func6 rfl (by decide) rfl rfl (by simp) ?_
  simp -dsimp only [initFr, List.zipIdx_cons, List.zipIdx_nil, List.map_cons, List.map_nil, Nat.zero_add, Nat.reduceAdd]
  simp -dsimp (maxSteps := 4000000) +contextual (disch := first | omega | decide +kernel) only [↓vsD, vsU, resW, fnRet, cond_true, cond_false, Nat.reduceShiftRight, Nat.reduceAnd, Go.PV.fits, Go.PV.mutOf, Go.PV.splice, Int.reduceToNat, Int.reduceEq, Int.reduceAdd, Int.reduceSub, Int.reduceMul, Int.reduceLE, Int.reduceLT, Int.reduceNeg, Nat.reduceMul, Nat.reduceLeDiff, ne_eq, if_true, if_false, reduceIte, Nat.reduceEqDiff, ↓Nat.reduceLT, Nat.reduceAdd, Nat.reduceBEq, reduceCtorEq, enc_length, encs_length, tyU, tyC, tyB, tyA, tyI, tyZ, tyF, tyP, enc_getD, encs_getD, wrap_i64, enc_set, splice_one, set_last, wk3_next, exNextO_codes, wk3_int, wk3_rate, exDrawO_codes, wk3_valid, wk3_rvalid, wk3_power, intG, rateG, k0, k1]
  refine PCall.mono (awake32_on _) ?_
  rintro p σ' ⟨rfl, rfl⟩
  simp -dsimp (maxSteps := 4000000) +contextual (disch := first | omega | decide +kernel) only [↓vsD, vsU, resW, fnRet, cond_true, cond_false, Nat.reduceShiftRight, Nat.reduceAnd, Go.PV.fits, Go.PV.mutOf, Go.PV.splice, Int.reduceToNat, Int.reduceEq, Int.reduceAdd, Int.reduceSub, Int.reduceMul, Int.reduceLE, Int.reduceLT, Int.reduceNeg, Nat.reduceMul, Nat.reduceLeDiff, ne_eq, if_true, if_false, reduceIte, Nat.reduceEqDiff, ↓Nat.reduceLT, Nat.reduceAdd, Nat.reduceBEq, reduceCtorEq, enc_length, encs_length, tyU, tyC, tyB, tyA, tyI, tyZ, tyF, tyP, enc_getD, encs_getD, wrap_i64, enc_set, splice_one, set_last, wk3_next, exNextO_codes, wk3_int, wk3_rate, exDrawO_codes, wk3_valid, wk3_rvalid, wk3_power, intG, rateG, k0, k1]
  refine PCall.mono (new_on l0 100 _) ?_
  rintro p σ' ⟨rfl, rfl⟩
  obtain ⟨cs, hcs⟩ : ∃ cs, cs = l0.take 100 := ⟨_, rfl⟩
  have hcl : okInts .u8 cs := fun n hn => hl0 n (by rw [hcs] at hn; exact List.mem_of_mem_take hn)
  have hcn : cs.length ≤ 100 := by rw [hcs]; simp; omega
  rw [← hcs]
  simp -dsimp (maxSteps := 4000000) +contextual (disch := first | omega | decide +kernel) only [↓vsD, vsU, resW, fnRet, cond_true, cond_false, Nat.reduceShiftRight, Nat.reduceAnd, Go.PV.fits, Go.PV.mutOf, Go.PV.splice, Int.reduceToNat, Int.reduceEq, Int.reduceAdd, Int.reduceSub, Int.reduceMul, Int.reduceLE, Int.reduceLT, Int.reduceNeg, Nat.reduceMul, Nat.reduceLeDiff, ne_eq, if_true, if_false, reduceIte, Nat.reduceEqDiff, ↓Nat.reduceLT, Nat.reduceAdd, Nat.reduceBEq, reduceCtorEq, enc_length, encs_length, tyU, tyC, tyB, tyA, tyI, tyZ, tyF, tyP, enc_getD, encs_getD, wrap_i64, enc_set, splice_one, set_last, wk3_next, exNextO_codes, wk3_int, wk3_rate, exDrawO_codes, wk3_valid, wk3_rvalid, wk3_power, intG, rateG, k0, k1, k3]
  refine PCall.mono (draw_w cs 0 1 (by omega) (by omega) hcl (by omega) (by omega)) ?_
  rintro p σ' ⟨a, l, k, rfl, rfl, hk, hal, hll0, hll, hage, hdr⟩
  obtain ⟨x, rfl⟩ : ∃ x, l = [x] := by
    match l, hll0, hll with
    | [x], _, _ => exact ⟨x, rfl⟩
  obtain ⟨g, rfl⟩ : ∃ g, a = [g] := by
    match a, hal with
    | [g], _ => exact ⟨g, rfl⟩
  have hg : ageOk g := hage g (by simp)
  have hx : Drawn x := hdr x (by simp)
  obtain ⟨num, den, hnd⟩ : ∃ num den, (rateC cs k).1 = (num, den) := ⟨_, _, rfl⟩
  have hr : validR num den := by
    have := rateC_in hcl k
    rw [hnd] at this
    exact ⟨this.1.1, this.1.2, this.2.1, this.2.2⟩
  have hr1 : validR 1 1 := by unfold validR; omega
  have hC := fun a num den (hr : validR num den) (ha : ageOk a) σ => combine_drawn [a] [x] num den hr (fun y hy => by rw [List.mem_singleton] at hy; rw [hy]; exact ha) rfl (by simp) (by simp) (fun y hy => by rw [List.mem_singleton] at hy; rw [hy]; exact hx) σ
  have f1 : combF [0] [x] num den = fullF x := combF_full x hx 0 num den hr (by simp [wOf])
  have f2 : combF [g] [x] 1 1 = fullF x := combF_full x hx g 1 1 hr1 (by simp [wOf, Int.one_pow])
  have C1 := fun σ => hC 0 num den hr (by unfold ageOk; omega) σ
  have C2 := fun σ => hC g 1 1 hr1 hg σ
  have C3 := fun σ => hC g num den hr hg σ
  rw [f1] at C1
  rw [f2] at C2
  have hg1 := hg.1
  have hg2 := hg.2
  obtain ⟨q, hq⟩ : ∃ q, q = yo.tmod (g + 1) := ⟨_, rfl⟩
  have hq1 : 0 ≤ q := by rw [hq]; exact Int.tmod_nonneg _ hyo.1
  have hq2 : q ≤ g := by have := Int.tmod_lt_of_pos yo (show 0 < g + 1 by omega); omega
  have C4 := fun σ => hC q num den hr (by unfold ageOk; omega) σ
  obtain ⟨old, hold⟩ : ∃ old, old = combF [g] [x] num den := ⟨_, rfl⟩
  obtain ⟨young, hyoung⟩ : ∃ young, young = combF [q] [x] num den := ⟨_, rfl⟩
  rw [← hold] at C3
  rw [← hyoung] at C4
  have e1 : ∀ n : Int, ints [n] = [[.int .i64 n]] := fun _ => rfl
  have e2 : encC [x] = [[.sl [x.row]]] := rfl
  simp -dsimp (maxSteps := 4000000) +contextual (disch := first | omega | decide +kernel) only [↓vsD, vsU, resW, fnRet, cond_true, cond_false, Nat.reduceShiftRight, Nat.reduceAnd, Go.PV.fits, Go.PV.mutOf, Go.PV.splice, Int.reduceToNat, Int.reduceEq, Int.reduceAdd, Int.reduceSub, Int.reduceMul, Int.reduceLE, Int.reduceLT, Int.reduceNeg, Nat.reduceMul, Nat.reduceLeDiff, ne_eq, if_true, if_false, reduceIte, Nat.reduceEqDiff, ↓Nat.reduceLT, Nat.reduceAdd, Nat.reduceBEq, reduceCtorEq, enc_length, encs_length, tyU, tyC, tyB, tyA, tyI, tyZ, tyF, tyP, enc_getD, encs_getD, wrap_i64, enc_set, splice_one, set_last, wk3_next, exNextO_codes, wk3_int, wk3_rate, exDrawO_codes, wk3_valid, wk3_rvalid, wk3_power, intG, rateG, k0, k1, k3, k4, hcl, hnd, e1, e2]
  refine v_draws _ _ _ _ _ _ [4, 9] [8] [(0, 0), (0, 0), (0, 0), (0, 0), (0, 0), (1, 1), (1, 1), (1, 2), (0, 1), (1, 0), (2, 2)] (by decide +kernel) (by decide +kernel) (by decide +kernel) (by decide +kernel) ?_
  simp -dsimp (maxSteps := 4000000) +contextual (disch := first | omega | decide +kernel) only [↓vsD, vsU, resW, fnRet, cond_true, cond_false, Nat.reduceShiftRight, Nat.reduceAnd, Go.PV.fits, Go.PV.mutOf, Go.PV.splice, Int.reduceToNat, Int.reduceEq, Int.reduceAdd, Int.reduceSub, Int.reduceMul, Int.reduceLE, Int.reduceLT, Int.reduceNeg, Nat.reduceMul, Nat.reduceLeDiff, ne_eq, if_true, if_false, reduceIte, Nat.reduceEqDiff, ↓Nat.reduceLT, Nat.reduceAdd, Nat.reduceBEq, reduceCtorEq, enc_length, encs_length, tyU, tyC, tyB, tyA, tyI, tyZ, tyF, tyP, enc_getD, encs_getD, wrap_i64, enc_set, splice_one, set_last, wk3_next, exNextO_codes, wk3_int, wk3_rate, exDrawO_codes, wk3_valid, wk3_rvalid, wk3_power, intG, rateG, vdx_none, vkp_go, ↓vd_end, place_nil, place_cons, vdo_eff, vdo_effA, ↓vdm_go, List.take_succ_cons, List.take_zero, List.drop_succ_cons, List.drop_zero, vdo_noeff_s, vdo_noeff_n, vdo_nofloat, vdo_noread, vdo_read, vdo_floatS, vdo_floatA, vde_s, vde_n, vde_c, vdx_s, vdr_s, vdr_b, vdf_m, vdf_p, ↓vd_op, ↓guard_none, ↓guard_some, gval_some, List.forall_mem_cons, List.not_mem_nil, false_implies, implies_true, List.length_append, List.length_replicate, List.replicate_zero, List.replicate_succ, List.contains_nil, List.contains_cons, Bool.or_false, Bool.false_or, Bool.or_self, Bool.or_true, Bool.true_or, vdr_o, vdq_eq, vdw_s, outR_v, rowsAt_none, mapAt_none, lnil, drop0, k0, k1, k2, k3, k4]
  refine ⟨_, _, C1 _, by simp, ?_⟩
  simp -dsimp (maxSteps := 4000000) +contextual (disch := first | omega | decide +kernel) only [↓vsD, vsU, resW, fnRet, cond_true, cond_false, Nat.reduceShiftRight, Nat.reduceAnd, Go.PV.fits, Go.PV.mutOf, Go.PV.splice, Int.reduceToNat, Int.reduceEq, Int.reduceAdd, Int.reduceSub, Int.reduceMul, Int.reduceLE, Int.reduceLT, Int.reduceNeg, Nat.reduceMul, Nat.reduceLeDiff, ne_eq, if_true, if_false, reduceIte, Nat.reduceEqDiff, ↓Nat.reduceLT, Nat.reduceAdd, Nat.reduceBEq, reduceCtorEq, enc_length, encs_length, tyU, tyC, tyB, tyA, tyI, tyZ, tyF, tyP, enc_getD, encs_getD, wrap_i64, enc_set, splice_one, set_last, wk3_next, exNextO_codes, wk3_int, wk3_rate, exDrawO_codes, wk3_valid, wk3_rvalid, wk3_power, intG, rateG, vdx_none, vkp_go, ↓vd_end, place_nil, place_cons, vdo_eff, vdo_effA, ↓vdm_go, List.take_succ_cons, List.take_zero, List.drop_succ_cons, List.drop_zero, vdo_noeff_s, vdo_noeff_n, vdo_nofloat, vdo_noread, vdo_read, vdo_floatS, vdo_floatA, vde_s, vde_n, vde_c, vdx_s, vdr_s, vdr_b, vdf_m, vdf_p, ↓vd_op, ↓guard_none, ↓guard_some, gval_some, List.forall_mem_cons, List.not_mem_nil, false_implies, implies_true, List.length_append, List.length_replicate, List.replicate_zero, List.replicate_succ, List.contains_nil, List.contains_cons, Bool.or_false, Bool.false_or, Bool.or_self, Bool.or_true, Bool.true_or, vdr_o, vdq_eq, vdw_s, outR_v, rowsAt_none, mapAt_none, lnil, drop0, k0, k1, k2, k3, k4]
  refine v_draws _ _ _ _ _ _ [5, 10] [9] [(0, 0), (0, 0), (0, 0), (0, 0), (0, 0), (0, 0), (1, 1), (1, 1), (1, 2), (0, 1), (1, 0), (2, 2)] (by decide +kernel) (by decide +kernel) (by decide +kernel) (by decide +kernel) ?_
  simp -dsimp (maxSteps := 4000000) +contextual (disch := first | omega | decide +kernel) only [↓vsD, vsU, resW, fnRet, cond_true, cond_false, Nat.reduceShiftRight, Nat.reduceAnd, Go.PV.fits, Go.PV.mutOf, Go.PV.splice, Int.reduceToNat, Int.reduceEq, Int.reduceAdd, Int.reduceSub, Int.reduceMul, Int.reduceLE, Int.reduceLT, Int.reduceNeg, Nat.reduceMul, Nat.reduceLeDiff, ne_eq, if_true, if_false, reduceIte, Nat.reduceEqDiff, ↓Nat.reduceLT, Nat.reduceAdd, Nat.reduceBEq, reduceCtorEq, enc_length, encs_length, tyU, tyC, tyB, tyA, tyI, tyZ, tyF, tyP, enc_getD, encs_getD, wrap_i64, enc_set, splice_one, set_last, wk3_next, exNextO_codes, wk3_int, wk3_rate, exDrawO_codes, wk3_valid, wk3_rvalid, wk3_power, intG, rateG, vdx_none, vkp_go, ↓vd_end, place_nil, place_cons, vdo_eff, vdo_effA, ↓vdm_go, List.take_succ_cons, List.take_zero, List.drop_succ_cons, List.drop_zero, vdo_noeff_s, vdo_noeff_n, vdo_nofloat, vdo_noread, vdo_read, vdo_floatS, vdo_floatA, vde_s, vde_n, vde_c, vdx_s, vdr_s, vdr_b, vdf_m, vdf_p, ↓vd_op, ↓guard_none, ↓guard_some, gval_some, List.forall_mem_cons, List.not_mem_nil, false_implies, implies_true, List.length_append, List.length_replicate, List.replicate_zero, List.replicate_succ, List.contains_nil, List.contains_cons, Bool.or_false, Bool.false_or, Bool.or_self, Bool.or_true, Bool.true_or, vdr_o, vdq_eq, vdw_s, outR_v, rowsAt_none, mapAt_none, lnil, drop0, k0, k1, k2, k3, k4]
  refine ⟨_, _, C2 _, by simp, ?_⟩
  simp -dsimp (maxSteps := 4000000) +contextual (disch := first | omega | decide +kernel) only [↓vsD, vsU, resW, fnRet, cond_true, cond_false, Nat.reduceShiftRight, Nat.reduceAnd, Go.PV.fits, Go.PV.mutOf, Go.PV.splice, Int.reduceToNat, Int.reduceEq, Int.reduceAdd, Int.reduceSub, Int.reduceMul, Int.reduceLE, Int.reduceLT, Int.reduceNeg, Nat.reduceMul, Nat.reduceLeDiff, ne_eq, if_true, if_false, reduceIte, Nat.reduceEqDiff, ↓Nat.reduceLT, Nat.reduceAdd, Nat.reduceBEq, reduceCtorEq, enc_length, encs_length, tyU, tyC, tyB, tyA, tyI, tyZ, tyF, tyP, enc_getD, encs_getD, wrap_i64, enc_set, splice_one, set_last, wk3_next, exNextO_codes, wk3_int, wk3_rate, exDrawO_codes, wk3_valid, wk3_rvalid, wk3_power, intG, rateG, vdx_none, vkp_go, ↓vd_end, place_nil, place_cons, vdo_eff, vdo_effA, ↓vdm_go, List.take_succ_cons, List.take_zero, List.drop_succ_cons, List.drop_zero, vdo_noeff_s, vdo_noeff_n, vdo_nofloat, vdo_noread, vdo_read, vdo_floatS, vdo_floatA, vde_s, vde_n, vde_c, vdx_s, vdr_s, vdr_b, vdf_m, vdf_p, ↓vd_op, ↓guard_none, ↓guard_some, gval_some, List.forall_mem_cons, List.not_mem_nil, false_implies, implies_true, List.length_append, List.length_replicate, List.replicate_zero, List.replicate_succ, List.contains_nil, List.contains_cons, Bool.or_false, Bool.false_or, Bool.or_self, Bool.or_true, Bool.true_or, vdr_o, vdq_eq, vdw_s, outR_v, rowsAt_none, mapAt_none, lnil, drop0, k0, k1, k2, k3, k4, ← hq]
  refine v_draws _ _ _ _ _ _ [5, 10] [9] [(0, 0), (0, 0), (0, 0), (0, 0), (0, 0), (0, 0), (1, 1), (1, 1), (1, 2), (0, 1), (1, 0), (2, 2)] (by decide +kernel) (by decide +kernel) (by decide +kernel) (by decide +kernel) ?_
  simp -dsimp (maxSteps := 4000000) +contextual (disch := first | omega | decide +kernel) only [↓vsD, vsU, resW, fnRet, cond_true, cond_false, Nat.reduceShiftRight, Nat.reduceAnd, Go.PV.fits, Go.PV.mutOf, Go.PV.splice, Int.reduceToNat, Int.reduceEq, Int.reduceAdd, Int.reduceSub, Int.reduceMul, Int.reduceLE, Int.reduceLT, Int.reduceNeg, Nat.reduceMul, Nat.reduceLeDiff, ne_eq, if_true, if_false, reduceIte, Nat.reduceEqDiff, ↓Nat.reduceLT, Nat.reduceAdd, Nat.reduceBEq, reduceCtorEq, enc_length, encs_length, tyU, tyC, tyB, tyA, tyI, tyZ, tyF, tyP, enc_getD, encs_getD, wrap_i64, enc_set, splice_one, set_last, wk3_next, exNextO_codes, wk3_int, wk3_rate, exDrawO_codes, wk3_valid, wk3_rvalid, wk3_power, intG, rateG, vdx_none, vkp_go, ↓vd_end, place_nil, place_cons, vdo_eff, vdo_effA, ↓vdm_go, List.take_succ_cons, List.take_zero, List.drop_succ_cons, List.drop_zero, vdo_noeff_s, vdo_noeff_n, vdo_nofloat, vdo_noread, vdo_read, vdo_floatS, vdo_floatA, vde_s, vde_n, vde_c, vdx_s, vdr_s, vdr_b, vdf_m, vdf_p, ↓vd_op, ↓guard_none, ↓guard_some, gval_some, List.forall_mem_cons, List.not_mem_nil, false_implies, implies_true, List.length_append, List.length_replicate, List.replicate_zero, List.replicate_succ, List.contains_nil, List.contains_cons, Bool.or_false, Bool.false_or, Bool.or_self, Bool.or_true, Bool.true_or, vdr_o, vdq_eq, vdw_s, outR_v, rowsAt_none, mapAt_none, lnil, drop0, k0, k1, k2, k3, k4]
  refine ⟨_, _, C3 _, by simp, ?_⟩
  simp -dsimp (maxSteps := 4000000) +contextual (disch := first | omega | decide +kernel) only [↓vsD, vsU, resW, fnRet, cond_true, cond_false, Nat.reduceShiftRight, Nat.reduceAnd, Go.PV.fits, Go.PV.mutOf, Go.PV.splice, Int.reduceToNat, Int.reduceEq, Int.reduceAdd, Int.reduceSub, Int.reduceMul, Int.reduceLE, Int.reduceLT, Int.reduceNeg, Nat.reduceMul, Nat.reduceLeDiff, ne_eq, if_true, if_false, reduceIte, Nat.reduceEqDiff, ↓Nat.reduceLT, Nat.reduceAdd, Nat.reduceBEq, reduceCtorEq, enc_length, encs_length, tyU, tyC, tyB, tyA, tyI, tyZ, tyF, tyP, enc_getD, encs_getD, wrap_i64, enc_set, splice_one, set_last, wk3_next, exNextO_codes, wk3_int, wk3_rate, exDrawO_codes, wk3_valid, wk3_rvalid, wk3_power, intG, rateG, vdx_none, vkp_go, ↓vd_end, place_nil, place_cons, vdo_eff, vdo_effA, ↓vdm_go, List.take_succ_cons, List.take_zero, List.drop_succ_cons, List.drop_zero, vdo_noeff_s, vdo_noeff_n, vdo_nofloat, vdo_noread, vdo_read, vdo_floatS, vdo_floatA, vde_s, vde_n, vde_c, vdx_s, vdr_s, vdr_b, vdf_m, vdf_p, ↓vd_op, ↓guard_none, ↓guard_some, gval_some, List.forall_mem_cons, List.not_mem_nil, false_implies, implies_true, List.length_append, List.length_replicate, List.replicate_zero, List.replicate_succ, List.contains_nil, List.contains_cons, Bool.or_false, Bool.false_or, Bool.or_self, Bool.or_true, Bool.true_or, vdr_o, vdq_eq, vdw_s, outR_v, rowsAt_none, mapAt_none, lnil, drop0, k0, k1, k2, k3, k4]
  refine v_draws _ _ _ _ _ _ [5, 10] [9] [(0, 0), (0, 0), (0, 0), (0, 0), (0, 0), (0, 0), (1, 1), (1, 1), (1, 2), (0, 1), (1, 0), (2, 2)] (by decide +kernel) (by decide +kernel) (by decide +kernel) (by decide +kernel) ?_
  simp -dsimp (maxSteps := 4000000) +contextual (disch := first | omega | decide +kernel) only [↓vsD, vsU, resW, fnRet, cond_true, cond_false, Nat.reduceShiftRight, Nat.reduceAnd, Go.PV.fits, Go.PV.mutOf, Go.PV.splice, Int.reduceToNat, Int.reduceEq, Int.reduceAdd, Int.reduceSub, Int.reduceMul, Int.reduceLE, Int.reduceLT, Int.reduceNeg, Nat.reduceMul, Nat.reduceLeDiff, ne_eq, if_true, if_false, reduceIte, Nat.reduceEqDiff, ↓Nat.reduceLT, Nat.reduceAdd, Nat.reduceBEq, reduceCtorEq, enc_length, encs_length, tyU, tyC, tyB, tyA, tyI, tyZ, tyF, tyP, enc_getD, encs_getD, wrap_i64, enc_set, splice_one, set_last, wk3_next, exNextO_codes, wk3_int, wk3_rate, exDrawO_codes, wk3_valid, wk3_rvalid, wk3_power, intG, rateG, vdx_none, vkp_go, ↓vd_end, place_nil, place_cons, vdo_eff, vdo_effA, ↓vdm_go, List.take_succ_cons, List.take_zero, List.drop_succ_cons, List.drop_zero, vdo_noeff_s, vdo_noeff_n, vdo_nofloat, vdo_noread, vdo_read, vdo_floatS, vdo_floatA, vde_s, vde_n, vde_c, vdx_s, vdr_s, vdr_b, vdf_m, vdf_p, ↓vd_op, ↓guard_none, ↓guard_some, gval_some, List.forall_mem_cons, List.not_mem_nil, false_implies, implies_true, List.length_append, List.length_replicate, List.replicate_zero, List.replicate_succ, List.contains_nil, List.contains_cons, Bool.or_false, Bool.false_or, Bool.or_self, Bool.or_true, Bool.true_or, vdr_o, vdq_eq, vdw_s, outR_v, rowsAt_none, mapAt_none, lnil, drop0, k0, k1, k2, k3, k4]
  refine ⟨_, _, C4 _, by simp, ?_⟩
  simp -dsimp (maxSteps := 4000000) +contextual (disch := first | omega | decide +kernel) only [↓vsD, vsU, resW, fnRet, cond_true, cond_false, Nat.reduceShiftRight, Nat.reduceAnd, Go.PV.fits, Go.PV.mutOf, Go.PV.splice, Int.reduceToNat, Int.reduceEq, Int.reduceAdd, Int.reduceSub, Int.reduceMul, Int.reduceLE, Int.reduceLT, Int.reduceNeg, Nat.reduceMul, Nat.reduceLeDiff, ne_eq, if_true, if_false, reduceIte, Nat.reduceEqDiff, ↓Nat.reduceLT, Nat.reduceAdd, Nat.reduceBEq, reduceCtorEq, enc_length, encs_length, tyU, tyC, tyB, tyA, tyI, tyZ, tyF, tyP, enc_getD, encs_getD, wrap_i64, enc_set, splice_one, set_last, wk3_next, exNextO_codes, wk3_int, wk3_rate, exDrawO_codes, wk3_valid, wk3_rvalid, wk3_power, intG, rateG, vdx_none, vkp_go, ↓vd_end, place_nil, place_cons, vdo_eff, vdo_effA, ↓vdm_go, List.take_succ_cons, List.take_zero, List.drop_succ_cons, List.drop_zero, vdo_noeff_s, vdo_noeff_n, vdo_nofloat, vdo_noread, vdo_read, vdo_floatS, vdo_floatA, vde_s, vde_n, vde_c, vdx_s, vdr_s, vdr_b, vdf_m, vdf_p, ↓vd_op, ↓guard_none, ↓guard_some, gval_some, List.forall_mem_cons, List.not_mem_nil, false_implies, implies_true, List.length_append, List.length_replicate, List.replicate_zero, List.replicate_succ, List.contains_nil, List.contains_cons, Bool.or_false, Bool.false_or, Bool.or_self, Bool.or_true, Bool.true_or, vdr_o, vdq_eq, vdw_s, outR_v, rowsAt_none, mapAt_none, lnil, drop0, k0, k1, k2, k3, k4]
  have hsm := keepS_small x.sites hx.ok.few
  have hsl := hx.ok.few.1
  have hxb := hx.ok.nb
  have hxe := hx.ok.ne
  have hfb : (fullF x).blocks.length = 2 := hxb
  have hfe : (fullF x).edges.length = 2 := hxe
  refine PCall.mono (sameAll_on (fullF x) (by omega) (by omega) hsm _) ?_
  rintro p σ' ⟨rfl, rfl⟩
  have hrow : x.row = [.int .i64 x.ent, .sl (ints x.blocks), .sl (encT x.edges), .sl (encS x.sites)] := rfl
  simp -dsimp (maxSteps := 4000000) +contextual (disch := first | omega | decide +kernel) only [↓vsD, vsU, resW, fnRet, cond_true, cond_false, Nat.reduceShiftRight, Nat.reduceAnd, Go.PV.fits, Go.PV.mutOf, Go.PV.splice, Int.reduceToNat, Int.reduceEq, Int.reduceAdd, Int.reduceSub, Int.reduceMul, Int.reduceLE, Int.reduceLT, Int.reduceNeg, Nat.reduceMul, Nat.reduceLeDiff, ne_eq, if_true, if_false, reduceIte, Nat.reduceEqDiff, ↓Nat.reduceLT, Nat.reduceAdd, Nat.reduceBEq, reduceCtorEq, enc_length, encs_length, tyU, tyC, tyB, tyA, tyI, tyZ, tyF, tyP, enc_getD, encs_getD, wrap_i64, enc_set, splice_one, set_last, wk3_next, exNextO_codes, wk3_int, wk3_rate, exDrawO_codes, wk3_valid, wk3_rvalid, wk3_power, intG, rateG, k0, k1, k2, k3, k4, hrow, encS_length]
  refine v_loopS (fun s : Nat × Store × Nat × List (Site × Nat) => [(9, .ptr 2 0 0 0), (14, .ptr 4 0 0 0), (16, .ptr 5 0 0 0), (18, .ptr 6 0 0 0), (19, glst (s.2.2.1 + 7) s.2.2.2.length), (118, .sl (encS x.sites)), (119, .int .i64 x.sites.length), (120, .int .i64 s.1)])
    (fun s => codes cs (rateC cs k).2 :: .rows 46 2 [[.int .i64 num, .int .i64 den]] 0 :: .rows 51 1 [[.sl [(fullF x).row]]] 0 :: .rows 51 1 [[.sl [(fullF x).row]]] 0 :: .rows 51 1 [[.sl [old.row]]] 0 :: .rows 51 1 [[.sl [young.row]]] 0 :: .rows 60 4 [[.int .i64 x.ent, .sl (ints x.blocks), .sl (encT x.edges), .sl (encS x.sites)]] 0 :: s.2.1)
    (fun s => s.1 ≤ x.sites.length ∧ UO s.2.1 s.2.2.1 s.2.2.2 ∧ s.2.2.2.map (·.1) = keepS (x.sites.take s.1)) (fun s => x.sites.length - s.1) (0, [], 0, []) (by simp [weaker, Go.PV.look, glst]) rfl ⟨by simp, ⟨by simp, by simp⟩, rfl⟩ ?_
  rintro ⟨j, Q, uo, out⟩ ⟨hj, hU, hF⟩
  dsimp only at hj hU hF ⊢
  by_cases hjl : j < x.sites.length
  · obtain ⟨s, hs⟩ : ∃ s, s = x.sites.getD j default := ⟨_, rfl⟩
    have hsm2 : s ∈ x.sites := by rw [hs]; exact mem_getD hjl
    have hst := hx.ok.few.2 s hsm2
    simp -dsimp (maxSteps := 4000000) +contextual (disch := first | omega | decide +kernel) only [↓vsD, vsU, resW, fnRet, cond_true, cond_false, Nat.reduceShiftRight, Nat.reduceAnd, Go.PV.fits, Go.PV.mutOf, Go.PV.splice, Int.reduceToNat, Int.reduceEq, Int.reduceAdd, Int.reduceSub, Int.reduceMul, Int.reduceLE, Int.reduceLT, Int.reduceNeg, Nat.reduceMul, Nat.reduceLeDiff, ne_eq, if_true, if_false, reduceIte, Nat.reduceEqDiff, ↓Nat.reduceLT, Nat.reduceAdd, Nat.reduceBEq, reduceCtorEq, enc_length, encs_length, tyU, tyC, tyB, tyA, tyI, tyZ, tyF, tyP, enc_getD, encs_getD, wrap_i64, enc_set, splice_one, set_last, wk3_next, exNextO_codes, wk3_int, wk3_rate, exDrawO_codes, wk3_valid, wk3_rvalid, wk3_power, intG, rateG, k0, k1, k2, k3, k4, encS_length, encS_getD, encT_length, ← hs, gapp0, gappk, sapp0, sappk, gappn0, gappnk, sappn0, sappnk, List.append_assoc, List.length_append]
    obtain ⟨q, hq⟩ : ∃ q, q = Q.length := ⟨_, rfl⟩
    refine v_loopS (fun r : Nat × Store × Nat × List (Int × Int) => [(9, .ptr 2 0 0 0), (14, .ptr 4 0 0 0), (16, .ptr 5 0 0 0), (18, .ptr 6 0 0 0), (19, glst (uo + 7) out.length), (118, .sl (encS x.sites)), (119, .int .i64 x.sites.length), (120, .int .i64 j), (22, .ptr (q + 8) 0 0 0), (130, .sl (encT s.tg)), (131, .int .i64 s.tg.length), (132, .int .i64 r.1)])
      (fun r => codes cs (rateC cs k).2 :: .rows 46 2 [[.int .i64 num, .int .i64 den]] 0 :: .rows 51 1 [[.sl [(fullF x).row]]] 0 :: .rows 51 1 [[.sl [(fullF x).row]]] 0 :: .rows 51 1 [[.sl [old.row]]] 0 :: .rows 51 1 [[.sl [young.row]]] 0 :: .rows 60 4 [[.int .i64 x.ent, .sl (ints x.blocks), .sl (encT x.edges), .sl (encS x.sites)]] 0 :: r.2.1)
      (fun r => r.1 ≤ s.tg.length ∧ q + 2 ≤ r.2.1.length ∧ (∀ o, o < q → r.2.1[o]? = Q[o]?) ∧ r.2.1[q + 1]? = some (.rows 63 3 [[.int .i64 s.blk, .int .i64 s.ins, glst (r.2.2.1 + 7) r.2.2.2.length]] 0) ∧ (r.2.2.2 ≠ [] → q + 1 < r.2.2.1 ∧ r.2.1[r.2.2.1]? = some (.rows 65 2 (encT r.2.2.2) (r.2.2.2.length - 1))) ∧ r.2.2.2 = (s.tg.take r.1).filter (fun t => decide (0 < t.2))) (fun r => s.tg.length - r.1)
      (0, Q ++ [.rows 63 3 [[.int .i64 s.blk, .int .i64 s.ins, .sl (encT s.tg)]] 0, .rows 63 3 [[.int .i64 s.blk, .int .i64 s.ins, .nils]] 0], 0, []) (by simp [weaker, Go.PV.look, hq]) rfl ⟨by simp, by simp [hq], fun o ho => by rw [List.getElem?_append_left (by omega)], by rw [hq, gappk]; rfl, by simp, rfl⟩ ?_
    rintro ⟨m, R, to, outT⟩ ⟨hm, hRl, hRo, hRq, hRt, hFT⟩
    dsimp only at hm hRl hRo hRq hRt hFT ⊢
    have gq : ∀ X, (R ++ X)[q + 1]? = some (.rows 63 3 [[.int .i64 s.blk, .int .i64 s.ins, glst (to + 7) outT.length]] 0) := fun X => by rw [List.getElem?_append_left (by omega), hRq]
    have sq : ∀ X y, (R ++ X).set (q + 1) y = R.set (q + 1) y ++ X := fun X y => List.set_append_left _ _ (by omega)
    by_cases hml : m < s.tg.length
    · obtain ⟨tt, htt⟩ : ∃ tt, tt = s.tg.getD m (0, 0) := ⟨_, rfl⟩
      have hFn : (s.tg.take (m + 1)).filter (fun t => decide (0 < t.2)) = outT ++ (if 0 < tt.2 then [tt] else []) := by
        rw [take_get s.tg m (0, 0) hml, List.filter_append, ← hFT, ← htt]
        by_cases h : 0 < tt.2 <;> simp [h]
      cases hou : outT with
      | nil =>
        subst hou
        simp only [List.length_nil, glst] at gq
        simp -dsimp (maxSteps := 4000000) +contextual (disch := first | omega | decide +kernel) only [↓vsD, vsU, resW, fnRet, cond_true, cond_false, Nat.reduceShiftRight, Nat.reduceAnd, Go.PV.fits, Go.PV.mutOf, Go.PV.splice, Int.reduceToNat, Int.reduceEq, Int.reduceAdd, Int.reduceSub, Int.reduceMul, Int.reduceLE, Int.reduceLT, Int.reduceNeg, Nat.reduceMul, Nat.reduceLeDiff, ne_eq, if_true, if_false, reduceIte, Nat.reduceEqDiff, ↓Nat.reduceLT, Nat.reduceAdd, Nat.reduceBEq, reduceCtorEq, enc_length, encs_length, tyU, tyC, tyB, tyA, tyI, tyZ, tyF, tyP, enc_getD, encs_getD, wrap_i64, enc_set, splice_one, set_last, wk3_next, exNextO_codes, wk3_int, wk3_rate, exDrawO_codes, wk3_valid, wk3_rvalid, wk3_power, intG, rateG, k0, k1, k2, k3, k4, encT_length, encT_getD, ← htt, gapp0, gappk, sapp0, sappk, gappn0, gappnk, sappn0, sappnk, List.append_assoc, List.length_append, gq, sq]
        refine ⟨fun h0 => ?_, fun h0 => ?_⟩
        · exact ⟨(m + 1, R.set (q + 1) (.rows 63 3 [[.int .i64 s.blk, .int .i64 s.ins, .msl (R.length + 8) 0]] 0) ++ [.rows 65 2 [[.int .i64 tt.1, .int .i64 tt.2]] 0, .rows 65 2 (encT [tt]) 0], R.length + 1, [tt]), (by (try dsimp only); omega), by simp [weaker, Go.PV.look], rfl, by dsimp only; omega, by simp; omega, fun o ho => by rw [List.getElem?_append_left (by simp; omega), List.getElem?_set_ne (by omega)]; exact hRo o ho,
            by dsimp only; rw [List.getElem?_append_left (by simp; omega), List.getElem?_set_self (by omega)]; rfl, fun _ => ⟨by dsimp only; omega, by
              have := gappk (R.set (q + 1) (.rows 63 3 [[.int .i64 s.blk, .int .i64 s.ins, .msl (R.length + 8) 0]] 0)) [.rows 65 2 [[.int .i64 tt.1, .int .i64 tt.2]] 0, .rows 65 2 (encT [tt]) 0] 1
              rw [List.length_set] at this
              exact this⟩, by rw [hFn, if_pos h0]; rfl⟩
        · exact ⟨(m + 1, R ++ [.rows 65 2 [[.int .i64 tt.1, .int .i64 tt.2]] 0], to, []), (by (try dsimp only); omega), by simp [weaker, Go.PV.look], rfl, by dsimp only; omega, by simp; omega, fun o ho => by rw [List.getElem?_append_left (by omega)]; exact hRo o ho, by rw [gq]; rfl, fun h => absurd rfl h, by rw [hFn, if_neg h0]; rfl⟩
      | cons u0 us =>
        have hol : outT.length = us.length + 1 := by rw [hou]; rfl
        obtain ⟨ht1, ht2⟩ := hRt (by rw [hou]; simp)
        rw [hol] at gq
        simp only [glst] at gq
        rw [hol, Nat.add_sub_cancel] at ht2
        have htl := (List.getElem?_eq_some_iff.1 ht2).1
        have gt : ∀ X, (R ++ X)[to]? = some (.rows 65 2 (encT outT) us.length) := fun X => by rw [List.getElem?_append_left htl, ht2]
        have st : ∀ X y, (R ++ X).set to y = R.set to y ++ X := fun X y => List.set_append_left _ _ htl
        have hob : us.length + 1 < 2 ^ 30 := by
          have h1 := List.length_filter_le (fun t : Int × Int => decide (0 < t.2)) (s.tg.take m)
          rw [← hFT, hol, List.length_take] at h1
          omega
        have gt2 : ∀ X y, (R.set to y ++ X)[q + 1]? = some (.rows 63 3 [[.int .i64 s.blk, .int .i64 s.ins, .msl (to + 7) us.length]] 0) := fun X y => by rw [List.getElem?_append_left (by simp; omega), List.getElem?_set_ne (by omega), hRq, hol]; rfl
        have st2 : ∀ X y z, (R.set to y ++ X).set (q + 1) z = (R.set to y).set (q + 1) z ++ X := fun X y z => List.set_append_left _ _ (by simp; omega)
        have gu0 : ∀ X y o, (R.set o y ++ X)[R.length]? = X[0]? := fun X y o => by have := gapp0 (R.set o y) X; simpa using this
        simp -dsimp (maxSteps := 4000000) +contextual (disch := first | omega | decide +kernel) only [↓vsD, vsU, resW, fnRet, cond_true, cond_false, Nat.reduceShiftRight, Nat.reduceAnd, Go.PV.fits, Go.PV.mutOf, Go.PV.splice, Int.reduceToNat, Int.reduceEq, Int.reduceAdd, Int.reduceSub, Int.reduceMul, Int.reduceLE, Int.reduceLT, Int.reduceNeg, Nat.reduceMul, Nat.reduceLeDiff, ne_eq, if_true, if_false, reduceIte, Nat.reduceEqDiff, ↓Nat.reduceLT, Nat.reduceAdd, Nat.reduceBEq, reduceCtorEq, enc_length, encs_length, tyU, tyC, tyB, tyA, tyI, tyZ, tyF, tyP, enc_getD, encs_getD, wrap_i64, enc_set, splice_one, set_last, wk3_next, exNextO_codes, wk3_int, wk3_rate, exDrawO_codes, wk3_valid, wk3_rvalid, wk3_power, intG, rateG, k0, k1, k2, k3, k4, encT_length, encT_getD, ← htt, gapp0, gappk, sapp0, sappk, gappn0, gappnk, sappn0, sappnk, List.append_assoc, List.length_append, gq, sq, gt, st, gt2, st2, gu0, hol, mxB, mxL]
        refine ⟨fun h0 => ?_, fun h0 => ?_⟩
        · exact ⟨(m + 1, (R.set to (.rows 65 2 (encT (outT ++ [tt])) (us.length + 1))).set (q + 1) (.rows 63 3 [[.int .i64 s.blk, .int .i64 s.ins, .msl (to + 7) (us.length + 1)]] 0) ++ [.rows 65 2 [[.int .i64 tt.1, .int .i64 tt.2]] 0], to, outT ++ [tt]), (by (try dsimp only); omega), by simp [weaker, Go.PV.look], by simp [encT], by dsimp only; omega, by simp; omega, fun o ho => by rw [List.getElem?_append_left (by simp; omega), List.getElem?_set_ne (by omega), List.getElem?_set_ne (by omega)]; exact hRo o ho,
            by dsimp only; rw [List.getElem?_append_left (by simp; omega), List.getElem?_set_self (by simp; omega), List.length_append, hol]; rfl, fun _ => ⟨ht1, by dsimp only; rw [List.getElem?_append_left (by simp; omega), List.getElem?_set_ne (by omega), List.getElem?_set_self htl, List.length_append, hol]; rfl⟩, by rw [hFn, if_pos h0]⟩
        · exact ⟨(m + 1, R ++ [.rows 65 2 [[.int .i64 tt.1, .int .i64 tt.2]] 0], to, outT), (by (try dsimp only); omega), by simp [weaker, Go.PV.look], rfl, by dsimp only; omega, by simp; omega, fun o ho => by rw [List.getElem?_append_left (by omega)]; exact hRo o ho, by rw [gq, hol]; rfl, fun _ => ⟨ht1, by rw [gt, hol]; rfl⟩, by rw [hFn, if_neg h0, List.append_nil]⟩
    · have hmz : m = s.tg.length := by omega
      have hps : (pos s).tg = outT := by rw [hFT, hmz, List.take_length]; rfl
      have hKs := keepS_succ x.sites j hjl
      rw [← hs, ← hF, hps] at hKs
      have hUR : UO R uo out := hU.keep (fun o ho => hRo o (by omega))
      cases hou : outT with
      | nil =>
        subst hou
        simp only [List.length_nil, glst] at hRq
        simp -dsimp (maxSteps := 4000000) +contextual (disch := first | omega | decide +kernel) only [↓vsD, vsU, resW, fnRet, cond_true, cond_false, Nat.reduceShiftRight, Nat.reduceAnd, Go.PV.fits, Go.PV.mutOf, Go.PV.splice, Int.reduceToNat, Int.reduceEq, Int.reduceAdd, Int.reduceSub, Int.reduceMul, Int.reduceLE, Int.reduceLT, Int.reduceNeg, Nat.reduceMul, Nat.reduceLeDiff, ne_eq, if_true, if_false, reduceIte, Nat.reduceEqDiff, ↓Nat.reduceLT, Nat.reduceAdd, Nat.reduceBEq, reduceCtorEq, enc_length, encs_length, tyU, tyC, tyB, tyA, tyI, tyZ, tyF, tyP, enc_getD, encs_getD, wrap_i64, enc_set, splice_one, set_last, wk3_next, exNextO_codes, wk3_int, wk3_rate, exDrawO_codes, wk3_valid, wk3_rvalid, wk3_power, intG, rateG, k0, k1, k2, k3, k4, encT_length, hRq]
        exact ⟨(j + 1, R, uo, out), (by (try dsimp only); omega), (by simp [weaker, Go.PV.look]), rfl, by dsimp only; omega, hUR, by rw [hKs, if_pos rfl, List.append_nil]⟩
      | cons u0 us =>
        have hol : outT.length = us.length + 1 := by rw [hou]; rfl
        have hone : outT ≠ [] := by rw [hou]; simp
        obtain ⟨ht1, ht2⟩ := hRt hone
        rw [hol] at hRq
        simp only [glst] at hRq
        rw [hol, Nat.add_sub_cancel] at ht2
        have hpe : pos s = ⟨s.blk, s.ins, outT⟩ := by rw [← hps]; rfl
        rw [if_neg hone, hpe] at hKs
        cases hout : out with
        | nil =>
          subst hout
          simp only [List.length_nil, glst]
          simp -dsimp (maxSteps := 4000000) +contextual (disch := first | omega | decide +kernel) only [↓vsD, vsU, resW, fnRet, cond_true, cond_false, Nat.reduceShiftRight, Nat.reduceAnd, Go.PV.fits, Go.PV.mutOf, Go.PV.splice, Int.reduceToNat, Int.reduceEq, Int.reduceAdd, Int.reduceSub, Int.reduceMul, Int.reduceLE, Int.reduceLT, Int.reduceNeg, Nat.reduceMul, Nat.reduceLeDiff, ne_eq, if_true, if_false, reduceIte, Nat.reduceEqDiff, ↓Nat.reduceLT, Nat.reduceAdd, Nat.reduceBEq, reduceCtorEq, enc_length, encs_length, tyU, tyC, tyB, tyA, tyI, tyZ, tyF, tyP, enc_getD, encs_getD, wrap_i64, enc_set, splice_one, set_last, wk3_next, exNextO_codes, wk3_int, wk3_rate, exDrawO_codes, wk3_valid, wk3_rvalid, wk3_power, intG, rateG, k0, k1, k2, k3, k4, encT_length, hRq, ht2, hol]
          exact ⟨(j + 1, R ++ [.rows 63 3 (encV [(⟨s.blk, s.ins, outT⟩, to)]) 0], R.length, [(⟨s.blk, s.ins, outT⟩, to)]), (by (try dsimp only); omega), by simp [weaker, Go.PV.look, glst], by simp [encV, hol], by dsimp only; omega, UO.first (s := ⟨s.blk, s.ins, outT⟩) (by rw [ht2, hol]; rfl), by rw [hKs]; rfl⟩
        | cons v0 vs =>
          have hvl : out.length = vs.length + 1 := by rw [hout]; rfl
          have hUr := hUR.row (by rw [hout]; simp)
          rw [hvl, Nat.add_sub_cancel] at hUr
          rw [← hout, hvl]
          simp only [glst]
          have hob : vs.length + 1 < 2 ^ 30 := by
            have h1 := List.length_filter_le (fun s : Site => !s.tg.isEmpty) ((x.sites.take j).map pos)
            have h2 : (out.map (·.1)).length = ((x.sites.take j).map pos |>.filter fun s => !s.tg.isEmpty).length := by rw [hF]; rfl
            rw [← h2, List.length_map, List.length_map, List.length_take, hvl] at h1
            have := hx.ok.few.1
            omega
          simp -dsimp (maxSteps := 4000000) +contextual (disch := first | omega | decide +kernel) only [↓vsD, vsU, resW, fnRet, cond_true, cond_false, Nat.reduceShiftRight, Nat.reduceAnd, Go.PV.fits, Go.PV.mutOf, Go.PV.splice, Int.reduceToNat, Int.reduceEq, Int.reduceAdd, Int.reduceSub, Int.reduceMul, Int.reduceLE, Int.reduceLT, Int.reduceNeg, Nat.reduceMul, Nat.reduceLeDiff, ne_eq, if_true, if_false, reduceIte, Nat.reduceEqDiff, ↓Nat.reduceLT, Nat.reduceAdd, Nat.reduceBEq, reduceCtorEq, enc_length, encs_length, tyU, tyC, tyB, tyA, tyI, tyZ, tyF, tyP, enc_getD, encs_getD, wrap_i64, enc_set, splice_one, set_last, wk3_next, exNextO_codes, wk3_int, wk3_rate, exDrawO_codes, wk3_valid, wk3_rvalid, wk3_power, intG, rateG, k0, k1, k2, k3, k4, encT_length, hRq, ht2, hol, hUr, encV_length, hvl, mxB, mxL]
          exact ⟨(j + 1, R.set uo (.rows 63 3 (encV (out ++ [(⟨s.blk, s.ins, outT⟩, to)])) out.length), uo, out ++ [(⟨s.blk, s.ins, outT⟩, to)]), (by (try dsimp only); omega), by simp [weaker, Go.PV.look, glst, hvl], by simp [encV, hol, hvl], by dsimp only; omega, hUR.more (s := ⟨s.blk, s.ins, outT⟩) (by rw [hout]; simp) (by rw [ht2, hol]; rfl), by rw [hKs, List.map_append]; rfl⟩
  · have hjz : j = x.sites.length := by omega
    rw [hjz, List.take_length] at hF
    obtain ⟨T, hT⟩ : ∃ T, T = glst (uo + 7) out.length := ⟨_, rfl⟩
    have hTc : cellsV T = some [T] := by rw [hT]; cases out.length <;> rfl
    have hTF : ∀ o1 o2 o3 o4 o5 o6 o7, Frz 0 (o1 :: o2 :: o3 :: o4 :: o5 :: o6 :: o7 :: Q) T (.sl (encS (keepS x.sites))) := by
      intro o1 o2 o3 o4 o5 o6 o7
      rw [← hF, hT]
      cases hout : out with
      | nil => exact .nils
      | cons v0 vs =>
        rw [← hout]
        have hvl : out.length = vs.length + 1 := by rw [hout]; rfl
        have hr := hU.row (by rw [hout]; simp)
        have := frz_V (σ := o1 :: o2 :: o3 :: o4 :: o5 :: o6 :: o7 :: Q) (uo := uo) (out := out) (el := 63) (by simpa using hr) (fun u hu => by simpa using hU.tgs u hu)
        have e : glst (uo + 7) out.length = .msl (uo + 7) vs.length := by rw [hvl]; rfl
        rw [e]
        rw [hvl, Nat.add_sub_cancel] at this
        exact this
    rw [← hT]
    have hfrow : (fullF x).row.take 4 = (fullF x).row := rfl
    have hfl : (fullF x).row.length = 4 := rfl
    have horow : old.row = [.int .i64 old.ent, .sl (ints old.blocks), .sl (encT old.edges), .sl (encS old.sites)] := rfl
    have hyrow : young.row = [.int .i64 young.ent, .sl (ints young.blocks), .sl (encT young.edges), .sl (encS young.sites)] := rfl
    obtain ⟨ob, hob, hobl, hobg⟩ := countsF_block [wOf num den g] (den ^ 8) [x] (sitesF (den ^ 8) (addAll [wOf num den g] [x] 1)) hxb
    obtain ⟨yb, hyb, hybl, hybg⟩ := countsF_block [wOf num den q] (den ^ 8) [x] (sitesF (den ^ 8) (addAll [wOf num den q] [x] 1)) hxb
    have hob' : old.blocks = ob := by rw [hold]; exact hob
    have hyb' : young.blocks = yb := by rw [hyoung]; exact hyb
    have hD := pow8_in den hr.2.2.1 hr.2.2.2
    have hwg := wOf_in num den g hr hg
    have hwq := wOf_in num den q hr (by unfold ageOk; omega)
    have hwl := wOf_less num den g q hr hg ⟨hq1, hq2⟩
    have hL := fun num' => each_less num' (wOf num den g) (wOf num den q) (den ^ 8) x hwg hwq hwl hD.1 hD.2
    have hLe : old.ent ≤ young.ent := by rw [hold, hyoung]; exact (hL FC.ent).1
    have hLb : ∀ b, b < 2 → ob.getD b 0 ≤ yb.getD b 0 ∧ (ob.getD b 0 < 0 ↔ x.blocks.getD b 0 < 0) := fun b hb => by rw [hobg b hb, hybg b hb]; exact hL (fun x => x.blocks.getD b 0)
    rw [hob'] at horow
    rw [hyb'] at hyrow
    simp -dsimp (maxSteps := 4000000) +contextual (disch := first | omega | decide +kernel) only [↓vsD, vsU, resW, fnRet, cond_true, cond_false, Nat.reduceShiftRight, Nat.reduceAnd, Go.PV.fits, Go.PV.mutOf, Go.PV.splice, Int.reduceToNat, Int.reduceEq, Int.reduceAdd, Int.reduceSub, Int.reduceMul, Int.reduceLE, Int.reduceLT, Int.reduceNeg, Nat.reduceMul, Nat.reduceLeDiff, ne_eq, if_true, if_false, reduceIte, Nat.reduceEqDiff, ↓Nat.reduceLT, Nat.reduceAdd, Nat.reduceBEq, reduceCtorEq, enc_length, encs_length, tyU, tyC, tyB, tyA, tyI, tyZ, tyF, tyP, enc_getD, encs_getD, wrap_i64, enc_set, splice_one, set_last, wk3_next, exNextO_codes, wk3_int, wk3_rate, exDrawO_codes, wk3_valid, wk3_rvalid, wk3_power, intG, rateG, k0, k1, k2, k3, k4, encS_length, hTc]
    refine v_draws _ _ _ _ _ _ [10] [] [(0, 0), (0, 0), (0, 0), (0, 0), (0, 0), (0, 0), (0, 0), (0, 0), (0, 0), (0, 0), (0, 0), (1, 1), (1, 1), (1, 1), (1, 1), (1, 1), (1, 1), (1, 1), (1, 1), (1, 1), (1, 1), (1, 1), (1, 1), (1, 1), (1, 1), (1, 1), (1, 1), (1, 1), (1, 1), (1, 1), (1, 1)] (by decide +kernel) (by decide +kernel) (by decide +kernel) (by decide +kernel) ?_
    simp -dsimp (maxSteps := 4000000) +contextual (disch := first | omega | decide +kernel) only [↓vsD, vsU, resW, fnRet, cond_true, cond_false, Nat.reduceShiftRight, Nat.reduceAnd, Go.PV.fits, Go.PV.mutOf, Go.PV.splice, Int.reduceToNat, Int.reduceEq, Int.reduceAdd, Int.reduceSub, Int.reduceMul, Int.reduceLE, Int.reduceLT, Int.reduceNeg, Nat.reduceMul, Nat.reduceLeDiff, ne_eq, if_true, if_false, reduceIte, Nat.reduceEqDiff, ↓Nat.reduceLT, Nat.reduceAdd, Nat.reduceBEq, reduceCtorEq, enc_length, encs_length, tyU, tyC, tyB, tyA, tyI, tyZ, tyF, tyP, enc_getD, encs_getD, wrap_i64, enc_set, splice_one, set_last, wk3_next, exNextO_codes, wk3_int, wk3_rate, exDrawO_codes, wk3_valid, wk3_rvalid, wk3_power, intG, rateG, vdx_none, vkp_go, ↓vd_end, place_nil, place_cons, vdo_eff, vdo_effA, ↓vdm_go, List.take_succ_cons, List.take_zero, List.drop_succ_cons, List.drop_zero, vdo_noeff_s, vdo_noeff_n, vdo_nofloat, vdo_noread, vdo_read, vdo_floatS, vdo_floatA, vde_s, vde_n, vde_c, vdx_s, vdr_s, vdr_b, vdf_m, vdf_p, ↓vd_op, ↓guard_none, ↓guard_some, gval_some, List.forall_mem_cons, List.not_mem_nil, false_implies, implies_true, List.length_append, List.length_replicate, List.replicate_zero, List.replicate_succ, List.contains_nil, List.contains_cons, Bool.or_false, Bool.false_or, Bool.or_self, Bool.or_true, Bool.true_or, vdr_o, vdq_eq, vdw_s, outR_v, rowsAt_none, mapAt_none, lnil, drop0, k0, k1, k2, k3, k4, k5, hTc, hfrow, hfl]
    refine ⟨.bool true, _, PCall.use_lend (same_w (fullF x) (by omega) (by omega) hsm) (FrzL.cons (.keep _ (bel_agg ((fullF x).row_bel 0))) (FrzL.cons (.agg _ (fullF x).row rfl (fun c p hc => ?_)) (FrzL.nil _))) (fun r hr => ⟨by rw [hr]; rfl, hr, rfl⟩), by simp, ?_⟩
    · match c with
      | 0 => simp at hc; subst hc; exact .keep _ (bel_int _ _ _)
      | 1 => simp at hc; subst hc; exact .keep _ (bel_ints _ _)
      | 2 => simp at hc; subst hc; exact .keep _ (bel_pairs _ _)
      | 3 => simp at hc; subst hc; exact hTF _ _ _ _ _ _ _
      | c + 4 => simp at hc
    simp -dsimp (maxSteps := 4000000) +contextual (disch := first | omega | decide +kernel) only [↓vsD, vsU, resW, fnRet, cond_true, cond_false, Nat.reduceShiftRight, Nat.reduceAnd, Go.PV.fits, Go.PV.mutOf, Go.PV.splice, Int.reduceToNat, Int.reduceEq, Int.reduceAdd, Int.reduceSub, Int.reduceMul, Int.reduceLE, Int.reduceLT, Int.reduceNeg, Nat.reduceMul, Nat.reduceLeDiff, ne_eq, if_true, if_false, reduceIte, Nat.reduceEqDiff, ↓Nat.reduceLT, Nat.reduceAdd, Nat.reduceBEq, reduceCtorEq, enc_length, encs_length, tyU, tyC, tyB, tyA, tyI, tyZ, tyF, tyP, enc_getD, encs_getD, wrap_i64, enc_set, splice_one, set_last, wk3_next, exNextO_codes, wk3_int, wk3_rate, exDrawO_codes, wk3_valid, wk3_rvalid, wk3_power, intG, rateG, vdx_none, vkp_go, ↓vd_end, place_nil, place_cons, vdo_eff, vdo_effA, ↓vdm_go, List.take_succ_cons, List.take_zero, List.drop_succ_cons, List.drop_zero, vdo_noeff_s, vdo_noeff_n, vdo_nofloat, vdo_noread, vdo_read, vdo_floatS, vdo_floatA, vde_s, vde_n, vde_c, vdx_s, vdr_s, vdr_b, vdf_m, vdf_p, ↓vd_op, ↓guard_none, ↓guard_some, gval_some, List.forall_mem_cons, List.not_mem_nil, false_implies, implies_true, List.length_append, List.length_replicate, List.replicate_zero, List.replicate_succ, List.contains_nil, List.contains_cons, Bool.or_false, Bool.false_or, Bool.or_self, Bool.or_true, Bool.true_or, vdr_o, vdq_eq, vdw_s, outR_v, rowsAt_none, mapAt_none, lnil, drop0, k0, k1, k2, k3, k4, k5, hTc, hfrow, hfl, horow, hyrow, enc_length, hobl, hybl]
    refine v_loopS (fun b : Nat => [(14, .ptr 4 0 0 0), (16, .ptr 5 0 0 0), (18, .ptr 6 0 0 0), (25, .int .i64 b)]) (fun _ => codes cs (rateC cs k).2 :: .rows 46 2 [[.int .i64 num, .int .i64 den]] 0 :: .rows 51 1 [[.sl [(fullF x).row]]] 0 :: .rows 51 1 [[.sl [(fullF x).row]]] 0 :: .rows 51 1 [[.sl [old.row]]] 0 :: .rows 51 1 [[.sl [young.row]]] 0 :: .rows 60 4 [[.int .i64 x.ent, .sl (ints x.blocks), .sl (encT x.edges), T]] 0 :: Q) (fun b => b ≤ 2) (fun b => 2 - b) 0 (by simp [weaker, Go.PV.look]) (by simp [horow, hyrow]) (by simp) ?_
    intro b hb
    by_cases hb2 : b < 2
    · obtain ⟨h1, h2⟩ := hLb b hb2
      by_cases hn : x.blocks.getD b 0 < 0
      · have h3 := h2.2 hn
        simp -dsimp (maxSteps := 4000000) +contextual (disch := first | omega | decide +kernel) only [↓vsD, vsU, resW, fnRet, cond_true, cond_false, Nat.reduceShiftRight, Nat.reduceAnd, Go.PV.fits, Go.PV.mutOf, Go.PV.splice, Int.reduceToNat, Int.reduceEq, Int.reduceAdd, Int.reduceSub, Int.reduceMul, Int.reduceLE, Int.reduceLT, Int.reduceNeg, Nat.reduceMul, Nat.reduceLeDiff, ne_eq, if_true, if_false, reduceIte, Nat.reduceEqDiff, ↓Nat.reduceLT, Nat.reduceAdd, Nat.reduceBEq, reduceCtorEq, enc_length, encs_length, tyU, tyC, tyB, tyA, tyI, tyZ, tyF, tyP, enc_getD, encs_getD, wrap_i64, enc_set, splice_one, set_last, wk3_next, exNextO_codes, wk3_int, wk3_rate, exDrawO_codes, wk3_valid, wk3_rvalid, wk3_power, intG, rateG, k0, k1, k2, k3, k4, k5, horow, hyrow, enc_length, hobl, hybl, hxb]
        exact ⟨b + 1, (by (try dsimp only); omega), (by simp [weaker, Go.PV.look]), by simp only [horow, hyrow], by omega⟩
      · have h3 : ¬ ob.getD b 0 < 0 := fun h => hn (h2.1 h)
        simp -dsimp (maxSteps := 4000000) +contextual (disch := first | omega | decide +kernel) only [↓vsD, vsU, resW, fnRet, cond_true, cond_false, Nat.reduceShiftRight, Nat.reduceAnd, Go.PV.fits, Go.PV.mutOf, Go.PV.splice, Int.reduceToNat, Int.reduceEq, Int.reduceAdd, Int.reduceSub, Int.reduceMul, Int.reduceLE, Int.reduceLT, Int.reduceNeg, Nat.reduceMul, Nat.reduceLeDiff, ne_eq, if_true, if_false, reduceIte, Nat.reduceEqDiff, ↓Nat.reduceLT, Nat.reduceAdd, Nat.reduceBEq, reduceCtorEq, enc_length, encs_length, tyU, tyC, tyB, tyA, tyI, tyZ, tyF, tyP, enc_getD, encs_getD, wrap_i64, enc_set, splice_one, set_last, wk3_next, exNextO_codes, wk3_int, wk3_rate, exDrawO_codes, wk3_valid, wk3_rvalid, wk3_power, intG, rateG, k0, k1, k2, k3, k4, k5, horow, hyrow, enc_length, hobl, hybl, hxb]
        exact ⟨b + 1, (by (try dsimp only); omega), (by simp [weaker, Go.PV.look]), by simp only [horow, hyrow], by omega⟩
    · simp -dsimp (maxSteps := 4000000) +contextual (disch := first | omega | decide +kernel) only [↓vsD, vsU, resW, fnRet, cond_true, cond_false, Nat.reduceShiftRight, Nat.reduceAnd, Go.PV.fits, Go.PV.mutOf, Go.PV.splice, Int.reduceToNat, Int.reduceEq, Int.reduceAdd, Int.reduceSub, Int.reduceMul, Int.reduceLE, Int.reduceLT, Int.reduceNeg, Nat.reduceMul, Nat.reduceLeDiff, ne_eq, if_true, if_false, reduceIte, Nat.reduceEqDiff, ↓Nat.reduceLT, Nat.reduceAdd, Nat.reduceBEq, reduceCtorEq, enc_length, encs_length, tyU, tyC, tyB, tyA, tyI, tyZ, tyF, tyP, enc_getD, encs_getD, wrap_i64, enc_set, splice_one, set_last, wk3_next, exNextO_codes, wk3_int, wk3_rate, exDrawO_codes, wk3_valid, wk3_rvalid, wk3_power, intG, rateG, k0, k1, k2, k3, k4, k5, horow, hyrow, hLe]
      exact yes _
end Go.Proofs.Ythginmfobikdgaa
