/- Chapter 38, the walks: Weight in full, and the reference's. -/
import Derived.Test.YthginmfobikdgaaGvC
import Derived.Test.YthginmfobikdgaaPlI
import Derived.Test.YthginmfobikdgaaPlE
set_option linter.unusedSimpArgs false
set_option linter.unusedVariables false
namespace Go.Proofs.Ythginmfobikdgaa
open Go.PV

set_option maxHeartbeats 8000000 in
theorem rweight_w (sizes : List Int) (E : PV) (calls : List CallI) (page : Int) (ord : List Int) (hE : PV.cell E = true) (h : GoodP sizes calls page) (ho : ∀ f ∈ ord, 0 ≤ f ∧ f < sizes.length) (hol : ord.length ≤ 1000) :
    PCall Try.prog 76 [.sl (ints sizes), graphV E calls, .int .i64 page, .sl (ints ord)] [] (fun p _ => p = .int .i64 (wgt sizes calls page ord)) := by
  have h1 := h.n0
  have h2 := h.n
  have h3 := h.pg
  have h4 := h.few
  unfold graphV
  refine PCall.vfrz [] 36037043364102143 62 [.tmp 8] (noE_ok _) mix Try.func76 rfl (by decide) rfl rfl (by simp) ?_
  simp -dsimp only [initFr, List.zipIdx_cons, List.zipIdx_nil, List.map_cons, List.map_nil, Nat.zero_add, Nat.reduceAdd]
  simp -dsimp (maxSteps := 4000000) +contextual (disch := first | omega | decide +kernel) only [↓vsD, vsU, Bool.or_false, Bool.true_or, resW, fnRet, cond_true, cond_false, Nat.reduceShiftRight, Nat.reduceAnd, Go.PV.fits, Go.PV.mutOf, Go.PV.splice, Int.reduceToNat, Int.reduceEq, Int.reduceAdd, Int.reduceSub, Int.reduceMul, Int.reduceLE, Int.reduceLT, Int.reduceNeg, Nat.reduceMul, Nat.reduceLeDiff, ne_eq, if_true, if_false, reduceIte, Nat.reduceEqDiff, ↓Nat.reduceLT, Nat.reduceAdd, Nat.reduceBEq, reduceCtorEq, enc_length, encs_length, tyU, tyC, tyB, tyA, tyI, tyZ, tyF, tyP, enc_getD, encs_getD, wrap_i64, enc_set, splice_one, set_last, bin_snn, bin_snm, bin_sns, bin_tnn, bin_tnm, bin_tns, enc_length, hE, bytesOk, lenOk]
  refine v_loopS (fun k : Nat => [(0, .sl (ints sizes)), (2, .int .i64 page), (5, .ptr 0 0 0 0), (9, .msl 1 0), (10, .int .i64 (adr sizes ord k)), (19, .sl (ints ord)), (20, .int .i64 ord.length), (21, .int .i64 k)])
    (fun k => [.rows 76 2 [[E, .sl (encL calls)]] 0, .rows 3 1 (ints (pgL sizes page ord k)) 0]) (fun k => k ≤ ord.length) (fun k => ord.length - k) 0 (by simp [weaker, Go.PV.look, adr]) (by simp only [pgL, Int.toNat_natCast]; show [_, Go.PV.Obj.rows _ _ _ _] = [_, Go.PV.Obj.rows _ _ (List.map _ _) _]; rw [List.map_replicate]) (by omega) ?_
  intro k hk
  have ha := adr_range sizes ord h.sz ho k hk
  by_cases hkl : k < ord.length
  · have hf := ho _ (getDm (d := 0) hkl)
    obtain ⟨f, hfn⟩ : ∃ f : Nat, ord.getD k 0 = f := ⟨(ord.getD k 0).toNat, by omega⟩
    have hfl : f < sizes.length := by omega
    have hsz := h.sz _ (getDm (d := 0) hfl)
    have hpl := pgL_length sizes page ord k
    have e1 : (adr sizes ord k).tdiv page = adr sizes ord k / page := Int.tdiv_eq_ediv_of_nonneg ha.1
    have e2 : 0 ≤ adr sizes ord k / page := Int.ediv_nonneg ha.1 (by omega)
    have e3 : adr sizes ord k / page ≤ adr sizes ord k := Int.ediv_le_self _ ha.1
    simp -dsimp (maxSteps := 4000000) +contextual (disch := first | omega | decide +kernel) only [↓vsD, vsU, Bool.or_false, Bool.true_or, resW, fnRet, cond_true, cond_false, Nat.reduceShiftRight, Nat.reduceAnd, Go.PV.fits, Go.PV.mutOf, Go.PV.splice, Int.reduceToNat, Int.reduceEq, Int.reduceAdd, Int.reduceSub, Int.reduceMul, Int.reduceLE, Int.reduceLT, Int.reduceNeg, Nat.reduceMul, Nat.reduceLeDiff, ne_eq, if_true, if_false, reduceIte, Nat.reduceEqDiff, ↓Nat.reduceLT, Nat.reduceAdd, Nat.reduceBEq, reduceCtorEq, enc_length, encs_length, tyU, tyC, tyB, tyA, tyI, tyZ, tyF, tyP, enc_getD, encs_getD, wrap_i64, enc_set, splice_one, set_last, bin_snn, bin_snm, bin_sns, bin_tnn, bin_tnm, bin_tns, enc_length, hfn, e1, hpl]
    have hadr : adr sizes ord (k + 1) = adr sizes ord k + sizes.getD f 0 := by rw [adr, hfn]; rfl
    have hpg : pgL sizes page ord (k + 1) = (pgL sizes page ord k).set f (adr sizes ord k / page) := by rw [pgL, hfn]; rfl
    exact ⟨k + 1, (by (try dsimp only); omega), by simp [weaker, Go.PV.look, hadr], by dsimp only; rw [hpg], by omega⟩
  · have hkz : k = ord.length := by omega
    subst hkz
    obtain ⟨pages, hp⟩ : ∃ pages, pages = pgL sizes page ord ord.length := ⟨_, rfl⟩
    have hpl := pgL_length sizes page ord ord.length
    rw [← hp] at hpl ⊢
    simp -dsimp (maxSteps := 4000000) +contextual (disch := first | omega | decide +kernel) only [↓vsD, vsU, Bool.or_false, Bool.true_or, resW, fnRet, cond_true, cond_false, Nat.reduceShiftRight, Nat.reduceAnd, Go.PV.fits, Go.PV.mutOf, Go.PV.splice, Int.reduceToNat, Int.reduceEq, Int.reduceAdd, Int.reduceSub, Int.reduceMul, Int.reduceLE, Int.reduceLT, Int.reduceNeg, Nat.reduceMul, Nat.reduceLeDiff, ne_eq, if_true, if_false, reduceIte, Nat.reduceEqDiff, ↓Nat.reduceLT, Nat.reduceAdd, Nat.reduceBEq, reduceCtorEq, enc_length, encs_length, tyU, tyC, tyB, tyA, tyI, tyZ, tyF, tyP, enc_getD, encs_getD, wrap_i64, enc_set, splice_one, set_last, bin_snn, bin_snm, bin_sns, bin_tnn, bin_tnm, bin_tns, enc_length, encL_length]
    refine v_loopS (fun s : Nat × Store => [(5, .ptr 0 0 0 0), (9, .msl 1 0), (13, .int .i64 (wsum pages calls s.1)), (39, .sl (encL calls)), (40, .int .i64 calls.length), (41, .int .i64 s.1)])
      (fun s => .rows 76 2 [[E, .sl (encL calls)]] 0 :: .rows 3 1 (ints pages) 0 :: s.2) (fun s => s.1 ≤ calls.length) (fun s => calls.length - s.1) (0, []) (by simp [weaker, Go.PV.look, wsum]) rfl (by simp) ?_
    rintro ⟨i, Q⟩ hi
    dsimp only at hi ⊢
    have hw := wsum_range pages calls h.cnt i hi
    by_cases hil : i < calls.length
    · obtain ⟨c, hc⟩ : ∃ c, c = calls.getD i default := ⟨_, rfl⟩
      have hcm : c ∈ calls := by rw [hc]; exact getDm hil
      have hce := h.ends c hcm
      have hcc := h.cnt c hcm
      obtain ⟨x, hx⟩ : ∃ x : Nat, c.fn = x := ⟨c.fn.toNat, by omega⟩
      obtain ⟨y, hy⟩ : ∃ y : Nat, c.cal = y := ⟨c.cal.toNat, by omega⟩
      have hxl : x < pages.length := by omega
      have hyl : y < pages.length := by omega
      simp -dsimp (maxSteps := 4000000) +contextual (disch := first | omega | decide +kernel) only [↓vsD, vsU, Bool.or_false, Bool.true_or, resW, fnRet, cond_true, cond_false, Nat.reduceShiftRight, Nat.reduceAnd, Go.PV.fits, Go.PV.mutOf, Go.PV.splice, Int.reduceToNat, Int.reduceEq, Int.reduceAdd, Int.reduceSub, Int.reduceMul, Int.reduceLE, Int.reduceLT, Int.reduceNeg, Nat.reduceMul, Nat.reduceLeDiff, ne_eq, if_true, if_false, reduceIte, Nat.reduceEqDiff, ↓Nat.reduceLT, Nat.reduceAdd, Nat.reduceBEq, reduceCtorEq, enc_length, encs_length, tyU, tyC, tyB, tyA, tyI, tyZ, tyF, tyP, enc_getD, encs_getD, wrap_i64, enc_set, splice_one, set_last, bin_snn, bin_snm, bin_sns, bin_tnn, bin_tnm, bin_tns, encL_length, encL_getD, enc_length, ← hc, hx, hy, gapp0, gappk, sapp0, sappk, gappn0, gappnk, sappn0, sappnk]
      have hws : wsum pages calls (i + 1) = wsum pages calls i + (if pages.getD x 0 = pages.getD y 0 then 0 else c.cnt) := by rw [wsum, ← hc, hx, hy]; rfl
      refine ⟨fun he => ?_, fun he => ?_⟩
      · rw [if_pos he, Int.add_zero] at hws
        exact ⟨(i + 1, _), (by (try dsimp only); omega), by simp [weaker, Go.PV.look, hws], rfl, by dsimp only; omega⟩
      · rw [if_neg he] at hws
        exact ⟨(i + 1, _), (by (try dsimp only); omega), by simp [weaker, Go.PV.look, hws], rfl, by dsimp only; omega⟩
    · have hiz : i = calls.length := by omega
      subst hiz
      simp -dsimp (maxSteps := 4000000) +contextual (disch := first | omega | decide +kernel) only [↓vsD, vsU, Bool.or_false, Bool.true_or, resW, fnRet, cond_true, cond_false, Nat.reduceShiftRight, Nat.reduceAnd, Go.PV.fits, Go.PV.mutOf, Go.PV.splice, Int.reduceToNat, Int.reduceEq, Int.reduceAdd, Int.reduceSub, Int.reduceMul, Int.reduceLE, Int.reduceLT, Int.reduceNeg, Nat.reduceMul, Nat.reduceLeDiff, ne_eq, if_true, if_false, reduceIte, Nat.reduceEqDiff, ↓Nat.reduceLT, Nat.reduceAdd, Nat.reduceBEq, reduceCtorEq, enc_length, encs_length, tyU, tyC, tyB, tyA, tyI, tyZ, tyF, tyP, enc_getD, encs_getD, wrap_i64, enc_set, splice_one, set_last, bin_snn, bin_snm, bin_sns, bin_tnn, bin_tnm, bin_tns, encL_length]
      refine fin0 (.keep _ (bel_int _ _ _)) ?_
      rw [hp]; rfl
theorem equalG_ok (a b : List Int) (ha : a.length < 2 ^ 40) (σ : Store) : PCall Try.prog 69 [.sl (ints a), .sl (ints b)] σ (fun p σ' => p = .bool (decide (a = b)) ∧ σ' = σ) := by
  refine PCall.vraw [] 16806975 26 [.tmp 4] (noE_ok _) mix Try.func69 rfl (by decide) rfl rfl (by simp) ?_
  simp -dsimp only [initFr, List.zipIdx_cons, List.zipIdx_nil, List.map_cons, List.map_nil, Nat.zero_add, Nat.reduceAdd]
  by_cases hl : a.length = b.length
  · simp -dsimp (maxSteps := 4000000) +contextual (disch := first | omega | decide +kernel) only [↓vsD, vsU, Bool.or_false, Bool.true_or, resW, fnRet, cond_true, cond_false, Nat.reduceShiftRight, Nat.reduceAnd, Go.PV.fits, Go.PV.mutOf, Go.PV.splice, Int.reduceToNat, Int.reduceEq, Int.reduceAdd, Int.reduceSub, Int.reduceMul, Int.reduceLE, Int.reduceLT, Int.reduceNeg, Nat.reduceMul, Nat.reduceLeDiff, ne_eq, if_true, if_false, reduceIte, Nat.reduceEqDiff, ↓Nat.reduceLT, Nat.reduceAdd, Nat.reduceBEq, reduceCtorEq, enc_length, encs_length, tyU, tyC, tyB, tyA, tyI, tyZ, tyF, tyP, enc_getD, encs_getD, wrap_i64, enc_set, splice_one, set_last, bin_snn, bin_snm, bin_sns, bin_tnn, bin_tnm, bin_tns, enc_length, hl]
    refine v_loopS (fun i : Nat => [(0, .sl (ints a)), (1, .sl (ints b)), (12, .int .i64 b.length), (13, .int .i64 i)]) (fun _ => σ) (fun i => i ≤ b.length ∧ ∀ j, j < i → a.getD j 0 = b.getD j 0) (fun i => b.length - i) 0 (by simp [weaker, Go.PV.look]) rfl ⟨by omega, fun j h => by omega⟩ ?_
    rintro i ⟨hi, hj⟩
    by_cases hib : i < b.length
    · simp -dsimp (maxSteps := 4000000) +contextual (disch := first | omega | decide +kernel) only [↓vsD, vsU, Bool.or_false, Bool.true_or, resW, fnRet, cond_true, cond_false, Nat.reduceShiftRight, Nat.reduceAnd, Go.PV.fits, Go.PV.mutOf, Go.PV.splice, Int.reduceToNat, Int.reduceEq, Int.reduceAdd, Int.reduceSub, Int.reduceMul, Int.reduceLE, Int.reduceLT, Int.reduceNeg, Nat.reduceMul, Nat.reduceLeDiff, ne_eq, if_true, if_false, reduceIte, Nat.reduceEqDiff, ↓Nat.reduceLT, Nat.reduceAdd, Nat.reduceBEq, reduceCtorEq, enc_length, encs_length, tyU, tyC, tyB, tyA, tyI, tyZ, tyF, tyP, enc_getD, encs_getD, wrap_i64, enc_set, splice_one, set_last, bin_snn, bin_snm, bin_sns, bin_tnn, bin_tnm, bin_tns, enc_length, enc_getD, hl]
      refine ⟨fun he => ?_, fun he => ?_⟩
      · refine ⟨i + 1, (by (try dsimp only); omega), (by simp [weaker, Go.PV.look]), rfl, by omega, fun j hj2 => ?_⟩
        rcases Nat.lt_succ_iff_lt_or_eq.1 hj2 with hj2 | rfl
        · exact hj j hj2
        · exact he
      · rw [decide_eq_false (fun e => he (by rw [e]))]
    · simp -dsimp (maxSteps := 4000000) +contextual (disch := first | omega | decide +kernel) only [↓vsD, vsU, Bool.or_false, Bool.true_or, resW, fnRet, cond_true, cond_false, Nat.reduceShiftRight, Nat.reduceAnd, Go.PV.fits, Go.PV.mutOf, Go.PV.splice, Int.reduceToNat, Int.reduceEq, Int.reduceAdd, Int.reduceSub, Int.reduceMul, Int.reduceLE, Int.reduceLT, Int.reduceNeg, Nat.reduceMul, Nat.reduceLeDiff, ne_eq, if_true, if_false, reduceIte, Nat.reduceEqDiff, ↓Nat.reduceLT, Nat.reduceAdd, Nat.reduceBEq, reduceCtorEq, enc_length, encs_length, tyU, tyC, tyB, tyA, tyI, tyZ, tyF, tyP, enc_getD, encs_getD, wrap_i64, enc_set, splice_one, set_last, bin_snn, bin_snm, bin_sns, bin_tnn, bin_tnm, bin_tns, enc_length, hl]
      rw [decide_eq_true]
      apply List.ext_getElem hl
      intro j h1 h2
      have := hj j (by omega)
      simpa [List.getD_eq_getElem?_getD, List.getElem?_eq_getElem h1, List.getElem?_eq_getElem h2] using this
  · simp -dsimp (maxSteps := 4000000) +contextual (disch := first | omega | decide +kernel) only [↓vsD, vsU, Bool.or_false, Bool.true_or, resW, fnRet, cond_true, cond_false, Nat.reduceShiftRight, Nat.reduceAnd, Go.PV.fits, Go.PV.mutOf, Go.PV.splice, Int.reduceToNat, Int.reduceEq, Int.reduceAdd, Int.reduceSub, Int.reduceMul, Int.reduceLE, Int.reduceLT, Int.reduceNeg, Nat.reduceMul, Nat.reduceLeDiff, ne_eq, if_true, if_false, reduceIte, Nat.reduceEqDiff, ↓Nat.reduceLT, Nat.reduceAdd, Nat.reduceBEq, reduceCtorEq, enc_length, encs_length, tyU, tyC, tyB, tyA, tyI, tyZ, tyF, tyP, enc_getD, encs_getD, wrap_i64, enc_set, splice_one, set_last, bin_snn, bin_snm, bin_sns, bin_tnn, bin_tnm, bin_tns, enc_length, hl]
    rw [decide_eq_false (fun e => hl (by rw [e]))]
def permB (l : List Int) (n : Nat) : Bool := l.isPerm (natI n)
theorem permB_iff {l : List Int} {n : Nat} : permB l n = true ↔ l.Perm (natI n) := List.isPerm_iff
theorem permB_sort (l : List Int) (n : Nat) : decide ((l.mergeSort fun x y => decide (x ≤ y)) = natI n) = permB l n := by
  by_cases h : l.Perm (natI n)
  · rw [permB_iff.2 h, decide_eq_true (sort_nat h)]
  · rw [Bool.eq_false_iff.2 (fun e => h (permB_iff.1 e)), decide_eq_false]
    intro e
    refine h ?_
    rw [← e]
    exact (List.mergeSort_perm _ _).symm
theorem permB_false {l : List Int} {n : Nat} (h : ¬ l.Perm (natI n)) : permB l n = false := Bool.eq_false_iff.2 (fun e => h (permB_iff.1 e))
set_option maxHeartbeats 8000000 in
theorem rperm_w (l : List Int) (n : Nat) (hn : n ≤ 100) (hl : l.length ≤ 100) : PCall Try.prog 75 [.sl (ints l), .int .i64 n] [] (fun p _ => p = .bool (permB l n)) := by
  refine PCall.vfrz [] 4295215359 37 [.tmp 4] (noE_ok _) mix Try.func75 rfl (by decide) rfl rfl (by simp) ?_
  simp -dsimp only [initFr, List.zipIdx_cons, List.zipIdx_nil, List.map_cons, List.map_nil, Nat.zero_add, Nat.reduceAdd]
  by_cases hln : l.length = n
  · subst hln
    simp -dsimp (maxSteps := 4000000) +contextual (disch := first | omega | decide +kernel) only [↓vsD, vsU, Bool.or_false, Bool.true_or, resW, fnRet, cond_true, cond_false, Nat.reduceShiftRight, Nat.reduceAnd, Go.PV.fits, Go.PV.mutOf, Go.PV.splice, Int.reduceToNat, Int.reduceEq, Int.reduceAdd, Int.reduceSub, Int.reduceMul, Int.reduceLE, Int.reduceLT, Int.reduceNeg, Nat.reduceMul, Nat.reduceLeDiff, ne_eq, if_true, if_false, reduceIte, Nat.reduceEqDiff, ↓Nat.reduceLT, Nat.reduceAdd, Nat.reduceBEq, reduceCtorEq, enc_length, encs_length, tyU, tyC, tyB, tyA, tyI, tyZ, tyF, tyP, enc_getD, encs_getD, wrap_i64, enc_set, splice_one, set_last, bin_snn, bin_snm, bin_sns, bin_tnn, bin_tnm, bin_tns, enc_length, bytesOk, lenOk]
    refine v_loopS (fun k : Nat => [(1, .int .i64 l.length), (5, .msl 0 0), (14, .sl (ints l)), (15, .int .i64 l.length), (16, .int .i64 k)]) (fun k => [.rows 4 1 (encB (usedL l.length (l.take k))) 0]) (fun k => k ≤ l.length ∧ (∀ f ∈ l.take k, f ∈ natI l.length) ∧ (l.take k).Nodup) (fun k => l.length - k) 0 (by simp [weaker, Go.PV.look]) (by rw [List.take_zero, ← usedL_none]) ⟨by omega, by simp, by simp⟩ ?_
    rintro k ⟨hk, hin, hnd⟩
    have hul := usedL_length l.length (l.take k)
    by_cases hkl : k < l.length
    · have htk : l.take (k + 1) = l.take k ++ [l.getD k 0] := by rw [List.take_add_one, List.getElem?_eq_getElem hkl, List.getD_eq_getElem?_getD, List.getElem?_eq_getElem hkl]; rfl
      have hmem : l.getD k 0 ∈ l := getDm hkl
      have hkk : k + 1 ≤ l.length := hkl
      obtain ⟨x, hx⟩ : ∃ x, x = l.getD k 0 := ⟨_, rfl⟩
      rw [← hx] at htk hmem
      by_cases h0 : x < 0
      · have e := permB_false (l := l) (n := l.length) (fun h => by have := natI_mem (h.mem_iff.1 hmem); omega)
        simp -dsimp (maxSteps := 4000000) +contextual (disch := first | omega | decide +kernel) only [↓vsD, vsU, Bool.or_false, Bool.true_or, resW, fnRet, cond_true, cond_false, Nat.reduceShiftRight, Nat.reduceAnd, Go.PV.fits, Go.PV.mutOf, Go.PV.splice, Int.reduceToNat, Int.reduceEq, Int.reduceAdd, Int.reduceSub, Int.reduceMul, Int.reduceLE, Int.reduceLT, Int.reduceNeg, Nat.reduceMul, Nat.reduceLeDiff, ne_eq, if_true, if_false, reduceIte, Nat.reduceEqDiff, ↓Nat.reduceLT, Nat.reduceAdd, Nat.reduceBEq, reduceCtorEq, enc_length, encs_length, tyU, tyC, tyB, tyA, tyI, tyZ, tyF, tyP, enc_getD, encs_getD, wrap_i64, enc_set, splice_one, set_last, bin_snn, bin_snm, bin_sns, bin_tnn, bin_tnm, bin_tns, enc_length, enc_getD, ← hx]
        exact fin0 (.keep _ (bel_bool _ _)) (by rw [e])
      by_cases h1 : (l.length : Int) ≤ x
      · have e := permB_false (l := l) (n := l.length) (fun h => by have := natI_mem (h.mem_iff.1 hmem); omega)
        simp -dsimp (maxSteps := 4000000) +contextual (disch := first | omega | decide +kernel) only [↓vsD, vsU, Bool.or_false, Bool.true_or, resW, fnRet, cond_true, cond_false, Nat.reduceShiftRight, Nat.reduceAnd, Go.PV.fits, Go.PV.mutOf, Go.PV.splice, Int.reduceToNat, Int.reduceEq, Int.reduceAdd, Int.reduceSub, Int.reduceMul, Int.reduceLE, Int.reduceLT, Int.reduceNeg, Nat.reduceMul, Nat.reduceLeDiff, ne_eq, if_true, if_false, reduceIte, Nat.reduceEqDiff, ↓Nat.reduceLT, Nat.reduceAdd, Nat.reduceBEq, reduceCtorEq, enc_length, encs_length, tyU, tyC, tyB, tyA, tyI, tyZ, tyF, tyP, enc_getD, encs_getD, wrap_i64, enc_set, splice_one, set_last, bin_snn, bin_snm, bin_sns, bin_tnn, bin_tnm, bin_tns, enc_length, enc_getD, ← hx]
        exact fin0 (.keep _ (bel_bool _ _)) (by rw [e])
      obtain ⟨q, hq⟩ : ∃ q : Nat, x = q := ⟨x.toNat, by omega⟩
      rw [hq] at htk hx
      have hqn : q < l.length := by omega
      obtain ⟨us, hus⟩ : ∃ us, us = usedL l.length (l.take k) := ⟨_, rfl⟩
      rw [← hus] at hul ⊢
      by_cases hm : (q : Int) ∈ l.take k
      · have hud : us.getD q false = true := by rw [hus, usedL_getD _ _ _ hqn, decide_eq_true hm]
        have e := permB_false (l := l) (n := l.length) (fun h => by
          have h2 := h.nodup_iff.2 (natI_nodup _)
          have h3 : (l.take (k + 1)).Nodup := List.Nodup.sublist (List.take_sublist _ _) h2
          rw [htk] at h3
          exact (List.nodup_append.1 h3).2.2 _ hm _ (by simp) rfl)
        simp -dsimp (maxSteps := 4000000) +contextual (disch := first | omega | decide +kernel) only [↓vsD, vsU, Bool.or_false, Bool.true_or, resW, fnRet, cond_true, cond_false, Nat.reduceShiftRight, Nat.reduceAnd, Go.PV.fits, Go.PV.mutOf, Go.PV.splice, Int.reduceToNat, Int.reduceEq, Int.reduceAdd, Int.reduceSub, Int.reduceMul, Int.reduceLE, Int.reduceLT, Int.reduceNeg, Nat.reduceMul, Nat.reduceLeDiff, ne_eq, if_true, if_false, reduceIte, Nat.reduceEqDiff, ↓Nat.reduceLT, Nat.reduceAdd, Nat.reduceBEq, reduceCtorEq, enc_length, encs_length, tyU, tyC, tyB, tyA, tyI, tyZ, tyF, tyP, enc_getD, encs_getD, wrap_i64, enc_set, splice_one, set_last, bin_snn, bin_snm, bin_sns, bin_tnn, bin_tnm, bin_tns, enc_length, enc_getD, ← hx, encB_length, encB_getD, hud]
        exact fin0 (.keep _ (bel_bool _ _)) (by rw [e])
      · have hud : us.getD q false = false := by rw [hus, usedL_getD _ _ _ hqn, decide_eq_false hm]
        have hus2 : us.set q true = usedL l.length (l.take (k + 1)) := by rw [hus, usedL_set _ _ _ hqn, htk]
        simp -dsimp (maxSteps := 4000000) +contextual (disch := first | omega | decide +kernel) only [↓vsD, vsU, Bool.or_false, Bool.true_or, resW, fnRet, cond_true, cond_false, Nat.reduceShiftRight, Nat.reduceAnd, Go.PV.fits, Go.PV.mutOf, Go.PV.splice, Int.reduceToNat, Int.reduceEq, Int.reduceAdd, Int.reduceSub, Int.reduceMul, Int.reduceLE, Int.reduceLT, Int.reduceNeg, Nat.reduceMul, Nat.reduceLeDiff, ne_eq, if_true, if_false, reduceIte, Nat.reduceEqDiff, ↓Nat.reduceLT, Nat.reduceAdd, Nat.reduceBEq, reduceCtorEq, enc_length, encs_length, tyU, tyC, tyB, tyA, tyI, tyZ, tyF, tyP, enc_getD, encs_getD, wrap_i64, enc_set, splice_one, set_last, bin_snn, bin_snm, bin_sns, bin_tnn, bin_tnm, bin_tns, enc_length, enc_getD, ← hx, encB_length, encB_getD, hud, encB_set]
        refine ⟨k + 1, (by (try dsimp only); omega), by simp [weaker, Go.PV.look], by dsimp only; rw [← hus2], hkk, ?_, ?_⟩
        · rw [htk]
          intro f hf
          rcases List.mem_append.1 hf with hf | hf
          · exact hin f hf
          · rw [List.mem_singleton] at hf
            rw [hf, natI, List.mem_map]
            exact ⟨q, List.mem_range.2 hqn, rfl⟩
        · rw [htk]
          refine List.nodup_append.2 ⟨hnd, by simp, fun a ha b hb e => ?_⟩
          rw [List.mem_singleton] at hb
          rw [e, hb] at ha
          exact hm ha
    · obtain rfl : k = l.length := by omega
      rw [List.take_length] at hin hnd
      have e : permB l l.length = true := permB_iff.2 (nodup_perm hnd (natI_nodup _) hin (by rw [natI_length]))
      simp -dsimp (maxSteps := 4000000) +contextual (disch := first | omega | decide +kernel) only [↓vsD, vsU, Bool.or_false, Bool.true_or, resW, fnRet, cond_true, cond_false, Nat.reduceShiftRight, Nat.reduceAnd, Go.PV.fits, Go.PV.mutOf, Go.PV.splice, Int.reduceToNat, Int.reduceEq, Int.reduceAdd, Int.reduceSub, Int.reduceMul, Int.reduceLE, Int.reduceLT, Int.reduceNeg, Nat.reduceMul, Nat.reduceLeDiff, ne_eq, if_true, if_false, reduceIte, Nat.reduceEqDiff, ↓Nat.reduceLT, Nat.reduceAdd, Nat.reduceBEq, reduceCtorEq, enc_length, encs_length, tyU, tyC, tyB, tyA, tyI, tyZ, tyF, tyP, enc_getD, encs_getD, wrap_i64, enc_set, splice_one, set_last, bin_snn, bin_snm, bin_sns, bin_tnn, bin_tnm, bin_tns, enc_length]
      exact fin0 (.keep _ (bel_bool _ _)) (by rw [e])
  · have e := permB_false (l := l) (n := n) (fun h => hln (by rw [h.length_eq, natI_length]))
    simp -dsimp (maxSteps := 4000000) +contextual (disch := first | omega | decide +kernel) only [↓vsD, vsU, Bool.or_false, Bool.true_or, resW, fnRet, cond_true, cond_false, Nat.reduceShiftRight, Nat.reduceAnd, Go.PV.fits, Go.PV.mutOf, Go.PV.splice, Int.reduceToNat, Int.reduceEq, Int.reduceAdd, Int.reduceSub, Int.reduceMul, Int.reduceLE, Int.reduceLT, Int.reduceNeg, Nat.reduceMul, Nat.reduceLeDiff, ne_eq, if_true, if_false, reduceIte, Nat.reduceEqDiff, ↓Nat.reduceLT, Nat.reduceAdd, Nat.reduceBEq, reduceCtorEq, enc_length, encs_length, tyU, tyC, tyB, tyA, tyI, tyZ, tyF, tyP, enc_getD, encs_getD, wrap_i64, enc_set, splice_one, set_last, bin_snn, bin_snm, bin_sns, bin_tnn, bin_tnm, bin_tns, enc_length]
    exact fin0 (.keep _ (bel_bool _ _)) (by rw [e])

/-! Weight. -/
def WF (sizes : List Int) (calls : List CallI) (page : Int) (l : List Int) : Int × Int :=
  if checkF sizes calls page ≠ 0 then (0, checkF sizes calls page) else if permB l sizes.length = true then (wgt sizes calls page l, 0) else (0, 18)
theorem wargs_bel (sizes : List Int) (E : PV) (calls : List CallI) (page : Int) (l : List Int) (hB : Bel 0 E) : ∀ p ∈ [PV.sl (ints sizes), graphV E calls, .int .i64 page, .sl (ints l)], Bel 0 p := by
  simp only [List.forall_mem_cons, List.not_mem_nil, false_implies, implies_true, and_true]
  exact ⟨bel_ints _ _, graphV_bel E calls hB, bel_int _ _ _, bel_ints _ _⟩
theorem cargs_bel (sizes : List Int) (E : PV) (calls : List CallI) (page : Int) (hB : Bel 0 E) : ∀ p ∈ [PV.sl (ints sizes), graphV E calls, .int .i64 page], Bel 0 p := by
  simp only [List.forall_mem_cons, List.not_mem_nil, false_implies, implies_true, and_true]
  exact ⟨bel_ints _ _, graphV_bel E calls hB, bel_int _ _ _⟩
set_option maxHeartbeats 8000000 in
theorem pWeightF_w (sizes : List Int) (E : PV) (calls : List CallI) (page : Int) (l : List Int) (hE : PV.cell E = true) (hB : Bel 0 E) (hs : sizes.length ≤ 100) (hc : calls.length ≤ 100) (hl : l.length ≤ 100) :
    PCall Try.prog 41 [.sl (ints sizes), graphV E calls, .int .i64 page, .sl (ints l)] [] (fun p _ => p = .tup [.int .i64 (WF sizes calls page l).1, .int .i64 (WF sizes calls page l).2]) := by
  have h1 : ∀ σ, PCall Try.prog 68 [.sl (ints sizes), graphV E calls, .int .i64 page] σ (fun p σ' => p = .int .i64 (checkF sizes calls page) ∧ σ' = σ) := fun σ =>
    PCall.lift (pcheckF_w sizes E calls page hE hs hc) (cargs_bel sizes E calls page hB) (fun p h => ⟨by rw [h]; exact bel_int _ _ _, h, rfl⟩)
  have hw : ∀ (h : GoodP sizes calls page) (ho : l.Perm (natI sizes.length)) σ, PCall Try.prog 73 [.sl (ints sizes), graphV E calls, .int .i64 page, .sl (ints l)] σ (fun p σ' => p = .int .i64 (wgt sizes calls page l) ∧ σ' = σ) := fun h ho =>
    weight_on sizes E calls page l hE hB h (fun f hf => natI_mem (ho.mem_iff.1 hf)) (by omega)
  unfold graphV at h1 hw ⊢
  refine PCall.vfrz [] 33622015 31 [.tmp 8, .tmp 9] (noE_ok _) mix Try.func41 rfl (by decide) rfl rfl (by simp) ?_
  simp -dsimp only [initFr, List.zipIdx_cons, List.zipIdx_nil, List.map_cons, List.map_nil, Nat.zero_add, Nat.reduceAdd]
  simp -dsimp (maxSteps := 4000000) +contextual (disch := first | omega | decide +kernel) only [↓vsD, vsU, Bool.or_false, Bool.true_or, resW, fnRet, cond_true, cond_false, Nat.reduceShiftRight, Nat.reduceAnd, Go.PV.fits, Go.PV.mutOf, Go.PV.splice, Int.reduceToNat, Int.reduceEq, Int.reduceAdd, Int.reduceSub, Int.reduceMul, Int.reduceLE, Int.reduceLT, Int.reduceNeg, Nat.reduceMul, Nat.reduceLeDiff, ne_eq, if_true, if_false, reduceIte, Nat.reduceEqDiff, ↓Nat.reduceLT, Nat.reduceAdd, Nat.reduceBEq, reduceCtorEq, enc_length, encs_length, tyU, tyC, tyB, tyA, tyI, tyZ, tyF, tyP, enc_getD, encs_getD, wrap_i64, enc_set, splice_one, set_last, bin_snn, bin_snm, bin_sns, bin_tnn, bin_tnm, bin_tns, enc_length, hE]
  refine PCall.mono (h1 _) ?_
  rintro p σ' ⟨rfl, rfl⟩
  by_cases hz : checkF sizes calls page = 0
  · have good := checkF_good hc hz
    have hn := good.n
    have e := permB_sort l sizes.length
    rw [hz]
    simp -dsimp (maxSteps := 4000000) +contextual (disch := first | omega | decide +kernel) only [↓vsD, vsU, Bool.or_false, Bool.true_or, resW, fnRet, cond_true, cond_false, Nat.reduceShiftRight, Nat.reduceAnd, Go.PV.fits, Go.PV.mutOf, Go.PV.splice, Int.reduceToNat, Int.reduceEq, Int.reduceAdd, Int.reduceSub, Int.reduceMul, Int.reduceLE, Int.reduceLT, Int.reduceNeg, Nat.reduceMul, Nat.reduceLeDiff, ne_eq, if_true, if_false, reduceIte, Nat.reduceEqDiff, ↓Nat.reduceLT, Nat.reduceAdd, Nat.reduceBEq, reduceCtorEq, enc_length, encs_length, tyU, tyC, tyB, tyA, tyI, tyZ, tyF, tyP, enc_getD, encs_getD, wrap_i64, enc_set, splice_one, set_last, bin_snn, bin_snm, bin_sns, bin_tnn, bin_tnm, bin_tns, enc_length, hE]
    refine PCall.mono (values_ok (.sl (ints l)) rfl rfl _) ?_
    rintro p σ' ⟨rfl, rfl⟩
    simp -dsimp (maxSteps := 4000000) +contextual (disch := first | omega | decide +kernel) only [↓vsD, vsU, Bool.or_false, Bool.true_or, resW, fnRet, cond_true, cond_false, Nat.reduceShiftRight, Nat.reduceAnd, Go.PV.fits, Go.PV.mutOf, Go.PV.splice, Int.reduceToNat, Int.reduceEq, Int.reduceAdd, Int.reduceSub, Int.reduceMul, Int.reduceLE, Int.reduceLT, Int.reduceNeg, Nat.reduceMul, Nat.reduceLeDiff, ne_eq, if_true, if_false, reduceIte, Nat.reduceEqDiff, ↓Nat.reduceLT, Nat.reduceAdd, Nat.reduceBEq, reduceCtorEq, enc_length, encs_length, tyU, tyC, tyB, tyA, tyI, tyZ, tyF, tyP, enc_getD, encs_getD, wrap_i64, enc_set, splice_one, set_last, bin_snn, bin_snm, bin_sns, bin_tnn, bin_tnm, bin_tns, enc_length, hE]
    refine PCall.mono (sorted_ok 1 (.sl (ints l)) l _ rfl (.inr (.inl rfl)) (by omega)) ?_
    rintro p σ' ⟨rfl, rfl⟩
    have hml : (l.mergeSort fun x y => decide (x ≤ y)).length = l.length := List.length_mergeSort l
    generalize (l.mergeSort fun x y => decide (x ≤ y)) = srt at e hml ⊢
    simp -dsimp (maxSteps := 4000000) +contextual (disch := first | omega | decide +kernel) only [↓vsD, vsU, Bool.or_false, Bool.true_or, resW, fnRet, cond_true, cond_false, Nat.reduceShiftRight, Nat.reduceAnd, Go.PV.fits, Go.PV.mutOf, Go.PV.splice, Int.reduceToNat, Int.reduceEq, Int.reduceAdd, Int.reduceSub, Int.reduceMul, Int.reduceLE, Int.reduceLT, Int.reduceNeg, Nat.reduceMul, Nat.reduceLeDiff, ne_eq, if_true, if_false, reduceIte, Nat.reduceEqDiff, ↓Nat.reduceLT, Nat.reduceAdd, Nat.reduceBEq, reduceCtorEq, enc_length, encs_length, tyU, tyC, tyB, tyA, tyI, tyZ, tyF, tyP, enc_getD, encs_getD, wrap_i64, enc_set, splice_one, set_last, bin_snn, bin_snm, bin_sns, bin_tnn, bin_tnm, bin_tns, enc_length, hE]
    refine PCall.mono (natural_on sizes.length (by omega) _) ?_
    rintro p σ' ⟨rfl, rfl⟩
    simp -dsimp (maxSteps := 4000000) +contextual (disch := first | omega | decide +kernel) only [↓vsD, vsU, Bool.or_false, Bool.true_or, resW, fnRet, cond_true, cond_false, Nat.reduceShiftRight, Nat.reduceAnd, Go.PV.fits, Go.PV.mutOf, Go.PV.splice, Int.reduceToNat, Int.reduceEq, Int.reduceAdd, Int.reduceSub, Int.reduceMul, Int.reduceLE, Int.reduceLT, Int.reduceNeg, Nat.reduceMul, Nat.reduceLeDiff, ne_eq, if_true, if_false, reduceIte, Nat.reduceEqDiff, ↓Nat.reduceLT, Nat.reduceAdd, Nat.reduceBEq, reduceCtorEq, enc_length, encs_length, tyU, tyC, tyB, tyA, tyI, tyZ, tyF, tyP, enc_getD, encs_getD, wrap_i64, enc_set, splice_one, set_last, bin_snn, bin_snm, bin_sns, bin_tnn, bin_tnm, bin_tns, enc_length, hE]
    refine PCall.mono (equalG_ok srt (natI sizes.length) (by omega) _) ?_
    rintro p σ' ⟨rfl, rfl⟩
    rw [e]
    obtain ⟨b, hb⟩ : ∃ b, b = permB l sizes.length := ⟨_, rfl⟩
    rw [← hb]
    cases b with
    | true =>
      simp -dsimp (maxSteps := 4000000) +contextual (disch := first | omega | decide +kernel) only [↓vsD, vsU, Bool.or_false, Bool.true_or, resW, fnRet, cond_true, cond_false, Nat.reduceShiftRight, Nat.reduceAnd, Go.PV.fits, Go.PV.mutOf, Go.PV.splice, Int.reduceToNat, Int.reduceEq, Int.reduceAdd, Int.reduceSub, Int.reduceMul, Int.reduceLE, Int.reduceLT, Int.reduceNeg, Nat.reduceMul, Nat.reduceLeDiff, ne_eq, if_true, if_false, reduceIte, Nat.reduceEqDiff, ↓Nat.reduceLT, Nat.reduceAdd, Nat.reduceBEq, reduceCtorEq, enc_length, encs_length, tyU, tyC, tyB, tyA, tyI, tyZ, tyF, tyP, enc_getD, encs_getD, wrap_i64, enc_set, splice_one, set_last, bin_snn, bin_snm, bin_sns, bin_tnn, bin_tnm, bin_tns, enc_length, hE]
      refine PCall.mono (hw good (permB_iff.1 hb.symm) _) ?_
      rintro p σ' ⟨rfl, rfl⟩
      simp -dsimp (maxSteps := 4000000) +contextual (disch := first | omega | decide +kernel) only [↓vsD, vsU, Bool.or_false, Bool.true_or, resW, fnRet, cond_true, cond_false, Nat.reduceShiftRight, Nat.reduceAnd, Go.PV.fits, Go.PV.mutOf, Go.PV.splice, Int.reduceToNat, Int.reduceEq, Int.reduceAdd, Int.reduceSub, Int.reduceMul, Int.reduceLE, Int.reduceLT, Int.reduceNeg, Nat.reduceMul, Nat.reduceLeDiff, ne_eq, if_true, if_false, reduceIte, Nat.reduceEqDiff, ↓Nat.reduceLT, Nat.reduceAdd, Nat.reduceBEq, reduceCtorEq, enc_length, encs_length, tyU, tyC, tyB, tyA, tyI, tyZ, tyF, tyP, enc_getD, encs_getD, wrap_i64, enc_set, splice_one, set_last, bin_snn, bin_snm, bin_sns, bin_tnn, bin_tnm, bin_tns]
      refine fin0 (.keep _ (bel_tup2 (bel_int _ _ _) (bel_int _ _ _))) ?_
      rw [WF, if_neg (fun h => h hz), if_pos hb.symm]
    | false =>
      simp -dsimp (maxSteps := 4000000) +contextual (disch := first | omega | decide +kernel) only [↓vsD, vsU, Bool.or_false, Bool.true_or, resW, fnRet, cond_true, cond_false, Nat.reduceShiftRight, Nat.reduceAnd, Go.PV.fits, Go.PV.mutOf, Go.PV.splice, Int.reduceToNat, Int.reduceEq, Int.reduceAdd, Int.reduceSub, Int.reduceMul, Int.reduceLE, Int.reduceLT, Int.reduceNeg, Nat.reduceMul, Nat.reduceLeDiff, ne_eq, if_true, if_false, reduceIte, Nat.reduceEqDiff, ↓Nat.reduceLT, Nat.reduceAdd, Nat.reduceBEq, reduceCtorEq, enc_length, encs_length, tyU, tyC, tyB, tyA, tyI, tyZ, tyF, tyP, enc_getD, encs_getD, wrap_i64, enc_set, splice_one, set_last, bin_snn, bin_snm, bin_sns, bin_tnn, bin_tnm, bin_tns, enc_length, hE]
      refine fin0 (.keep _ (bel_tup2 (bel_int _ _ _) (bel_int _ _ _))) ?_
      rw [WF, if_neg (fun h => h hz), if_neg (by rw [← hb]; simp)]
  · simp -dsimp (maxSteps := 4000000) +contextual (disch := first | omega | decide +kernel) only [↓vsD, vsU, Bool.or_false, Bool.true_or, resW, fnRet, cond_true, cond_false, Nat.reduceShiftRight, Nat.reduceAnd, Go.PV.fits, Go.PV.mutOf, Go.PV.splice, Int.reduceToNat, Int.reduceEq, Int.reduceAdd, Int.reduceSub, Int.reduceMul, Int.reduceLE, Int.reduceLT, Int.reduceNeg, Nat.reduceMul, Nat.reduceLeDiff, ne_eq, if_true, if_false, reduceIte, Nat.reduceEqDiff, ↓Nat.reduceLT, Nat.reduceAdd, Nat.reduceBEq, reduceCtorEq, enc_length, encs_length, tyU, tyC, tyB, tyA, tyI, tyZ, tyF, tyP, enc_getD, encs_getD, wrap_i64, enc_set, splice_one, set_last, bin_snn, bin_snm, bin_sns, bin_tnn, bin_tnm, bin_tns, enc_length, hE]
    refine fin0 (.keep _ (bel_tup2 (bel_int _ _ _) (bel_int _ _ _))) ?_
    rw [WF, if_pos hz]
set_option maxHeartbeats 8000000 in
theorem rWeightF_w (sizes : List Int) (E : PV) (calls : List CallI) (page : Int) (l : List Int) (hE : PV.cell E = true) (hB : Bel 0 E) (hs : sizes.length ≤ 100) (hc : calls.length ≤ 100) (hl : l.length ≤ 100) :
    PCall Try.prog 42 [.sl (ints sizes), graphV E calls, .int .i64 page, .sl (ints l)] [] (fun p _ => p = .tup [.int .i64 (WF sizes calls page l).1, .int .i64 (WF sizes calls page l).2]) := by
  have h1 : ∀ σ, PCall Try.prog 74 [.sl (ints sizes), graphV E calls, .int .i64 page] σ (fun p σ' => p = .int .i64 (checkF sizes calls page) ∧ σ' = σ) := fun σ =>
    PCall.lift (rcheckF_w sizes E calls page hE hs hc) (cargs_bel sizes E calls page hB) (fun p h => ⟨by rw [h]; exact bel_int _ _ _, h, rfl⟩)
  have hp : ∀ σ, PCall Try.prog 75 [.sl (ints l), .int .i64 sizes.length] σ (fun p σ' => p = .bool (permB l sizes.length) ∧ σ' = σ) := fun σ =>
    PCall.lift (rperm_w l sizes.length hs hl) (by
      simp only [List.forall_mem_cons, List.not_mem_nil, false_implies, implies_true, and_true]
      exact ⟨bel_ints _ _, bel_int _ _ _⟩) (fun p h => ⟨by rw [h]; exact bel_bool _ _, h, rfl⟩)
  have hw : ∀ (h : GoodP sizes calls page) (ho : l.Perm (natI sizes.length)) σ, PCall Try.prog 76 [.sl (ints sizes), graphV E calls, .int .i64 page, .sl (ints l)] σ (fun p σ' => p = .int .i64 (wgt sizes calls page l) ∧ σ' = σ) := fun h ho σ =>
    PCall.lift (rweight_w sizes E calls page l hE h (fun f hf => natI_mem (ho.mem_iff.1 hf)) (by omega)) (wargs_bel sizes E calls page l hB) (fun p h => ⟨by rw [h]; exact bel_int _ _ _, h, rfl⟩)
  unfold graphV at h1 hw ⊢
  refine PCall.vfrz [] 4261887 28 [.tmp 8, .tmp 9] (noE_ok _) mix Try.func42 rfl (by decide) rfl rfl (by simp) ?_
  simp -dsimp only [initFr, List.zipIdx_cons, List.zipIdx_nil, List.map_cons, List.map_nil, Nat.zero_add, Nat.reduceAdd]
  simp -dsimp (maxSteps := 4000000) +contextual (disch := first | omega | decide +kernel) only [↓vsD, vsU, Bool.or_false, Bool.true_or, resW, fnRet, cond_true, cond_false, Nat.reduceShiftRight, Nat.reduceAnd, Go.PV.fits, Go.PV.mutOf, Go.PV.splice, Int.reduceToNat, Int.reduceEq, Int.reduceAdd, Int.reduceSub, Int.reduceMul, Int.reduceLE, Int.reduceLT, Int.reduceNeg, Nat.reduceMul, Nat.reduceLeDiff, ne_eq, if_true, if_false, reduceIte, Nat.reduceEqDiff, ↓Nat.reduceLT, Nat.reduceAdd, Nat.reduceBEq, reduceCtorEq, enc_length, encs_length, tyU, tyC, tyB, tyA, tyI, tyZ, tyF, tyP, enc_getD, encs_getD, wrap_i64, enc_set, splice_one, set_last, bin_snn, bin_snm, bin_sns, bin_tnn, bin_tnm, bin_tns, enc_length, hE]
  refine PCall.mono (h1 _) ?_
  rintro p σ' ⟨rfl, rfl⟩
  by_cases hz : checkF sizes calls page = 0
  · have good := checkF_good hc hz
    rw [hz]
    simp -dsimp (maxSteps := 4000000) +contextual (disch := first | omega | decide +kernel) only [↓vsD, vsU, Bool.or_false, Bool.true_or, resW, fnRet, cond_true, cond_false, Nat.reduceShiftRight, Nat.reduceAnd, Go.PV.fits, Go.PV.mutOf, Go.PV.splice, Int.reduceToNat, Int.reduceEq, Int.reduceAdd, Int.reduceSub, Int.reduceMul, Int.reduceLE, Int.reduceLT, Int.reduceNeg, Nat.reduceMul, Nat.reduceLeDiff, ne_eq, if_true, if_false, reduceIte, Nat.reduceEqDiff, ↓Nat.reduceLT, Nat.reduceAdd, Nat.reduceBEq, reduceCtorEq, enc_length, encs_length, tyU, tyC, tyB, tyA, tyI, tyZ, tyF, tyP, enc_getD, encs_getD, wrap_i64, enc_set, splice_one, set_last, bin_snn, bin_snm, bin_sns, bin_tnn, bin_tnm, bin_tns, enc_length, hE]
    refine PCall.mono (hp _) ?_
    rintro p σ' ⟨rfl, rfl⟩
    obtain ⟨b, hb⟩ : ∃ b, b = permB l sizes.length := ⟨_, rfl⟩
    rw [← hb]
    cases b with
    | true =>
      simp -dsimp (maxSteps := 4000000) +contextual (disch := first | omega | decide +kernel) only [↓vsD, vsU, Bool.or_false, Bool.true_or, resW, fnRet, cond_true, cond_false, Nat.reduceShiftRight, Nat.reduceAnd, Go.PV.fits, Go.PV.mutOf, Go.PV.splice, Int.reduceToNat, Int.reduceEq, Int.reduceAdd, Int.reduceSub, Int.reduceMul, Int.reduceLE, Int.reduceLT, Int.reduceNeg, Nat.reduceMul, Nat.reduceLeDiff, ne_eq, if_true, if_false, reduceIte, Nat.reduceEqDiff, ↓Nat.reduceLT, Nat.reduceAdd, Nat.reduceBEq, reduceCtorEq, enc_length, encs_length, tyU, tyC, tyB, tyA, tyI, tyZ, tyF, tyP, enc_getD, encs_getD, wrap_i64, enc_set, splice_one, set_last, bin_snn, bin_snm, bin_sns, bin_tnn, bin_tnm, bin_tns, enc_length, hE]
      refine PCall.mono (hw good (permB_iff.1 hb.symm) _) ?_
      rintro p σ' ⟨rfl, rfl⟩
      simp -dsimp (maxSteps := 4000000) +contextual (disch := first | omega | decide +kernel) only [↓vsD, vsU, Bool.or_false, Bool.true_or, resW, fnRet, cond_true, cond_false, Nat.reduceShiftRight, Nat.reduceAnd, Go.PV.fits, Go.PV.mutOf, Go.PV.splice, Int.reduceToNat, Int.reduceEq, Int.reduceAdd, Int.reduceSub, Int.reduceMul, Int.reduceLE, Int.reduceLT, Int.reduceNeg, Nat.reduceMul, Nat.reduceLeDiff, ne_eq, if_true, if_false, reduceIte, Nat.reduceEqDiff, ↓Nat.reduceLT, Nat.reduceAdd, Nat.reduceBEq, reduceCtorEq, enc_length, encs_length, tyU, tyC, tyB, tyA, tyI, tyZ, tyF, tyP, enc_getD, encs_getD, wrap_i64, enc_set, splice_one, set_last, bin_snn, bin_snm, bin_sns, bin_tnn, bin_tnm, bin_tns]
      refine fin0 (.keep _ (bel_tup2 (bel_int _ _ _) (bel_int _ _ _))) ?_
      rw [WF, if_neg (fun h => h hz), if_pos hb.symm]
    | false =>
      simp -dsimp (maxSteps := 4000000) +contextual (disch := first | omega | decide +kernel) only [↓vsD, vsU, Bool.or_false, Bool.true_or, resW, fnRet, cond_true, cond_false, Nat.reduceShiftRight, Nat.reduceAnd, Go.PV.fits, Go.PV.mutOf, Go.PV.splice, Int.reduceToNat, Int.reduceEq, Int.reduceAdd, Int.reduceSub, Int.reduceMul, Int.reduceLE, Int.reduceLT, Int.reduceNeg, Nat.reduceMul, Nat.reduceLeDiff, ne_eq, if_true, if_false, reduceIte, Nat.reduceEqDiff, ↓Nat.reduceLT, Nat.reduceAdd, Nat.reduceBEq, reduceCtorEq, enc_length, encs_length, tyU, tyC, tyB, tyA, tyI, tyZ, tyF, tyP, enc_getD, encs_getD, wrap_i64, enc_set, splice_one, set_last, bin_snn, bin_snm, bin_sns, bin_tnn, bin_tnm, bin_tns, enc_length, hE]
      refine fin0 (.keep _ (bel_tup2 (bel_int _ _ _) (bel_int _ _ _))) ?_
      rw [WF, if_neg (fun h => h hz), if_neg (by rw [← hb]; simp)]
  · simp -dsimp (maxSteps := 4000000) +contextual (disch := first | omega | decide +kernel) only [↓vsD, vsU, Bool.or_false, Bool.true_or, resW, fnRet, cond_true, cond_false, Nat.reduceShiftRight, Nat.reduceAnd, Go.PV.fits, Go.PV.mutOf, Go.PV.splice, Int.reduceToNat, Int.reduceEq, Int.reduceAdd, Int.reduceSub, Int.reduceMul, Int.reduceLE, Int.reduceLT, Int.reduceNeg, Nat.reduceMul, Nat.reduceLeDiff, ne_eq, if_true, if_false, reduceIte, Nat.reduceEqDiff, ↓Nat.reduceLT, Nat.reduceAdd, Nat.reduceBEq, reduceCtorEq, enc_length, encs_length, tyU, tyC, tyB, tyA, tyI, tyZ, tyF, tyP, enc_getD, encs_getD, wrap_i64, enc_set, splice_one, set_last, bin_snn, bin_snm, bin_sns, bin_tnn, bin_tnm, bin_tns, enc_length, hE]
    refine fin0 (.keep _ (bel_tup2 (bel_int _ _ _) (bel_int _ _ _))) ?_
    rw [WF, if_pos hz]
theorem pWeightF_on (sizes : List Int) (E : PV) (calls : List CallI) (page : Int) (l : List Int) (hE : PV.cell E = true) (hB : Bel 0 E) (hs : sizes.length ≤ 100) (hc : calls.length ≤ 100) (hl : l.length ≤ 100) (σ : Store) :
    PCall Try.prog 41 [.sl (ints sizes), graphV E calls, .int .i64 page, .sl (ints l)] σ (fun p σ' => p = .tup [.int .i64 (WF sizes calls page l).1, .int .i64 (WF sizes calls page l).2] ∧ σ' = σ) :=
  PCall.lift (pWeightF_w sizes E calls page l hE hB hs hc hl) (wargs_bel sizes E calls page l hB) (fun p h => ⟨by rw [h]; exact bel_tup2 (bel_int _ _ _) (bel_int _ _ _), h, rfl⟩)
theorem rWeightF_on (sizes : List Int) (E : PV) (calls : List CallI) (page : Int) (l : List Int) (hE : PV.cell E = true) (hB : Bel 0 E) (hs : sizes.length ≤ 100) (hc : calls.length ≤ 100) (hl : l.length ≤ 100) (σ : Store) :
    PCall Try.prog 42 [.sl (ints sizes), graphV E calls, .int .i64 page, .sl (ints l)] σ (fun p σ' => p = .tup [.int .i64 (WF sizes calls page l).1, .int .i64 (WF sizes calls page l).2] ∧ σ' = σ) :=
  PCall.lift (rWeightF_w sizes E calls page l hE hB hs hc hl) (wargs_bel sizes E calls page l hB) (fun p h => ⟨by rw [h]; exact bel_tup2 (bel_int _ _ _) (bel_int _ _ _), h, rfl⟩)
end Go.Proofs.Ythginmfobikdgaa
