/- Chapter 38, the walks: the law that other measures change nothing. -/
import Derived.Test.YthginmfobikdgaaGrJ
import Derived.Test.YthginmfobikdgaaPlH
set_option linter.unusedSimpArgs false
set_option linter.unusedVariables false
namespace Go.Proofs.Ythginmfobikdgaa
open Go.PV

set_option maxHeartbeats 4000000 in
theorem orderG_w (sizes : List Int) (E : PV) (calls : List CallI) (page : Int) (hE : PV.cell E = true) (hB : Bel 0 E) (h : GoodP sizes calls page) (hl : calls.length < 20) (hn7 : 7 < sizes.length) (hn : sizes.length ≤ 12) :
    PCall Try.prog 43 [.sl (ints sizes), graphV E calls, .int .i64 page] [] (fun p _ => p = .tup [.sl (ints (greedyF sizes calls page)), .int .i64 0]) := by
  have hc := pcheck_on sizes E calls page hE hB h
  have hx := greedy_on R12 sizes E calls page hE hB h hl (sorts12 hn)
  unfold graphV at hc hx ⊢
  refine PCall.vfrz [] 279039 27 [.tmp 6, .tmp 7] (noE_ok _) mix Try.func43 rfl (by decide) rfl rfl (by simp) ?_
  simp -dsimp only [initFr, List.zipIdx_cons, List.zipIdx_nil, List.map_cons, List.map_nil, Nat.zero_add, Nat.reduceAdd]
  simp -dsimp (maxSteps := 4000000) +contextual (disch := first | omega | decide +kernel) only [↓vsD, vsU, Bool.or_false, Bool.true_or, resW, fnRet, cond_true, cond_false, Nat.reduceShiftRight, Nat.reduceAnd, Go.PV.fits, Go.PV.mutOf, Go.PV.splice, Int.reduceToNat, Int.reduceEq, Int.reduceAdd, Int.reduceSub, Int.reduceMul, Int.reduceLE, Int.reduceLT, Int.reduceNeg, Nat.reduceMul, Nat.reduceLeDiff, ne_eq, if_true, if_false, reduceIte, Nat.reduceEqDiff, ↓Nat.reduceLT, Nat.reduceAdd, Nat.reduceBEq, reduceCtorEq, enc_length, encs_length, tyU, tyC, tyB, tyA, tyI, tyZ, tyF, tyP, enc_getD, encs_getD, wrap_i64, enc_set, splice_one, set_last, bin_snn, bin_snm, bin_sns, bin_tnn, bin_tnm, bin_tns, enc_length, hE]
  refine PCall.mono (hc _) ?_
  rintro p σ' ⟨rfl, rfl⟩
  simp -dsimp (maxSteps := 4000000) +contextual (disch := first | omega | decide +kernel) only [↓vsD, vsU, Bool.or_false, Bool.true_or, resW, fnRet, cond_true, cond_false, Nat.reduceShiftRight, Nat.reduceAnd, Go.PV.fits, Go.PV.mutOf, Go.PV.splice, Int.reduceToNat, Int.reduceEq, Int.reduceAdd, Int.reduceSub, Int.reduceMul, Int.reduceLE, Int.reduceLT, Int.reduceNeg, Nat.reduceMul, Nat.reduceLeDiff, ne_eq, if_true, if_false, reduceIte, Nat.reduceEqDiff, ↓Nat.reduceLT, Nat.reduceAdd, Nat.reduceBEq, reduceCtorEq, enc_length, encs_length, tyU, tyC, tyB, tyA, tyI, tyZ, tyF, tyP, enc_getD, encs_getD, wrap_i64, enc_set, splice_one, set_last, bin_snn, bin_snm, bin_sns, bin_tnn, bin_tnm, bin_tns, enc_length, hE]
  refine PCall.mono (hx _) ?_
  rintro p σ' ⟨⟨L, hL, rfl⟩, rfl⟩
  rw [greedyF_of hL]
  simp -dsimp (maxSteps := 4000000) +contextual (disch := first | omega | decide +kernel) only [↓vsD, vsU, Bool.or_false, Bool.true_or, resW, fnRet, cond_true, cond_false, Nat.reduceShiftRight, Nat.reduceAnd, Go.PV.fits, Go.PV.mutOf, Go.PV.splice, Int.reduceToNat, Int.reduceEq, Int.reduceAdd, Int.reduceSub, Int.reduceMul, Int.reduceLE, Int.reduceLT, Int.reduceNeg, Nat.reduceMul, Nat.reduceLeDiff, ne_eq, if_true, if_false, reduceIte, Nat.reduceEqDiff, ↓Nat.reduceLT, Nat.reduceAdd, Nat.reduceBEq, reduceCtorEq, enc_length, encs_length, tyU, tyC, tyB, tyA, tyI, tyZ, tyF, tyP, enc_getD, encs_getD, wrap_i64, enc_set, splice_one, set_last, bin_snn, bin_snm, bin_sns, bin_tnn, bin_tnm, bin_tns]
  exact fin0 (.keep _ (bel_tup2 (bel_ints _ _) (bel_int _ _ _))) rfl
theorem orderF_on (sizes : List Int) (E : PV) (calls : List CallI) (page : Int) (hE : PV.cell E = true) (hB : Bel 0 E) (h : GoodP sizes calls page) (hl : calls.length < 20) (hn : sizes.length ≤ 12) (σ : Store) :
    PCall Try.prog 43 [.sl (ints sizes), graphV E calls, .int .i64 page] σ (fun p σ' => p = .tup [.sl (ints (orderF sizes calls page)), .int .i64 0] ∧ σ' = σ) := by
  by_cases h7 : sizes.length ≤ 7
  · rw [orderF, if_pos h7]
    exact pOrder_on sizes E calls page hE hB h h7 σ
  · rw [orderF, if_neg h7]
    exact PCall.lift (orderG_w sizes E calls page hE hB h hl (by omega) hn) (gargs_bel sizes E calls page hB) (fun p h => ⟨by rw [h]; exact bel_tup2 (bel_ints _ _) (bel_int _ _ _), h, rfl⟩)
theorem orderF_perm (sizes : List Int) (calls : List CallI) (page : Int) (h : GoodP sizes calls page) : (orderF sizes calls page).Perm (natI sizes.length) := by
  unfold orderF
  split
  · exact (best_spec sizes calls page).1
  · exact GreedyR.perm (R := R12) h ⟨_, _, _, rfl, rfl, rfl, insS_perm _ _, rfl⟩
theorem mulL_take (a : Int) (l : List Int) (k : Nat) (h : k < l.length) : mulL a (l.take (k + 1)) = mulL a (l.take k) ++ [a * l.getD k 0] := by
  rw [mulL, List.take_add_one, List.getElem?_eq_getElem h, List.map_append, List.getD_eq_getElem?_getD, List.getElem?_eq_getElem h]; rfl
/-- Counts that are changed in part. -/
def partC (b : Int) (l : List CallI) (k : Nat) : List CallI := mulC b (l.take k) ++ l.drop k
theorem partC_length (b : Int) (l : List CallI) (k : Nat) : (partC b l k).length = l.length := by simp [partC, mulC]; omega
theorem partC_getD (b : Int) (l : List CallI) (k : Nat) (h : k < l.length) : (partC b l k).getD k default = l.getD k default := by
  rw [partC, List.getD_eq_getElem?_getD, List.getElem?_append_right (by simp [mulC]; omega), List.getD_eq_getElem?_getD]
  simp [mulC, Nat.min_eq_left (Nat.le_of_lt h)]
theorem partC_set (b : Int) (l : List CallI) (k : Nat) (h : k < l.length) : (partC b l k).set k (cMul b (l.getD k default)) = partC b l (k + 1) := by
  have h1 : (mulC b (l.take k)).length = k := by simp [mulC]; omega
  rw [partC, partC, List.set_append_right _ _ (by omega), h1, Nat.sub_self, List.drop_eq_getElem_cons h, List.set_cons_zero, List.getD_eq_getElem?_getD, List.getElem?_eq_getElem h, List.take_add_one, List.getElem?_eq_getElem h, mulC, mulC, List.map_append, List.append_assoc]
  rfl
theorem partC_all (b : Int) (l : List CallI) : partC b l l.length = mulC b l := by simp [partC]
/-- The slot of the graph that is made: an object, frozen at the last round's end. -/
def slot14 (b : Int) (calls : List CallI) (t : Nat) : PV := if t < calls.length then .ptr 4 0 0 0 else .iptr [.nils, .sl (encL (mulC b calls))] 0
theorem wide_good {sizes : List Int} {calls : List CallI} {page a b : Int} (h : GoodP sizes calls page) (hs : ∀ x ∈ sizes, 0 ≤ x ∧ x < 60) (hc : ∀ c ∈ calls, c.cnt ≤ 20) (hp : page ≤ 100) (ha : 1 ≤ a ∧ a ≤ 20) (hb : 1 ≤ b ∧ b ≤ 20) : GoodP (mulL a sizes) (mulC b calls) (a * page) := by
  have hl : (mulL a sizes).length = sizes.length := by simp [mulL]
  have hm : ∀ x m y n : Int, 0 ≤ x → x ≤ m → 0 ≤ y → y ≤ n → 0 ≤ x * y ∧ x * y ≤ m * n := fun x m y n h1 h2 h3 h4 => ⟨Int.mul_nonneg h1 h3, Int.mul_le_mul h2 h4 h3 (by omega)⟩
  refine ⟨by rw [hl]; exact h.n0, by rw [hl]; exact h.n, ?_, fun x hx => ?_, fun c hc2 => ?_, fun c hc2 => ?_, by simp [mulC]; exact h.few⟩
  · have h1 := h.pg
    have := hm (a - 1) 19 page 100 (by omega) (by omega) (by omega) hp
    have e : a * page = (a - 1) * page + page := by rw [Int.sub_mul]; omega
    omega
  · simp only [mulL, List.mem_map] at hx
    obtain ⟨y, hy, rfl⟩ := hx
    have h1 := hs y hy
    have := hm a 20 y 60 (by omega) (by omega) (by omega) (by omega)
    omega
  · simp only [mulC, List.mem_map] at hc2
    obtain ⟨d, hd, rfl⟩ := hc2
    rw [hl]
    exact h.ends d hd
  · simp only [mulC, List.mem_map] at hc2
    obtain ⟨d, hd, rfl⟩ := hc2
    have h1 := h.cnt d hd
    have h2 := hc d hd
    have := hm d.cnt 20 b 20 (by omega) (by omega) (by omega) (by omega)
    show 0 ≤ d.cnt * b ∧ d.cnt * b ≤ _
    omega
set_option maxRecDepth 8000 in
set_option maxHeartbeats 1600000 in
theorem scales_ok (l0 : List Int) (hl0 : okInts .u8 l0) (kk mm : Int) (hkk : 0 ≤ kk ∧ kk ≤ 255) (hmm : 0 ≤ mm ∧ mm ≤ 255) : PCall Try.prog 12 [.sl (PV.encI .u8 l0), .int .u8 kk, .int .u8 mm] [] (fun p _ => p = .bool true) := by
  refine PCall.vfrz [] 18446761665945927679 137 [.tmp 6] (noE_ok _) mix Try.func12 rfl (by decide) rfl rfl (by simp) ?_
  simp -dsimp only [initFr, List.zipIdx_cons, List.zipIdx_nil, List.map_cons, List.map_nil, Nat.zero_add, Nat.reduceAdd]
  simp -dsimp (maxSteps := 4000000) +contextual (disch := first | omega | decide +kernel) only [↓vsD, vsU, Bool.or_false, Bool.true_or, resW, fnRet, cond_true, cond_false, Nat.reduceShiftRight, Nat.reduceAnd, Go.PV.fits, Go.PV.mutOf, Go.PV.splice, Int.reduceToNat, Int.reduceEq, Int.reduceAdd, Int.reduceSub, Int.reduceMul, Int.reduceLE, Int.reduceLT, Int.reduceNeg, Nat.reduceMul, Nat.reduceLeDiff, ne_eq, if_true, if_false, reduceIte, Nat.reduceEqDiff, ↓Nat.reduceLT, Nat.reduceAdd, Nat.reduceBEq, reduceCtorEq, enc_length, encs_length, tyU, tyC, tyB, tyA, tyI, tyZ, tyF, tyP, enc_getD, encs_getD, wrap_i64, enc_set, splice_one, set_last, bin_snn, bin_snm, bin_sns, bin_tnn, bin_tnm, bin_tns]
  refine PCall.mono (awake38_on _) ?_
  rintro p σ' ⟨rfl, rfl⟩
  simp -dsimp (maxSteps := 4000000) +contextual (disch := first | omega | decide +kernel) only [↓vsD, vsU, Bool.or_false, Bool.true_or, resW, fnRet, cond_true, cond_false, Nat.reduceShiftRight, Nat.reduceAnd, Go.PV.fits, Go.PV.mutOf, Go.PV.splice, Int.reduceToNat, Int.reduceEq, Int.reduceAdd, Int.reduceSub, Int.reduceMul, Int.reduceLE, Int.reduceLT, Int.reduceNeg, Nat.reduceMul, Nat.reduceLeDiff, ne_eq, if_true, if_false, reduceIte, Nat.reduceEqDiff, ↓Nat.reduceLT, Nat.reduceAdd, Nat.reduceBEq, reduceCtorEq, enc_length, encs_length, tyU, tyC, tyB, tyA, tyI, tyZ, tyF, tyP, enc_getD, encs_getD, wrap_i64, enc_set, splice_one, set_last, bin_snn, bin_snm, bin_sns, bin_tnn, bin_tnm, bin_tns]
  refine PCall.mono (newC_on l0 200 _) ?_
  rintro p σ' ⟨rfl, rfl⟩
  obtain ⟨cs, hcs⟩ : ∃ cs, cs = l0.take 200 := ⟨_, rfl⟩
  have hcl : okInts .u8 cs := fun n hn => hl0 n (by rw [hcs] at hn; exact List.mem_of_mem_take hn)
  have hcn : cs.length ≤ 200 := by rw [hcs]; simp; omega
  rw [← hcs]
  simp -dsimp (maxSteps := 4000000) +contextual (disch := first | omega | decide +kernel) only [↓vsD, vsU, Bool.or_false, Bool.true_or, resW, fnRet, cond_true, cond_false, Nat.reduceShiftRight, Nat.reduceAnd, Go.PV.fits, Go.PV.mutOf, Go.PV.splice, Int.reduceToNat, Int.reduceEq, Int.reduceAdd, Int.reduceSub, Int.reduceMul, Int.reduceLE, Int.reduceLT, Int.reduceNeg, Nat.reduceMul, Nat.reduceLeDiff, ne_eq, if_true, if_false, reduceIte, Nat.reduceEqDiff, ↓Nat.reduceLT, Nat.reduceAdd, Nat.reduceBEq, reduceCtorEq, enc_length, encs_length, tyU, tyC, tyB, tyA, tyI, tyZ, tyF, tyP, enc_getD, encs_getD, wrap_i64, enc_set, splice_one, set_last, bin_snn, bin_snm, bin_sns, bin_tnn, bin_tnm, bin_tns]
  refine PCall.mono (draw38_w cs 0 1 12 (by omega) (by omega) (by omega) hcl (by omega) (by omega)) ?_
  rintro p σ' ⟨sizes, calls, page, k, rfl, rfl, hk, hs1, hs2, hsz, hcl12, good, hp100, hcc, _⟩
  obtain ⟨u, hu⟩ : ∃ u, u = kk.tmod 20 := ⟨_, rfl⟩
  have hur : 0 ≤ u ∧ u < 20 := by
    have m1 := Int.emod_nonneg kk (show (20 : Int) ≠ 0 by omega)
    have m2 := Int.emod_lt_of_pos kk (show (0 : Int) < 20 by omega)
    rw [hu, Int.tmod_eq_emod_of_nonneg hkk.1]
    exact ⟨m1, m2⟩
  obtain ⟨v, hv⟩ : ∃ v, v = mm.tmod 20 := ⟨_, rfl⟩
  have hvr : 0 ≤ v ∧ v < 20 := by
    have m1 := Int.emod_nonneg mm (show (20 : Int) ≠ 0 by omega)
    have m2 := Int.emod_lt_of_pos mm (show (0 : Int) < 20 by omega)
    rw [hv, Int.tmod_eq_emod_of_nonneg hmm.1]
    exact ⟨m1, m2⟩
  simp -dsimp (maxSteps := 4000000) +contextual (disch := first | omega | decide +kernel) only [↓vsD, vsU, Bool.or_false, Bool.true_or, resW, fnRet, cond_true, cond_false, Nat.reduceShiftRight, Nat.reduceAnd, Go.PV.fits, Go.PV.mutOf, Go.PV.splice, Int.reduceToNat, Int.reduceEq, Int.reduceAdd, Int.reduceSub, Int.reduceMul, Int.reduceLE, Int.reduceLT, Int.reduceNeg, Nat.reduceMul, Nat.reduceLeDiff, ne_eq, if_true, if_false, reduceIte, Nat.reduceEqDiff, ↓Nat.reduceLT, Nat.reduceAdd, Nat.reduceBEq, reduceCtorEq, enc_length, encs_length, tyU, tyC, tyB, tyA, tyI, tyZ, tyF, tyP, enc_getD, encs_getD, wrap_i64, enc_set, splice_one, set_last, bin_snn, bin_snm, bin_sns, bin_tnn, bin_tnm, bin_tns, ← hu, ← hv]
  obtain ⟨a, ha⟩ : ∃ a, a = 1 + u := ⟨_, rfl⟩
  obtain ⟨b, hb⟩ : ∃ b, b = 1 + v := ⟨_, rfl⟩
  have har : 1 ≤ a ∧ a ≤ 20 := by omega
  have hbr : 1 ≤ b ∧ b ≤ 20 := by omega
  rw [← ha, ← hb]
  clear hu hv hur hvr ha hb u v hcs hl0 hkk hmm
  refine v_loopS (fun i : Nat => [(7, .sl (ints sizes)), (8, .ptr 1 0 0 0), (9, .int .i64 page), (10, .int .i64 a), (11, .int .i64 b), (12, match i with | 0 => .nils | j + 1 => .msl 2 j), (13, .int .i64 i)])
    (fun i => match i with | 0 => [codes cs k, .rows 76 2 [[.nils, .sl (encL calls)]] 0] | j + 1 => [codes cs k, .rows 76 2 [[.nils, .sl (encL calls)]] 0, .rows 3 1 (ints (mulL a (sizes.take (j + 1)))) j]) (fun i => i ≤ sizes.length) (fun i => sizes.length - i) 0 (by simp [weaker, Go.PV.look]) rfl (by omega) ?_
  intro i hi
  by_cases hil : i < sizes.length
  · have hx := hsz _ (getDm (d := 0) hil)
    have ht := mulL_take a sizes i hil
    have hm : 0 ≤ a * sizes.getD i 0 ∧ a * sizes.getD i 0 ≤ 20 * 60 := ⟨Int.mul_nonneg (by omega) hx.1, Int.mul_le_mul har.2 (by omega) hx.1 (by omega)⟩
    have hil2 := hil
    generalize hq : sizes.getD i 0 = q at hx ht hm
    cases i with
    | zero =>
      simp -dsimp (maxSteps := 4000000) +contextual (disch := first | omega | decide +kernel) only [↓vsD, vsU, Bool.or_false, Bool.true_or, resW, fnRet, cond_true, cond_false, Nat.reduceShiftRight, Nat.reduceAnd, Go.PV.fits, Go.PV.mutOf, Go.PV.splice, Int.reduceToNat, Int.reduceEq, Int.reduceAdd, Int.reduceSub, Int.reduceMul, Int.reduceLE, Int.reduceLT, Int.reduceNeg, Nat.reduceMul, Nat.reduceLeDiff, ne_eq, if_true, if_false, reduceIte, Nat.reduceEqDiff, ↓Nat.reduceLT, Nat.reduceAdd, Nat.reduceBEq, reduceCtorEq, enc_length, encs_length, tyU, tyC, tyB, tyA, tyI, tyZ, tyF, tyP, enc_getD, encs_getD, wrap_i64, enc_set, splice_one, set_last, bin_snn, bin_snm, bin_sns, bin_tnn, bin_tnm, bin_tns, enc_length, hq, bytesOk, lenOk]
      exact ⟨1, (by (try dsimp only); omega), by simp [weaker, Go.PV.look], by dsimp only; rw [ht]; rfl, by omega⟩
    | succ j =>
      have hml : (mulL a (sizes.take (j + 1))).length = j + 1 := by simp [mulL]; omega
      simp -dsimp (maxSteps := 4000000) +contextual (disch := first | omega | decide +kernel) only [↓vsD, vsU, Bool.or_false, Bool.true_or, resW, fnRet, cond_true, cond_false, Nat.reduceShiftRight, Nat.reduceAnd, Go.PV.fits, Go.PV.mutOf, Go.PV.splice, Int.reduceToNat, Int.reduceEq, Int.reduceAdd, Int.reduceSub, Int.reduceMul, Int.reduceLE, Int.reduceLT, Int.reduceNeg, Nat.reduceMul, Nat.reduceLeDiff, ne_eq, if_true, if_false, reduceIte, Nat.reduceEqDiff, ↓Nat.reduceLT, Nat.reduceAdd, Nat.reduceBEq, reduceCtorEq, enc_length, encs_length, tyU, tyC, tyB, tyA, tyI, tyZ, tyF, tyP, enc_getD, encs_getD, wrap_i64, enc_set, splice_one, set_last, bin_snn, bin_snm, bin_sns, bin_tnn, bin_tnm, bin_tns, enc_length, hq, bytesOk, lenOk, hml]
      refine ⟨j + 1 + 1, (by (try dsimp only); omega), by simp [weaker, Go.PV.look], ?_, by omega⟩
      dsimp only
      rw [ht]
      simp [ints, PV.encI]
  obtain rfl : i = sizes.length := by omega
  obtain ⟨j, hj⟩ : ∃ j, sizes.length = j + 1 := ⟨sizes.length - 1, by omega⟩
  have htk : sizes.take (j + 1) = sizes := by rw [← hj, List.take_length]
  rw [hj]
  dsimp only
  rw [htk]
  clear hil hi
  have hwg : GoodP (mulL a sizes) (mulC b calls) (a * page) := wide_good good hsz (fun c hc => by have := hcc c hc; omega) hp100 har hbr
  obtain ⟨wide, hwd⟩ : ∃ wide, wide = mulL a sizes := ⟨_, rfl⟩
  rw [← hwd]
  have hwl : wide.length = sizes.length := by rw [hwd]; simp [mulL]
  obtain ⟨F, hF⟩ : ∃ F : Nat × Store → Fr, F = fun t => [(7, .sl (ints sizes)), (8, .ptr 1 0 0 0), (9, .int .i64 page), (10, .int .i64 a), (11, .int .i64 b), (12, .sl (ints wide)), (14, slot14 b calls t.1), (15, .int .i64 t.1)] := ⟨_, rfl⟩
  obtain ⟨T, hT⟩ : ∃ T : Nat × Store → Store, T = fun t => codes cs k :: .rows 76 2 [[.nils, .sl (encL calls)]] 0 :: t.2 := ⟨_, rfl⟩
  have hgp : ∀ Z : PV, Frzn [2, 3] [codes cs k, .rows 76 2 [[.nils, .sl (encL calls)]] 0, .rows 3 1 (ints wide) j, .rows 76 2 [[.nils, .nils]] 0] (.ptr 3 0 0 0) (.iptr [.nils, .sl []] 0) := fun _ => .ptr 3 0 0 0 _ _ _ [.nils, .nils] _ (by simp) rfl rfl rfl (fun i p hi => by
    match i, hi with
    | 0, hi => cases hi; exact .keep _
    | 1, hi => cases hi; exact .nils
    | i + 2, hi => simp at hi)
  have hgq : ∀ rows : List (List PV), Frzn [3, 4] [codes cs k, .rows 76 2 [[.nils, .sl (encL calls)]] 0, .dead, .rows 78 5 rows 0, .rows 76 2 [[.nils, .msl 3 0]] 0] (.ptr 4 0 0 0) (.iptr [.nils, .sl rows] 0) := fun rows => .ptr 4 0 0 0 _ _ _ [.nils, .msl 3 0] _ (by simp) rfl rfl rfl (fun i p hi => by
    match i, hi with
    | 0, hi => cases hi; exact .keep _
    | 1, hi => cases hi; exact .msl0 (by simp) rfl
    | i + 2, hi => simp at hi)
  by_cases hc0 : calls = []
  subst hc0
  have e0 : encL [] = [] := rfl
  simp -dsimp (maxSteps := 4000000) +contextual (disch := first | omega | decide +kernel) only [↓vsD, vsU, Bool.or_false, Bool.true_or, resW, fnRet, cond_true, cond_false, Nat.reduceShiftRight, Nat.reduceAnd, Go.PV.fits, Go.PV.mutOf, Go.PV.splice, Int.reduceToNat, Int.reduceEq, Int.reduceAdd, Int.reduceSub, Int.reduceMul, Int.reduceLE, Int.reduceLT, Int.reduceNeg, Nat.reduceMul, Nat.reduceLeDiff, ne_eq, if_true, if_false, reduceIte, Nat.reduceEqDiff, ↓Nat.reduceLT, Nat.reduceAdd, Nat.reduceBEq, reduceCtorEq, enc_length, encs_length, tyU, tyC, tyB, tyA, tyI, tyZ, tyF, tyP, enc_getD, encs_getD, wrap_i64, enc_set, splice_one, set_last, bin_snn, bin_snm, bin_sns, bin_tnn, bin_tnm, bin_tns, enc_length, hwl, hj, e0]
  refine v_loopF F T (fun t => t.1 ≤ ([] : List CallI).length ∧ (t.1 < ([] : List CallI).length → t.2 = [.dead, .rows 78 5 (encL (partC b [] t.1)) 0, .rows 76 2 [[.nils, .msl 3 0]] 0])) (fun t => ([] : List CallI).length - t.1) (0, [.dead, .dead]) ?_ ⟨by simp, fun h => absurd h (by simp)⟩ ?_
  · refine ⟨[2, 3], by rw [hT]; rfl, ?_⟩
    rw [hF]
    simp only [List.forall_mem_cons, List.not_mem_nil, false_implies, implies_true, and_true]
    exact ⟨.keep _, .keep _, .keep _, .keep _, .keep _, .msl0 (by simp) rfl, hgp .nils, .keep _⟩
  obtain ⟨calls, hcalls⟩ : ∃ calls : List CallI, calls = [] := ⟨_, rfl⟩
  rw [← hcalls] at hcl12 good hcc hwg hF hT hgq ⊢
  clear hcalls e0 hgp
  rotate_left
  have hcn0 : newsOk Try.prog 78 (encL calls) = true := by
    show newsOk _ _ (List.map _ _) = true
    simp [newsOk, PV.cell, tyC, CallI.row]
  obtain ⟨r0, rq, hr0⟩ : ∃ r0 rq, encL calls = r0 :: rq := by
    cases calls with
    | nil => exact absurd rfl hc0
    | cons c q => exact ⟨_, _, rfl⟩
  have hrl : rq.length + 1 ≤ 12 := by
    have := encL_length calls
    rw [hr0, List.length_cons] at this
    omega
  rw [hr0] at hcn0
  simp -dsimp (maxSteps := 4000000) +contextual (disch := first | omega | decide +kernel) only [↓vsD, vsU, Bool.or_false, Bool.true_or, resW, fnRet, cond_true, cond_false, Nat.reduceShiftRight, Nat.reduceAnd, Go.PV.fits, Go.PV.mutOf, Go.PV.splice, Int.reduceToNat, Int.reduceEq, Int.reduceAdd, Int.reduceSub, Int.reduceMul, Int.reduceLE, Int.reduceLT, Int.reduceNeg, Nat.reduceMul, Nat.reduceLeDiff, ne_eq, if_true, if_false, reduceIte, Nat.reduceEqDiff, ↓Nat.reduceLT, Nat.reduceAdd, Nat.reduceBEq, reduceCtorEq, enc_length, encs_length, tyU, tyC, tyB, tyA, tyI, tyZ, tyF, tyP, enc_getD, encs_getD, wrap_i64, enc_set, splice_one, set_last, bin_snn, bin_snm, bin_sns, bin_tnn, bin_tnm, bin_tns, enc_length, hwl, hj, hr0, hcn0, bytesOk, lenOk]
  refine v_loopF F T (fun t => t.1 ≤ calls.length ∧ (t.1 < calls.length → t.2 = [.dead, .rows 78 5 (encL (partC b calls t.1)) 0, .rows 76 2 [[.nils, .msl 3 0]] 0])) (fun t => calls.length - t.1) (0, [.dead, .rows 78 5 (encL (partC b calls 0)) 0, .rows 76 2 [[.nils, .msl 3 0]] 0]) ?_ ⟨by simp, fun h => rfl⟩ ?_
  · refine ⟨[2], by rw [hT, hr0]; show _ = _ :: _ :: _ :: _ :: _; rw [show partC b calls 0 = calls by simp [partC, mulC], hr0], ?_⟩
    rw [hF]
    have e14 : slot14 b calls 0 = .ptr 4 0 0 0 := by
      rw [slot14, if_pos]
      exact List.length_pos_iff.2 hc0
    simp only [List.forall_mem_cons, List.not_mem_nil, false_implies, implies_true, and_true, e14]
    exact ⟨.keep _, .keep _, .keep _, .keep _, .keep _, .msl0 (by simp) rfl, .keep _, .keep _⟩
  clear hcn0 hr0 hrl r0 rq hgp hc0
  all_goals
    rintro ⟨t, R⟩ ⟨ht, hR⟩
    dsimp only at ht hR
    rw [hF, hT]
    dsimp only
    by_cases htl : t < calls.length
    · obtain rfl := hR htl
      have e14 : slot14 b calls t = .ptr 4 0 0 0 := by rw [slot14, if_pos htl]
      have hpl := partC_length b calls t
      have hps := partC_set b calls t htl
      have hcb := hcc _ (getDm (d := default) htl)
      have hrow : (encL (partC b calls t)).getD t [] = [.int .i64 (calls.getD t default).fn, .int .i64 (calls.getD t default).blk, .int .i64 (calls.getD t default).ins, .int .i64 (calls.getD t default).cal, .int .i64 (calls.getD t default).cnt] := by rw [encL_getD _ _ (by omega), partC_getD _ _ _ htl]
      obtain ⟨c, hc⟩ : ∃ c, c = calls.getD t default := ⟨_, rfl⟩
      rw [← hc] at hps hcb hrow
      have hm : 0 ≤ c.cnt * b ∧ c.cnt * b ≤ 20 * 20 := ⟨Int.mul_nonneg hcb.1 (by omega), Int.mul_le_mul (by omega) hbr.2 (by omega) (by omega)⟩
      rw [e14]
      simp -dsimp (maxSteps := 4000000) +contextual (disch := first | omega | decide +kernel) only [↓vsD, vsU, Bool.or_false, Bool.true_or, resW, fnRet, cond_true, cond_false, Nat.reduceShiftRight, Nat.reduceAnd, Go.PV.fits, Go.PV.mutOf, Go.PV.splice, Int.reduceToNat, Int.reduceEq, Int.reduceAdd, Int.reduceSub, Int.reduceMul, Int.reduceLE, Int.reduceLT, Int.reduceNeg, Nat.reduceMul, Nat.reduceLeDiff, ne_eq, if_true, if_false, reduceIte, Nat.reduceEqDiff, ↓Nat.reduceLT, Nat.reduceAdd, Nat.reduceBEq, reduceCtorEq, enc_length, encs_length, tyU, tyC, tyB, tyA, tyI, tyZ, tyF, tyP, enc_getD, encs_getD, wrap_i64, enc_set, splice_one, set_last, bin_snn, bin_snm, bin_sns, bin_tnn, bin_tnm, bin_tns, encL_length, hpl, hrow]
      have hset : (encL (partC b calls t)).set t [.int .i64 c.fn, .int .i64 c.blk, .int .i64 c.ins, .int .i64 c.cal, .int .i64 (c.cnt * b)] = encL (partC b calls (t + 1)) := by rw [encL_setc, ← hps]; rfl
      rw [hset]
      by_cases hlast : t + 1 < calls.length
      · exact ⟨(t + 1, [.dead, .rows 78 5 (encL (partC b calls (t + 1))) 0, .rows 76 2 [[.nils, .msl 3 0]] 0]), by (try dsimp only); omega, frzTo_weaker (by simp [weaker, Go.PV.look, slot14, hlast]), by dsimp only; omega, fun _ => rfl⟩
      · refine ⟨(t + 1, [.dead, .dead, .dead]), by (try dsimp only); omega, ⟨[3, 4], rfl, ?_⟩, by dsimp only; omega, fun h => absurd h hlast⟩
        have e14 : slot14 b calls (t + 1) = .iptr [.nils, .sl (encL (partC b calls (t + 1)))] 0 := by
          rw [slot14, if_neg hlast, show t + 1 = calls.length by omega, partC_all]
        simp only [List.forall_mem_cons, List.not_mem_nil, false_implies, implies_true, and_true, e14]
        exact ⟨.keep _, .keep _, .keep _, .keep _, .keep _, .keep _, hgq _, .keep _⟩
    · obtain rfl : t = calls.length := by omega
      have e14 : slot14 b calls calls.length = .iptr [.nils, .sl (encL (mulC b calls))] 0 := by rw [slot14, if_neg htl]
      have hml : (encL (mulC b calls)).length = calls.length := by rw [encL_length]; simp [mulC]
      have hml2 : (mulC b calls).length = calls.length := by simp [mulC]
      have o1 := orderF_on sizes .nils calls page rfl (bel_nils _) good (by omega) hs2
      rw [← hwd] at hwg
      have o2 := orderF_on wide .nils (mulC b calls) (a * page) rfl (bel_nils _) hwg (by omega) (by omega)
      have hperm := orderF_perm sizes calls page good
      have hX : orderF wide (mulC b calls) (a * page) = orderF sizes calls page := by rw [hwd]; exact orderF_mul a b (by omega) (by omega) sizes calls page
      rw [hX] at o2
      obtain ⟨X, hXd⟩ : ∃ X, X = orderF sizes calls page := ⟨_, rfl⟩
      rw [← hXd] at o1 o2 hperm
      have w1 := pWeight_on sizes .nils calls page X rfl (bel_nils _) good hperm
      have w2 := pWeight_on wide .nils (mulC b calls) (a * page) X rfl (bel_nils _) hwg (by rw [hwl]; exact hperm)
      rw [show wgt wide (mulC b calls) (a * page) X = b * wgt sizes calls page X by rw [hwd, wgt_mul a b (by omega)]] at w2
      have hWr := wsum_range (pgL sizes page X X.length) calls good.cnt calls.length (Nat.le_refl _)
      rw [show wsum (pgL sizes page X X.length) calls calls.length = wgt sizes calls page X from rfl] at hWr
      obtain ⟨W, hW⟩ : ∃ W, W = wgt sizes calls page X := ⟨_, rfl⟩
      rw [← hW] at w1 w2 hWr
      have hWr2 : 0 ≤ W ∧ W ≤ 12 * 1099511627776 := by omega
      have hbW : 0 ≤ b * W ∧ b * W ≤ 20 * (12 * 1099511627776) := ⟨Int.mul_nonneg (by omega) hWr2.1, Int.mul_le_mul hbr.2 hWr2.2 hWr2.1 (by omega)⟩
      have hpg := good.pg
      have hap : 0 ≤ a * page ∧ a * page ≤ 20 * 100 := ⟨Int.mul_nonneg (by omega) (by omega), Int.mul_le_mul har.2 hp100 (by omega) (by omega)⟩
      have ei := eqI_ok X X (by rw [hperm.length_eq, natI_length]; omega) rfl
      rw [decide_eq_true (rfl : X = X)] at ei
      unfold graphV at o1 o2 w1 w2
      rw [e14]
      generalize mulC b calls = calls2 at *
      clear hwd hXd hX hW hWr good hwg hR hgq hcc hperm hF hT
      simp -dsimp (maxSteps := 4000000) +contextual (disch := first | omega | decide +kernel) only [↓vsD, vsU, Bool.or_false, Bool.true_or, resW, fnRet, cond_true, cond_false, Nat.reduceShiftRight, Nat.reduceAnd, Go.PV.fits, Go.PV.mutOf, Go.PV.splice, Int.reduceToNat, Int.reduceEq, Int.reduceAdd, Int.reduceSub, Int.reduceMul, Int.reduceLE, Int.reduceLT, Int.reduceNeg, Nat.reduceMul, Nat.reduceLeDiff, ne_eq, if_true, if_false, reduceIte, Nat.reduceEqDiff, ↓Nat.reduceLT, Nat.reduceAdd, Nat.reduceBEq, reduceCtorEq, enc_length, encs_length, tyU, tyC, tyB, tyA, tyI, tyZ, tyF, tyP, enc_getD, encs_getD, wrap_i64, enc_set, splice_one, set_last, bin_snn, bin_snm, bin_sns, bin_tnn, bin_tnm, bin_tns, encL_length, hml, hml2]
      refine PCall.mono (o1 _) ?_
      rintro p σ' ⟨rfl, rfl⟩
      simp -dsimp (maxSteps := 4000000) +contextual (disch := first | omega | decide +kernel) only [↓vsD, vsU, Bool.or_false, Bool.true_or, resW, fnRet, cond_true, cond_false, Nat.reduceShiftRight, Nat.reduceAnd, Go.PV.fits, Go.PV.mutOf, Go.PV.splice, Int.reduceToNat, Int.reduceEq, Int.reduceAdd, Int.reduceSub, Int.reduceMul, Int.reduceLE, Int.reduceLT, Int.reduceNeg, Nat.reduceMul, Nat.reduceLeDiff, ne_eq, if_true, if_false, reduceIte, Nat.reduceEqDiff, ↓Nat.reduceLT, Nat.reduceAdd, Nat.reduceBEq, reduceCtorEq, enc_length, encs_length, tyU, tyC, tyB, tyA, tyI, tyZ, tyF, tyP, enc_getD, encs_getD, wrap_i64, enc_set, splice_one, set_last, bin_snn, bin_snm, bin_sns, bin_tnn, bin_tnm, bin_tns]
      refine PCall.mono (o2 _) ?_
      rintro p σ' ⟨rfl, rfl⟩
      simp -dsimp (maxSteps := 4000000) +contextual (disch := first | omega | decide +kernel) only [↓vsD, vsU, Bool.or_false, Bool.true_or, resW, fnRet, cond_true, cond_false, Nat.reduceShiftRight, Nat.reduceAnd, Go.PV.fits, Go.PV.mutOf, Go.PV.splice, Int.reduceToNat, Int.reduceEq, Int.reduceAdd, Int.reduceSub, Int.reduceMul, Int.reduceLE, Int.reduceLT, Int.reduceNeg, Nat.reduceMul, Nat.reduceLeDiff, ne_eq, if_true, if_false, reduceIte, Nat.reduceEqDiff, ↓Nat.reduceLT, Nat.reduceAdd, Nat.reduceBEq, reduceCtorEq, enc_length, encs_length, tyU, tyC, tyB, tyA, tyI, tyZ, tyF, tyP, enc_getD, encs_getD, wrap_i64, enc_set, splice_one, set_last, bin_snn, bin_snm, bin_sns, bin_tnn, bin_tnm, bin_tns]
      refine PCall.mono (w1 _) ?_
      rintro p σ' ⟨rfl, rfl⟩
      simp -dsimp (maxSteps := 4000000) +contextual (disch := first | omega | decide +kernel) only [↓vsD, vsU, Bool.or_false, Bool.true_or, resW, fnRet, cond_true, cond_false, Nat.reduceShiftRight, Nat.reduceAnd, Go.PV.fits, Go.PV.mutOf, Go.PV.splice, Int.reduceToNat, Int.reduceEq, Int.reduceAdd, Int.reduceSub, Int.reduceMul, Int.reduceLE, Int.reduceLT, Int.reduceNeg, Nat.reduceMul, Nat.reduceLeDiff, ne_eq, if_true, if_false, reduceIte, Nat.reduceEqDiff, ↓Nat.reduceLT, Nat.reduceAdd, Nat.reduceBEq, reduceCtorEq, enc_length, encs_length, tyU, tyC, tyB, tyA, tyI, tyZ, tyF, tyP, enc_getD, encs_getD, wrap_i64, enc_set, splice_one, set_last, bin_snn, bin_snm, bin_sns, bin_tnn, bin_tnm, bin_tns]
      refine PCall.mono (w2 _) ?_
      rintro p σ' ⟨rfl, rfl⟩
      simp -dsimp (maxSteps := 4000000) +contextual (disch := first | omega | decide +kernel) only [↓vsD, vsU, Bool.or_false, Bool.true_or, resW, fnRet, cond_true, cond_false, Nat.reduceShiftRight, Nat.reduceAnd, Go.PV.fits, Go.PV.mutOf, Go.PV.splice, Int.reduceToNat, Int.reduceEq, Int.reduceAdd, Int.reduceSub, Int.reduceMul, Int.reduceLE, Int.reduceLT, Int.reduceNeg, Nat.reduceMul, Nat.reduceLeDiff, ne_eq, if_true, if_false, reduceIte, Nat.reduceEqDiff, ↓Nat.reduceLT, Nat.reduceAdd, Nat.reduceBEq, reduceCtorEq, enc_length, encs_length, tyU, tyC, tyB, tyA, tyI, tyZ, tyF, tyP, enc_getD, encs_getD, wrap_i64, enc_set, splice_one, set_last, bin_snn, bin_snm, bin_sns, bin_tnn, bin_tnm, bin_tns]
      refine PCall.mono (ei _) ?_
      rintro p σ' ⟨rfl, rfl⟩
      simp -dsimp (maxSteps := 4000000) +contextual (disch := first | omega | decide +kernel) only [↓vsD, vsU, Bool.or_false, Bool.true_or, resW, fnRet, cond_true, cond_false, Nat.reduceShiftRight, Nat.reduceAnd, Go.PV.fits, Go.PV.mutOf, Go.PV.splice, Int.reduceToNat, Int.reduceEq, Int.reduceAdd, Int.reduceSub, Int.reduceMul, Int.reduceLE, Int.reduceLT, Int.reduceNeg, Nat.reduceMul, Nat.reduceLeDiff, ne_eq, if_true, if_false, reduceIte, Nat.reduceEqDiff, ↓Nat.reduceLT, Nat.reduceAdd, Nat.reduceBEq, reduceCtorEq, enc_length, encs_length, tyU, tyC, tyB, tyA, tyI, tyZ, tyF, tyP, enc_getD, encs_getD, wrap_i64, enc_set, splice_one, set_last, bin_snn, bin_snm, bin_sns, bin_tnn, bin_tnm, bin_tns]
      exact fin0 (.keep _ (bel_bool _ _)) rfl
end Go.Proofs.Ythginmfobikdgaa
