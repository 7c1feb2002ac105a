/- Chapter 38: greedy and the best order: what the laws need. -/
import Derived.Test.YthginmfobikdgaaGrG
import Derived.Test.YthginmfobikdgaaPlG
import Derived.Test.YthginmfobikdgaaPlE
set_option linter.unusedSimpArgs false
set_option linter.unusedVariables false
namespace Go.Proofs.Ythginmfobikdgaa
open Go.PV

/-- The best order: least, and the first of the least. -/
theorem best_spec (sizes : List Int) (calls : List CallI) (page : Int) : (bestO sizes calls page).Perm (natI sizes.length) ∧ ∀ x : List Int, x.Perm (natI sizes.length) → wgt sizes calls page (bestO sizes calls page) ≤ wgt sizes calls page x ∧ (wgt sizes calls page x = wgt sizes calls page (bestO sizes calls page) → x = bestO sizes calls page ∨ lexI (bestO sizes calls page) x = true) := by
  unfold bestO
  rw [visitB_exts]
  have hmem : natI sizes.length ∈ extsB sizes.length sizes.length [] := exts_perm.2 (.refl _)
  have hsort := exts_sorted sizes.length sizes.length []
  cases hL : extsB sizes.length sizes.length [] with
  | nil => rw [hL] at hmem; cases hmem
  | cons x0 L =>
    rw [hL] at hsort
    rw [List.foldl_cons, show updB (wgt sizes calls page) (none, 0) x0 = (some x0, wgt sizes calls page x0) from by rw [updB, if_pos (.inl rfl)]]
    obtain ⟨y, h1, h2, h3, A, B, h4, h5⟩ := fold_best (wgt sizes calls page) L x0
    rw [h1]
    simp only [Option.getD_some]
    refine ⟨exts_perm.1 (by rw [hL]; exact h2), fun x hx => ?_⟩
    have hx2 := exts_perm.2 hx
    rw [hL] at hx2
    refine ⟨h3 x hx2, fun he => ?_⟩
    rw [h4] at hx2 hsort
    rcases List.mem_append.1 hx2 with ha | hb
    · have := h5 x ha
      omega
    · rcases List.mem_cons.1 hb with rfl | hb
      · exact .inl rfl
      · refine .inr ?_
        exact (List.pairwise_cons.1 (List.pairwise_append.1 hsort).2.1).1 x hb
theorem outG_live (gs : List Grp) : ∀ l : List Int, outG gs (l.filter fun x => !decide ((gs.getD x.toNat default).1 = [])) = outG gs l
  | [] => rfl
  | x :: l => by
    rw [List.filter_cons]
    split
    · rw [outG, outG, List.flatMap_cons, List.flatMap_cons]
      exact congrArg _ (outG_live gs l)
    · rename_i h
      have h2 : (gs.getD x.toNat default).1 = [] := by simpa using h
      rw [outG_live gs l]
      unfold outG
      rw [List.flatMap_cons, h2]; rfl
theorem outG_nat (gs : List Grp) : outG gs (natI gs.length) = (gs.map (·.1)).flatten := by
  unfold outG natI
  rw [List.flatMap_map, List.flatMap_def]
  congr 1
  apply List.ext_getElem?
  intro j
  rw [List.getElem?_map, List.getElem?_map]
  by_cases hj : j < gs.length
  · rw [List.getElem?_range hj, List.getElem?_eq_getElem hj]
    simp [List.getD_eq_getElem?_getD, List.getElem?_eq_getElem hj]
  · rw [List.getElem?_eq_none (by simpa using hj), List.getElem?_eq_none (by simpa using hj)]; rfl
theorem GreedyR.perm {R : (Int → Int → Int) → List Int → List Int → Prop} {sizes : List Int} {calls : List CallI} {page : Int} {out : List Int} (h : GoodP sizes calls page) (hg : GreedyR R sizes calls page out) : out.Perm (natI sizes.length) := by
  obtain ⟨s, wi, L, hs, _, _, hp, rfl⟩ := hg
  have hI : GI sizes.length s := by
    rw [hs]
    refine GI.run (page := page) h.pg.2 _ _ (GI.init h.sz) (fun c hc => h.ends c ?_)
    rw [hotF] at hc
    exact (List.mem_filter.1 ((insS_perm _ _).mem_iff.1 hc)).1
  have h1 : (outG s.gs L).Perm (outG s.gs (liveG s.gs sizes.length)) := hp.flatMap_right _
  refine h1.trans ?_
  rw [liveG, outG_live, ← hI.gl, outG_nat, hI.gl]
  exact hI.all
theorem sorts12 {n : Nat} (hn : n ≤ 12) : SortsI n (fun cf L0 L => L = insS (ltOf cf) L0) := fun o v L0 F cap cf σ ho hl hFn hF => by
  refine PCall.mono (sortI_ok o v L0 F cap cf σ ho (by omega) hFn (fun X a b ha hb => by
    have := hF X [] a b ha hb
    rw [List.append_nil] at this
    exact this)) ?_
  rintro p σ' ⟨rfl, rfl⟩
  exact ⟨rfl, _, rfl, insS_perm _ _, rfl⟩

/-! Greedy, Exact. -/
theorem gargs_bel (sizes : List Int) (E : PV) (calls : List CallI) (page : Int) (hB : Bel 0 E) : ∀ p ∈ [PV.sl (ints sizes), graphV E calls, .int .i64 page], Bel 0 p := by
  simp only [List.forall_mem_cons, List.not_mem_nil, false_implies, implies_true, and_true]
  exact ⟨bel_ints _ _, graphV_bel E calls hB, bel_int _ _ _⟩
theorem greedy_on (R : (Int → Int → Int) → List Int → List Int → Prop) (sizes : List Int) (E : PV) (calls : List CallI) (page : Int) (hE : PV.cell E = true) (hB : Bel 0 E) (h : GoodP sizes calls page) (hl : calls.length < 20) (hS : SortsI sizes.length R) (σ : Store) :
    PCall Try.prog 77 [.sl (ints sizes), graphV E calls, .int .i64 page] σ (fun p σ' => (∃ L, GreedyR R sizes calls page L ∧ p = .sl (ints L)) ∧ σ' = σ) :=
  PCall.lift (greedy_w R sizes E calls page hE hB h hl hS) (gargs_bel sizes E calls page hB) (fun p h => ⟨by obtain ⟨L, _, h⟩ := h; rw [h]; exact bel_ints _ _, h, rfl⟩)
set_option maxHeartbeats 4000000 in
theorem pGreedy_w (R : (Int → Int → Int) → List Int → List Int → Prop) (sizes : List Int) (E : PV) (calls : List CallI) (page : Int) (hE : PV.cell E = true) (hB : Bel 0 E) (h : GoodP sizes calls page) (hl : calls.length < 20) (hS : SortsI sizes.length R) :
    PCall Try.prog 45 [.sl (ints sizes), graphV E calls, .int .i64 page] [] (fun p _ => ∃ L, GreedyR R sizes calls page L ∧ p = .tup [.sl (ints L), .int .i64 0]) := by
  have hc := pcheck_on sizes E calls page hE hB h
  have hx := greedy_on R sizes E calls page hE hB h hl hS
  unfold graphV at hc hx ⊢
  refine PCall.vfrz [] 16895 20 [.tmp 6, .tmp 7] (noE_ok _) mix Try.func45 rfl (by decide) rfl rfl (by simp) ?_
  simp -dsimp only [initFr, List.zipIdx_cons, List.zipIdx_nil, List.map_cons, List.map_nil, Nat.zero_add, Nat.reduceAdd]
  simp -dsimp (maxSteps := 4000000) +contextual (disch := first | omega | decide +kernel) only [↓vsD, vsU, Bool.or_false, Bool.true_or, resW, fnRet, cond_true, cond_false, Nat.reduceShiftRight, Nat.reduceAnd, Go.PV.fits, Go.PV.mutOf, Go.PV.splice, Int.reduceToNat, Int.reduceEq, Int.reduceAdd, Int.reduceSub, Int.reduceMul, Int.reduceLE, Int.reduceLT, Int.reduceNeg, Nat.reduceMul, Nat.reduceLeDiff, ne_eq, if_true, if_false, reduceIte, Nat.reduceEqDiff, ↓Nat.reduceLT, Nat.reduceAdd, Nat.reduceBEq, reduceCtorEq, enc_length, encs_length, tyU, tyC, tyB, tyA, tyI, tyZ, tyF, tyP, enc_getD, encs_getD, wrap_i64, enc_set, splice_one, set_last, bin_snn, bin_snm, bin_sns, bin_tnn, bin_tnm, bin_tns, enc_length, hE]
  refine PCall.mono (hc _) ?_
  rintro p σ' ⟨rfl, rfl⟩
  simp -dsimp (maxSteps := 4000000) +contextual (disch := first | omega | decide +kernel) only [↓vsD, vsU, Bool.or_false, Bool.true_or, resW, fnRet, cond_true, cond_false, Nat.reduceShiftRight, Nat.reduceAnd, Go.PV.fits, Go.PV.mutOf, Go.PV.splice, Int.reduceToNat, Int.reduceEq, Int.reduceAdd, Int.reduceSub, Int.reduceMul, Int.reduceLE, Int.reduceLT, Int.reduceNeg, Nat.reduceMul, Nat.reduceLeDiff, ne_eq, if_true, if_false, reduceIte, Nat.reduceEqDiff, ↓Nat.reduceLT, Nat.reduceAdd, Nat.reduceBEq, reduceCtorEq, enc_length, encs_length, tyU, tyC, tyB, tyA, tyI, tyZ, tyF, tyP, enc_getD, encs_getD, wrap_i64, enc_set, splice_one, set_last, bin_snn, bin_snm, bin_sns, bin_tnn, bin_tnm, bin_tns, enc_length, hE]
  refine PCall.mono (hx _) ?_
  rintro p σ' ⟨⟨L, hL, rfl⟩, rfl⟩
  simp -dsimp (maxSteps := 4000000) +contextual (disch := first | omega | decide +kernel) only [↓vsD, vsU, Bool.or_false, Bool.true_or, resW, fnRet, cond_true, cond_false, Nat.reduceShiftRight, Nat.reduceAnd, Go.PV.fits, Go.PV.mutOf, Go.PV.splice, Int.reduceToNat, Int.reduceEq, Int.reduceAdd, Int.reduceSub, Int.reduceMul, Int.reduceLE, Int.reduceLT, Int.reduceNeg, Nat.reduceMul, Nat.reduceLeDiff, ne_eq, if_true, if_false, reduceIte, Nat.reduceEqDiff, ↓Nat.reduceLT, Nat.reduceAdd, Nat.reduceBEq, reduceCtorEq, enc_length, encs_length, tyU, tyC, tyB, tyA, tyI, tyZ, tyF, tyP, enc_getD, encs_getD, wrap_i64, enc_set, splice_one, set_last, bin_snn, bin_snm, bin_sns, bin_tnn, bin_tnm, bin_tns]
  exact fin0 (.keep _ (bel_tup2 (bel_ints _ _) (bel_int _ _ _))) ⟨L, hL, rfl⟩
theorem pGreedy_on (R : (Int → Int → Int) → List Int → List Int → Prop) (sizes : List Int) (E : PV) (calls : List CallI) (page : Int) (hE : PV.cell E = true) (hB : Bel 0 E) (h : GoodP sizes calls page) (hl : calls.length < 20) (hS : SortsI sizes.length R) (σ : Store) :
    PCall Try.prog 45 [.sl (ints sizes), graphV E calls, .int .i64 page] σ (fun p σ' => (∃ L, GreedyR R sizes calls page L ∧ p = .tup [.sl (ints L), .int .i64 0]) ∧ σ' = σ) :=
  PCall.lift (pGreedy_w R sizes E calls page hE hB h hl hS) (gargs_bel sizes E calls page hB) (fun p h => ⟨by obtain ⟨L, _, h⟩ := h; rw [h]; exact bel_tup2 (bel_ints _ _) (bel_int _ _ _), h, rfl⟩)
set_option maxHeartbeats 4000000 in
theorem pExact_w (sizes : List Int) (E : PV) (calls : List CallI) (page : Int) (hE : PV.cell E = true) (hB : Bel 0 E) (h : GoodP sizes calls page) (hn : sizes.length ≤ 7) :
    PCall Try.prog 46 [.sl (ints sizes), graphV E calls, .int .i64 page] [] (fun p _ => p = .tup [.sl (ints (bestO sizes calls page)), .int .i64 0]) := by
  have hc := pcheck_on sizes E calls page hE hB h
  have hx := exact_on sizes E calls page hE hB h
  unfold graphV at hc hx ⊢
  refine PCall.vfrz [] 279039 23 [.tmp 6, .tmp 7] (noE_ok _) mix Try.func46 rfl (by decide) rfl rfl (by simp) ?_
  simp -dsimp only [initFr, List.zipIdx_cons, List.zipIdx_nil, List.map_cons, List.map_nil, Nat.zero_add, Nat.reduceAdd]
  simp -dsimp (maxSteps := 4000000) +contextual (disch := first | omega | decide +kernel) only [↓vsD, vsU, Bool.or_false, Bool.true_or, resW, fnRet, cond_true, cond_false, Nat.reduceShiftRight, Nat.reduceAnd, Go.PV.fits, Go.PV.mutOf, Go.PV.splice, Int.reduceToNat, Int.reduceEq, Int.reduceAdd, Int.reduceSub, Int.reduceMul, Int.reduceLE, Int.reduceLT, Int.reduceNeg, Nat.reduceMul, Nat.reduceLeDiff, ne_eq, if_true, if_false, reduceIte, Nat.reduceEqDiff, ↓Nat.reduceLT, Nat.reduceAdd, Nat.reduceBEq, reduceCtorEq, enc_length, encs_length, tyU, tyC, tyB, tyA, tyI, tyZ, tyF, tyP, enc_getD, encs_getD, wrap_i64, enc_set, splice_one, set_last, bin_snn, bin_snm, bin_sns, bin_tnn, bin_tnm, bin_tns, enc_length, hE]
  refine PCall.mono (hc _) ?_
  rintro p σ' ⟨rfl, rfl⟩
  simp -dsimp (maxSteps := 4000000) +contextual (disch := first | omega | decide +kernel) only [↓vsD, vsU, Bool.or_false, Bool.true_or, resW, fnRet, cond_true, cond_false, Nat.reduceShiftRight, Nat.reduceAnd, Go.PV.fits, Go.PV.mutOf, Go.PV.splice, Int.reduceToNat, Int.reduceEq, Int.reduceAdd, Int.reduceSub, Int.reduceMul, Int.reduceLE, Int.reduceLT, Int.reduceNeg, Nat.reduceMul, Nat.reduceLeDiff, ne_eq, if_true, if_false, reduceIte, Nat.reduceEqDiff, ↓Nat.reduceLT, Nat.reduceAdd, Nat.reduceBEq, reduceCtorEq, enc_length, encs_length, tyU, tyC, tyB, tyA, tyI, tyZ, tyF, tyP, enc_getD, encs_getD, wrap_i64, enc_set, splice_one, set_last, bin_snn, bin_snm, bin_sns, bin_tnn, bin_tnm, bin_tns, enc_length, hE]
  refine PCall.mono (hx _) ?_
  rintro p σ' ⟨rfl, rfl⟩
  simp -dsimp (maxSteps := 4000000) +contextual (disch := first | omega | decide +kernel) only [↓vsD, vsU, Bool.or_false, Bool.true_or, resW, fnRet, cond_true, cond_false, Nat.reduceShiftRight, Nat.reduceAnd, Go.PV.fits, Go.PV.mutOf, Go.PV.splice, Int.reduceToNat, Int.reduceEq, Int.reduceAdd, Int.reduceSub, Int.reduceMul, Int.reduceLE, Int.reduceLT, Int.reduceNeg, Nat.reduceMul, Nat.reduceLeDiff, ne_eq, if_true, if_false, reduceIte, Nat.reduceEqDiff, ↓Nat.reduceLT, Nat.reduceAdd, Nat.reduceBEq, reduceCtorEq, enc_length, encs_length, tyU, tyC, tyB, tyA, tyI, tyZ, tyF, tyP, enc_getD, encs_getD, wrap_i64, enc_set, splice_one, set_last, bin_snn, bin_snm, bin_sns, bin_tnn, bin_tnm, bin_tns]
  exact fin0 (.keep _ (bel_tup2 (bel_ints _ _) (bel_int _ _ _))) rfl
theorem pExact_on (sizes : List Int) (E : PV) (calls : List CallI) (page : Int) (hE : PV.cell E = true) (hB : Bel 0 E) (h : GoodP sizes calls page) (hn : sizes.length ≤ 7) (σ : Store) :
    PCall Try.prog 46 [.sl (ints sizes), graphV E calls, .int .i64 page] σ (fun p σ' => p = .tup [.sl (ints (bestO sizes calls page)), .int .i64 0] ∧ σ' = σ) :=
  PCall.lift (pExact_w sizes E calls page hE hB h hn) (gargs_bel sizes E calls page hB) (fun p h => ⟨by rw [h]; exact bel_tup2 (bel_ints _ _) (bel_int _ _ _), h, rfl⟩)

/-! Lists held against each other. -/
theorem eqI_ok (a b : List Int) (ha : a.length < 2 ^ 40) (hl : a.length = b.length) (σ : Store) : PCall Try.prog 44 [.sl (ints a), .sl (ints b)] σ (fun p σ' => p = .bool (decide (a = b)) ∧ σ' = σ) := by
  refine PCall.vraw [] 33571903 26 [.tmp 4] (noE_ok _) mix Try.func44 rfl (by decide) rfl rfl (by simp) ?_
  simp -dsimp only [initFr, List.zipIdx_cons, List.zipIdx_nil, List.map_cons, List.map_nil, Nat.zero_add, Nat.reduceAdd]
  simp -dsimp (maxSteps := 4000000) +contextual (disch := first | omega | decide +kernel) only [↓vsD, vsU, Bool.or_false, Bool.true_or, resW, fnRet, cond_true, cond_false, Nat.reduceShiftRight, Nat.reduceAnd, Go.PV.fits, Go.PV.mutOf, Go.PV.splice, Int.reduceToNat, Int.reduceEq, Int.reduceAdd, Int.reduceSub, Int.reduceMul, Int.reduceLE, Int.reduceLT, Int.reduceNeg, Nat.reduceMul, Nat.reduceLeDiff, ne_eq, if_true, if_false, reduceIte, Nat.reduceEqDiff, ↓Nat.reduceLT, Nat.reduceAdd, Nat.reduceBEq, reduceCtorEq, enc_length, encs_length, tyU, tyC, tyB, tyA, tyI, tyZ, tyF, tyP, enc_getD, encs_getD, wrap_i64, enc_set, splice_one, set_last, bin_snn, bin_snm, bin_sns, bin_tnn, bin_tnm, bin_tns, enc_length, hl]
  refine v_loopS (fun i : Nat => [(0, .sl (ints a)), (1, .sl (ints b)), (5, .int .i64 i)]) (fun _ => σ) (fun i => i ≤ b.length ∧ ∀ j, j < i → a.getD j 0 = b.getD j 0) (fun i => b.length - i) 0 (by simp [weaker, Go.PV.look]) rfl ⟨by omega, fun j h => by omega⟩ ?_
  rintro i ⟨hi, hj⟩
  by_cases hib : i < b.length
  · simp -dsimp (maxSteps := 4000000) +contextual (disch := first | omega | decide +kernel) only [↓vsD, vsU, Bool.or_false, Bool.true_or, resW, fnRet, cond_true, cond_false, Nat.reduceShiftRight, Nat.reduceAnd, Go.PV.fits, Go.PV.mutOf, Go.PV.splice, Int.reduceToNat, Int.reduceEq, Int.reduceAdd, Int.reduceSub, Int.reduceMul, Int.reduceLE, Int.reduceLT, Int.reduceNeg, Nat.reduceMul, Nat.reduceLeDiff, ne_eq, if_true, if_false, reduceIte, Nat.reduceEqDiff, ↓Nat.reduceLT, Nat.reduceAdd, Nat.reduceBEq, reduceCtorEq, enc_length, encs_length, tyU, tyC, tyB, tyA, tyI, tyZ, tyF, tyP, enc_getD, encs_getD, wrap_i64, enc_set, splice_one, set_last, bin_snn, bin_snm, bin_sns, bin_tnn, bin_tnm, bin_tns, enc_length, enc_getD, hl]
    refine ⟨fun he => ?_, fun he => ?_⟩
    · refine ⟨i + 1, (by (try dsimp only); omega), (by simp [weaker, Go.PV.look]), rfl, by omega, fun j hj2 => ?_⟩
      rcases Nat.lt_succ_iff_lt_or_eq.1 hj2 with hj2 | rfl
      · exact hj j hj2
      · exact he
    · rw [decide_eq_false (fun e => he (by rw [e]))]
  · simp -dsimp (maxSteps := 4000000) +contextual (disch := first | omega | decide +kernel) only [↓vsD, vsU, Bool.or_false, Bool.true_or, resW, fnRet, cond_true, cond_false, Nat.reduceShiftRight, Nat.reduceAnd, Go.PV.fits, Go.PV.mutOf, Go.PV.splice, Int.reduceToNat, Int.reduceEq, Int.reduceAdd, Int.reduceSub, Int.reduceMul, Int.reduceLE, Int.reduceLT, Int.reduceNeg, Nat.reduceMul, Nat.reduceLeDiff, ne_eq, if_true, if_false, reduceIte, Nat.reduceEqDiff, ↓Nat.reduceLT, Nat.reduceAdd, Nat.reduceBEq, reduceCtorEq, enc_length, encs_length, tyU, tyC, tyB, tyA, tyI, tyZ, tyF, tyP, enc_getD, encs_getD, wrap_i64, enc_set, splice_one, set_last, bin_snn, bin_snm, bin_sns, bin_tnn, bin_tnm, bin_tns, enc_length, hl]
    rw [decide_eq_true]
    apply List.ext_getElem hl
    intro j h1 h2
    have := hj j (by omega)
    simpa [List.getD_eq_getElem?_getD, List.getElem?_eq_getElem h1, List.getElem?_eq_getElem h2] using this
theorem lexI_at : ∀ (i : Nat) (a b : List Int), i < a.length → i < b.length → (∀ j, j < i → a.getD j 0 = b.getD j 0) → a.getD i 0 ≠ b.getD i 0 → lexI a b = decide (a.getD i 0 < b.getD i 0)
  | 0, x :: a, y :: b, _, _, _, hne => by
    have : x ≠ y := by simpa using hne
    simp [lexI, this]
  | i + 1, x :: a, y :: b, h1, h2, h, hne => by
    have e : x = y := by simpa using h 0 (by omega)
    have := lexI_at i a b (by simpa using h1) (by simpa using h2) (fun j hj => by simpa using h (j + 1) (by omega)) (by simpa using hne)
    rw [lexI, if_pos e, this]
    simp
  | i, [], b, h1, _, _, _ => by simp at h1
  | i, x :: a, [], _, h2, _, _ => by simp at h2
theorem before_ok (a b : List Int) (ha : a.length < 2 ^ 40) (hl : a.length = b.length) (σ : Store) : PCall Try.prog 47 [.sl (ints a), .sl (ints b)] σ (fun p σ' => p = .bool (lexI a b) ∧ σ' = σ) := by
  refine PCall.vraw [] 67141695 36 [.tmp 4] (noE_ok _) mix Try.func47 rfl (by decide) rfl rfl (by simp) ?_
  simp -dsimp only [initFr, List.zipIdx_cons, List.zipIdx_nil, List.map_cons, List.map_nil, Nat.zero_add, Nat.reduceAdd]
  simp -dsimp (maxSteps := 4000000) +contextual (disch := first | omega | decide +kernel) only [↓vsD, vsU, Bool.or_false, Bool.true_or, resW, fnRet, cond_true, cond_false, Nat.reduceShiftRight, Nat.reduceAnd, Go.PV.fits, Go.PV.mutOf, Go.PV.splice, Int.reduceToNat, Int.reduceEq, Int.reduceAdd, Int.reduceSub, Int.reduceMul, Int.reduceLE, Int.reduceLT, Int.reduceNeg, Nat.reduceMul, Nat.reduceLeDiff, ne_eq, if_true, if_false, reduceIte, Nat.reduceEqDiff, ↓Nat.reduceLT, Nat.reduceAdd, Nat.reduceBEq, reduceCtorEq, enc_length, encs_length, tyU, tyC, tyB, tyA, tyI, tyZ, tyF, tyP, enc_getD, encs_getD, wrap_i64, enc_set, splice_one, set_last, bin_snn, bin_snm, bin_sns, bin_tnn, bin_tnm, bin_tns, enc_length, hl]
  refine v_loopS (fun i : Nat => [(0, .sl (ints a)), (1, .sl (ints b)), (5, .int .i64 i)]) (fun _ => σ) (fun i => i ≤ b.length ∧ ∀ j, j < i → a.getD j 0 = b.getD j 0) (fun i => b.length - i) 0 (by simp [weaker, Go.PV.look]) rfl ⟨by omega, fun j h => by omega⟩ ?_
  rintro i ⟨hi, hj⟩
  by_cases hib : i < b.length
  · simp -dsimp (maxSteps := 4000000) +contextual (disch := first | omega | decide +kernel) only [↓vsD, vsU, Bool.or_false, Bool.true_or, resW, fnRet, cond_true, cond_false, Nat.reduceShiftRight, Nat.reduceAnd, Go.PV.fits, Go.PV.mutOf, Go.PV.splice, Int.reduceToNat, Int.reduceEq, Int.reduceAdd, Int.reduceSub, Int.reduceMul, Int.reduceLE, Int.reduceLT, Int.reduceNeg, Nat.reduceMul, Nat.reduceLeDiff, ne_eq, if_true, if_false, reduceIte, Nat.reduceEqDiff, ↓Nat.reduceLT, Nat.reduceAdd, Nat.reduceBEq, reduceCtorEq, enc_length, encs_length, tyU, tyC, tyB, tyA, tyI, tyZ, tyF, tyP, enc_getD, encs_getD, wrap_i64, enc_set, splice_one, set_last, bin_snn, bin_snm, bin_sns, bin_tnn, bin_tnm, bin_tns, enc_length, enc_getD, hl]
    refine ⟨fun he => ?_, fun he => ?_⟩
    · refine ⟨i + 1, (by (try dsimp only); omega), (by simp [weaker, Go.PV.look]), rfl, by omega, fun j hj2 => ?_⟩
      rcases Nat.lt_succ_iff_lt_or_eq.1 hj2 with hj2 | rfl
      · exact hj j hj2
      · exact he
    · have e := lexI_at i a b (by omega) hib hj he
      rw [e]
      refine ⟨fun h => by rw [decide_eq_true h], fun h => by rw [decide_eq_false h]⟩
  · simp -dsimp (maxSteps := 4000000) +contextual (disch := first | omega | decide +kernel) only [↓vsD, vsU, Bool.or_false, Bool.true_or, resW, fnRet, cond_true, cond_false, Nat.reduceShiftRight, Nat.reduceAnd, Go.PV.fits, Go.PV.mutOf, Go.PV.splice, Int.reduceToNat, Int.reduceEq, Int.reduceAdd, Int.reduceSub, Int.reduceMul, Int.reduceLE, Int.reduceLT, Int.reduceNeg, Nat.reduceMul, Nat.reduceLeDiff, ne_eq, if_true, if_false, reduceIte, Nat.reduceEqDiff, ↓Nat.reduceLT, Nat.reduceAdd, Nat.reduceBEq, reduceCtorEq, enc_length, encs_length, tyU, tyC, tyB, tyA, tyI, tyZ, tyF, tyP, enc_getD, encs_getD, wrap_i64, enc_set, splice_one, set_last, bin_snn, bin_snm, bin_sns, bin_tnn, bin_tnm, bin_tns, enc_length, hl]
    have e : a = b := by
      apply List.ext_getElem hl
      intro j h1 h2
      have := hj j (by omega)
      simpa [List.getD_eq_getElem?_getD, List.getElem?_eq_getElem h1, List.getElem?_eq_getElem h2] using this
    rw [e, lexI_self]
end Go.Proofs.Ythginmfobikdgaa
