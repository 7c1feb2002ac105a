/- Chapter 38, the walks: weight, Weight. -/
import Derived.Test.YthginmfobikdgaaPlB
set_option linter.unusedSimpArgs false
set_option linter.unusedVariables false
namespace Go.Proofs.Ythginmfobikdgaa
open Go.PV

/-! The calls between pages. -/
def adr (sizes ord : List Int) : Nat → Int
  | 0 => 0
  | k + 1 => adr sizes ord k + sizes.getD (ord.getD k 0).toNat 0
def pgL (sizes : List Int) (page : Int) (ord : List Int) : Nat → List Int
  | 0 => List.replicate sizes.length 0
  | k + 1 => (pgL sizes page ord k).set (ord.getD k 0).toNat (adr sizes ord k / page)
def wsum (pages : List Int) (calls : List CallI) : Nat → Int
  | 0 => 0
  | k + 1 => wsum pages calls k + (if pages.getD (calls.getD k default).fn.toNat 0 = pages.getD (calls.getD k default).cal.toNat 0 then 0 else (calls.getD k default).cnt)
def wgt (sizes : List Int) (calls : List CallI) (page : Int) (ord : List Int) : Int := wsum (pgL sizes page ord ord.length) calls calls.length
theorem pgL_length (sizes : List Int) (page : Int) (ord : List Int) : ∀ k, (pgL sizes page ord k).length = sizes.length
  | 0 => by simp [pgL]
  | k + 1 => by rw [pgL, List.length_set, pgL_length sizes page ord k]
theorem adr_range (sizes ord : List Int) (hs : ∀ s ∈ sizes, 0 ≤ s ∧ s ≤ 1048576) (ho : ∀ f ∈ ord, 0 ≤ f ∧ f < sizes.length) : ∀ k, k ≤ ord.length → 0 ≤ adr sizes ord k ∧ adr sizes ord k ≤ k * 1048576
  | 0, _ => by simp [adr]
  | k + 1, h => by
    have ih := adr_range sizes ord hs ho k (by omega)
    have h1 := ho _ (getDm (d := 0) (show k < ord.length by omega))
    have h2 := hs _ (getDm (d := 0) (show (ord.getD k 0).toNat < sizes.length by omega))
    simp only [adr]
    omega
theorem wsum_range (pages : List Int) (calls : List CallI) (hc : ∀ c ∈ calls, 0 ≤ c.cnt ∧ c.cnt ≤ 1099511627776) : ∀ k, k ≤ calls.length → 0 ≤ wsum pages calls k ∧ wsum pages calls k ≤ k * 1099511627776
  | 0, _ => by simp [wsum]
  | k + 1, h => by
    have ih := wsum_range pages calls hc k (by omega)
    have h1 := hc _ (getDm (d := default) (show k < calls.length by omega))
    simp only [wsum]
    split <;> omega

set_option maxHeartbeats 8000000 in
theorem weight_w (sizes : List Int) (E : PV) (calls : List CallI) (page : Int) (ord : List Int) (hE : PV.cell E = true) (h : GoodP sizes calls page) (ho : ∀ f ∈ ord, 0 ≤ f ∧ f < sizes.length) (hol : ord.length ≤ 1000) :
    PCall Try.prog 73 [.sl (ints sizes), graphV E calls, .int .i64 page, .sl (ints ord)] [] (fun p _ => p = .int .i64 (wgt sizes calls page ord)) := by
  have h1 := h.n0
  have h2 := h.n
  have h3 := h.pg
  have h4 := h.few
  unfold graphV
  refine PCall.vfrz [] 36037043364102143 62 [.tmp 8] (noE_ok _) mix Try.func73 rfl (by decide) rfl rfl (by simp) ?_
  simp -dsimp only [initFr, List.zipIdx_cons, List.zipIdx_nil, List.map_cons, List.map_nil, Nat.zero_add, Nat.reduceAdd]
  simp -dsimp (maxSteps := 4000000) +contextual (disch := first | omega | decide +kernel) only [↓vsD, vsU, Bool.or_false, Bool.true_or, resW, fnRet, cond_true, cond_false, Nat.reduceShiftRight, Nat.reduceAnd, Go.PV.fits, Go.PV.mutOf, Go.PV.splice, Int.reduceToNat, Int.reduceEq, Int.reduceAdd, Int.reduceSub, Int.reduceMul, Int.reduceLE, Int.reduceLT, Int.reduceNeg, Nat.reduceMul, Nat.reduceLeDiff, ne_eq, if_true, if_false, reduceIte, Nat.reduceEqDiff, ↓Nat.reduceLT, Nat.reduceAdd, Nat.reduceBEq, reduceCtorEq, enc_length, encs_length, tyU, tyC, tyB, tyA, tyI, tyZ, tyF, tyP, enc_getD, encs_getD, wrap_i64, enc_set, splice_one, set_last, bin_snn, bin_snm, bin_sns, bin_tnn, bin_tnm, bin_tns, enc_length, hE, bytesOk, lenOk]
  refine v_loopS (fun k : Nat => [(0, .sl (ints sizes)), (2, .int .i64 page), (5, .ptr 0 0 0 0), (9, .msl 1 0), (10, .int .i64 (adr sizes ord k)), (19, .sl (ints ord)), (20, .int .i64 ord.length), (21, .int .i64 k)])
    (fun k => [.rows 76 2 [[E, .sl (encL calls)]] 0, .rows 3 1 (ints (pgL sizes page ord k)) 0]) (fun k => k ≤ ord.length) (fun k => ord.length - k) 0 (by simp [weaker, Go.PV.look, adr]) (by simp only [pgL, Int.toNat_natCast]; show [_, Go.PV.Obj.rows _ _ _ _] = [_, Go.PV.Obj.rows _ _ (List.map _ _) _]; rw [List.map_replicate]) (by omega) ?_
  intro k hk
  have ha := adr_range sizes ord h.sz ho k hk
  by_cases hkl : k < ord.length
  · have hf := ho _ (getDm (d := 0) hkl)
    obtain ⟨f, hfn⟩ : ∃ f : Nat, ord.getD k 0 = f := ⟨(ord.getD k 0).toNat, by omega⟩
    have hfl : f < sizes.length := by omega
    have hsz := h.sz _ (getDm (d := 0) hfl)
    have hpl := pgL_length sizes page ord k
    have e1 : (adr sizes ord k).tdiv page = adr sizes ord k / page := Int.tdiv_eq_ediv_of_nonneg ha.1
    have e2 : 0 ≤ adr sizes ord k / page := Int.ediv_nonneg ha.1 (by omega)
    have e3 : adr sizes ord k / page ≤ adr sizes ord k := Int.ediv_le_self _ ha.1
    simp -dsimp (maxSteps := 4000000) +contextual (disch := first | omega | decide +kernel) only [↓vsD, vsU, Bool.or_false, Bool.true_or, resW, fnRet, cond_true, cond_false, Nat.reduceShiftRight, Nat.reduceAnd, Go.PV.fits, Go.PV.mutOf, Go.PV.splice, Int.reduceToNat, Int.reduceEq, Int.reduceAdd, Int.reduceSub, Int.reduceMul, Int.reduceLE, Int.reduceLT, Int.reduceNeg, Nat.reduceMul, Nat.reduceLeDiff, ne_eq, if_true, if_false, reduceIte, Nat.reduceEqDiff, ↓Nat.reduceLT, Nat.reduceAdd, Nat.reduceBEq, reduceCtorEq, enc_length, encs_length, tyU, tyC, tyB, tyA, tyI, tyZ, tyF, tyP, enc_getD, encs_getD, wrap_i64, enc_set, splice_one, set_last, bin_snn, bin_snm, bin_sns, bin_tnn, bin_tnm, bin_tns, enc_length, hfn, e1, hpl]
    have hadr : adr sizes ord (k + 1) = adr sizes ord k + sizes.getD f 0 := by rw [adr, hfn]; rfl
    have hpg : pgL sizes page ord (k + 1) = (pgL sizes page ord k).set f (adr sizes ord k / page) := by rw [pgL, hfn]; rfl
    exact ⟨k + 1, (by (try dsimp only); omega), by simp [weaker, Go.PV.look, hadr], by dsimp only; rw [hpg], by omega⟩
  · have hkz : k = ord.length := by omega
    subst hkz
    obtain ⟨pages, hp⟩ : ∃ pages, pages = pgL sizes page ord ord.length := ⟨_, rfl⟩
    have hpl := pgL_length sizes page ord ord.length
    rw [← hp] at hpl ⊢
    simp -dsimp (maxSteps := 4000000) +contextual (disch := first | omega | decide +kernel) only [↓vsD, vsU, Bool.or_false, Bool.true_or, resW, fnRet, cond_true, cond_false, Nat.reduceShiftRight, Nat.reduceAnd, Go.PV.fits, Go.PV.mutOf, Go.PV.splice, Int.reduceToNat, Int.reduceEq, Int.reduceAdd, Int.reduceSub, Int.reduceMul, Int.reduceLE, Int.reduceLT, Int.reduceNeg, Nat.reduceMul, Nat.reduceLeDiff, ne_eq, if_true, if_false, reduceIte, Nat.reduceEqDiff, ↓Nat.reduceLT, Nat.reduceAdd, Nat.reduceBEq, reduceCtorEq, enc_length, encs_length, tyU, tyC, tyB, tyA, tyI, tyZ, tyF, tyP, enc_getD, encs_getD, wrap_i64, enc_set, splice_one, set_last, bin_snn, bin_snm, bin_sns, bin_tnn, bin_tnm, bin_tns, enc_length, encL_length]
    refine v_loopS (fun s : Nat × Store => [(5, .ptr 0 0 0 0), (9, .msl 1 0), (13, .int .i64 (wsum pages calls s.1)), (39, .sl (encL calls)), (40, .int .i64 calls.length), (41, .int .i64 s.1)])
      (fun s => .rows 76 2 [[E, .sl (encL calls)]] 0 :: .rows 3 1 (ints pages) 0 :: s.2) (fun s => s.1 ≤ calls.length) (fun s => calls.length - s.1) (0, []) (by simp [weaker, Go.PV.look, wsum]) rfl (by simp) ?_
    rintro ⟨i, Q⟩ hi
    dsimp only at hi ⊢
    have hw := wsum_range pages calls h.cnt i hi
    by_cases hil : i < calls.length
    · obtain ⟨c, hc⟩ : ∃ c, c = calls.getD i default := ⟨_, rfl⟩
      have hcm : c ∈ calls := by rw [hc]; exact getDm hil
      have hce := h.ends c hcm
      have hcc := h.cnt c hcm
      obtain ⟨x, hx⟩ : ∃ x : Nat, c.fn = x := ⟨c.fn.toNat, by omega⟩
      obtain ⟨y, hy⟩ : ∃ y : Nat, c.cal = y := ⟨c.cal.toNat, by omega⟩
      have hxl : x < pages.length := by omega
      have hyl : y < pages.length := by omega
      simp -dsimp (maxSteps := 4000000) +contextual (disch := first | omega | decide +kernel) only [↓vsD, vsU, Bool.or_false, Bool.true_or, resW, fnRet, cond_true, cond_false, Nat.reduceShiftRight, Nat.reduceAnd, Go.PV.fits, Go.PV.mutOf, Go.PV.splice, Int.reduceToNat, Int.reduceEq, Int.reduceAdd, Int.reduceSub, Int.reduceMul, Int.reduceLE, Int.reduceLT, Int.reduceNeg, Nat.reduceMul, Nat.reduceLeDiff, ne_eq, if_true, if_false, reduceIte, Nat.reduceEqDiff, ↓Nat.reduceLT, Nat.reduceAdd, Nat.reduceBEq, reduceCtorEq, enc_length, encs_length, tyU, tyC, tyB, tyA, tyI, tyZ, tyF, tyP, enc_getD, encs_getD, wrap_i64, enc_set, splice_one, set_last, bin_snn, bin_snm, bin_sns, bin_tnn, bin_tnm, bin_tns, encL_length, encL_getD, enc_length, ← hc, hx, hy, gapp0, gappk, sapp0, sappk, gappn0, gappnk, sappn0, sappnk]
      have hws : wsum pages calls (i + 1) = wsum pages calls i + (if pages.getD x 0 = pages.getD y 0 then 0 else c.cnt) := by rw [wsum, ← hc, hx, hy]; rfl
      refine ⟨fun he => ?_, fun he => ?_⟩
      · rw [if_pos he, Int.add_zero] at hws
        exact ⟨(i + 1, _), (by (try dsimp only); omega), by simp [weaker, Go.PV.look, hws], rfl, by dsimp only; omega⟩
      · rw [if_neg he] at hws
        exact ⟨(i + 1, _), (by (try dsimp only); omega), by simp [weaker, Go.PV.look, hws], rfl, by dsimp only; omega⟩
    · have hiz : i = calls.length := by omega
      subst hiz
      simp -dsimp (maxSteps := 4000000) +contextual (disch := first | omega | decide +kernel) only [↓vsD, vsU, Bool.or_false, Bool.true_or, resW, fnRet, cond_true, cond_false, Nat.reduceShiftRight, Nat.reduceAnd, Go.PV.fits, Go.PV.mutOf, Go.PV.splice, Int.reduceToNat, Int.reduceEq, Int.reduceAdd, Int.reduceSub, Int.reduceMul, Int.reduceLE, Int.reduceLT, Int.reduceNeg, Nat.reduceMul, Nat.reduceLeDiff, ne_eq, if_true, if_false, reduceIte, Nat.reduceEqDiff, ↓Nat.reduceLT, Nat.reduceAdd, Nat.reduceBEq, reduceCtorEq, enc_length, encs_length, tyU, tyC, tyB, tyA, tyI, tyZ, tyF, tyP, enc_getD, encs_getD, wrap_i64, enc_set, splice_one, set_last, bin_snn, bin_snm, bin_sns, bin_tnn, bin_tnm, bin_tns, encL_length]
      refine fin0 (.keep _ (bel_int _ _ _)) ?_
      rw [hp]; rfl
theorem graphV_bel (E : PV) (calls : List CallI) (hB : Bel 0 E) : Bel 0 (graphV E calls) := bel_agg (fun p hp => by
  simp only [List.mem_cons, List.not_mem_nil, or_false] at hp
  rcases hp with rfl | rfl
  · exact hB
  · exact bel_sl (encL_bel _ _))
theorem weight_on (sizes : List Int) (E : PV) (calls : List CallI) (page : Int) (ord : List Int) (hE : PV.cell E = true) (hB : Bel 0 E) (h : GoodP sizes calls page) (ho : ∀ f ∈ ord, 0 ≤ f ∧ f < sizes.length) (hol : ord.length ≤ 1000) (σ : Store) :
    PCall Try.prog 73 [.sl (ints sizes), graphV E calls, .int .i64 page, .sl (ints ord)] σ (fun p σ' => p = .int .i64 (wgt sizes calls page ord) ∧ σ' = σ) :=
  PCall.lift (weight_w sizes E calls page ord hE h ho hol) (by
    simp only [List.forall_mem_cons, List.not_mem_nil, false_implies, implies_true, and_true]
    exact ⟨bel_ints _ _, graphV_bel E calls hB, bel_int _ _ _, bel_ints _ _⟩) (fun p h => ⟨by rw [h]; exact bel_int _ _ _, h, rfl⟩)

/-! Orders. -/
theorem natI_pair (n : Nat) : (natI n).Pairwise (fun a b => a ≤ b) := by
  unfold natI
  rw [List.pairwise_map]
  exact List.pairwise_le_range.imp (fun h => by omega)
theorem sort_nat {l : List Int} {n : Nat} (h : l.Perm (natI n)) : (l.mergeSort fun x y => decide (x ≤ y)) = natI n := by
  have hp : (l.mergeSort fun x y => decide (x ≤ y)).Perm (natI n) := (List.mergeSort_perm l _).trans h
  have hs : (l.mergeSort fun x y => decide (x ≤ y)).Pairwise (fun a b => a ≤ b) := (List.pairwise_mergeSort (le := fun x y : Int => decide (x ≤ y)) (fun a b c h1 h2 => by simp at h1 h2 ⊢; omega) (fun a b => by simp; omega) l).imp (fun h => by simpa using h)
  exact hp.eq_of_pairwise (fun a b _ _ h1 h2 => by omega) hs (natI_pair n)
theorem natI_mem {n : Nat} {f : Int} (h : f ∈ natI n) : 0 ≤ f ∧ f < n := by
  obtain ⟨i, hi, rfl⟩ := List.mem_map.1 h
  have := List.mem_range.1 hi
  omega
set_option maxHeartbeats 4000000 in
theorem pWeight_w (sizes : List Int) (E : PV) (calls : List CallI) (page : Int) (ord : List Int) (hE : PV.cell E = true) (hB : Bel 0 E) (h : GoodP sizes calls page) (ho : ord.Perm (natI sizes.length)) :
    PCall Try.prog 41 [.sl (ints sizes), graphV E calls, .int .i64 page, .sl (ints ord)] [] (fun p _ => p = .tup [.int .i64 (wgt sizes calls page ord), .int .i64 0]) := by
  have h1 := h.n0
  have h2 := h.n
  have hol : ord.length = sizes.length := by rw [ho.length_eq, natI_length]
  have hc := pcheck_on sizes E calls page hE hB h
  have hw := weight_on sizes E calls page ord hE hB h (fun f hf => natI_mem (ho.mem_iff.1 hf)) (by omega)
  unfold graphV at hc hw ⊢
  refine PCall.vfrz [] 33622015 31 [.tmp 8, .tmp 9] (noE_ok _) mix Try.func41 rfl (by decide) rfl rfl (by simp) ?_
  simp -dsimp only [initFr, List.zipIdx_cons, List.zipIdx_nil, List.map_cons, List.map_nil, Nat.zero_add, Nat.reduceAdd]
  simp -dsimp (maxSteps := 4000000) +contextual (disch := first | omega | decide +kernel) only [↓vsD, vsU, Bool.or_false, Bool.true_or, resW, fnRet, cond_true, cond_false, Nat.reduceShiftRight, Nat.reduceAnd, Go.PV.fits, Go.PV.mutOf, Go.PV.splice, Int.reduceToNat, Int.reduceEq, Int.reduceAdd, Int.reduceSub, Int.reduceMul, Int.reduceLE, Int.reduceLT, Int.reduceNeg, Nat.reduceMul, Nat.reduceLeDiff, ne_eq, if_true, if_false, reduceIte, Nat.reduceEqDiff, ↓Nat.reduceLT, Nat.reduceAdd, Nat.reduceBEq, reduceCtorEq, enc_length, encs_length, tyU, tyC, tyB, tyA, tyI, tyZ, tyF, tyP, enc_getD, encs_getD, wrap_i64, enc_set, splice_one, set_last, bin_snn, bin_snm, bin_sns, bin_tnn, bin_tnm, bin_tns, enc_length, hE]
  refine PCall.mono (hc _) ?_
  rintro p σ' ⟨rfl, rfl⟩
  simp -dsimp (maxSteps := 4000000) +contextual (disch := first | omega | decide +kernel) only [↓vsD, vsU, Bool.or_false, Bool.true_or, resW, fnRet, cond_true, cond_false, Nat.reduceShiftRight, Nat.reduceAnd, Go.PV.fits, Go.PV.mutOf, Go.PV.splice, Int.reduceToNat, Int.reduceEq, Int.reduceAdd, Int.reduceSub, Int.reduceMul, Int.reduceLE, Int.reduceLT, Int.reduceNeg, Nat.reduceMul, Nat.reduceLeDiff, ne_eq, if_true, if_false, reduceIte, Nat.reduceEqDiff, ↓Nat.reduceLT, Nat.reduceAdd, Nat.reduceBEq, reduceCtorEq, enc_length, encs_length, tyU, tyC, tyB, tyA, tyI, tyZ, tyF, tyP, enc_getD, encs_getD, wrap_i64, enc_set, splice_one, set_last, bin_snn, bin_snm, bin_sns, bin_tnn, bin_tnm, bin_tns, enc_length, hE]
  refine PCall.mono (values_ok (.sl (ints ord)) rfl rfl _) ?_
  rintro p σ' ⟨rfl, rfl⟩
  simp -dsimp (maxSteps := 4000000) +contextual (disch := first | omega | decide +kernel) only [↓vsD, vsU, Bool.or_false, Bool.true_or, resW, fnRet, cond_true, cond_false, Nat.reduceShiftRight, Nat.reduceAnd, Go.PV.fits, Go.PV.mutOf, Go.PV.splice, Int.reduceToNat, Int.reduceEq, Int.reduceAdd, Int.reduceSub, Int.reduceMul, Int.reduceLE, Int.reduceLT, Int.reduceNeg, Nat.reduceMul, Nat.reduceLeDiff, ne_eq, if_true, if_false, reduceIte, Nat.reduceEqDiff, ↓Nat.reduceLT, Nat.reduceAdd, Nat.reduceBEq, reduceCtorEq, enc_length, encs_length, tyU, tyC, tyB, tyA, tyI, tyZ, tyF, tyP, enc_getD, encs_getD, wrap_i64, enc_set, splice_one, set_last, bin_snn, bin_snm, bin_sns, bin_tnn, bin_tnm, bin_tns, enc_length, hE]
  refine PCall.mono (sorted_ok 1 (.sl (ints ord)) ord _ rfl (.inr (.inl rfl)) (by omega)) ?_
  rintro p σ' ⟨rfl, rfl⟩
  rw [sort_nat ho]
  simp -dsimp (maxSteps := 4000000) +contextual (disch := first | omega | decide +kernel) only [↓vsD, vsU, Bool.or_false, Bool.true_or, resW, fnRet, cond_true, cond_false, Nat.reduceShiftRight, Nat.reduceAnd, Go.PV.fits, Go.PV.mutOf, Go.PV.splice, Int.reduceToNat, Int.reduceEq, Int.reduceAdd, Int.reduceSub, Int.reduceMul, Int.reduceLE, Int.reduceLT, Int.reduceNeg, Nat.reduceMul, Nat.reduceLeDiff, ne_eq, if_true, if_false, reduceIte, Nat.reduceEqDiff, ↓Nat.reduceLT, Nat.reduceAdd, Nat.reduceBEq, reduceCtorEq, enc_length, encs_length, tyU, tyC, tyB, tyA, tyI, tyZ, tyF, tyP, enc_getD, encs_getD, wrap_i64, enc_set, splice_one, set_last, bin_snn, bin_snm, bin_sns, bin_tnn, bin_tnm, bin_tns, enc_length, hE]
  refine PCall.mono (natural_on sizes.length (by omega) _) ?_
  rintro p σ' ⟨rfl, rfl⟩
  simp -dsimp (maxSteps := 4000000) +contextual (disch := first | omega | decide +kernel) only [↓vsD, vsU, Bool.or_false, Bool.true_or, resW, fnRet, cond_true, cond_false, Nat.reduceShiftRight, Nat.reduceAnd, Go.PV.fits, Go.PV.mutOf, Go.PV.splice, Int.reduceToNat, Int.reduceEq, Int.reduceAdd, Int.reduceSub, Int.reduceMul, Int.reduceLE, Int.reduceLT, Int.reduceNeg, Nat.reduceMul, Nat.reduceLeDiff, ne_eq, if_true, if_false, reduceIte, Nat.reduceEqDiff, ↓Nat.reduceLT, Nat.reduceAdd, Nat.reduceBEq, reduceCtorEq, enc_length, encs_length, tyU, tyC, tyB, tyA, tyI, tyZ, tyF, tyP, enc_getD, encs_getD, wrap_i64, enc_set, splice_one, set_last, bin_snn, bin_snm, bin_sns, bin_tnn, bin_tnm, bin_tns, enc_length, hE]
  refine PCall.mono (equal_same (natI sizes.length) (by rw [natI_length]; omega) _) ?_
  rintro p σ' ⟨rfl, rfl⟩
  simp -dsimp (maxSteps := 4000000) +contextual (disch := first | omega | decide +kernel) only [↓vsD, vsU, Bool.or_false, Bool.true_or, resW, fnRet, cond_true, cond_false, Nat.reduceShiftRight, Nat.reduceAnd, Go.PV.fits, Go.PV.mutOf, Go.PV.splice, Int.reduceToNat, Int.reduceEq, Int.reduceAdd, Int.reduceSub, Int.reduceMul, Int.reduceLE, Int.reduceLT, Int.reduceNeg, Nat.reduceMul, Nat.reduceLeDiff, ne_eq, if_true, if_false, reduceIte, Nat.reduceEqDiff, ↓Nat.reduceLT, Nat.reduceAdd, Nat.reduceBEq, reduceCtorEq, enc_length, encs_length, tyU, tyC, tyB, tyA, tyI, tyZ, tyF, tyP, enc_getD, encs_getD, wrap_i64, enc_set, splice_one, set_last, bin_snn, bin_snm, bin_sns, bin_tnn, bin_tnm, bin_tns, enc_length, hE]
  refine PCall.mono (hw _) ?_
  rintro p σ' ⟨rfl, rfl⟩
  simp -dsimp (maxSteps := 4000000) +contextual (disch := first | omega | decide +kernel) only [↓vsD, vsU, Bool.or_false, Bool.true_or, resW, fnRet, cond_true, cond_false, Nat.reduceShiftRight, Nat.reduceAnd, Go.PV.fits, Go.PV.mutOf, Go.PV.splice, Int.reduceToNat, Int.reduceEq, Int.reduceAdd, Int.reduceSub, Int.reduceMul, Int.reduceLE, Int.reduceLT, Int.reduceNeg, Nat.reduceMul, Nat.reduceLeDiff, ne_eq, if_true, if_false, reduceIte, Nat.reduceEqDiff, ↓Nat.reduceLT, Nat.reduceAdd, Nat.reduceBEq, reduceCtorEq, enc_length, encs_length, tyU, tyC, tyB, tyA, tyI, tyZ, tyF, tyP, enc_getD, encs_getD, wrap_i64, enc_set, splice_one, set_last, bin_snn, bin_snm, bin_sns, bin_tnn, bin_tnm, bin_tns]
  exact fin0 (.keep _ (bel_tup2 (bel_int _ _ _) (bel_int _ _ _))) rfl
theorem pWeight_on (sizes : List Int) (E : PV) (calls : List CallI) (page : Int) (ord : List Int) (hE : PV.cell E = true) (hB : Bel 0 E) (h : GoodP sizes calls page) (ho : ord.Perm (natI sizes.length)) (σ : Store) :
    PCall Try.prog 41 [.sl (ints sizes), graphV E calls, .int .i64 page, .sl (ints ord)] σ (fun p σ' => p = .tup [.int .i64 (wgt sizes calls page ord), .int .i64 0] ∧ σ' = σ) :=
  PCall.lift (pWeight_w sizes E calls page ord hE hB h ho) (by
    simp only [List.forall_mem_cons, List.not_mem_nil, false_implies, implies_true, and_true]
    exact ⟨bel_ints _ _, graphV_bel E calls hB, bel_int _ _ _, bel_ints _ _⟩) (fun p h => ⟨by rw [h]; exact bel_tup2 (bel_int _ _ _) (bel_int _ _ _), h, rfl⟩)
end Go.Proofs.Ythginmfobikdgaa
