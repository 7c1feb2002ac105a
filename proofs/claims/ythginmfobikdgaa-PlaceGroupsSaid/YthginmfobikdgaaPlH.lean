/- Chapter 38, the walks: the law that what fits a page costs nothing. -/
import Derived.Test.YthginmfobikdgaaPlG
set_option linter.unusedSimpArgs false
set_option linter.unusedVariables false
namespace Go.Proofs.Ythginmfobikdgaa
open Go.PV

/-! What fits. -/
def sumI (l : List Int) : Nat → Int
  | 0 => 0
  | k + 1 => sumI l k + l.getD k 0
theorem adr_sum (sizes ord : List Int) : ∀ k, k ≤ ord.length → adr sizes ord k = ((ord.take k).map fun f => sizes.getD f.toNat 0).sum
  | 0, _ => by simp [adr]
  | k + 1, h => by
    rw [adr, adr_sum sizes ord k (by omega), List.take_add_one, List.getElem?_eq_getElem (by omega), List.map_append, List.sum_append]
    simp [List.getD_eq_getElem?_getD, List.getElem?_eq_getElem (show k < ord.length by omega)]
theorem sumI_sum (l : List Int) : ∀ k, k ≤ l.length → sumI l k = (l.take k).sum
  | 0, _ => by simp [sumI]
  | k + 1, h => by
    rw [sumI, sumI_sum l k (by omega), List.take_add_one, List.getElem?_eq_getElem (by omega), List.sum_append]
    simp [List.getD_eq_getElem?_getD, List.getElem?_eq_getElem (show k < l.length by omega)]
theorem perm_sum {a b : List Int} (h : a.Perm b) : a.sum = b.sum := by
  induction h with
  | nil => rfl
  | cons x _ ih => simp [ih]
  | swap x y l => simp; omega
  | trans _ _ ih1 ih2 => rw [ih1, ih2]
theorem natI_sizes (sizes : List Int) : (natI sizes.length).map (fun f => sizes.getD f.toNat 0) = sizes := by
  apply List.ext_getElem?
  intro j
  simp only [natI, List.map_map, List.getElem?_map]
  by_cases hj : j < sizes.length
  · rw [List.getElem?_range hj, List.getElem?_eq_getElem hj]
    simp [List.getD_eq_getElem?_getD, List.getElem?_eq_getElem hj]
  · rw [List.getElem?_eq_none (by simp; omega), List.getElem?_eq_none (by omega)]; rfl
theorem adr_total {sizes ord : List Int} (ho : ord.Perm (natI sizes.length)) : adr sizes ord ord.length = sumI sizes sizes.length := by
  rw [adr_sum _ _ _ (Nat.le_refl _), sumI_sum _ _ (Nat.le_refl _), List.take_length, List.take_length, perm_sum (ho.map _), natI_sizes]
theorem adr_mono (sizes ord : List Int) (hs : ∀ s ∈ sizes, 0 ≤ s) (ho : ∀ f ∈ ord, 0 ≤ f ∧ f < sizes.length) : ∀ d k, k + d ≤ ord.length → adr sizes ord k ≤ adr sizes ord (k + d)
  | 0, k, _ => Int.le_refl _
  | d + 1, k, h => by
    have h1 := adr_mono sizes ord hs ho d k (by omega)
    have h2 := ho _ (getDm (d := 0) (show k + d < ord.length by omega))
    have h3 := hs _ (getDm (d := 0) (show (ord.getD (k + d) 0).toNat < sizes.length by omega))
    rw [show k + (d + 1) = (k + d) + 1 by omega, adr]
    omega
theorem pgL_one {sizes ord : List Int} {page : Int} (hs : ∀ s ∈ sizes, 0 ≤ s ∧ s ≤ 1048576) (ho : ord.Perm (natI sizes.length)) (hp : sumI sizes sizes.length < page) : ∀ k, k ≤ ord.length → pgL sizes page ord k = List.replicate sizes.length 0
  | 0, _ => rfl
  | k + 1, h => by
    have hin : ∀ f ∈ ord, 0 ≤ f ∧ f < sizes.length := fun f hf => natI_mem (ho.mem_iff.1 hf)
    have h1 := adr_mono sizes ord (fun s h => (hs s h).1) hin (ord.length - k) k (by omega)
    rw [show k + (ord.length - k) = ord.length by omega, adr_total ho] at h1
    have h2 := adr_range sizes ord hs hin k (by omega)
    rw [pgL, pgL_one hs ho hp k (by omega), Int.ediv_eq_zero_of_lt h2.1 (by omega)]
    apply List.ext_getElem?
    intro j
    rw [List.getElem?_set]
    generalize (ord.getD k 0).toNat = i
    by_cases hj : i = j
    · subst hj
      by_cases hjl : i < sizes.length
      · simp [hjl]
      · simp [hjl]
    · rw [if_neg hj]
theorem wsum_zero (pages : List Int) (calls : List CallI) (h : ∀ c ∈ calls, pages.getD c.fn.toNat 0 = pages.getD c.cal.toNat 0) : ∀ k, k ≤ calls.length → wsum pages calls k = 0
  | 0, _ => rfl
  | k + 1, hk => by rw [wsum, wsum_zero pages calls h k (by omega), if_pos (h _ (getDm (show k < calls.length by omega)))]; rfl
theorem wgt_fits {sizes ord : List Int} {calls : List CallI} {page : Int} (hs : ∀ s ∈ sizes, 0 ≤ s ∧ s ≤ 1048576) (ho : ord.Perm (natI sizes.length)) (hp : sumI sizes sizes.length < page) : wgt sizes calls page ord = 0 := by
  rw [wgt, pgL_one hs ho hp _ (Nat.le_refl _)]
  refine wsum_zero _ _ (fun c _ => ?_) _ (Nat.le_refl _)
  rw [List.getD_eq_getElem?_getD, List.getD_eq_getElem?_getD, List.getElem?_replicate, List.getElem?_replicate]
  split <;> split <;> rfl
def selfs : Nat → List CallI
  | 0 => []
  | k + 1 => selfs k ++ [⟨k, 0, 0, k, 5⟩]
theorem selfs_length : ∀ k, (selfs k).length = k
  | 0 => rfl
  | k + 1 => by rw [selfs, List.length_append, selfs_length k]; rfl
theorem selfs_mem : ∀ {k : Nat} {c : CallI}, c ∈ selfs k → c.fn = c.cal ∧ (0 ≤ c.fn ∧ c.fn < k) ∧ c.cnt = 5
  | 0, c, h => by simp [selfs] at h
  | k + 1, c, h => by
    rw [selfs] at h
    rcases List.mem_append.1 h with h | h
    · have := selfs_mem h
      omega
    · rw [List.mem_singleton] at h
      subst h
      dsimp only
      omega
theorem wgt_selfs (sizes : List Int) (page : Int) (ord : List Int) (k : Nat) : wgt sizes (selfs k) page ord = 0 := by
  rw [wgt]
  exact wsum_zero _ _ (fun c hc => by rw [(selfs_mem hc).1]) _ (Nat.le_refl _)
theorem sumI_range (l : List Int) (h : ∀ x ∈ l, 0 ≤ x ∧ x < 60) : ∀ k, k ≤ l.length → 0 ≤ sumI l k ∧ sumI l k ≤ k * 60
  | 0, _ => by simp [sumI]
  | k + 1, hk => by
    have ih := sumI_range l h k (by omega)
    have h1 := h _ (getDm (d := 0) (show k < l.length by omega))
    rw [sumI]
    omega
/-- The order, among other objects. -/
theorem order38_on {σ : Store} {K : PV → Store → Prop} (o : Nat) (cs : List Int) (k0 n : Nat) (ho : σ[o]? = some (codes cs k0)) (hn0 : 0 < n) (hn : n ≤ 1000) (hcl : okInts .u8 cs) (hcn : cs.length < 2 ^ 40) (hk0 : k0 ≤ cs.length)
    (hK : ∀ (l : List Int) (k : Nat), k ≤ cs.length → l.Perm (natI n) → K (.sl (ints l)) (σ.set o (codes cs k))) : PCall Try.prog 40 [.ptr o 0 0 0, .int .i64 n] σ K := by
  refine PCall.use_on [o] (order38_w cs k0 n hn0 hn hcl hcn hk0) (by simp) rfl (fun j o' hj => ?_) (fun X hX => ?_) (MvL.cons (.ptr 0 o 0 0 0 rfl) (MvL.cons (.keep _ (bel_int _ _ _)) (MvL.nil _))) ?_
  · match j with
    | 0 => simp at hj; rw [← hj]; exact ho
    | j + 1 => simp at hj
  · rw [List.mem_singleton] at hX
    rw [hX]; exact codes_bel _ _ _
  · rintro p σ2 ⟨l, k, rfl, rfl, hk, hl⟩
    refine ⟨bel_ints _ _, rfl, fun X hX => ?_, hK l k hk hl⟩
    rw [List.mem_singleton] at hX
    rw [hX]; exact codes_bel _ _ _

set_option maxRecDepth 8000 in
set_option maxHeartbeats 1600000 in
theorem fits_ok (l0 : List Int) (hl0 : okInts .u8 l0) (pg : Int) (hpg : 0 ≤ pg ∧ pg ≤ 65535) : PCall Try.prog 11 [.sl (PV.encI .u8 l0), .int .u16 pg] [] (fun p _ => p = .bool true) := by
  refine PCall.vfrz [] 2305843011361964031 97 [.tmp 4] (noE_ok _) mix Try.func11 rfl (by decide) rfl rfl (by simp) ?_
  simp -dsimp only [initFr, List.zipIdx_cons, List.zipIdx_nil, List.map_cons, List.map_nil, Nat.zero_add, Nat.reduceAdd]
  simp -dsimp (maxSteps := 4000000) +contextual (disch := first | omega | decide +kernel) only [↓vsD, vsU, Bool.or_false, Bool.true_or, resW, fnRet, cond_true, cond_false, Nat.reduceShiftRight, Nat.reduceAnd, Go.PV.fits, Go.PV.mutOf, Go.PV.splice, Int.reduceToNat, Int.reduceEq, Int.reduceAdd, Int.reduceSub, Int.reduceMul, Int.reduceLE, Int.reduceLT, Int.reduceNeg, Nat.reduceMul, Nat.reduceLeDiff, ne_eq, if_true, if_false, reduceIte, Nat.reduceEqDiff, ↓Nat.reduceLT, Nat.reduceAdd, Nat.reduceBEq, reduceCtorEq, enc_length, encs_length, tyU, tyC, tyB, tyA, tyI, tyZ, tyF, tyP, enc_getD, encs_getD, wrap_i64, enc_set, splice_one, set_last, bin_snn, bin_snm, bin_sns, bin_tnn, bin_tnm, bin_tns]
  refine PCall.mono (awake38_on _) ?_
  rintro p σ' ⟨rfl, rfl⟩
  simp -dsimp (maxSteps := 4000000) +contextual (disch := first | omega | decide +kernel) only [↓vsD, vsU, Bool.or_false, Bool.true_or, resW, fnRet, cond_true, cond_false, Nat.reduceShiftRight, Nat.reduceAnd, Go.PV.fits, Go.PV.mutOf, Go.PV.splice, Int.reduceToNat, Int.reduceEq, Int.reduceAdd, Int.reduceSub, Int.reduceMul, Int.reduceLE, Int.reduceLT, Int.reduceNeg, Nat.reduceMul, Nat.reduceLeDiff, ne_eq, if_true, if_false, reduceIte, Nat.reduceEqDiff, ↓Nat.reduceLT, Nat.reduceAdd, Nat.reduceBEq, reduceCtorEq, enc_length, encs_length, tyU, tyC, tyB, tyA, tyI, tyZ, tyF, tyP, enc_getD, encs_getD, wrap_i64, enc_set, splice_one, set_last, bin_snn, bin_snm, bin_sns, bin_tnn, bin_tnm, bin_tns]
  refine PCall.mono (newC_on l0 200 _) ?_
  rintro p σ' ⟨rfl, rfl⟩
  obtain ⟨cs, hcs⟩ : ∃ cs, cs = l0.take 200 := ⟨_, rfl⟩
  have hcl : okInts .u8 cs := fun n hn => hl0 n (by rw [hcs] at hn; exact List.mem_of_mem_take hn)
  have hcn : cs.length ≤ 200 := by rw [hcs]; simp; omega
  rw [← hcs]
  simp -dsimp (maxSteps := 4000000) +contextual (disch := first | omega | decide +kernel) only [↓vsD, vsU, Bool.or_false, Bool.true_or, resW, fnRet, cond_true, cond_false, Nat.reduceShiftRight, Nat.reduceAnd, Go.PV.fits, Go.PV.mutOf, Go.PV.splice, Int.reduceToNat, Int.reduceEq, Int.reduceAdd, Int.reduceSub, Int.reduceMul, Int.reduceLE, Int.reduceLT, Int.reduceNeg, Nat.reduceMul, Nat.reduceLeDiff, ne_eq, if_true, if_false, reduceIte, Nat.reduceEqDiff, ↓Nat.reduceLT, Nat.reduceAdd, Nat.reduceBEq, reduceCtorEq, enc_length, encs_length, tyU, tyC, tyB, tyA, tyI, tyZ, tyF, tyP, enc_getD, encs_getD, wrap_i64, enc_set, splice_one, set_last, bin_snn, bin_snm, bin_sns, bin_tnn, bin_tnm, bin_tns]
  refine PCall.mono (draw38_w cs 0 1 20 (by omega) (by omega) (by omega) hcl (by omega) (by omega)) ?_
  rintro p σ' ⟨sizes, calls, page, k, rfl, rfl, hk, hs1, hs2, hsz, hcl12, good, hp100⟩
  simp -dsimp (maxSteps := 4000000) +contextual (disch := first | omega | decide +kernel) only [↓vsD, vsU, Bool.or_false, Bool.true_or, resW, fnRet, cond_true, cond_false, Nat.reduceShiftRight, Nat.reduceAnd, Go.PV.fits, Go.PV.mutOf, Go.PV.splice, Int.reduceToNat, Int.reduceEq, Int.reduceAdd, Int.reduceSub, Int.reduceMul, Int.reduceLE, Int.reduceLT, Int.reduceNeg, Nat.reduceMul, Nat.reduceLeDiff, ne_eq, if_true, if_false, reduceIte, Nat.reduceEqDiff, ↓Nat.reduceLT, Nat.reduceAdd, Nat.reduceBEq, reduceCtorEq, enc_length, encs_length, tyU, tyC, tyB, tyA, tyI, tyZ, tyF, tyP, enc_getD, encs_getD, wrap_i64, enc_set, splice_one, set_last, bin_snn, bin_snm, bin_sns, bin_tnn, bin_tnm, bin_tns]
  refine v_loopS (fun i : Nat => [(1, .int .u16 pg), (5, .ptr 0 0 0 0), (6, .sl (ints sizes)), (7, .ptr 1 0 0 0), (9, .int .i64 (sumI sizes i)), (10, .int .i64 i)])
    (fun _ => [codes cs k, .rows 76 2 [[.nils, .sl (encL calls)]] 0]) (fun i => i ≤ sizes.length) (fun i => sizes.length - i) 0 (by simp [weaker, Go.PV.look, sumI]) rfl (by omega) ?_
  intro i hi
  have hsr := sumI_range sizes hsz i hi
  by_cases hil : i < sizes.length
  · have hx := hsz _ (getDm (d := 0) hil)
    simp -dsimp (maxSteps := 4000000) +contextual (disch := first | omega | decide +kernel) only [↓vsD, vsU, Bool.or_false, Bool.true_or, resW, fnRet, cond_true, cond_false, Nat.reduceShiftRight, Nat.reduceAnd, Go.PV.fits, Go.PV.mutOf, Go.PV.splice, Int.reduceToNat, Int.reduceEq, Int.reduceAdd, Int.reduceSub, Int.reduceMul, Int.reduceLE, Int.reduceLT, Int.reduceNeg, Nat.reduceMul, Nat.reduceLeDiff, ne_eq, if_true, if_false, reduceIte, Nat.reduceEqDiff, ↓Nat.reduceLT, Nat.reduceAdd, Nat.reduceBEq, reduceCtorEq, enc_length, encs_length, tyU, tyC, tyB, tyA, tyI, tyZ, tyF, tyP, enc_getD, encs_getD, wrap_i64, enc_set, splice_one, set_last, bin_snn, bin_snm, bin_sns, bin_tnn, bin_tnm, bin_tns, enc_length]
    exact ⟨i + 1, (by (try dsimp only); omega), by simp [weaker, Go.PV.look, sumI], rfl, by omega⟩
  have : i = sizes.length := by omega
  subst this
  simp -dsimp (maxSteps := 4000000) +contextual (disch := first | omega | decide +kernel) only [↓vsD, vsU, Bool.or_false, Bool.true_or, resW, fnRet, cond_true, cond_false, Nat.reduceShiftRight, Nat.reduceAnd, Go.PV.fits, Go.PV.mutOf, Go.PV.splice, Int.reduceToNat, Int.reduceEq, Int.reduceAdd, Int.reduceSub, Int.reduceMul, Int.reduceLE, Int.reduceLT, Int.reduceNeg, Nat.reduceMul, Nat.reduceLeDiff, ne_eq, if_true, if_false, reduceIte, Nat.reduceEqDiff, ↓Nat.reduceLT, Nat.reduceAdd, Nat.reduceBEq, reduceCtorEq, enc_length, encs_length, tyU, tyC, tyB, tyA, tyI, tyZ, tyF, tyP, enc_getD, encs_getD, wrap_i64, enc_set, splice_one, set_last, bin_snn, bin_snm, bin_sns, bin_tnn, bin_tnm, bin_tns, enc_length]
  refine order38_on 0 cs k sizes.length rfl (by omega) (by omega) hcl (by omega) hk (fun l k2 hk2 hl => ?_)
  have hsz2 : ∀ s ∈ sizes, 0 ≤ s ∧ s ≤ 1048576 := fun s h => by have := hsz s h; omega
  obtain ⟨u, hu⟩ : ∃ u, u = pg.tmod 1000 := ⟨_, rfl⟩
  have hur : 0 ≤ u ∧ u < 1000 := by
    have m1 := Int.emod_nonneg pg (show (1000 : Int) ≠ 0 by omega)
    have m2 := Int.emod_lt_of_pos pg (show (0 : Int) < 1000 by omega)
    rw [hu, Int.tmod_eq_emod_of_nonneg hpg.1]
    exact ⟨m1, m2⟩
  obtain ⟨v, hv⟩ : ∃ v, v = pg.tmod 50 := ⟨_, rfl⟩
  have hvr : 0 ≤ v ∧ v < 50 := by
    have m1 := Int.emod_nonneg pg (show (50 : Int) ≠ 0 by omega)
    have m2 := Int.emod_lt_of_pos pg (show (0 : Int) < 50 by omega)
    rw [hv, Int.tmod_eq_emod_of_nonneg hpg.1]
    exact ⟨m1, m2⟩
  obtain ⟨S, hS⟩ : ∃ S, S = sumI sizes sizes.length := ⟨_, rfl⟩
  rw [← hS] at hsr
  have g1 : GoodP sizes calls (S + 1 + u) := ⟨good.n0, good.n, by omega, hsz2, good.ends, good.cnt, good.few⟩
  have w1 := pWeight_on sizes .nils calls (S + 1 + u) l rfl (bel_nils _) g1 hl
  rw [wgt_fits hsz2 hl (by omega)] at w1
  unfold graphV at w1
  have g2 : GoodP sizes (selfs sizes.length) (1 + v) := ⟨good.n0, good.n, by omega, hsz2, fun c hc => by have := selfs_mem hc; omega, fun c hc => by have := selfs_mem hc; omega, by rw [selfs_length]; omega⟩
  have w2 := pWeight_w sizes .nils (selfs sizes.length) (1 + v) l rfl (bel_nils _) g2 hl
  rw [wgt_selfs] at w2
  unfold graphV at w2
  rw [← hS]
  clear g1 g2 hsz2
  simp -dsimp (maxSteps := 4000000) +contextual (disch := first | omega | decide +kernel) only [↓vsD, vsU, Bool.or_false, Bool.true_or, resW, fnRet, cond_true, cond_false, Nat.reduceShiftRight, Nat.reduceAnd, Go.PV.fits, Go.PV.mutOf, Go.PV.splice, Int.reduceToNat, Int.reduceEq, Int.reduceAdd, Int.reduceSub, Int.reduceMul, Int.reduceLE, Int.reduceLT, Int.reduceNeg, Nat.reduceMul, Nat.reduceLeDiff, ne_eq, if_true, if_false, reduceIte, Nat.reduceEqDiff, ↓Nat.reduceLT, Nat.reduceAdd, Nat.reduceBEq, reduceCtorEq, enc_length, encs_length, tyU, tyC, tyB, tyA, tyI, tyZ, tyF, tyP, enc_getD, encs_getD, wrap_i64, enc_set, splice_one, set_last, bin_snn, bin_snm, bin_sns, bin_tnn, bin_tnm, bin_tns, enc_length, ← hu]
  refine PCall.mono (w1 _) ?_
  rintro p σ' ⟨rfl, rfl⟩
  simp -dsimp (maxSteps := 4000000) +contextual (disch := first | omega | decide +kernel) only [↓vsD, vsU, Bool.or_false, Bool.true_or, resW, fnRet, cond_true, cond_false, Nat.reduceShiftRight, Nat.reduceAnd, Go.PV.fits, Go.PV.mutOf, Go.PV.splice, Int.reduceToNat, Int.reduceEq, Int.reduceAdd, Int.reduceSub, Int.reduceMul, Int.reduceLE, Int.reduceLT, Int.reduceNeg, Nat.reduceMul, Nat.reduceLeDiff, ne_eq, if_true, if_false, reduceIte, Nat.reduceEqDiff, ↓Nat.reduceLT, Nat.reduceAdd, Nat.reduceBEq, reduceCtorEq, enc_length, encs_length, tyU, tyC, tyB, tyA, tyI, tyZ, tyF, tyP, enc_getD, encs_getD, wrap_i64, enc_set, splice_one, set_last, bin_snn, bin_snm, bin_sns, bin_tnn, bin_tnm, bin_tns, enc_length]
  refine v_loopS (fun i : Nat => [(1, .int .u16 pg), (6, .sl (ints sizes)), (11, .sl (ints l)), (12, .int .i64 0), (13, .int .i64 0), (14, .ptr 2 0 0 0), (15, .int .i64 i)])
    (fun i => match i with | 0 => [codes cs k2, .rows 76 2 [[.nils, .sl (encL calls)]] 0, .rows 76 2 [[.nils, .nils]] 0] | j + 1 => [codes cs k2, .rows 76 2 [[.nils, .sl (encL calls)]] 0, .rows 76 2 [[.nils, .msl 3 j]] 0, .rows 78 5 (encL (selfs (j + 1))) j]) (fun i => i ≤ sizes.length) (fun i => sizes.length - i) 0 (by simp [weaker, Go.PV.look]) rfl (by omega) ?_
  intro i hi
  by_cases hil : i < sizes.length
  · cases i with
    | zero =>
      simp -dsimp (maxSteps := 4000000) +contextual (disch := first | omega | decide +kernel) only [↓vsD, vsU, Bool.or_false, Bool.true_or, resW, fnRet, cond_true, cond_false, Nat.reduceShiftRight, Nat.reduceAnd, Go.PV.fits, Go.PV.mutOf, Go.PV.splice, Int.reduceToNat, Int.reduceEq, Int.reduceAdd, Int.reduceSub, Int.reduceMul, Int.reduceLE, Int.reduceLT, Int.reduceNeg, Nat.reduceMul, Nat.reduceLeDiff, ne_eq, if_true, if_false, reduceIte, Nat.reduceEqDiff, ↓Nat.reduceLT, Nat.reduceAdd, Nat.reduceBEq, reduceCtorEq, enc_length, encs_length, tyU, tyC, tyB, tyA, tyI, tyZ, tyF, tyP, enc_getD, encs_getD, wrap_i64, enc_set, splice_one, set_last, bin_snn, bin_snm, bin_sns, bin_tnn, bin_tnm, bin_tns, enc_length, gapp0, gappk, sapp0, sappk, gappn0, gappnk, sappn0, sappnk]
      exact ⟨1, (by (try dsimp only); omega), (by simp [weaker, Go.PV.look]), rfl, by omega⟩
    | succ j =>
      have hsu : selfs (j + 1 + 1) = selfs (j + 1) ++ [⟨((j + 1 : Nat) : Int), 0, 0, ((j + 1 : Nat) : Int), 5⟩] := rfl
      have hql := selfs_length (j + 1)
      dsimp only
      generalize selfs (j + 1) = Q at hsu hql ⊢
      clear w1 w2 hsr hS hur hvr
      simp -dsimp (maxSteps := 4000000) +contextual (disch := first | omega | decide +kernel) only [↓vsD, vsU, Bool.or_false, Bool.true_or, resW, fnRet, cond_true, cond_false, Nat.reduceShiftRight, Nat.reduceAnd, Go.PV.fits, Go.PV.mutOf, Go.PV.splice, Int.reduceToNat, Int.reduceEq, Int.reduceAdd, Int.reduceSub, Int.reduceMul, Int.reduceLE, Int.reduceLT, Int.reduceNeg, Nat.reduceMul, Nat.reduceLeDiff, ne_eq, if_true, if_false, reduceIte, Nat.reduceEqDiff, ↓Nat.reduceLT, Nat.reduceAdd, Nat.reduceBEq, reduceCtorEq, enc_length, encs_length, tyU, tyC, tyB, tyA, tyI, tyZ, tyF, tyP, enc_getD, encs_getD, wrap_i64, enc_set, splice_one, set_last, bin_snn, bin_snm, bin_sns, bin_tnn, bin_tnm, bin_tns, enc_length, gapp0, gappk, sapp0, sappk, gappn0, gappnk, sappn0, sappnk, encL_length]
      refine ⟨by rw [hql]; simp only [maxBytes]; omega, by rw [hql]; simp only [maxLen]; omega, j + 1 + 1, (by (try dsimp only); omega), by simp [weaker, Go.PV.look], ?_, by omega⟩
      dsimp only
      rw [hsu]
      simp [encL, CallI.row]
  obtain ⟨j, hj⟩ : ∃ j, sizes.length = j + 1 := ⟨sizes.length - 1, by omega⟩
  have : i = j + 1 := by omega
  subst this
  rw [hj] at w2
  dsimp only
  generalize selfs (j + 1) = Q at w2 ⊢
  simp -dsimp (maxSteps := 4000000) +contextual (disch := first | omega | decide +kernel) only [↓vsD, vsU, Bool.or_false, Bool.true_or, resW, fnRet, cond_true, cond_false, Nat.reduceShiftRight, Nat.reduceAnd, Go.PV.fits, Go.PV.mutOf, Go.PV.splice, Int.reduceToNat, Int.reduceEq, Int.reduceAdd, Int.reduceSub, Int.reduceMul, Int.reduceLE, Int.reduceLT, Int.reduceNeg, Nat.reduceMul, Nat.reduceLeDiff, ne_eq, if_true, if_false, reduceIte, Nat.reduceEqDiff, ↓Nat.reduceLT, Nat.reduceAdd, Nat.reduceBEq, reduceCtorEq, enc_length, encs_length, tyU, tyC, tyB, tyA, tyI, tyZ, tyF, tyP, enc_getD, encs_getD, wrap_i64, enc_set, splice_one, set_last, bin_snn, bin_snm, bin_sns, bin_tnn, bin_tnm, bin_tns, enc_length, ← hv, hj]
  refine PCall.use_lend w2 (FrzL.cons (.keep _ (bel_ints _ _)) (FrzL.cons (Frz.agg _ _ rfl (fun j2 p hj2 => ?_)) (FrzL.cons (.keep _ (bel_int _ _ _)) (FrzL.cons (.keep _ (bel_ints _ _)) (FrzL.nil _))))) (fun r hr => ⟨by rw [hr]; rfl, ?_⟩)
  · match j2, hj2 with
    | 0, hj2 => cases hj2; exact .keep _ (bel_nils _)
    | 1, hj2 => cases hj2; exact Frz.msl0 (elem := 78) (sz := 5) (Nat.zero_le _) rfl (encL_bel _ _)
    | j2 + 2, hj2 => simp at hj2
  subst hr
  simp -dsimp (maxSteps := 4000000) +contextual (disch := first | omega | decide +kernel) only [↓vsD, vsU, Bool.or_false, Bool.true_or, resW, fnRet, cond_true, cond_false, Nat.reduceShiftRight, Nat.reduceAnd, Go.PV.fits, Go.PV.mutOf, Go.PV.splice, Int.reduceToNat, Int.reduceEq, Int.reduceAdd, Int.reduceSub, Int.reduceMul, Int.reduceLE, Int.reduceLT, Int.reduceNeg, Nat.reduceMul, Nat.reduceLeDiff, ne_eq, if_true, if_false, reduceIte, Nat.reduceEqDiff, ↓Nat.reduceLT, Nat.reduceAdd, Nat.reduceBEq, reduceCtorEq, enc_length, encs_length, tyU, tyC, tyB, tyA, tyI, tyZ, tyF, tyP, enc_getD, encs_getD, wrap_i64, enc_set, splice_one, set_last, bin_snn, bin_snm, bin_sns, bin_tnn, bin_tnm, bin_tns]
  exact fin0 (.keep _ (bel_bool _ _)) rfl
end Go.Proofs.Ythginmfobikdgaa
