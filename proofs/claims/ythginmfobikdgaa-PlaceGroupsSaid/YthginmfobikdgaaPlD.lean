/- Chapter 38, the walks: the best order of few functions. -/
import Derived.Test.YthginmfobikdgaaPlC
set_option linter.unusedSimpArgs false
set_option linter.unusedVariables false
namespace Go.Proofs.Ythginmfobikdgaa
open Go.PV

/-! What is visited, and in which order. -/
def updB (W : List Int → Int) (b : Option (List Int) × Int) (pre : List Int) : Option (List Int) × Int := if b.1 = none ∨ W pre < b.2 then (some pre, W pre) else b
def visitB (W : List Int → Int) (n : Nat) : Nat → List Int → Option (List Int) × Int → Option (List Int) × Int
  | 0, pre, b => updB W b pre
  | m + 1, pre, b => (natI n).foldl (fun b f => if f ∈ pre then b else visitB W n m (pre ++ [f]) b) b
def stepB (W : List Int → Int) (n m : Nat) (pre : List Int) (k : Nat) (b : Option (List Int) × Int) : Option (List Int) × Int := (natI k).foldl (fun b f => if f ∈ pre then b else visitB W n m (pre ++ [f]) b) b
theorem stepB_succ (W : List Int → Int) (n m : Nat) (pre : List Int) (k : Nat) (b : Option (List Int) × Int) : stepB W n m pre (k + 1) b = if (k : Int) ∈ pre then stepB W n m pre k b else visitB W n m (pre ++ [(k : Int)]) (stepB W n m pre k b) := by
  unfold stepB
  rw [natI_succ, List.foldl_append]; rfl
def encB (l : List Bool) : List (List PV) := l.map fun b => [.bool b]
theorem encB_length (l : List Bool) : (encB l).length = l.length := by simp [encB]
theorem encB_getD (l : List Bool) (i : Nat) (h : i < l.length) : (encB l).getD i [] = [.bool (l.getD i false)] := by simp [encB, List.getD_eq_getElem?_getD, h]
theorem encB_set (l : List Bool) (i : Nat) (b : Bool) : (encB l).set i [.bool b] = encB (l.set i b) := by simp [encB, List.map_set]
def usedL (n : Nat) (pre : List Int) : List Bool := (List.range n).map fun i : Nat => decide ((i : Int) ∈ pre)
theorem usedL_length (n : Nat) (pre : List Int) : (usedL n pre).length = n := by simp [usedL]
theorem usedL_getD (n : Nat) (pre : List Int) (k : Nat) (h : k < n) : (usedL n pre).getD k false = decide ((k : Int) ∈ pre) := by simp [usedL, List.getD_eq_getElem?_getD, h]
theorem usedL_set (n : Nat) (pre : List Int) (k : Nat) (h : k < n) : (usedL n pre).set k true = usedL n (pre ++ [(k : Int)]) := by
  apply List.ext_getElem?
  intro j
  rw [List.getElem?_set]
  simp only [usedL, List.length_map, List.length_range, List.getElem?_map]
  by_cases hj : k = j
  · subst hj
    simp [h]
  · rw [if_neg hj]
    by_cases hjn : j < n
    · rw [List.getElem?_range hjn]
      simp
      omega
    · rw [List.getElem?_eq_none (by simpa using hjn)]; rfl
theorem usedL_unset (n : Nat) (pre : List Int) (k : Nat) (h : k < n) (hk : (k : Int) ∉ pre) : (usedL n (pre ++ [(k : Int)])).set k false = usedL n pre := by
  apply List.ext_getElem?
  intro j
  rw [List.getElem?_set]
  simp only [usedL, List.length_map, List.length_range, List.getElem?_map]
  by_cases hj : k = j
  · subst hj
    simp [h, hk]
  · rw [if_neg hj]
    by_cases hjn : j < n
    · rw [List.getElem?_range hjn]
      simp
      omega
    · rw [List.getElem?_eq_none (by simpa using hjn)]; rfl

/-! Clone. -/
theorem slcI : isSlcT Try.prog 40 = true := by kernel_rfl
set_option maxHeartbeats 4000000 in
theorem clone_ok (o ver : Nat) (l : List Int) (σ : Store) (ho : σ[o]? = some (.rows 3 1 (ints l) ver)) (hl : l.length ≤ 1000) : PCall Try.prog 107 [.msl o ver] σ (fun p σ' => p = .msl σ.length 1 ∧ σ' = σ ++ [.rows 3 1 (ints l) 1]) := by
  have g1 : ∀ X, (σ ++ X)[o]? = some (.rows 3 1 (ints l) ver) := fun X => by rw [List.getElem?_append_left (List.getElem?_eq_some_iff.1 ho).1, ho]
  refine PCall.vraw [5] 23 8 [.tmp 2] (noE_ok _) mix Try.func107 rfl (by decide) rfl rfl (by simp) ?_
  simp -dsimp only [initFr, List.zipIdx_cons, List.zipIdx_nil, List.map_cons, List.map_nil, Nat.zero_add, Nat.reduceAdd]
  have hn : newsOk Try.prog 3 (ints l) = true := by
    show newsOk _ _ (List.map _ _) = true
    simp [newsOk, PV.cell, tyC]
  simp -dsimp (maxSteps := 4000000) +contextual (disch := first | omega | decide +kernel) only [↓vsD, vsU, Bool.or_false, Bool.true_or, resW, fnRet, cond_true, cond_false, Nat.reduceShiftRight, Nat.reduceAnd, Go.PV.fits, Go.PV.mutOf, Go.PV.splice, Int.reduceToNat, Int.reduceEq, Int.reduceAdd, Int.reduceSub, Int.reduceMul, Int.reduceLE, Int.reduceLT, Int.reduceNeg, Nat.reduceMul, Nat.reduceLeDiff, ne_eq, if_true, if_false, reduceIte, Nat.reduceEqDiff, ↓Nat.reduceLT, Nat.reduceAdd, Nat.reduceBEq, reduceCtorEq, enc_length, encs_length, tyU, tyC, tyB, tyA, tyI, tyZ, tyF, tyP, enc_getD, encs_getD, wrap_i64, enc_set, splice_one, set_last, bin_snn, bin_snm, bin_sns, bin_tnn, bin_tnm, bin_tns, ho, g1, slcI, gapp0, gappk, sapp0, sappk, gappn0, gappnk, sappn0, sappnk, bytesOk, lenOk, Bool.or_false, Bool.true_or, hn]

theorem ints_take (l : List Int) (n : Nat) : ints (l.take n) = (ints l).take n := by simp [ints, PV.encI]

/-! The walk through all orders. -/
def OVof : Option (Nat × Nat × Option Nat) → PV
  | none => .nils
  | some (o, v, none) => .msl (o + 9) v
  | some (o, v, some h) => .mpre (o + 9) v h
def fullO (ov : Option (Nat × Nat)) : Option (Nat × Nat × Option Nat) := ov.map fun q => (q.1, q.2, none)
def BVof : Option Nat → PV
  | none => .nils
  | some o => .msl (o + 9) 1
def capsP : List PV := [.ptr 4 0 0 0, .ptr 0 0 0 0, .ptr 1 0 0 0, .ptr 2 0 0 0, .ptr 3 0 0 0, .ptr 5 0 0 0, .ptr 7 0 0 0, .ptr 8 0 0 0]
def exS (sizes : List Int) (E : PV) (calls : List CallI) (page : Int) (us : List Bool) (BV OV : PV) (lv : Int) (Q : Store) : Store :=
  .rows 40 1 [[.sl (ints sizes)]] 0 :: .rows 76 2 [[E, .sl (encL calls)]] 0 :: .rows 3 1 [[.int .i64 page]] 0 :: .rows 40 1 [[BV]] 0 :: .rows 40 1 [[OV]] 0 :: .rows 3 1 [[.int .i64 lv]] 0 :: .rows 4 1 (encB us) 0 :: .rows 38 1 [[.msl 6 0]] 0 :: .rows 1 1 [[.func (.func 113) [] capsP]] 0 :: Q
def isPre (pre L : List Int) : Option Nat → Prop
  | none => L = pre
  | some h => h = pre.length ∧ h ≤ L.length ∧ L.take h = pre
structure EX (pre : List Int) (b : Option (List Int) × Int) (oo : Option (Nat × Nat × Option Nat)) (bo : Option Nat) (Q : Store) : Prop where
  ord0 : oo = none → pre = []
  ord : ∀ o v t, oo = some (o, v, t) → ∃ L, Q[o]? = some (.rows 3 1 (ints L) v) ∧ isPre pre L t
  best0 : bo = none → b.1 = none
  best : ∀ o, bo = some o → ∃ l, b.1 = some l ∧ Q[o]? = some (.rows 3 1 (ints l) 1)
  apart : ∀ o v t o2, oo = some (o, v, t) → bo = some o2 → o ≠ o2
theorem aggN : aggT Try.prog 1 = false := by kernel_rfl
theorem undN : ((Try.prog.underlying 1).isSome = true) = True := eq_true (by kernel_rfl)
theorem EX.clone {pre : List Int} {b : Option (List Int) × Int} {o v : Nat} {bo : Option Nat} {Q : Store} (hx : EX pre b (some (o, v, none)) bo Q) (w : Int) : EX pre (some pre, w) (some (o, v, none)) (some Q.length) (Q ++ [.rows 3 1 (ints pre) 1]) := by
  obtain ⟨L, hQ, hL⟩ := hx.ord o v none rfl
  have hol := (List.getElem?_eq_some_iff.1 hQ).1
  refine ⟨fun e => (by cases e), fun o' v' t e => ?_, fun e => (by cases e), fun o' e => ?_, fun o' v' t o2 e1 e2 => ?_⟩
  · cases e
    exact ⟨L, by rw [List.getElem?_append_left hol, hQ], hL⟩
  · cases e
    exact ⟨pre, rfl, by rw [gapp0]; rfl⟩
  · cases e1
    cases e2
    omega
set_option maxRecDepth 8000 in
set_option maxHeartbeats 16000000 in
theorem permute0_ok (sizes : List Int) (E : PV) (calls : List CallI) (page : Int) (hE : PV.cell E = true) (hB : Bel 0 E) (h : GoodP sizes calls page) (pre : List Int) (ov : Option (Nat × Nat)) (bo : Option Nat) (b : Option (List Int) × Int) (Q : Store)
    (hl : pre.length = sizes.length) (hp : ∀ f ∈ pre, 0 ≤ f ∧ f < sizes.length) (hx : EX pre b (fullO ov) bo Q) (K : PV → Store → Prop)
    (hK : ∀ oo' bo' Q', EX pre (updB (wgt sizes calls page) b pre) oo' bo' Q' → K (.tup []) (exS sizes E calls page (usedL sizes.length pre) (BVof bo') (OVof oo') (updB (wgt sizes calls page) b pre).2 Q')) :
    PCall Try.prog 113 capsP (exS sizes E calls page (usedL sizes.length pre) (BVof bo) (OVof (fullO ov)) b.2 Q) K := by
  have h1 := h.n0
  have h2 := h.n
  obtain ⟨o, v, rfl⟩ : ∃ o v, ov = some (o, v) := by
    cases ov with
    | none => rw [hx.ord0 rfl] at hl; simp at hl; omega
    | some q => exact ⟨q.1, q.2, rfl⟩
  obtain ⟨L, hQ, hL⟩ := hx.ord o v none rfl
  obtain rfl : L = pre := hL
  obtain ⟨w, hw⟩ : ∃ w, w = wgt sizes calls page L := ⟨_, rfl⟩
  unfold exS
  simp only [fullO, Option.map_some, OVof, capsP]
  refine PCall.vraw [] 564855325695 58 [] (noE_ok _) mix Try.func113 rfl (by decide) rfl rfl (by simp) ?_
  simp -dsimp only [initFr, List.zipIdx_cons, List.zipIdx_nil, List.map_cons, List.map_nil, Nat.zero_add, Nat.reduceAdd]
  simp -dsimp (maxSteps := 4000000) +contextual (disch := first | omega | decide +kernel) only [↓vsD, vsU, Bool.or_false, Bool.true_or, resW, fnRet, cond_true, cond_false, Nat.reduceShiftRight, Nat.reduceAnd, Go.PV.fits, Go.PV.mutOf, Go.PV.splice, Int.reduceToNat, Int.reduceEq, Int.reduceAdd, Int.reduceSub, Int.reduceMul, Int.reduceLE, Int.reduceLT, Int.reduceNeg, Nat.reduceMul, Nat.reduceLeDiff, ne_eq, if_true, if_false, reduceIte, Nat.reduceEqDiff, ↓Nat.reduceLT, Nat.reduceAdd, Nat.reduceBEq, reduceCtorEq, enc_length, encs_length, tyU, tyC, tyB, tyA, tyI, tyZ, tyF, tyP, enc_getD, encs_getD, wrap_i64, enc_set, splice_one, set_last, bin_snn, bin_snm, bin_sns, bin_tnn, bin_tnm, bin_tns, hQ, enc_length, hl, hE]
  refine PCall.use_lend (weight_w sizes E calls page L hE h hp (by omega)) (FrzL.cons (.keep _ (bel_ints _ _)) (FrzL.cons (.keep _ (graphV_bel E calls hB)) (FrzL.cons (.keep _ (bel_int _ _ _)) (FrzL.cons (Frz.msl0 (elem := 3) (sz := 1) (Nat.zero_le _) (show Q[o]? = _ from hQ) (enc_bel _ _ _)) (FrzL.nil _))))) (fun r hr => ⟨by rw [hr]; rfl, ?_⟩)
  subst hr
  rw [← hw]
  cases bo with
  | none =>
    have hb0 := hx.best0 rfl
    have hu : updB (wgt sizes calls page) b L = (some L, w) := by rw [updB, if_pos (.inl hb0), hw]
    rw [hu] at hK
    simp only [BVof]
    simp -dsimp (maxSteps := 4000000) +contextual (disch := first | omega | decide +kernel) only [↓vsD, vsU, Bool.or_false, Bool.true_or, resW, fnRet, cond_true, cond_false, Nat.reduceShiftRight, Nat.reduceAnd, Go.PV.fits, Go.PV.mutOf, Go.PV.splice, Int.reduceToNat, Int.reduceEq, Int.reduceAdd, Int.reduceSub, Int.reduceMul, Int.reduceLE, Int.reduceLT, Int.reduceNeg, Nat.reduceMul, Nat.reduceLeDiff, ne_eq, if_true, if_false, reduceIte, Nat.reduceEqDiff, ↓Nat.reduceLT, Nat.reduceAdd, Nat.reduceBEq, reduceCtorEq, enc_length, encs_length, tyU, tyC, tyB, tyA, tyI, tyZ, tyF, tyP, enc_getD, encs_getD, wrap_i64, enc_set, splice_one, set_last, bin_snn, bin_snm, bin_sns, bin_tnn, bin_tnm, bin_tns, slcI]
    refine PCall.mono (clone_ok (o + 9) v L _ (show Q[o]? = _ from hQ) (by omega)) ?_
    rintro p σ' ⟨rfl, rfl⟩
    simp -dsimp (maxSteps := 4000000) +contextual (disch := first | omega | decide +kernel) only [↓vsD, vsU, Bool.or_false, Bool.true_or, resW, fnRet, cond_true, cond_false, Nat.reduceShiftRight, Nat.reduceAnd, Go.PV.fits, Go.PV.mutOf, Go.PV.splice, Int.reduceToNat, Int.reduceEq, Int.reduceAdd, Int.reduceSub, Int.reduceMul, Int.reduceLE, Int.reduceLT, Int.reduceNeg, Nat.reduceMul, Nat.reduceLeDiff, ne_eq, if_true, if_false, reduceIte, Nat.reduceEqDiff, ↓Nat.reduceLT, Nat.reduceAdd, Nat.reduceBEq, reduceCtorEq, enc_length, encs_length, tyU, tyC, tyB, tyA, tyI, tyZ, tyF, tyP, enc_getD, encs_getD, wrap_i64, enc_set, splice_one, set_last, bin_snn, bin_snm, bin_sns, bin_tnn, bin_tnm, bin_tns, slcI, List.cons_append]
    exact hK _ _ _ (hx.clone w)
  | some o2 =>
    obtain ⟨l, hbl, hQ2⟩ := hx.best o2 rfl
    simp only [BVof]
    simp -dsimp (maxSteps := 4000000) +contextual (disch := first | omega | decide +kernel) only [↓vsD, vsU, Bool.or_false, Bool.true_or, resW, fnRet, cond_true, cond_false, Nat.reduceShiftRight, Nat.reduceAnd, Go.PV.fits, Go.PV.mutOf, Go.PV.splice, Int.reduceToNat, Int.reduceEq, Int.reduceAdd, Int.reduceSub, Int.reduceMul, Int.reduceLE, Int.reduceLT, Int.reduceNeg, Nat.reduceMul, Nat.reduceLeDiff, ne_eq, if_true, if_false, reduceIte, Nat.reduceEqDiff, ↓Nat.reduceLT, Nat.reduceAdd, Nat.reduceBEq, reduceCtorEq, enc_length, encs_length, tyU, tyC, tyB, tyA, tyI, tyZ, tyF, tyP, enc_getD, encs_getD, wrap_i64, enc_set, splice_one, set_last, bin_snn, bin_snm, bin_sns, bin_tnn, bin_tnm, bin_tns, slcI]
    refine ⟨fun hlt => ?_, fun hlt => ?_⟩
    · have hu : updB (wgt sizes calls page) b L = (some L, w) := by rw [updB, if_pos (.inr (by rw [← hw]; exact hlt)), hw]
      rw [hu] at hK
      refine PCall.mono (clone_ok (o + 9) v L _ (show Q[o]? = _ from hQ) (by omega)) ?_
      rintro p σ' ⟨rfl, rfl⟩
      simp -dsimp (maxSteps := 4000000) +contextual (disch := first | omega | decide +kernel) only [↓vsD, vsU, Bool.or_false, Bool.true_or, resW, fnRet, cond_true, cond_false, Nat.reduceShiftRight, Nat.reduceAnd, Go.PV.fits, Go.PV.mutOf, Go.PV.splice, Int.reduceToNat, Int.reduceEq, Int.reduceAdd, Int.reduceSub, Int.reduceMul, Int.reduceLE, Int.reduceLT, Int.reduceNeg, Nat.reduceMul, Nat.reduceLeDiff, ne_eq, if_true, if_false, reduceIte, Nat.reduceEqDiff, ↓Nat.reduceLT, Nat.reduceAdd, Nat.reduceBEq, reduceCtorEq, enc_length, encs_length, tyU, tyC, tyB, tyA, tyI, tyZ, tyF, tyP, enc_getD, encs_getD, wrap_i64, enc_set, splice_one, set_last, bin_snn, bin_snm, bin_sns, bin_tnn, bin_tnm, bin_tns, slcI, List.cons_append]
      exact hK _ _ _ (hx.clone w)
    · have hu : updB (wgt sizes calls page) b L = b := by rw [updB, if_neg (by rw [← hw, hbl]; simp; omega)]
      rw [hu] at hK
      exact hK _ _ _ hx
theorem EX.push0 {b : Option (List Int) × Int} {bo : Option Nat} {Q : Store} (hx : EX [] b none bo Q) (k : Int) : EX [k] b (some (Q.length, 0, none)) bo (Q ++ [.rows 3 1 (ints [k]) 0]) := by
  refine ⟨fun e => (by cases e), fun o' v' t e => ?_, hx.best0, fun o' e => ?_, fun o' v' t o2 e1 e2 => ?_⟩
  · cases e
    exact ⟨[k], by rw [gapp0]; rfl, rfl⟩
  · obtain ⟨l, h1, h2⟩ := hx.best o' e
    exact ⟨l, h1, by rw [List.getElem?_append_left (List.getElem?_eq_some_iff.1 h2).1, h2]⟩
  · cases e1
    obtain ⟨l, h1, h2⟩ := hx.best o2 e2
    have := (List.getElem?_eq_some_iff.1 h2).1
    omega
theorem EX.turn {pre : List Int} {b : Option (List Int) × Int} {o v : Nat} {t : Option Nat} {bo : Option Nat} {Q : Store} (hx : EX pre b (some (o, v, t)) bo Q) (pre' : List Int) (v' : Nat) : EX pre' b (some (o, v', none)) bo (Q.set o (.rows 3 1 (ints pre') v')) := by
  obtain ⟨L, hQ, hL⟩ := hx.ord o v t rfl
  have hol := (List.getElem?_eq_some_iff.1 hQ).1
  refine ⟨fun e => (by cases e), fun o' v2 t e => ?_, hx.best0, fun o' e => ?_, fun o' v2 t o2 e1 e2 => ?_⟩
  · cases e
    exact ⟨pre', List.getElem?_set_self hol, rfl⟩
  · obtain ⟨l, h1, h2⟩ := hx.best o' e
    exact ⟨l, h1, by rw [List.getElem?_set_ne (hx.apart o v _ o' rfl e), h2]⟩
  · cases e1
    exact hx.apart _ _ _ _ rfl e2
theorem EX.back {pre : List Int} {k : Int} {b : Option (List Int) × Int} {o v : Nat} {t : Option Nat} {bo : Option Nat} {Q : Store} (hx : EX (pre ++ [k]) b (some (o, v, t)) bo Q) : EX pre b (some (o, v, some pre.length)) bo Q := by
  obtain ⟨L, hQ, hL⟩ := hx.ord o v t rfl
  refine ⟨fun e => (by cases e), fun o' v2 t2 e => ?_, hx.best0, hx.best, fun o' v2 t2 o2 e1 e2 => ?_⟩
  · cases e
    refine ⟨L, hQ, rfl, ?_⟩
    cases t with
    | none =>
      obtain rfl : L = pre ++ [k] := hL
      simp
    | some h =>
      obtain ⟨h1, h2, h3⟩ := hL
      rw [h1] at h2 h3
      have h4 : (L.take (pre ++ [k]).length).take pre.length = pre := by rw [h3]; simp
      rw [List.take_take] at h4
      simp at h2 h4
      exact ⟨by omega, h4⟩
  · cases e1
    exact hx.apart _ _ _ _ rfl e2
set_option maxRecDepth 8000 in
set_option maxHeartbeats 16000000 in
theorem permuteS (sizes : List Int) (E : PV) (calls : List CallI) (page : Int) (hE : PV.cell E = true) (hB : Bel 0 E) (h : GoodP sizes calls page) (W : List Int → Int) (m : Nat)
    (ih : ∀ (pre : List Int) (ov : Option (Nat × Nat)) (bo : Option Nat) (b : Option (List Int) × Int) (Q : Store), pre.length + m = sizes.length → (∀ f ∈ pre, 0 ≤ f ∧ f < sizes.length) → EX pre b (fullO ov) bo Q → ∀ K : PV → Store → Prop,
      (∀ oo' bo' Q', EX pre (visitB W sizes.length m pre b) oo' bo' Q' → K (.tup []) (exS sizes E calls page (usedL sizes.length pre) (BVof bo') (OVof oo') (visitB W sizes.length m pre b).2 Q')) →
      PCall Try.prog 113 capsP (exS sizes E calls page (usedL sizes.length pre) (BVof bo) (OVof (fullO ov)) b.2 Q) K)
    (pre : List Int) (ov : Option (Nat × Nat)) (bo : Option Nat) (b : Option (List Int) × Int) (Q : Store) (hl : pre.length + (m + 1) = sizes.length) (hp : ∀ f ∈ pre, 0 ≤ f ∧ f < sizes.length) (hx : EX pre b (fullO ov) bo Q) (K : PV → Store → Prop)
    (hK : ∀ oo' bo' Q', EX pre (stepB W sizes.length m pre sizes.length b) oo' bo' Q' → K (.tup []) (exS sizes E calls page (usedL sizes.length pre) (BVof bo') (OVof oo') (stepB W sizes.length m pre sizes.length b).2 Q')) :
    PCall Try.prog 113 capsP (exS sizes E calls page (usedL sizes.length pre) (BVof bo) (OVof (fullO ov)) b.2 Q) K := by
  have h1 := h.n0
  have h2 := h.n
  obtain ⟨us, hus⟩ : ∃ us, us = usedL sizes.length pre := ⟨_, rfl⟩
  have husl : us.length = sizes.length := by rw [hus, usedL_length]
  rw [← hus]
  rw [← hus] at hK
  have hlenO : ∀ x0 x1 x2 x3 x4 x5 x6 x7 x8, lenC (x0 :: x1 :: x2 :: x3 :: x4 :: x5 :: x6 :: x7 :: x8 :: Q) (some (.slice 3)) (OVof (fullO ov)) = .val True (.int .i64 pre.length) (x0 :: x1 :: x2 :: x3 :: x4 :: x5 :: x6 :: x7 :: x8 :: Q) := fun x0 x1 x2 x3 x4 x5 x6 x7 x8 => by
    cases ov with
    | none => rw [hx.ord0 rfl]; rfl
    | some ov =>
      obtain ⟨L, hQ, hL⟩ := hx.ord ov.1 ov.2 none rfl
      obtain rfl : L = pre := hL
      simp [fullO, OVof, lenC, hQ, ints_len]
  unfold exS
  simp only [capsP]
  refine PCall.vraw [55] 564855325695 58 [] (noE_ok _) mix Try.func113 rfl (by decide) rfl rfl (by simp [capsP]) ?_
  simp -dsimp only [initFr, List.zipIdx_cons, List.zipIdx_nil, List.map_cons, List.map_nil, Nat.zero_add, Nat.reduceAdd]
  simp -dsimp (maxSteps := 4000000) +contextual (disch := first | omega | decide +kernel) only [↓vsD, vsU, Bool.or_false, Bool.true_or, resW, fnRet, cond_true, cond_false, Nat.reduceShiftRight, Nat.reduceAnd, Go.PV.fits, Go.PV.mutOf, Go.PV.splice, Int.reduceToNat, Int.reduceEq, Int.reduceAdd, Int.reduceSub, Int.reduceMul, Int.reduceLE, Int.reduceLT, Int.reduceNeg, Nat.reduceMul, Nat.reduceLeDiff, ne_eq, if_true, if_false, reduceIte, Nat.reduceEqDiff, ↓Nat.reduceLT, Nat.reduceAdd, Nat.reduceBEq, reduceCtorEq, enc_length, encs_length, tyU, tyC, tyB, tyA, tyI, tyZ, tyF, tyP, enc_getD, encs_getD, wrap_i64, enc_set, splice_one, set_last, bin_snn, bin_snm, bin_sns, bin_tnn, bin_tnm, bin_tns, enc_length, hlenO]
  refine v_loopS (fun s : Nat × Option (Nat × Nat × Option Nat) × Option Nat × Store => [(0, .ptr 4 0 0 0), (1, .ptr 0 0 0 0), (2, .ptr 1 0 0 0), (3, .ptr 2 0 0 0), (4, .ptr 3 0 0 0), (5, .ptr 5 0 0 0), (6, .ptr 7 0 0 0), (7, .ptr 8 0 0 0), (31, .int .i64 sizes.length), (32, .int .i64 s.1)])
    (fun s => exS sizes E calls page us (BVof s.2.2.1) (OVof s.2.1) (stepB W sizes.length m pre s.1 b).2 s.2.2.2) (fun s => s.1 ≤ sizes.length ∧ EX pre (stepB W sizes.length m pre s.1 b) s.2.1 s.2.2.1 s.2.2.2) (fun s => sizes.length - s.1) (0, fullO ov, bo, Q) (by simp [weaker, Go.PV.look]) rfl ⟨by simp, hx⟩ ?_
  rintro ⟨k, oo, bo, Q⟩ ⟨hk, hx⟩
  dsimp only at hk hx ⊢
  by_cases hkl : k < sizes.length
  · have hsb := stepB_succ W sizes.length m pre k b
    obtain ⟨bk, hbk⟩ : ∃ bk, bk = stepB W sizes.length m pre k b := ⟨_, rfl⟩
    rw [← hbk] at hsb hx ⊢
    have hku : k < us.length := by omega
    by_cases hkm : (k : Int) ∈ pre
    · have hud : us.getD k false = true := by rw [hus, usedL_getD _ _ _ hkl, decide_eq_true hkm]
      rw [if_pos hkm] at hsb
      unfold exS
      simp -dsimp (maxSteps := 4000000) +contextual (disch := first | omega | decide +kernel) only [↓vsD, vsU, Bool.or_false, Bool.true_or, resW, fnRet, cond_true, cond_false, Nat.reduceShiftRight, Nat.reduceAnd, Go.PV.fits, Go.PV.mutOf, Go.PV.splice, Int.reduceToNat, Int.reduceEq, Int.reduceAdd, Int.reduceSub, Int.reduceMul, Int.reduceLE, Int.reduceLT, Int.reduceNeg, Nat.reduceMul, Nat.reduceLeDiff, ne_eq, if_true, if_false, reduceIte, Nat.reduceEqDiff, ↓Nat.reduceLT, Nat.reduceAdd, Nat.reduceBEq, reduceCtorEq, enc_length, encs_length, tyU, tyC, tyB, tyA, tyI, tyZ, tyF, tyP, enc_getD, encs_getD, wrap_i64, enc_set, splice_one, set_last, bin_snn, bin_snm, bin_sns, bin_tnn, bin_tnm, bin_tns, enc_length, encB_length, encB_getD, hud]
      exact ⟨(k + 1, oo, bo, Q), (by (try dsimp only); omega), (by simp [weaker, Go.PV.look]), by dsimp only; rw [hsb], by dsimp only; omega, by dsimp only; rw [hsb]; exact hx⟩
    · have hud : us.getD k false = false := by rw [hus, usedL_getD _ _ _ hkl, decide_eq_false hkm]
      rw [if_neg hkm] at hsb
      have hus2 : us.set k true = usedL sizes.length (pre ++ [(k : Int)]) := by rw [hus, usedL_set _ _ _ hkl]
      have hus3 : (usedL sizes.length (pre ++ [(k : Int)])).set k false = us := by rw [hus, usedL_unset _ _ _ hkl hkm]
      have hpk : ∀ f ∈ pre ++ [(k : Int)], 0 ≤ f ∧ f < sizes.length := fun f hf => by
        rcases List.mem_append.1 hf with hf | hf
        · exact hp f hf
        · rw [List.mem_singleton] at hf; rw [hf]; omega
      have hlk : (pre ++ [(k : Int)]).length + m = sizes.length := by simp; omega
      unfold exS
      simp -dsimp (maxSteps := 4000000) +contextual (disch := first | omega | decide +kernel) only [↓vsD, vsU, Bool.or_false, Bool.true_or, resW, fnRet, cond_true, cond_false, Nat.reduceShiftRight, Nat.reduceAnd, Go.PV.fits, Go.PV.mutOf, Go.PV.splice, Int.reduceToNat, Int.reduceEq, Int.reduceAdd, Int.reduceSub, Int.reduceMul, Int.reduceLE, Int.reduceLT, Int.reduceNeg, Nat.reduceMul, Nat.reduceLeDiff, ne_eq, if_true, if_false, reduceIte, Nat.reduceEqDiff, ↓Nat.reduceLT, Nat.reduceAdd, Nat.reduceBEq, reduceCtorEq, enc_length, encs_length, tyU, tyC, tyB, tyA, tyI, tyZ, tyF, tyP, enc_getD, encs_getD, wrap_i64, enc_set, splice_one, set_last, bin_snn, bin_snm, bin_sns, bin_tnn, bin_tnm, bin_tns, enc_length, encB_length, encB_getD, hud]
      refine v_draws _ _ _ _ _ _ [5, 7, 8] [] [(0, 1), (0, 1), (0, 0), (0, 0), (0, 0), (0, 0), (1, 1), (0, 0), (0, 0)] (by decide +kernel) (by decide +kernel) (by decide +kernel) (by decide +kernel) ?_
      cases oo with
      | none =>
        have hpre := hx.ord0 rfl
        subst hpre
        simp only [List.nil_append] at hsb hus2 hus3 hpk hlk
        simp only [OVof]
        simp -dsimp (maxSteps := 4000000) +contextual (disch := first | omega | decide +kernel) only [↓vsD, vsU, Bool.or_false, Bool.true_or, resW, fnRet, cond_true, cond_false, Nat.reduceShiftRight, Nat.reduceAnd, Go.PV.fits, Go.PV.mutOf, Go.PV.splice, Int.reduceToNat, Int.reduceEq, Int.reduceAdd, Int.reduceSub, Int.reduceMul, Int.reduceLE, Int.reduceLT, Int.reduceNeg, Nat.reduceMul, Nat.reduceLeDiff, ne_eq, if_true, if_false, reduceIte, Nat.reduceEqDiff, ↓Nat.reduceLT, Nat.reduceAdd, Nat.reduceBEq, reduceCtorEq, enc_length, encs_length, tyU, tyC, tyB, tyA, tyI, tyZ, tyF, tyP, enc_getD, encs_getD, wrap_i64, enc_set, splice_one, set_last, bin_snn, bin_snm, bin_sns, bin_tnn, bin_tnm, bin_tns, vdx_none, vkp_go, ↓vd_end, place_nil, place_cons, vdo_eff, vdo_effA, ↓vdm_go, List.take_succ_cons, List.take_zero, List.drop_succ_cons, List.drop_zero, vdo_noeff_s, vdo_noeff_n, vdo_nofloat, vdo_noread, vdo_read, vdo_floatS, vdo_floatA, vde_s, vde_n, vde_c, vdx_s, vdr_s, vdr_b, vdf_m, vdf_p, ↓vd_op, ↓guard_none, ↓guard_some, gval_some, List.forall_mem_cons, List.not_mem_nil, false_implies, implies_true, List.length_append, List.length_replicate, List.replicate_zero, List.replicate_succ, List.contains_nil, List.contains_cons, Bool.or_false, Bool.false_or, Bool.or_self, Bool.or_true, Bool.true_or, vdr_o, vdq_eq, vdw_s, outR_v, rowsAt_none, mapAt_none, lnil, drop0, enc_length, encB_length, encB_getD, encB_set, hku, aggN, undN, capsP]
        rw [hus2]
        refine PCall.mono (ih ([(k : Int)]) (some (Q.length, 0)) bo bk _ hlk hpk (hx.push0 k) (fun p σ' => ∃ oo' bo' Q', EX ([(k : Int)]) (visitB W sizes.length m ([(k : Int)]) bk) oo' bo' Q' ∧ p = .tup [] ∧ σ' = exS sizes E calls page (usedL sizes.length ([(k : Int)])) (BVof bo') (OVof oo') (visitB W sizes.length m ([(k : Int)]) bk).2 Q') (fun oo' bo' Q' hx' => ⟨oo', bo', Q', hx', rfl, rfl⟩)) ?_
        rintro p σ' ⟨oo', bo', Q', hx', rfl, rfl⟩
        rw [← hsb] at hx' ⊢
        cases oo' with
        | none => exact absurd (hx'.ord0 rfl) (by simp)
        | some q =>
          obtain ⟨o', v', t'⟩ := q
          have hxb := EX.back (pre := []) hx'
          obtain ⟨L', hQ', hL'⟩ := hx'.ord o' v' t' rfl
          have hku2 : k < (usedL sizes.length ([(k : Int)])).length := by rw [usedL_length]; exact hkl
          have hpl : ([(k : Int)]).length = ([] : List Int).length + 1 := by simp
          have htn : (((([] : List Int).length + 1 : Nat) : Int) - 1).toNat = ([] : List Int).length := by omega
          cases t' with
          | none =>
            obtain rfl : L' = [(k : Int)] := hL'
            unfold exS
            simp only [OVof]
            refine v_draws _ _ _ _ _ _ [8, 9] [] [(0, 0), (0, 0), (0, 1), (0, 1), (0, 1), (0, 1), (0, 1), (0, 0), (0, 0), (0, 0)] (by decide +kernel) (by decide +kernel) (by decide +kernel) (by decide +kernel) ?_
            simp -dsimp (maxSteps := 4000000) +contextual (disch := first | omega | decide +kernel) only [↓vsD, vsU, Bool.or_false, Bool.true_or, resW, fnRet, cond_true, cond_false, Nat.reduceShiftRight, Nat.reduceAnd, Go.PV.fits, Go.PV.mutOf, Go.PV.splice, Int.reduceToNat, Int.reduceEq, Int.reduceAdd, Int.reduceSub, Int.reduceMul, Int.reduceLE, Int.reduceLT, Int.reduceNeg, Nat.reduceMul, Nat.reduceLeDiff, ne_eq, if_true, if_false, reduceIte, Nat.reduceEqDiff, ↓Nat.reduceLT, Nat.reduceAdd, Nat.reduceBEq, reduceCtorEq, enc_length, encs_length, tyU, tyC, tyB, tyA, tyI, tyZ, tyF, tyP, enc_getD, encs_getD, wrap_i64, enc_set, splice_one, set_last, bin_snn, bin_snm, bin_sns, bin_tnn, bin_tnm, bin_tns, vdx_none, vkp_go, ↓vd_end, place_nil, place_cons, vdo_eff, vdo_effA, ↓vdm_go, List.take_succ_cons, List.take_zero, List.drop_succ_cons, List.drop_zero, vdo_noeff_s, vdo_noeff_n, vdo_nofloat, vdo_noread, vdo_read, vdo_floatS, vdo_floatA, vde_s, vde_n, vde_c, vdx_s, vdr_s, vdr_b, vdf_m, vdf_p, ↓vd_op, ↓guard_none, ↓guard_some, gval_some, List.forall_mem_cons, List.not_mem_nil, false_implies, implies_true, List.length_append, List.length_replicate, List.replicate_zero, List.replicate_succ, List.contains_nil, List.contains_cons, Bool.or_false, Bool.false_or, Bool.or_self, Bool.or_true, Bool.true_or, vdr_o, vdq_eq, vdw_s, outR_v, rowsAt_none, mapAt_none, lnil, drop0, enc_length, encB_length, encB_getD, encB_set, hku2, hQ', hus3, ints_len, hpl, htn]
            exact ⟨(k + 1, some (o', v', some ([] : List Int).length), bo', Q'), (by (try dsimp only); omega), (by simp [weaker, Go.PV.look]), rfl, by dsimp only; omega, hxb⟩
          | some h' =>
            obtain ⟨rfl, hL1, hL2⟩ := hL'
            unfold exS
            simp only [OVof]
            refine v_draws _ _ _ _ _ _ [8, 9] [] [(0, 0), (0, 0), (0, 1), (0, 1), (0, 1), (0, 1), (0, 1), (0, 0), (0, 0), (0, 0)] (by decide +kernel) (by decide +kernel) (by decide +kernel) (by decide +kernel) ?_
            simp -dsimp (maxSteps := 4000000) +contextual (disch := first | omega | decide +kernel) only [↓vsD, vsU, Bool.or_false, Bool.true_or, resW, fnRet, cond_true, cond_false, Nat.reduceShiftRight, Nat.reduceAnd, Go.PV.fits, Go.PV.mutOf, Go.PV.splice, Int.reduceToNat, Int.reduceEq, Int.reduceAdd, Int.reduceSub, Int.reduceMul, Int.reduceLE, Int.reduceLT, Int.reduceNeg, Nat.reduceMul, Nat.reduceLeDiff, ne_eq, if_true, if_false, reduceIte, Nat.reduceEqDiff, ↓Nat.reduceLT, Nat.reduceAdd, Nat.reduceBEq, reduceCtorEq, enc_length, encs_length, tyU, tyC, tyB, tyA, tyI, tyZ, tyF, tyP, enc_getD, encs_getD, wrap_i64, enc_set, splice_one, set_last, bin_snn, bin_snm, bin_sns, bin_tnn, bin_tnm, bin_tns, vdx_none, vkp_go, ↓vd_end, place_nil, place_cons, vdo_eff, vdo_effA, ↓vdm_go, List.take_succ_cons, List.take_zero, List.drop_succ_cons, List.drop_zero, vdo_noeff_s, vdo_noeff_n, vdo_nofloat, vdo_noread, vdo_read, vdo_floatS, vdo_floatA, vde_s, vde_n, vde_c, vdx_s, vdr_s, vdr_b, vdf_m, vdf_p, ↓vd_op, ↓guard_none, ↓guard_some, gval_some, List.forall_mem_cons, List.not_mem_nil, false_implies, implies_true, List.length_append, List.length_replicate, List.replicate_zero, List.replicate_succ, List.contains_nil, List.contains_cons, Bool.or_false, Bool.false_or, Bool.or_self, Bool.or_true, Bool.true_or, vdr_o, vdq_eq, vdw_s, outR_v, rowsAt_none, mapAt_none, lnil, drop0, enc_length, encB_length, encB_getD, encB_set, hku2, hQ', hus3, ints_len, hpl, htn]
            exact ⟨(k + 1, some (o', v', some ([] : List Int).length), bo', Q'), (by (try dsimp only); omega), (by simp [weaker, Go.PV.look]), rfl, by dsimp only; omega, hxb⟩
      | some ov =>
        obtain ⟨o, v, t⟩ := ov
        obtain ⟨L, hQ, hL⟩ := hx.ord o v t rfl
        cases t with
        | none =>
          obtain rfl : L = pre := hL
          simp only [OVof]
          simp -dsimp (maxSteps := 4000000) +contextual (disch := first | omega | decide +kernel) only [↓vsD, vsU, Bool.or_false, Bool.true_or, resW, fnRet, cond_true, cond_false, Nat.reduceShiftRight, Nat.reduceAnd, Go.PV.fits, Go.PV.mutOf, Go.PV.splice, Int.reduceToNat, Int.reduceEq, Int.reduceAdd, Int.reduceSub, Int.reduceMul, Int.reduceLE, Int.reduceLT, Int.reduceNeg, Nat.reduceMul, Nat.reduceLeDiff, ne_eq, if_true, if_false, reduceIte, Nat.reduceEqDiff, ↓Nat.reduceLT, Nat.reduceAdd, Nat.reduceBEq, reduceCtorEq, enc_length, encs_length, tyU, tyC, tyB, tyA, tyI, tyZ, tyF, tyP, enc_getD, encs_getD, wrap_i64, enc_set, splice_one, set_last, bin_snn, bin_snm, bin_sns, bin_tnn, bin_tnm, bin_tns, vdx_none, vkp_go, ↓vd_end, place_nil, place_cons, vdo_eff, vdo_effA, ↓vdm_go, List.take_succ_cons, List.take_zero, List.drop_succ_cons, List.drop_zero, vdo_noeff_s, vdo_noeff_n, vdo_nofloat, vdo_noread, vdo_read, vdo_floatS, vdo_floatA, vde_s, vde_n, vde_c, vdx_s, vdr_s, vdr_b, vdf_m, vdf_p, ↓vd_op, ↓guard_none, ↓guard_some, gval_some, List.forall_mem_cons, List.not_mem_nil, false_implies, implies_true, List.length_append, List.length_replicate, List.replicate_zero, List.replicate_succ, List.contains_nil, List.contains_cons, Bool.or_false, Bool.false_or, Bool.or_self, Bool.or_true, Bool.true_or, vdr_o, vdq_eq, vdw_s, outR_v, rowsAt_none, mapAt_none, lnil, drop0, enc_length, encB_length, encB_getD, encB_set, hku, hQ, bytesOk, lenOk, aggN, undN, capsP]
          rw [hus2, show ints L ++ [[PV.int .i64 (k : Int)]] = ints (L ++ [(k : Int)]) from by simp [ints, PV.encI]]
          refine PCall.mono (ih (L ++ [(k : Int)]) (some (o, v + 1)) bo bk _ hlk hpk (hx.turn (L ++ [(k : Int)]) (v + 1)) (fun p σ' => ∃ oo' bo' Q', EX (L ++ [(k : Int)]) (visitB W sizes.length m (L ++ [(k : Int)]) bk) oo' bo' Q' ∧ p = .tup [] ∧ σ' = exS sizes E calls page (usedL sizes.length (L ++ [(k : Int)])) (BVof bo') (OVof oo') (visitB W sizes.length m (L ++ [(k : Int)]) bk).2 Q') (fun oo' bo' Q' hx' => ⟨oo', bo', Q', hx', rfl, rfl⟩)) ?_
          rintro p σ' ⟨oo', bo', Q', hx', rfl, rfl⟩
          rw [← hsb] at hx' ⊢
          cases oo' with
          | none => exact absurd (hx'.ord0 rfl) (by simp)
          | some q =>
            obtain ⟨o', v', t'⟩ := q
            have hxb := EX.back hx'
            obtain ⟨L', hQ', hL'⟩ := hx'.ord o' v' t' rfl
            have hku2 : k < (usedL sizes.length (L ++ [(k : Int)])).length := by rw [usedL_length]; exact hkl
            have hpl : (L ++ [(k : Int)]).length = L.length + 1 := by simp
            have htn : (((L.length + 1 : Nat) : Int) - 1).toNat = L.length := by omega
            cases t' with
            | none =>
              obtain rfl : L' = L ++ [(k : Int)] := hL'
              unfold exS
              simp only [OVof]
              refine v_draws _ _ _ _ _ _ [8, 9] [] [(0, 0), (0, 0), (0, 1), (0, 1), (0, 1), (0, 1), (0, 1), (0, 0), (0, 0), (0, 0)] (by decide +kernel) (by decide +kernel) (by decide +kernel) (by decide +kernel) ?_
              simp -dsimp (maxSteps := 4000000) +contextual (disch := first | omega | decide +kernel) only [↓vsD, vsU, Bool.or_false, Bool.true_or, resW, fnRet, cond_true, cond_false, Nat.reduceShiftRight, Nat.reduceAnd, Go.PV.fits, Go.PV.mutOf, Go.PV.splice, Int.reduceToNat, Int.reduceEq, Int.reduceAdd, Int.reduceSub, Int.reduceMul, Int.reduceLE, Int.reduceLT, Int.reduceNeg, Nat.reduceMul, Nat.reduceLeDiff, ne_eq, if_true, if_false, reduceIte, Nat.reduceEqDiff, ↓Nat.reduceLT, Nat.reduceAdd, Nat.reduceBEq, reduceCtorEq, enc_length, encs_length, tyU, tyC, tyB, tyA, tyI, tyZ, tyF, tyP, enc_getD, encs_getD, wrap_i64, enc_set, splice_one, set_last, bin_snn, bin_snm, bin_sns, bin_tnn, bin_tnm, bin_tns, vdx_none, vkp_go, ↓vd_end, place_nil, place_cons, vdo_eff, vdo_effA, ↓vdm_go, List.take_succ_cons, List.take_zero, List.drop_succ_cons, List.drop_zero, vdo_noeff_s, vdo_noeff_n, vdo_nofloat, vdo_noread, vdo_read, vdo_floatS, vdo_floatA, vde_s, vde_n, vde_c, vdx_s, vdr_s, vdr_b, vdf_m, vdf_p, ↓vd_op, ↓guard_none, ↓guard_some, gval_some, List.forall_mem_cons, List.not_mem_nil, false_implies, implies_true, List.length_append, List.length_replicate, List.replicate_zero, List.replicate_succ, List.contains_nil, List.contains_cons, Bool.or_false, Bool.false_or, Bool.or_self, Bool.or_true, Bool.true_or, vdr_o, vdq_eq, vdw_s, outR_v, rowsAt_none, mapAt_none, lnil, drop0, enc_length, encB_length, encB_getD, encB_set, hku2, hQ', hus3, ints_len, hpl, htn]
              exact ⟨(k + 1, some (o', v', some L.length), bo', Q'), (by (try dsimp only); omega), (by simp [weaker, Go.PV.look]), rfl, by dsimp only; omega, hxb⟩
            | some h' =>
              obtain ⟨rfl, hL1, hL2⟩ := hL'
              unfold exS
              simp only [OVof]
              refine v_draws _ _ _ _ _ _ [8, 9] [] [(0, 0), (0, 0), (0, 1), (0, 1), (0, 1), (0, 1), (0, 1), (0, 0), (0, 0), (0, 0)] (by decide +kernel) (by decide +kernel) (by decide +kernel) (by decide +kernel) ?_
              simp -dsimp (maxSteps := 4000000) +contextual (disch := first | omega | decide +kernel) only [↓vsD, vsU, Bool.or_false, Bool.true_or, resW, fnRet, cond_true, cond_false, Nat.reduceShiftRight, Nat.reduceAnd, Go.PV.fits, Go.PV.mutOf, Go.PV.splice, Int.reduceToNat, Int.reduceEq, Int.reduceAdd, Int.reduceSub, Int.reduceMul, Int.reduceLE, Int.reduceLT, Int.reduceNeg, Nat.reduceMul, Nat.reduceLeDiff, ne_eq, if_true, if_false, reduceIte, Nat.reduceEqDiff, ↓Nat.reduceLT, Nat.reduceAdd, Nat.reduceBEq, reduceCtorEq, enc_length, encs_length, tyU, tyC, tyB, tyA, tyI, tyZ, tyF, tyP, enc_getD, encs_getD, wrap_i64, enc_set, splice_one, set_last, bin_snn, bin_snm, bin_sns, bin_tnn, bin_tnm, bin_tns, vdx_none, vkp_go, ↓vd_end, place_nil, place_cons, vdo_eff, vdo_effA, ↓vdm_go, List.take_succ_cons, List.take_zero, List.drop_succ_cons, List.drop_zero, vdo_noeff_s, vdo_noeff_n, vdo_nofloat, vdo_noread, vdo_read, vdo_floatS, vdo_floatA, vde_s, vde_n, vde_c, vdx_s, vdr_s, vdr_b, vdf_m, vdf_p, ↓vd_op, ↓guard_none, ↓guard_some, gval_some, List.forall_mem_cons, List.not_mem_nil, false_implies, implies_true, List.length_append, List.length_replicate, List.replicate_zero, List.replicate_succ, List.contains_nil, List.contains_cons, Bool.or_false, Bool.false_or, Bool.or_self, Bool.or_true, Bool.true_or, vdr_o, vdq_eq, vdw_s, outR_v, rowsAt_none, mapAt_none, lnil, drop0, enc_length, encB_length, encB_getD, encB_set, hku2, hQ', hus3, ints_len, hpl, htn]
              exact ⟨(k + 1, some (o', v', some L.length), bo', Q'), (by (try dsimp only); omega), (by simp [weaker, Go.PV.look]), rfl, by dsimp only; omega, hxb⟩
        | some hh =>
          obtain ⟨rfl, hL1, hL2⟩ := hL
          have hbo : (pre.length + 1) * 8 ≤ maxBytes := by simp only [maxBytes]; omega
          have hlo : pre.length + 1 ≤ maxLen := by simp only [maxLen]; omega
          have htk : (ints L).take pre.length = ints pre := by rw [← ints_take, hL2]
          simp only [OVof]
          simp -dsimp (maxSteps := 4000000) +contextual (disch := first | omega | decide +kernel) only [↓vsD, vsU, Bool.or_false, Bool.true_or, resW, fnRet, cond_true, cond_false, Nat.reduceShiftRight, Nat.reduceAnd, Go.PV.fits, Go.PV.mutOf, Go.PV.splice, Int.reduceToNat, Int.reduceEq, Int.reduceAdd, Int.reduceSub, Int.reduceMul, Int.reduceLE, Int.reduceLT, Int.reduceNeg, Nat.reduceMul, Nat.reduceLeDiff, ne_eq, if_true, if_false, reduceIte, Nat.reduceEqDiff, ↓Nat.reduceLT, Nat.reduceAdd, Nat.reduceBEq, reduceCtorEq, enc_length, encs_length, tyU, tyC, tyB, tyA, tyI, tyZ, tyF, tyP, enc_getD, encs_getD, wrap_i64, enc_set, splice_one, set_last, bin_snn, bin_snm, bin_sns, bin_tnn, bin_tnm, bin_tns, vdx_none, vkp_go, ↓vd_end, place_nil, place_cons, vdo_eff, vdo_effA, ↓vdm_go, List.take_succ_cons, List.take_zero, List.drop_succ_cons, List.drop_zero, vdo_noeff_s, vdo_noeff_n, vdo_nofloat, vdo_noread, vdo_read, vdo_floatS, vdo_floatA, vde_s, vde_n, vde_c, vdx_s, vdr_s, vdr_b, vdf_m, vdf_p, ↓vd_op, ↓guard_none, ↓guard_some, gval_some, List.forall_mem_cons, List.not_mem_nil, false_implies, implies_true, List.length_append, List.length_replicate, List.replicate_zero, List.replicate_succ, List.contains_nil, List.contains_cons, Bool.or_false, Bool.false_or, Bool.or_self, Bool.or_true, Bool.true_or, vdr_o, vdq_eq, vdw_s, outR_v, rowsAt_none, mapAt_none, lnil, drop0, enc_length, encB_length, encB_getD, encB_set, hku, hQ, bytesOk, lenOk, aggN, undN, capsP, hL1, hbo, hlo, htk]
          rw [hus2, show ints pre ++ [[PV.int .i64 (k : Int)]] = ints (pre ++ [(k : Int)]) from by simp [ints, PV.encI]]
          refine PCall.mono (ih (pre ++ [(k : Int)]) (some (o, v + 1 + 1)) bo bk _ hlk hpk (hx.turn (pre ++ [(k : Int)]) (v + 1 + 1)) (fun p σ' => ∃ oo' bo' Q', EX (pre ++ [(k : Int)]) (visitB W sizes.length m (pre ++ [(k : Int)]) bk) oo' bo' Q' ∧ p = .tup [] ∧ σ' = exS sizes E calls page (usedL sizes.length (pre ++ [(k : Int)])) (BVof bo') (OVof oo') (visitB W sizes.length m (pre ++ [(k : Int)]) bk).2 Q') (fun oo' bo' Q' hx' => ⟨oo', bo', Q', hx', rfl, rfl⟩)) ?_
          rintro p σ' ⟨oo', bo', Q', hx', rfl, rfl⟩
          rw [← hsb] at hx' ⊢
          cases oo' with
          | none => exact absurd (hx'.ord0 rfl) (by simp)
          | some q =>
            obtain ⟨o', v', t'⟩ := q
            have hxb := EX.back hx'
            obtain ⟨L', hQ', hL'⟩ := hx'.ord o' v' t' rfl
            have hku2 : k < (usedL sizes.length (pre ++ [(k : Int)])).length := by rw [usedL_length]; exact hkl
            have hpl : (pre ++ [(k : Int)]).length = pre.length + 1 := by simp
            have htn : (((pre.length + 1 : Nat) : Int) - 1).toNat = pre.length := by omega
            cases t' with
            | none =>
              obtain rfl : L' = pre ++ [(k : Int)] := hL'
              unfold exS
              simp only [OVof]
              refine v_draws _ _ _ _ _ _ [8, 9] [] [(0, 0), (0, 0), (0, 1), (0, 1), (0, 1), (0, 1), (0, 1), (0, 0), (0, 0), (0, 0)] (by decide +kernel) (by decide +kernel) (by decide +kernel) (by decide +kernel) ?_
              simp -dsimp (maxSteps := 4000000) +contextual (disch := first | omega | decide +kernel) only [↓vsD, vsU, Bool.or_false, Bool.true_or, resW, fnRet, cond_true, cond_false, Nat.reduceShiftRight, Nat.reduceAnd, Go.PV.fits, Go.PV.mutOf, Go.PV.splice, Int.reduceToNat, Int.reduceEq, Int.reduceAdd, Int.reduceSub, Int.reduceMul, Int.reduceLE, Int.reduceLT, Int.reduceNeg, Nat.reduceMul, Nat.reduceLeDiff, ne_eq, if_true, if_false, reduceIte, Nat.reduceEqDiff, ↓Nat.reduceLT, Nat.reduceAdd, Nat.reduceBEq, reduceCtorEq, enc_length, encs_length, tyU, tyC, tyB, tyA, tyI, tyZ, tyF, tyP, enc_getD, encs_getD, wrap_i64, enc_set, splice_one, set_last, bin_snn, bin_snm, bin_sns, bin_tnn, bin_tnm, bin_tns, vdx_none, vkp_go, ↓vd_end, place_nil, place_cons, vdo_eff, vdo_effA, ↓vdm_go, List.take_succ_cons, List.take_zero, List.drop_succ_cons, List.drop_zero, vdo_noeff_s, vdo_noeff_n, vdo_nofloat, vdo_noread, vdo_read, vdo_floatS, vdo_floatA, vde_s, vde_n, vde_c, vdx_s, vdr_s, vdr_b, vdf_m, vdf_p, ↓vd_op, ↓guard_none, ↓guard_some, gval_some, List.forall_mem_cons, List.not_mem_nil, false_implies, implies_true, List.length_append, List.length_replicate, List.replicate_zero, List.replicate_succ, List.contains_nil, List.contains_cons, Bool.or_false, Bool.false_or, Bool.or_self, Bool.or_true, Bool.true_or, vdr_o, vdq_eq, vdw_s, outR_v, rowsAt_none, mapAt_none, lnil, drop0, enc_length, encB_length, encB_getD, encB_set, hku2, hQ', hus3, ints_len, hpl, htn]
              exact ⟨(k + 1, some (o', v', some pre.length), bo', Q'), (by (try dsimp only); omega), (by simp [weaker, Go.PV.look]), rfl, by dsimp only; omega, hxb⟩
            | some h' =>
              obtain ⟨rfl, hL1, hL2⟩ := hL'
              unfold exS
              simp only [OVof]
              refine v_draws _ _ _ _ _ _ [8, 9] [] [(0, 0), (0, 0), (0, 1), (0, 1), (0, 1), (0, 1), (0, 1), (0, 0), (0, 0), (0, 0)] (by decide +kernel) (by decide +kernel) (by decide +kernel) (by decide +kernel) ?_
              simp -dsimp (maxSteps := 4000000) +contextual (disch := first | omega | decide +kernel) only [↓vsD, vsU, Bool.or_false, Bool.true_or, resW, fnRet, cond_true, cond_false, Nat.reduceShiftRight, Nat.reduceAnd, Go.PV.fits, Go.PV.mutOf, Go.PV.splice, Int.reduceToNat, Int.reduceEq, Int.reduceAdd, Int.reduceSub, Int.reduceMul, Int.reduceLE, Int.reduceLT, Int.reduceNeg, Nat.reduceMul, Nat.reduceLeDiff, ne_eq, if_true, if_false, reduceIte, Nat.reduceEqDiff, ↓Nat.reduceLT, Nat.reduceAdd, Nat.reduceBEq, reduceCtorEq, enc_length, encs_length, tyU, tyC, tyB, tyA, tyI, tyZ, tyF, tyP, enc_getD, encs_getD, wrap_i64, enc_set, splice_one, set_last, bin_snn, bin_snm, bin_sns, bin_tnn, bin_tnm, bin_tns, vdx_none, vkp_go, ↓vd_end, place_nil, place_cons, vdo_eff, vdo_effA, ↓vdm_go, List.take_succ_cons, List.take_zero, List.drop_succ_cons, List.drop_zero, vdo_noeff_s, vdo_noeff_n, vdo_nofloat, vdo_noread, vdo_read, vdo_floatS, vdo_floatA, vde_s, vde_n, vde_c, vdx_s, vdr_s, vdr_b, vdf_m, vdf_p, ↓vd_op, ↓guard_none, ↓guard_some, gval_some, List.forall_mem_cons, List.not_mem_nil, false_implies, implies_true, List.length_append, List.length_replicate, List.replicate_zero, List.replicate_succ, List.contains_nil, List.contains_cons, Bool.or_false, Bool.false_or, Bool.or_self, Bool.or_true, Bool.true_or, vdr_o, vdq_eq, vdw_s, outR_v, rowsAt_none, mapAt_none, lnil, drop0, enc_length, encB_length, encB_getD, encB_set, hku2, hQ', hus3, ints_len, hpl, htn]
              exact ⟨(k + 1, some (o', v', some pre.length), bo', Q'), (by (try dsimp only); omega), (by simp [weaker, Go.PV.look]), rfl, by dsimp only; omega, hxb⟩
  · have hkz : k = sizes.length := by omega
    subst hkz
    unfold exS
    simp -dsimp (maxSteps := 4000000) +contextual (disch := first | omega | decide +kernel) only [↓vsD, vsU, Bool.or_false, Bool.true_or, resW, fnRet, cond_true, cond_false, Nat.reduceShiftRight, Nat.reduceAnd, Go.PV.fits, Go.PV.mutOf, Go.PV.splice, Int.reduceToNat, Int.reduceEq, Int.reduceAdd, Int.reduceSub, Int.reduceMul, Int.reduceLE, Int.reduceLT, Int.reduceNeg, Nat.reduceMul, Nat.reduceLeDiff, ne_eq, if_true, if_false, reduceIte, Nat.reduceEqDiff, ↓Nat.reduceLT, Nat.reduceAdd, Nat.reduceBEq, reduceCtorEq, enc_length, encs_length, tyU, tyC, tyB, tyA, tyI, tyZ, tyF, tyP, enc_getD, encs_getD, wrap_i64, enc_set, splice_one, set_last, bin_snn, bin_snm, bin_sns, bin_tnn, bin_tnm, bin_tns, enc_length]
    exact hK _ _ _ hx
theorem permute_ok (sizes : List Int) (E : PV) (calls : List CallI) (page : Int) (hE : PV.cell E = true) (hB : Bel 0 E) (h : GoodP sizes calls page) : ∀ (m : Nat) (pre : List Int) (ov : Option (Nat × Nat)) (bo : Option Nat) (b : Option (List Int) × Int) (Q : Store),
    pre.length + m = sizes.length → (∀ f ∈ pre, 0 ≤ f ∧ f < sizes.length) → EX pre b (fullO ov) bo Q → ∀ K : PV → Store → Prop,
    (∀ oo' bo' Q', EX pre (visitB (wgt sizes calls page) sizes.length m pre b) oo' bo' Q' → K (.tup []) (exS sizes E calls page (usedL sizes.length pre) (BVof bo') (OVof oo') (visitB (wgt sizes calls page) sizes.length m pre b).2 Q')) →
    PCall Try.prog 113 capsP (exS sizes E calls page (usedL sizes.length pre) (BVof bo) (OVof (fullO ov)) b.2 Q) K
  | 0, pre, ov, bo, b, Q, hl, hp, hx, K, hK => permute0_ok sizes E calls page hE hB h pre ov bo b Q (by omega) hp hx K hK
  | m + 1, pre, ov, bo, b, Q, hl, hp, hx, K, hK => permuteS sizes E calls page hE hB h _ m (permute_ok sizes E calls page hE hB h m) pre ov bo b Q hl hp hx K hK
end Go.Proofs.Ythginmfobikdgaa
