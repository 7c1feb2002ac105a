/- Chapter 38, the walks: greedy. -/
import Derived.Test.YthginmfobikdgaaGrE
set_option linter.unusedSimpArgs false
set_option linter.unusedVariables false
namespace Go.Proofs.Ythginmfobikdgaa
open Go.PV

def grS (E : PV) (calls : List CallI) (s : GS) (Q : Store) : Store :=
  .rows 76 2 [[E, .sl (encL calls)]] 0 :: .rows 40 1 (encG s.gs) 0 :: .rows 28 1 [[.msl 1 0]] 0 :: .rows 3 1 (ints s.of) 0 :: .rows 3 1 (ints s.by_) 1 :: Q
def gsA (n k : Nat) : List Grp := (List.range n).map fun x : Nat => if x < k then ([(x : Int)], 0) else ([], 0)
theorem gsA_length (n k : Nat) : (gsA n k).length = n := by simp [gsA]
theorem gsA_set (n k : Nat) (h : k < n) : (gsA n k).set k ([(k : Int)], 0) = gsA n (k + 1) := by
  apply List.ext_getElem?
  intro j
  rw [List.getElem?_set]
  simp only [gsA, List.length_map, List.length_range, List.getElem?_map]
  by_cases hj : k = j
  · subst hj
    rw [if_pos rfl, if_pos h, List.getElem?_range h]
    simp
  · rw [if_neg hj]
    by_cases hjn : j < n
    · rw [List.getElem?_range hjn]
      simp only [Option.map_some]
      by_cases h1 : j < k
      · rw [if_pos h1, if_pos (by omega)]
      · rw [if_neg h1, if_neg (by omega)]
    · rw [List.getElem?_eq_none (by simpa using hjn)]; rfl
theorem gsA_none (n : Nat) : List.replicate n [PV.nils] = encG (gsA n 0) := by
  apply List.ext_getElem?
  intro j
  by_cases hj : j < n
  · simp [encG, gsA, hj, hdG]
  · simp [encG, gsA, hj]
def qA (k : Nat) : Store := (List.range k).map fun x : Nat => .rows 3 1 (ints [(x : Int)]) 0
theorem qA_length (k : Nat) : (qA k).length = k := by simp [qA]
theorem qA_succ (k : Nat) : qA (k + 1) = qA k ++ [.rows 3 1 (ints [(k : Int)]) 0] := by simp [qA, List.range_succ]
theorem encG_set1 (gs : List Grp) (k : Nat) (l : List Int) (v : Nat) (h : l ≠ []) : (encG gs).set k [.msl (k + 5) v] = encG (gs.set k (l, v)) := by
  have := encG_set gs k (l, v)
  rwa [hdG_ne h] at this
theorem encG_set0 (gs : List Grp) (k : Nat) : (encG gs).set k [.nils] = encG (gs.set k ([], 0)) := encG_set gs k ([], 0)
theorem qA_QG (n : Nat) : QG (gsA n n) (qA n) := by
  intro k hk _
  rw [gsA_length] at hk
  simp [gsA, qA, List.getD_eq_getElem?_getD, hk]
theorem gsA_all (sizes : List Int) : (⟨gsA sizes.length sizes.length, natI sizes.length, sizes⟩ : GS) = initG sizes := by
  unfold initG gsA
  congr 1
  apply List.map_congr_left
  intro x hx
  rw [if_pos (List.mem_range.1 hx)]
theorem newsI (l : List Int) : newsOk Try.prog 3 (ints l) = true := by
  show newsOk _ _ (List.map _ _) = true
  simp [newsOk, PV.cell, tyC]

theorem QG.join {gs : List Grp} {Q : Store} (h : QG gs Q) {x y : Nat} (hx : x < gs.length) (hy : y < gs.length) (hxe : (gs.getD x default).1 ≠ []) (g : List Int) (v : Nat) : QG ((gs.set x (g, v)).set y ([], 0)) (Q.set x (.rows 3 1 (ints g) v)) := by
  intro k hk he
  rw [List.length_set, List.length_set] at hk
  rw [getD_set _ _ _ _ _ (by rw [List.length_set]; exact hy), getD_set _ _ _ _ _ hx] at he ⊢
  by_cases h1 : y = k
  · rw [if_pos h1] at he
    exact absurd rfl he
  · rw [if_neg h1] at he ⊢
    by_cases h2 : x = k
    · subst h2
      rw [if_pos rfl] at he ⊢
      exact List.getElem?_set_self (List.getElem?_eq_some_iff.1 (h x hx hxe)).1
    · rw [if_neg h2] at he ⊢
      rw [List.getElem?_set_ne h2]
      exact h k hk he
theorem QG.app {gs : List Grp} {Q : Store} (h : QG gs Q) (X : Store) : QG gs (Q ++ X) := fun k hk he => by
  have := h k hk he
  rw [List.getElem?_append_left (List.getElem?_eq_some_iff.1 this).1, this]
theorem QG.setO {gs : List Grp} {Q : Store} (h : QG gs Q) {o : Nat} (ho : gs.length ≤ o) (X : Go.PV.Obj) : QG gs (Q.set o X) := fun k hk he => by
  rw [List.getElem?_set_ne (by omega)]
  exact h k hk he
theorem GSt.of {E : PV} {calls : List CallI} {s : GS} {Q : Store} (h : QG s.gs Q) : GSt s.gs (grS E calls s Q) := ⟨rfl, rfl, fun k hk he => h k hk he⟩
/-- The counts of the calls within groups. -/
def winS (of : List Int) (wi : List Int) (c : CallI) : List Int := if of.getD c.fn.toNat 0 = of.getD c.cal.toNat 0 then wi.set (of.getD c.fn.toNat 0).toNat (wi.getD (of.getD c.fn.toNat 0).toNat 0 + c.cnt) else wi
def winG (of : List Int) (wi : List Int) (l : List CallI) : List Int := l.foldl (winS of) wi
theorem winG_take (of wi : List Int) (l : List CallI) (k : Nat) (h : k < l.length) : winG of wi (l.take (k + 1)) = winS of (winG of wi (l.take k)) (l.getD k default) := by
  rw [winG, List.take_add_one, List.getElem?_eq_getElem h, List.foldl_append, List.getD_eq_getElem?_getD, List.getElem?_eq_getElem h]; rfl
theorem zeros (n : Nat) : List.replicate n [PV.int .i64 0] = ints (List.replicate n 0) := by simp [ints, PV.encI]
theorem winS_range {of wi : List Int} {c : CallI} {B : Int} (h : ∀ x : Nat, 0 ≤ wi.getD x 0 ∧ wi.getD x 0 ≤ B) (hc : 0 ≤ c.cnt ∧ c.cnt ≤ 1099511627776) (x : Nat) : 0 ≤ (winS of wi c).getD x 0 ∧ (winS of wi c).getD x 0 ≤ B + 1099511627776 := by
  unfold winS
  split
  · have h1 := h x
    have h2 := h (of.getD c.fn.toNat 0).toNat
    generalize (of.getD c.fn.toNat 0).toNat = i at h2 ⊢
    generalize wi.getD i 0 = u at h2 ⊢
    rw [List.getD_eq_getElem?_getD, List.getElem?_set]
    rw [List.getD_eq_getElem?_getD] at h1
    split
    · split <;> simp <;> omega
    · omega
  · have := h x
    omega
theorem winG_range {of : List Int} : ∀ (l : List CallI) (wi : List Int) (B : Int), (∀ x : Nat, 0 ≤ wi.getD x 0 ∧ wi.getD x 0 ≤ B) → (∀ c ∈ l, 0 ≤ c.cnt ∧ c.cnt ≤ 1099511627776) → ∀ x : Nat, 0 ≤ (winG of wi l).getD x 0 ∧ (winG of wi l).getD x 0 ≤ B + l.length * 1099511627776
  | [], wi, B, h, _, x => by simpa [winG] using h x
  | c :: l, wi, B, h, hc, x => by
    have := winG_range (of := of) l (winS of wi c) (B + 1099511627776) (fun x => winS_range h (hc c (by simp)) x) (fun d hd => hc d (by simp [hd])) x
    rw [winG, List.foldl_cons]
    rw [winG] at this
    rw [List.length_cons]
    omega
theorem winG_length {of : List Int} : ∀ (l : List CallI) (wi : List Int), (winG of wi l).length = wi.length
  | [], wi => rfl
  | c :: l, wi => by
    rw [winG, List.foldl_cons]
    refine (winG_length l (winS of wi c)).trans ?_
    unfold winS
    split
    · rw [List.length_set]
    · rfl
def liveG (gs : List Grp) (n : Nat) : List Int := (natI n).filter fun x => !decide ((gs.getD x.toNat default).1 = [])
def outG (gs : List Grp) (L : List Int) : List Int := L.flatMap fun x => (gs.getD x.toNat default).1
theorem outG_take (gs : List Grp) (L : List Int) (k : Nat) (h : k < L.length) : outG gs (L.take (k + 1)) = outG gs (L.take k) ++ (gs.getD (L.getD k 0).toNat default).1 := by
  rw [outG, List.take_add_one, List.getElem?_eq_getElem h, List.flatMap_append, List.getD_eq_getElem?_getD (l := L), List.getElem?_eq_getElem h]
  simp [outG]
theorem live_mem {gs : List Grp} {n : Nat} {x : Int} (h : x ∈ liveG gs n) : ∃ k : Nat, x = k ∧ k < n ∧ (gs.getD k default).1 ≠ [] := by
  obtain ⟨h1, h2⟩ := List.mem_filter.1 h
  have := natI_mem h1
  refine ⟨x.toNat, by omega, by omega, ?_⟩
  simpa using h2

/-- Sorting of at most n numbers, as far as it is known. -/
def SortsI (n : Nat) (R : (Int → Int → Int) → List Int → List Int → Prop) : Prop := ∀ (o v : Nat) (L0 : List Int) (F : FuncId) (cap : List PV) (cf : Int → Int → Int) (σ : Store), σ[o]? = some (.rows 3 1 (ints L0) v) → L0.length ≤ n → (∀ args σ, noE.f F args σ = none) →
  (∀ X Y a b, a ∈ L0 → b ∈ L0 → PCall Try.prog F (.int .i64 a :: .int .i64 b :: cap) (σ.set o X ++ Y) (fun q τ => q = .int .i64 (cf a b) ∧ τ = σ.set o X ++ Y)) →
  PCall Try.prog 110 [.msl o v, .func (.func F) [] cap] σ (fun p σ' => p = .tup [] ∧ ∃ L, R cf L0 L ∧ L.Perm L0 ∧ σ' = σ.set o (.rows 3 1 (ints L) v))
/-- What greedy hands back. -/
def GreedyR (R : (Int → Int → Int) → List Int → List Int → Prop) (sizes : List Int) (calls : List CallI) (page : Int) (out : List Int) : Prop :=
  ∃ s wi L, s = runG page (initG sizes) (hotF calls) ∧ wi = winG s.of (List.replicate sizes.length 0) calls ∧ R (cfG wi s.gs) (liveG s.gs sizes.length) L ∧ L.Perm (liveG s.gs sizes.length) ∧ out = outG s.gs L
set_option maxRecDepth 8000 in
set_option maxHeartbeats 16000000 in
theorem greedy_w (R : (Int → Int → Int) → List Int → List Int → Prop) (sizes : List Int) (E : PV) (calls : List CallI) (page : Int) (hE : PV.cell E = true) (hB : Bel 0 E) (h : GoodP sizes calls page) (hl : calls.length < 20) (hS : SortsI sizes.length R) :
    PCall Try.prog 77 [.sl (ints sizes), graphV E calls, .int .i64 page] [] (fun p _ => ∃ L, GreedyR R sizes calls page L ∧ p = .sl (ints L)) := by
  have h1 := h.n0
  have h2 := h.n
  have hhot := hot_on E calls hE hB hl
  unfold graphV at hhot ⊢
  refine PCall.vfrz [40] 5480631227123110294960847612126097168765523329023 172 [.tmp 6] (noE_ok _) mix Try.func77 rfl (by decide) rfl rfl (by simp) ?_
  simp -dsimp only [initFr, List.zipIdx_cons, List.zipIdx_nil, List.map_cons, List.map_nil, Nat.zero_add, Nat.reduceAdd]
  have k0 : ∀ args σ, noE.f 72 args σ = none := fun _ _ => rfl
  have k1 : ∀ args σ, noE.f 107 args σ = none := fun _ _ => rfl
  simp -dsimp (maxSteps := 4000000) +contextual (disch := first | omega | decide +kernel) only [↓vsD, vsU, Bool.or_false, Bool.true_or, resW, fnRet, cond_true, cond_false, Nat.reduceShiftRight, Nat.reduceAnd, Go.PV.fits, Go.PV.mutOf, Go.PV.splice, Int.reduceToNat, Int.reduceEq, Int.reduceAdd, Int.reduceSub, Int.reduceMul, Int.reduceLE, Int.reduceLT, Int.reduceNeg, Nat.reduceMul, Nat.reduceLeDiff, ne_eq, if_true, if_false, reduceIte, Nat.reduceEqDiff, ↓Nat.reduceLT, Nat.reduceAdd, Nat.reduceBEq, reduceCtorEq, enc_length, encs_length, tyU, tyC, tyB, tyA, tyI, tyZ, tyF, tyP, enc_getD, encs_getD, wrap_i64, enc_set, splice_one, set_last, bin_snn, bin_snm, bin_sns, bin_tnn, bin_tnm, bin_tns, enc_length, hE, k0, k1]
  refine v_draws _ _ _ _ _ _ [5, 7, 9] [2, 8] [(0, 2), (0, 2), (0, 2), (0, 0), (0, 0), (0, 0), (0, 1), (0, 0), (0, 2), (2, 0), (3, 3), (3, 3)] (by decide +kernel) (by decide +kernel) (by decide +kernel) (by decide +kernel) ?_
  simp -dsimp (maxSteps := 4000000) +contextual (disch := first | omega | decide +kernel) only [↓vsD, vsU, Bool.or_false, Bool.true_or, resW, fnRet, cond_true, cond_false, Nat.reduceShiftRight, Nat.reduceAnd, Go.PV.fits, Go.PV.mutOf, Go.PV.splice, Int.reduceToNat, Int.reduceEq, Int.reduceAdd, Int.reduceSub, Int.reduceMul, Int.reduceLE, Int.reduceLT, Int.reduceNeg, Nat.reduceMul, Nat.reduceLeDiff, ne_eq, if_true, if_false, reduceIte, Nat.reduceEqDiff, ↓Nat.reduceLT, Nat.reduceAdd, Nat.reduceBEq, reduceCtorEq, enc_length, encs_length, tyU, tyC, tyB, tyA, tyI, tyZ, tyF, tyP, enc_getD, encs_getD, wrap_i64, enc_set, splice_one, set_last, bin_snn, bin_snm, bin_sns, bin_tnn, bin_tnm, bin_tns, vdx_none, vkp_go, ↓vd_end, place_nil, place_cons, vdo_eff, vdo_effA, ↓vdm_go, List.take_succ_cons, List.take_zero, List.drop_succ_cons, List.drop_zero, vdo_noeff_s, vdo_noeff_n, vdo_nofloat, vdo_noread, vdo_read, vdo_floatS, vdo_floatA, vde_s, vde_n, vde_c, vdx_s, vdr_s, vdr_b, vdf_m, vdf_p, ↓vd_op, ↓guard_none, ↓guard_some, gval_some, List.forall_mem_cons, List.not_mem_nil, false_implies, implies_true, List.length_append, List.length_replicate, List.replicate_zero, List.replicate_succ, List.contains_nil, List.contains_cons, Bool.or_false, Bool.false_or, Bool.or_self, Bool.or_true, Bool.true_or, vdr_o, vdq_eq, vdw_s, outR_v, rowsAt_none, mapAt_none, lnil, drop0, enc_length, hE, k0, k1, bytesOk, lenOk]
  refine ⟨_, _, natural_m sizes.length (by omega) _, by simp, ?_⟩
  simp -dsimp (maxSteps := 4000000) +contextual (disch := first | omega | decide +kernel) only [↓vsD, vsU, Bool.or_false, Bool.true_or, resW, fnRet, cond_true, cond_false, Nat.reduceShiftRight, Nat.reduceAnd, Go.PV.fits, Go.PV.mutOf, Go.PV.splice, Int.reduceToNat, Int.reduceEq, Int.reduceAdd, Int.reduceSub, Int.reduceMul, Int.reduceLE, Int.reduceLT, Int.reduceNeg, Nat.reduceMul, Nat.reduceLeDiff, ne_eq, if_true, if_false, reduceIte, Nat.reduceEqDiff, ↓Nat.reduceLT, Nat.reduceAdd, Nat.reduceBEq, reduceCtorEq, enc_length, encs_length, tyU, tyC, tyB, tyA, tyI, tyZ, tyF, tyP, enc_getD, encs_getD, wrap_i64, enc_set, splice_one, set_last, bin_snn, bin_snm, bin_sns, bin_tnn, bin_tnm, bin_tns, vdx_none, vkp_go, ↓vd_end, place_nil, place_cons, vdo_eff, vdo_effA, ↓vdm_go, List.take_succ_cons, List.take_zero, List.drop_succ_cons, List.drop_zero, vdo_noeff_s, vdo_noeff_n, vdo_nofloat, vdo_noread, vdo_read, vdo_floatS, vdo_floatA, vde_s, vde_n, vde_c, vdx_s, vdr_s, vdr_b, vdf_m, vdf_p, ↓vd_op, ↓guard_none, ↓guard_some, gval_some, List.forall_mem_cons, List.not_mem_nil, false_implies, implies_true, List.length_append, List.length_replicate, List.replicate_zero, List.replicate_succ, List.contains_nil, List.contains_cons, Bool.or_false, Bool.false_or, Bool.or_self, Bool.or_true, Bool.true_or, vdr_o, vdq_eq, vdw_s, outR_v, rowsAt_none, mapAt_none, lnil, drop0, enc_length, hE, k0, k1, bytesOk, lenOk]
  refine ⟨_, _, clone_sl2 sizes h1 (by omega) _, by simp, ?_⟩
  simp -dsimp (maxSteps := 4000000) +contextual (disch := first | omega | decide +kernel) only [↓vsD, vsU, Bool.or_false, Bool.true_or, resW, fnRet, cond_true, cond_false, Nat.reduceShiftRight, Nat.reduceAnd, Go.PV.fits, Go.PV.mutOf, Go.PV.splice, Int.reduceToNat, Int.reduceEq, Int.reduceAdd, Int.reduceSub, Int.reduceMul, Int.reduceLE, Int.reduceLT, Int.reduceNeg, Nat.reduceMul, Nat.reduceLeDiff, ne_eq, if_true, if_false, reduceIte, Nat.reduceEqDiff, ↓Nat.reduceLT, Nat.reduceAdd, Nat.reduceBEq, reduceCtorEq, enc_length, encs_length, tyU, tyC, tyB, tyA, tyI, tyZ, tyF, tyP, enc_getD, encs_getD, wrap_i64, enc_set, splice_one, set_last, bin_snn, bin_snm, bin_sns, bin_tnn, bin_tnm, bin_tns, vdx_none, vkp_go, ↓vd_end, place_nil, place_cons, vdo_eff, vdo_effA, ↓vdm_go, List.take_succ_cons, List.take_zero, List.drop_succ_cons, List.drop_zero, vdo_noeff_s, vdo_noeff_n, vdo_nofloat, vdo_noread, vdo_read, vdo_floatS, vdo_floatA, vde_s, vde_n, vde_c, vdx_s, vdr_s, vdr_b, vdf_m, vdf_p, ↓vd_op, ↓guard_none, ↓guard_some, gval_some, List.forall_mem_cons, List.not_mem_nil, false_implies, implies_true, List.length_append, List.length_replicate, List.replicate_zero, List.replicate_succ, List.contains_nil, List.contains_cons, Bool.or_false, Bool.false_or, Bool.or_self, Bool.or_true, Bool.true_or, vdr_o, vdq_eq, vdw_s, outR_v, rowsAt_none, mapAt_none, lnil, drop0, enc_length, hE, k0, k1, bytesOk, lenOk]
  rw [gsA_none]
  refine v_loopS (fun k : Nat => [(0, .sl (ints sizes)), (2, .int .i64 page), (4, .ptr 0 0 0 0), (7, .ptr 2 0 0 0), (8, .msl 3 0), (9, .msl 4 1), (33, .int .i64 sizes.length), (34, .int .i64 k)])
    (fun k => grS E calls ⟨gsA sizes.length k, natI sizes.length, sizes⟩ (qA k)) (fun k => k ≤ sizes.length) (fun k => sizes.length - k) 0 (by simp [weaker, Go.PV.look]) rfl (by omega) ?_
  intro k hk
  by_cases hkn : k < sizes.length
  · have e1 := encG_set1 (gsA sizes.length k) k [(k : Int)] 0 (by simp)
    rw [gsA_set _ _ hkn] at e1
    have e2 := qA_succ k
    have e3 := qA_length k
    have e4 := gsA_length sizes.length k
    unfold grS
    simp -dsimp (maxSteps := 4000000) +contextual (disch := first | omega | decide +kernel) only [↓vsD, vsU, Bool.or_false, Bool.true_or, resW, fnRet, cond_true, cond_false, Nat.reduceShiftRight, Nat.reduceAnd, Go.PV.fits, Go.PV.mutOf, Go.PV.splice, Int.reduceToNat, Int.reduceEq, Int.reduceAdd, Int.reduceSub, Int.reduceMul, Int.reduceLE, Int.reduceLT, Int.reduceNeg, Nat.reduceMul, Nat.reduceLeDiff, ne_eq, if_true, if_false, reduceIte, Nat.reduceEqDiff, ↓Nat.reduceLT, Nat.reduceAdd, Nat.reduceBEq, reduceCtorEq, enc_length, encs_length, tyU, tyC, tyB, tyA, tyI, tyZ, tyF, tyP, enc_getD, encs_getD, wrap_i64, enc_set, splice_one, set_last, bin_snn, bin_snm, bin_sns, bin_tnn, bin_tnm, bin_tns, enc_length, encG_length, e4, encG_getD, e3]
    refine ⟨k + 1, (by (try dsimp only); omega), (by simp [weaker, Go.PV.look]), ?_, by omega⟩
    dsimp only
    rw [e2, ← e1]
    rfl
  obtain rfl : k = sizes.length := by omega
  rw [gsA_all]
  have hq0 := qA_QG sizes.length
  have hq1 : QG (initG sizes).gs (qA sizes.length) := by rw [← gsA_all]; exact hq0
  clear hq0
  obtain ⟨Q0, hQ0⟩ : ∃ Q0, Q0 = qA sizes.length := ⟨_, rfl⟩
  have hQl : Q0.length = sizes.length := by rw [hQ0, qA_length]
  rw [← hQ0] at hq1 ⊢
  clear hQ0
  have hI0 := GI.init h.sz
  unfold grS
  simp -dsimp (maxSteps := 4000000) +contextual (disch := first | omega | decide +kernel) only [↓vsD, vsU, Bool.or_false, Bool.true_or, resW, fnRet, cond_true, cond_false, Nat.reduceShiftRight, Nat.reduceAnd, Go.PV.fits, Go.PV.mutOf, Go.PV.splice, Int.reduceToNat, Int.reduceEq, Int.reduceAdd, Int.reduceSub, Int.reduceMul, Int.reduceLE, Int.reduceLT, Int.reduceNeg, Nat.reduceMul, Nat.reduceLeDiff, ne_eq, if_true, if_false, reduceIte, Nat.reduceEqDiff, ↓Nat.reduceLT, Nat.reduceAdd, Nat.reduceBEq, reduceCtorEq, enc_length, encs_length, tyU, tyC, tyB, tyA, tyI, tyZ, tyF, tyP, enc_getD, encs_getD, wrap_i64, enc_set, splice_one, set_last, bin_snn, bin_snm, bin_sns, bin_tnn, bin_tnm, bin_tns, enc_length, hE]
  refine PCall.mono (hhot _) ?_
  rintro p σ' ⟨rfl, rfl⟩
  obtain ⟨hot, hhe⟩ : ∃ hot, hot = hotF calls := ⟨_, rfl⟩
  have hhc : ∀ c ∈ hot, c ∈ calls := fun c hc => by
    rw [hhe, hotF] at hc
    exact (List.mem_filter.1 ((insS_perm _ _).mem_iff.1 hc)).1
  have hhl : hot.length < 20 := by
    rw [hhe, hotF, (insS_perm _ _).length_eq]
    exact Nat.lt_of_le_of_lt (List.length_filter_le _ _) hl
  rw [← hhe]
  simp -dsimp (maxSteps := 4000000) +contextual (disch := first | omega | decide +kernel) only [↓vsD, vsU, Bool.or_false, Bool.true_or, resW, fnRet, cond_true, cond_false, Nat.reduceShiftRight, Nat.reduceAnd, Go.PV.fits, Go.PV.mutOf, Go.PV.splice, Int.reduceToNat, Int.reduceEq, Int.reduceAdd, Int.reduceSub, Int.reduceMul, Int.reduceLE, Int.reduceLT, Int.reduceNeg, Nat.reduceMul, Nat.reduceLeDiff, ne_eq, if_true, if_false, reduceIte, Nat.reduceEqDiff, ↓Nat.reduceLT, Nat.reduceAdd, Nat.reduceBEq, reduceCtorEq, enc_length, encs_length, tyU, tyC, tyB, tyA, tyI, tyZ, tyF, tyP, enc_getD, encs_getD, wrap_i64, enc_set, splice_one, set_last, bin_snn, bin_snm, bin_sns, bin_tnn, bin_tnm, bin_tns, encL_length]
  obtain ⟨s0, hs0⟩ : ∃ s0, s0 = initG sizes := ⟨_, rfl⟩
  rw [← hs0] at hI0 hq1 ⊢
  refine v_loopS (fun t : Nat × Store => [(0, .sl (ints sizes)), (2, .int .i64 page), (4, .ptr 0 0 0 0), (7, .ptr 2 0 0 0), (8, .msl 3 0), (9, .msl 4 1), (44, .sl (encL hot)), (45, .int .i64 hot.length), (46, .int .i64 t.1)])
    (fun t => grS E calls (runG page s0 (hot.take t.1)) t.2) (fun t => t.1 ≤ hot.length ∧ QG (runG page s0 (hot.take t.1)).gs t.2 ∧ sizes.length ≤ t.2.length) (fun t => hot.length - t.1) (0, Q0) (by simp [weaker, Go.PV.look]) rfl ⟨by simp, hq1, by dsimp only; omega⟩ ?_
  rintro ⟨k, Q⟩ ⟨hk, hQ, hQn⟩
  dsimp only at hk hQ hQn ⊢
  have hI : GI sizes.length (runG page s0 (hot.take k)) := GI.run (page := page) h.pg.2 _ _ hI0 (fun c hc => h.ends c (hhc c (List.mem_of_mem_take hc)))
  by_cases hkh : k < hot.length
  · have hst := runG_take page s0 hot k hkh
    have hce := h.ends _ (hhc _ (getDm (d := default) hkh))
    generalize runG page s0 (hot.take k) = s at hQ hI hst ⊢
    obtain ⟨c, hc⟩ : ∃ c, c = hot.getD k default := ⟨_, rfl⟩
    have hrow : (encL hot).getD k [] = [.int .i64 c.fn, .int .i64 c.blk, .int .i64 c.ins, .int .i64 c.cal, .int .i64 c.cnt] := by rw [encL_getD _ _ hkh, hc]
    rw [← hc] at hst hce
    clear hc
    obtain ⟨x, hx, ex, hxm⟩ := hI.ofr c.fn.toNat (by omega)
    obtain ⟨y, hy, ey, hym⟩ := hI.ofr c.cal.toNat (by omega)
    have ol := hI.ol
    have bl := hI.bl
    have gl := hI.gl
    have hbx := hI.byr x hx
    have hby := hI.byr y hy
    have hxe : (s.gs.getD x default).1 ≠ [] := fun e => by rw [e] at hxm; cases hxm
    have hye : (s.gs.getD y default).1 ≠ [] := fun e => by rw [e] at hym; cases hym
    have dx := hdG_ne (k := x) hxe
    have dy := hdG_ne (k := y) hye
    have qx := hQ x (by omega) hxe
    have qy := hQ y (by omega) hye
    have lx := hI.len hx
    have ly := hI.len hy
    have gx : ∀ X, (Q ++ X)[x]? = some (.rows 3 1 (ints (s.gs.getD x default).1) (s.gs.getD x default).2) := fun X => by rw [List.getElem?_append_left (List.getElem?_eq_some_iff.1 qx).1, qx]
    have gy : ∀ X, (Q ++ X)[y]? = some (.rows 3 1 (ints (s.gs.getD y default).1) (s.gs.getD y default).2) := fun X => by rw [List.getElem?_append_left (List.getElem?_eq_some_iff.1 qy).1, qy]
    unfold stepG at hst
    dsimp only at hst
    rw [ex, ey, Int.toNat_natCast, Int.toNat_natCast] at hst
    unfold grS
    simp -dsimp (maxSteps := 4000000) +contextual (disch := first | omega | decide +kernel) only [↓vsD, vsU, Bool.or_false, Bool.true_or, resW, fnRet, cond_true, cond_false, Nat.reduceShiftRight, Nat.reduceAnd, Go.PV.fits, Go.PV.mutOf, Go.PV.splice, Int.reduceToNat, Int.reduceEq, Int.reduceAdd, Int.reduceSub, Int.reduceMul, Int.reduceLE, Int.reduceLT, Int.reduceNeg, Nat.reduceMul, Nat.reduceLeDiff, ne_eq, if_true, if_false, reduceIte, Nat.reduceEqDiff, ↓Nat.reduceLT, Nat.reduceAdd, Nat.reduceBEq, reduceCtorEq, enc_length, encs_length, tyU, tyC, tyB, tyA, tyI, tyZ, tyF, tyP, enc_getD, encs_getD, wrap_i64, enc_set, splice_one, set_last, bin_snn, bin_snm, bin_sns, bin_tnn, bin_tnm, bin_tns, encL_length, hrow, enc_length, ex, ey, encG_length, encG_getD, dx, dy, gx, gy, gapp0, gappk, sapp0, sappk, gappn0, gappnk, sappn0, sappnk]
    have hQ2 : QG s.gs (Q ++ [.rows 78 5 [[PV.int .i64 c.fn, .int .i64 c.blk, .int .i64 c.ins, .int .i64 c.cal, .int .i64 c.cnt]] 0]) := fun z hz he => by
      have := hQ z hz he
      rw [List.getElem?_append_left (List.getElem?_eq_some_iff.1 this).1, this]
    have hQ3 : sizes.length ≤ (Q ++ [Obj.rows 78 5 [[PV.int .i64 c.fn, .int .i64 c.blk, .int .i64 c.ins, .int .i64 c.cal, .int .i64 c.cnt]] 0]).length := by rw [List.length_append]; omega
    generalize (Q ++ [Obj.rows 78 5 [[PV.int .i64 c.fn, .int .i64 c.blk, .int .i64 c.ins, .int .i64 c.cal, .int .i64 c.cnt]] 0]) = Q2 at hQ2 hQ3 ⊢
    clear gx gy qx qy hQ hQn hrow
    refine ⟨fun hxy => ?_, fun hxy => ⟨fun hpg => ?_, fun hpg => ?_⟩⟩
    · have e : runG page s0 (hot.take (k + 1)) = s := by rw [hst, if_pos (.inl hxy)]
      exact ⟨(k + 1, Q2), (by (try dsimp only); omega), (by simp [weaker, Go.PV.look]), by dsimp only; rw [e], by dsimp only; omega, by dsimp only; rw [e]; exact hQ2, hQ3⟩
    · have e : runG page s0 (hot.take (k + 1)) = s := by rw [hst, if_pos (.inr hpg)]
      exact ⟨(k + 1, Q2), (by (try dsimp only); omega), (by simp [weaker, Go.PV.look]), by dsimp only; rw [e], by dsimp only; omega, by dsimp only; rw [e]; exact hQ2, hQ3⟩
    · have hne : x ≠ y := fun e => hxy (by rw [e])
      have hst2 : runG page s0 (hot.take (k + 1)) = joinG s x y := by
        rw [hst, if_neg]
        rw [not_or]
        exact ⟨hxy, hpg⟩
      have qx := hQ2 x (by omega) hxe
      have qy := hQ2 y (by omega) hye
      have hmy := hI.mem y hy
      obtain ⟨gx, hgx⟩ : ∃ g, g = s.gs.getD x default := ⟨_, rfl⟩
      obtain ⟨gy, hgy⟩ : ∃ g, g = s.gs.getD y default := ⟨_, rfl⟩
      rw [← hgx] at qx lx dx hxe hxm
      rw [← hgy] at qy ly dy hye hym hmy ⊢
      refine v_loopS (fun j : Nat => [(0, .sl (ints sizes)), (2, .int .i64 page), (4, .ptr 0 0 0 0), (7, .ptr 2 0 0 0), (8, .msl 3 0), (9, .msl 4 1), (13, .int .i64 x), (14, .int .i64 y), (44, .sl (encL hot)), (45, .int .i64 hot.length), (46, .int .i64 k), (79, .msl (y + 5) gy.2), (80, .int .i64 gy.1.length), (81, .int .i64 j)])
        (fun j => grS E calls ⟨s.gs, mov s.of x (gy.1.take j), s.by_⟩ Q2) (fun j => j ≤ gy.1.length) (fun j => gy.1.length - j) 0 (by simp [weaker, Go.PV.look]) rfl (by omega) ?_
      intro j hj
      have hml := mov_length (x : Int) (gy.1.take j) s.of
      by_cases hjl : j < gy.1.length
      · have hfr := hmy _ (getDm (d := 0) hjl)
        have e : (mov s.of x (gy.1.take j)).set (gy.1.getD j 0).toNat x = mov s.of x (gy.1.take (j + 1)) := by
          rw [mov, mov, List.take_add_one, List.getElem?_eq_getElem hjl, List.foldl_append, List.getD_eq_getElem?_getD, List.getElem?_eq_getElem hjl]; rfl
        unfold grS
        generalize mov s.of x (gy.1.take j) = of at hml e ⊢
        simp -dsimp (maxSteps := 4000000) +contextual (disch := first | omega | decide +kernel) only [↓vsD, vsU, Bool.or_false, Bool.true_or, resW, fnRet, cond_true, cond_false, Nat.reduceShiftRight, Nat.reduceAnd, Go.PV.fits, Go.PV.mutOf, Go.PV.splice, Int.reduceToNat, Int.reduceEq, Int.reduceAdd, Int.reduceSub, Int.reduceMul, Int.reduceLE, Int.reduceLT, Int.reduceNeg, Nat.reduceMul, Nat.reduceLeDiff, ne_eq, if_true, if_false, reduceIte, Nat.reduceEqDiff, ↓Nat.reduceLT, Nat.reduceAdd, Nat.reduceBEq, reduceCtorEq, enc_length, encs_length, tyU, tyC, tyB, tyA, tyI, tyZ, tyF, tyP, enc_getD, encs_getD, wrap_i64, enc_set, splice_one, set_last, bin_snn, bin_snm, bin_sns, bin_tnn, bin_tnm, bin_tns, enc_length, qy, enc_getD]
        refine ⟨j + 1, (by (try dsimp only); omega), (by simp [weaker, Go.PV.look]), ?_, by omega⟩
        dsimp only
        rw [← e]
      · obtain rfl : j = gy.1.length := by omega
        rw [List.take_length] at hml ⊢
        unfold grS
        obtain ⟨of, hof⟩ : ∃ of, of = mov s.of x gy.1 := ⟨_, rfl⟩
        rw [← hof] at hml ⊢
        simp -dsimp (maxSteps := 4000000) +contextual (disch := first | omega | decide +kernel) only [↓vsD, vsU, Bool.or_false, Bool.true_or, resW, fnRet, cond_true, cond_false, Nat.reduceShiftRight, Nat.reduceAnd, Go.PV.fits, Go.PV.mutOf, Go.PV.splice, Int.reduceToNat, Int.reduceEq, Int.reduceAdd, Int.reduceSub, Int.reduceMul, Int.reduceLE, Int.reduceLT, Int.reduceNeg, Nat.reduceMul, Nat.reduceLeDiff, ne_eq, if_true, if_false, reduceIte, Nat.reduceEqDiff, ↓Nat.reduceLT, Nat.reduceAdd, Nat.reduceBEq, reduceCtorEq, enc_length, encs_length, tyU, tyC, tyB, tyA, tyI, tyZ, tyF, tyP, enc_getD, encs_getD, wrap_i64, enc_set, splice_one, set_last, bin_snn, bin_snm, bin_sns, bin_tnn, bin_tnm, bin_tns, enc_length, qy]
        obtain ⟨G1, hG1⟩ : ∃ G, G = s.gs.set x (gx.1 ++ gy.1, gx.2 + 1) := ⟨_, rfl⟩
        have e1 := encG_set1 s.gs x (gx.1 ++ gy.1) (gx.2 + 1) (fun e => hxe (List.append_eq_nil_iff.1 e).1)
        rw [← hG1] at e1
        have e2 := encG_set0 G1 y
        have g1l : G1.length = sizes.length := by rw [hG1, List.length_set]; exact gl
        have happ : ints gx.1 ++ ints gy.1 = ints (gx.1 ++ gy.1) := by simp [ints, PV.encI]
        have hjoin : joinG s x y = ⟨G1.set y ([], 0), of, s.by_.set x (s.by_.getD x 0 + s.by_.getD y 0)⟩ := by
          unfold joinG
          rw [← hgx, ← hgy, ← hG1, ← hof]
        have nw := newsI gy.1
        refine v_draws _ _ _ _ _ _ [12, 14, 16] [] [(0, 1), (0, 1), (0, 2), (0, 2), (0, 0), (0, 0), (0, 0), (0, 0), (0, 0), (0, 0), (0, 0), (0, 0), (0, 0), (1, 1), (0, 0), (2, 2), (0, 0)] (by decide +kernel) (by decide +kernel) (by decide +kernel) (by decide +kernel) ?_
        simp -dsimp (maxSteps := 4000000) +contextual (disch := first | omega | decide +kernel) only [↓vsD, vsU, Bool.or_false, Bool.true_or, resW, fnRet, cond_true, cond_false, Nat.reduceShiftRight, Nat.reduceAnd, Go.PV.fits, Go.PV.mutOf, Go.PV.splice, Int.reduceToNat, Int.reduceEq, Int.reduceAdd, Int.reduceSub, Int.reduceMul, Int.reduceLE, Int.reduceLT, Int.reduceNeg, Nat.reduceMul, Nat.reduceLeDiff, ne_eq, if_true, if_false, reduceIte, Nat.reduceEqDiff, ↓Nat.reduceLT, Nat.reduceAdd, Nat.reduceBEq, reduceCtorEq, enc_length, encs_length, tyU, tyC, tyB, tyA, tyI, tyZ, tyF, tyP, enc_getD, encs_getD, wrap_i64, enc_set, splice_one, set_last, bin_snn, bin_snm, bin_sns, bin_tnn, bin_tnm, bin_tns, vdx_none, vkp_go, ↓vd_end, place_nil, place_cons, vdo_eff, vdo_effA, ↓vdm_go, List.take_succ_cons, List.take_zero, List.drop_succ_cons, List.drop_zero, vdo_noeff_s, vdo_noeff_n, vdo_nofloat, vdo_noread, vdo_read, vdo_floatS, vdo_floatA, vde_s, vde_n, vde_c, vdx_s, vdr_s, vdr_b, vdf_m, vdf_p, ↓vd_op, ↓guard_none, ↓guard_some, gval_some, List.forall_mem_cons, List.not_mem_nil, false_implies, implies_true, List.length_append, List.length_replicate, List.replicate_zero, List.replicate_succ, List.contains_nil, List.contains_cons, Bool.or_false, Bool.false_or, Bool.or_self, Bool.or_true, Bool.true_or, vdr_o, vdq_eq, vdw_s, outR_v, rowsAt_none, mapAt_none, lnil, drop0, enc_length, encG_length, encG_getD, ← hgx, ← hgy, dx, dy, qx, qy, e1, e2, nw, bytesOk, lenOk]
        refine v_draws _ _ _ _ _ _ [10] [] [(0, 0), (0, 0), (0, 0), (0, 0), (0, 0), (0, 0), (0, 0), (0, 0), (0, 0), (0, 0), (0, 0)] (by decide +kernel) (by decide +kernel) (by decide +kernel) (by decide +kernel) ?_
        simp -dsimp (maxSteps := 4000000) +contextual (disch := first | omega | decide +kernel) only [↓vsD, vsU, Bool.or_false, Bool.true_or, resW, fnRet, cond_true, cond_false, Nat.reduceShiftRight, Nat.reduceAnd, Go.PV.fits, Go.PV.mutOf, Go.PV.splice, Int.reduceToNat, Int.reduceEq, Int.reduceAdd, Int.reduceSub, Int.reduceMul, Int.reduceLE, Int.reduceLT, Int.reduceNeg, Nat.reduceMul, Nat.reduceLeDiff, ne_eq, if_true, if_false, reduceIte, Nat.reduceEqDiff, ↓Nat.reduceLT, Nat.reduceAdd, Nat.reduceBEq, reduceCtorEq, enc_length, encs_length, tyU, tyC, tyB, tyA, tyI, tyZ, tyF, tyP, enc_getD, encs_getD, wrap_i64, enc_set, splice_one, set_last, bin_snn, bin_snm, bin_sns, bin_tnn, bin_tnm, bin_tns, vdx_none, vkp_go, ↓vd_end, place_nil, place_cons, vdo_eff, vdo_effA, ↓vdm_go, List.take_succ_cons, List.take_zero, List.drop_succ_cons, List.drop_zero, vdo_noeff_s, vdo_noeff_n, vdo_nofloat, vdo_noread, vdo_read, vdo_floatS, vdo_floatA, vde_s, vde_n, vde_c, vdx_s, vdr_s, vdr_b, vdf_m, vdf_p, ↓vd_op, ↓guard_none, ↓guard_some, gval_some, List.forall_mem_cons, List.not_mem_nil, false_implies, implies_true, List.length_append, List.length_replicate, List.replicate_zero, List.replicate_succ, List.contains_nil, List.contains_cons, Bool.or_false, Bool.false_or, Bool.or_self, Bool.or_true, Bool.true_or, vdr_o, vdq_eq, vdw_s, outR_v, rowsAt_none, mapAt_none, lnil, drop0, enc_length]
        rw [happ]
        refine ⟨(k + 1, Q2.set x (.rows 3 1 (ints (gx.1 ++ gy.1)) (gx.2 + 1))), (by (try dsimp only); omega), by simp [weaker, Go.PV.look], by dsimp only; rw [hst2, hjoin], by dsimp only; omega, ?_, by dsimp only; rw [List.length_set]; exact hQ3⟩
        dsimp only
        rw [hst2, hjoin]
        dsimp only
        rw [hG1]
        exact hQ2.join (by omega) (by omega) (by rw [← hgx]; exact hxe) _ _
  · obtain rfl : k = hot.length := by omega
    rw [List.take_length] at hQ hI ⊢
    obtain ⟨s, hs⟩ : ∃ s, s = runG page s0 hot := ⟨_, rfl⟩
    rw [← hs] at hQ hI ⊢
    unfold grS
    simp -dsimp (maxSteps := 4000000) +contextual (disch := first | omega | decide +kernel) only [↓vsD, vsU, Bool.or_false, Bool.true_or, resW, fnRet, cond_true, cond_false, Nat.reduceShiftRight, Nat.reduceAnd, Go.PV.fits, Go.PV.mutOf, Go.PV.splice, Int.reduceToNat, Int.reduceEq, Int.reduceAdd, Int.reduceSub, Int.reduceMul, Int.reduceLE, Int.reduceLT, Int.reduceNeg, Nat.reduceMul, Nat.reduceLeDiff, ne_eq, if_true, if_false, reduceIte, Nat.reduceEqDiff, ↓Nat.reduceLT, Nat.reduceAdd, Nat.reduceBEq, reduceCtorEq, enc_length, encs_length, tyU, tyC, tyB, tyA, tyI, tyZ, tyF, tyP, enc_getD, encs_getD, wrap_i64, enc_set, splice_one, set_last, bin_snn, bin_snm, bin_sns, bin_tnn, bin_tnm, bin_tns, encL_length, enc_length, hE, bytesOk, lenOk, gapp0, gappk, sapp0, sappk, gappn0, gappnk, sappn0, sappnk]
    obtain ⟨mw, hmw⟩ : ∃ mw, mw = Q.length := ⟨_, rfl⟩
    obtain ⟨ow, how⟩ : ∃ ow, ow = mw + 1 := ⟨_, rfl⟩
    have ol := hI.ol
    have gl := hI.gl
    refine v_loopS (fun t : Nat × Store => [(0, .sl (ints sizes)), (4, .ptr 0 0 0 0), (7, .ptr 2 0 0 0), (8, .msl 3 0), (9, .msl 4 1), (17, .ptr (ow + 5) 0 0 0), (120, .sl (encL calls)), (121, .int .i64 calls.length), (122, .int .i64 t.1)])
      (fun t => grS E calls s t.2) (fun t => t.1 ≤ calls.length ∧ QG s.gs t.2 ∧ t.2[mw]? = some (.rows 3 1 (ints (winG s.of (List.replicate sizes.length 0) (calls.take t.1))) 0) ∧ t.2[ow]? = some (.rows 40 1 [[.msl (mw + 5) 0]] 0)) (fun t => calls.length - t.1)
      (0, Q ++ [Obj.rows 3 1 (List.replicate sizes.length [PV.int .i64 0]) 0] ++ [Obj.rows 40 1 [[PV.msl (Q.length + 1 + 1 + 1 + 1 + 1) 0]] 0])
      (by simp [weaker, Go.PV.look, how, hmw]) rfl ⟨by simp, (hQ.app _).app _, by simp [hmw, winG, zeros], by simp [how, hmw]⟩ ?_
    rintro ⟨k, Q2⟩ ⟨hk, hQ2, hQw, hQb⟩
    dsimp only at hk hQ2 hQw hQb ⊢
    have hwl := winG_length (of := s.of) (calls.take k) (List.replicate sizes.length 0)
    rw [List.length_replicate] at hwl
    have hwr := winG_range (of := s.of) (calls.take k) (List.replicate sizes.length 0) 0 (fun x => by
      rw [List.getD_eq_getElem?_getD, List.getElem?_replicate]
      split <;> simp) (fun c hc => h.cnt c (List.mem_of_mem_take hc))
    by_cases hkc : k < calls.length
    · have hst := winG_take s.of (List.replicate sizes.length 0) calls k hkc
      have hce := h.ends _ (getDm (d := default) hkc)
      have hcc := h.cnt _ (getDm (d := default) hkc)
      have htl : (calls.take k).length ≤ 20 := by rw [List.length_take]; omega
      generalize winG s.of (List.replicate sizes.length 0) (calls.take k) = wi at hQw hwl hwr hst ⊢
      obtain ⟨c, hc⟩ : ∃ c, c = calls.getD k default := ⟨_, rfl⟩
      have hrow : (encL calls).getD k [] = [.int .i64 c.fn, .int .i64 c.blk, .int .i64 c.ins, .int .i64 c.cal, .int .i64 c.cnt] := by rw [encL_getD _ _ hkc, hc]
      rw [← hc] at hst hce hcc
      clear hc
      obtain ⟨x, hx, ex, hxm⟩ := hI.ofr c.fn.toNat (by omega)
      obtain ⟨y, hy, ey, hym⟩ := hI.ofr c.cal.toNat (by omega)
      unfold winS at hst
      rw [ex, ey, Int.toNat_natCast] at hst
      have hwx := hwr x
      have hwm : (mw : Nat) < Q2.length := (List.getElem?_eq_some_iff.1 hQw).1
      have qw : ∀ X, (Q2 ++ X)[mw]? = some (.rows 3 1 (ints wi) 0) := fun X => by rw [List.getElem?_append_left hwm, hQw]
      have qb : ∀ X, (Q2 ++ X)[ow]? = some (.rows 40 1 [[.msl (mw + 5) 0]] 0) := fun X => by rw [List.getElem?_append_left (List.getElem?_eq_some_iff.1 hQb).1, hQb]
      have qs : ∀ X z, (Q2 ++ X).set mw z = Q2.set mw z ++ X := fun X z => by rw [List.set_append_left _ _ hwm]
      clear hwr
      unfold grS
      simp -dsimp (maxSteps := 4000000) +contextual (disch := first | omega | decide +kernel) only [↓vsD, vsU, Bool.or_false, Bool.true_or, resW, fnRet, cond_true, cond_false, Nat.reduceShiftRight, Nat.reduceAnd, Go.PV.fits, Go.PV.mutOf, Go.PV.splice, Int.reduceToNat, Int.reduceEq, Int.reduceAdd, Int.reduceSub, Int.reduceMul, Int.reduceLE, Int.reduceLT, Int.reduceNeg, Nat.reduceMul, Nat.reduceLeDiff, ne_eq, if_true, if_false, reduceIte, Nat.reduceEqDiff, ↓Nat.reduceLT, Nat.reduceAdd, Nat.reduceBEq, reduceCtorEq, enc_length, encs_length, tyU, tyC, tyB, tyA, tyI, tyZ, tyF, tyP, enc_getD, encs_getD, wrap_i64, enc_set, splice_one, set_last, bin_snn, bin_snm, bin_sns, bin_tnn, bin_tnm, bin_tns, encL_length, hrow, enc_length, ex, ey, gapp0, gappk, sapp0, sappk, gappn0, gappnk, sappn0, sappnk]
      have hne : mw ≠ ow := by omega
      refine ⟨fun hxy => ?_, fun hxy => ?_⟩
      · have exy : x = y := by omega
        rw [if_pos hxy] at hst
        rw [← exy] at ey
        refine v_draws _ _ _ _ _ _ [12] [] [(0, 0), (0, 0), (0, 0), (0, 0), (0, 0), (0, 0), (0, 0), (0, 0), (0, 0), (0, 0), (0, 0), (0, 0), (0, 0)] (by decide +kernel) (by decide +kernel) (by decide +kernel) (by decide +kernel) ?_
        simp -dsimp (maxSteps := 4000000) +contextual (disch := first | omega | decide +kernel) only [↓vsD, vsU, Bool.or_false, Bool.true_or, resW, fnRet, cond_true, cond_false, Nat.reduceShiftRight, Nat.reduceAnd, Go.PV.fits, Go.PV.mutOf, Go.PV.splice, Int.reduceToNat, Int.reduceEq, Int.reduceAdd, Int.reduceSub, Int.reduceMul, Int.reduceLE, Int.reduceLT, Int.reduceNeg, Nat.reduceMul, Nat.reduceLeDiff, ne_eq, if_true, if_false, reduceIte, Nat.reduceEqDiff, ↓Nat.reduceLT, Nat.reduceAdd, Nat.reduceBEq, reduceCtorEq, enc_length, encs_length, tyU, tyC, tyB, tyA, tyI, tyZ, tyF, tyP, enc_getD, encs_getD, wrap_i64, enc_set, splice_one, set_last, bin_snn, bin_snm, bin_sns, bin_tnn, bin_tnm, bin_tns, vdx_none, vkp_go, ↓vd_end, place_nil, place_cons, vdo_eff, vdo_effA, ↓vdm_go, List.take_succ_cons, List.take_zero, List.drop_succ_cons, List.drop_zero, vdo_noeff_s, vdo_noeff_n, vdo_nofloat, vdo_noread, vdo_read, vdo_floatS, vdo_floatA, vde_s, vde_n, vde_c, vdx_s, vdr_s, vdr_b, vdf_m, vdf_p, ↓vd_op, ↓guard_none, ↓guard_some, gval_some, List.forall_mem_cons, List.not_mem_nil, false_implies, implies_true, List.length_append, List.length_replicate, List.replicate_zero, List.replicate_succ, List.contains_nil, List.contains_cons, Bool.or_false, Bool.false_or, Bool.or_self, Bool.or_true, Bool.true_or, vdr_o, vdq_eq, vdw_s, outR_v, rowsAt_none, mapAt_none, lnil, drop0, enc_length, ex, ey, gapp0, gappk, sapp0, sappk, gappn0, gappnk, sappn0, sappnk, qw, qb, qs]
        refine ⟨(k + 1, (Q2 ++ [Obj.rows 78 5 [[PV.int .i64 c.fn, .int .i64 c.blk, .int .i64 c.ins, .int .i64 c.cal, .int .i64 c.cnt]] 0]).set mw (Obj.rows 3 1 (ints (wi.set x (wi.getD x 0 + c.cnt))) 0)), (by (try dsimp only); omega), by simp [weaker, Go.PV.look], by dsimp only; rw [qs], by dsimp only; omega, (hQ2.app _).setO (by omega) _, ?_, ?_⟩
        · dsimp only
          rw [hst, List.getElem?_set_self (by rw [List.length_append]; omega)]
        · dsimp only
          rw [List.getElem?_set_ne hne]
          exact qb _
      · rw [if_neg hxy] at hst
        exact ⟨(k + 1, Q2 ++ [Obj.rows 78 5 [[PV.int .i64 c.fn, .int .i64 c.blk, .int .i64 c.ins, .int .i64 c.cal, .int .i64 c.cnt]] 0]), (by (try dsimp only); omega), by simp [weaker, Go.PV.look], rfl, by dsimp only; omega, hQ2.app _, by dsimp only; rw [hst]; exact qw _, qb _⟩
    · obtain rfl : k = calls.length := by omega
      rw [List.take_length] at hQw hwl
      clear hwr
      obtain ⟨wi, hwi⟩ : ∃ wi, wi = winG s.of (List.replicate sizes.length 0) calls := ⟨_, rfl⟩
      rw [← hwi] at hQw hwl
      have hnat := natural_m sizes.length (by omega)
      unfold grS
      simp -dsimp (maxSteps := 4000000) +contextual (disch := first | omega | decide +kernel) only [↓vsD, vsU, Bool.or_false, Bool.true_or, resW, fnRet, cond_true, cond_false, Nat.reduceShiftRight, Nat.reduceAnd, Go.PV.fits, Go.PV.mutOf, Go.PV.splice, Int.reduceToNat, Int.reduceEq, Int.reduceAdd, Int.reduceSub, Int.reduceMul, Int.reduceLE, Int.reduceLT, Int.reduceNeg, Nat.reduceMul, Nat.reduceLeDiff, ne_eq, if_true, if_false, reduceIte, Nat.reduceEqDiff, ↓Nat.reduceLT, Nat.reduceAdd, Nat.reduceBEq, reduceCtorEq, enc_length, encs_length, tyU, tyC, tyB, tyA, tyI, tyZ, tyF, tyP, enc_getD, encs_getD, wrap_i64, enc_set, splice_one, set_last, bin_snn, bin_snm, bin_sns, bin_tnn, bin_tnm, bin_tns, encL_length, enc_length]
      refine PCall.mono (hnat _) ?_
      rintro p σ' ⟨rfl, rfl⟩
      simp -dsimp (maxSteps := 4000000) +contextual (disch := first | omega | decide +kernel) only [↓vsD, vsU, Bool.or_false, Bool.true_or, resW, fnRet, cond_true, cond_false, Nat.reduceShiftRight, Nat.reduceAnd, Go.PV.fits, Go.PV.mutOf, Go.PV.splice, Int.reduceToNat, Int.reduceEq, Int.reduceAdd, Int.reduceSub, Int.reduceMul, Int.reduceLE, Int.reduceLT, Int.reduceNeg, Nat.reduceMul, Nat.reduceLeDiff, ne_eq, if_true, if_false, reduceIte, Nat.reduceEqDiff, ↓Nat.reduceLT, Nat.reduceAdd, Nat.reduceBEq, reduceCtorEq, enc_length, encs_length, tyU, tyC, tyB, tyA, tyI, tyZ, tyF, tyP, enc_getD, encs_getD, wrap_i64, enc_set, splice_one, set_last, bin_snn, bin_snm, bin_sns, bin_tnn, bin_tnm, bin_tns, List.cons_append]
      obtain ⟨mo, hmo⟩ : ∃ mo, mo = Q2.length := ⟨_, rfl⟩
      have hwm : (mw : Nat) < Q2.length := (List.getElem?_eq_some_iff.1 hQw).1
      have hwb : (ow : Nat) < Q2.length := (List.getElem?_eq_some_iff.1 hQb).1
      obtain ⟨Q3, hQ3⟩ : ∃ Q3, Q3 = Q2 ++ [Obj.rows 3 1 (ints (natI sizes.length)) 0] := ⟨_, rfl⟩
      have q3 : QG s.gs Q3 := by rw [hQ3]; exact hQ2.app _
      have q3w : Q3[mw]? = some (.rows 3 1 (ints wi) 0) := by rw [hQ3, List.getElem?_append_left hwm, hQw]
      have q3b : Q3[ow]? = some (.rows 40 1 [[.msl (mw + 5) 0]] 0) := by rw [hQ3, List.getElem?_append_left hwb, hQb]
      have q3o : Q3[mo]? = some (.rows 3 1 (ints (natI sizes.length)) 0) := by rw [hQ3, hmo]; simp
      have hmn : sizes.length ≤ mo := by omega
      have hol : mo < Q3.length := (List.getElem?_eq_some_iff.1 q3o).1
      rw [← hQ3]
      rw [← hmo]
      refine PCall.mono (delete_ok (mo + 5) 0 (natI sizes.length) (by rw [natI_length]; omega) _ [.ptr 2 0 0 0] (fun x => decide ((s.gs.getD x.toNat default).1 = [])) _ (show Q3[mo]? = _ from q3o) (fun X x hx => by
        obtain ⟨z, rfl⟩ : ∃ z : Nat, x = z := ⟨x.toNat, by have := natI_mem hx; omega⟩
        exact noGrp_ok s.gs _ (GSt.of (E := E) (calls := calls) (s := s) (q3.setO (by omega) X)) z (by have := natI_mem hx; omega))) ?_
      rintro p σ' ⟨v', rfl, rfl⟩
      obtain ⟨live, hlv⟩ : ∃ live, live = liveG s.gs sizes.length := ⟨_, rfl⟩
      rw [show (natI sizes.length).filter (fun x => !decide ((s.gs.getD x.toNat default).1 = [])) = live from hlv.symm]
      have hll : live.length ≤ sizes.length := by
        rw [hlv, liveG]
        exact Nat.le_trans (List.length_filter_le _ _) (by rw [natI_length]; exact Nat.le_refl _)
      simp -dsimp (maxSteps := 4000000) +contextual (disch := first | omega | decide +kernel) only [↓vsD, vsU, Bool.or_false, Bool.true_or, resW, fnRet, cond_true, cond_false, Nat.reduceShiftRight, Nat.reduceAnd, Go.PV.fits, Go.PV.mutOf, Go.PV.splice, Int.reduceToNat, Int.reduceEq, Int.reduceAdd, Int.reduceSub, Int.reduceMul, Int.reduceLE, Int.reduceLT, Int.reduceNeg, Nat.reduceMul, Nat.reduceLeDiff, ne_eq, if_true, if_false, reduceIte, Nat.reduceEqDiff, ↓Nat.reduceLT, Nat.reduceAdd, Nat.reduceBEq, reduceCtorEq, enc_length, encs_length, tyU, tyC, tyB, tyA, tyI, tyZ, tyF, tyP, enc_getD, encs_getD, wrap_i64, enc_set, splice_one, set_last, bin_snn, bin_snm, bin_sns, bin_tnn, bin_tnm, bin_tns, List.set_cons_succ]
      have k2 : ∀ args σ, noE.f 111 args σ = none := fun _ _ => rfl
      refine PCall.mono (hS (mo + 5) v' live _ [.ptr (ow + 5) 0 0 0, .ptr 2 0 0 0] (cfG wi s.gs) _ (show (Q3.set mo _)[mo]? = _ from List.getElem?_set_self hol) hll k2 (fun X Y a b ha hb => by
        rw [hlv] at ha hb
        obtain ⟨a, rfl, ha1, ha2⟩ := live_mem ha
        obtain ⟨b, rfl, hb1, hb2⟩ := live_mem hb
        exact cmpGrp_ok s.gs wi (ow + 5) (mw + 5) _ (GSt.of (E := E) (calls := calls) (s := s) (((q3.setO (by omega) _).setO (by omega) X).app Y)) (show (((Q3.set mo _).set mo X) ++ Y)[ow]? = _ by rw [List.getElem?_append_left (by rw [List.length_set, List.length_set]; exact (List.getElem?_eq_some_iff.1 q3b).1), List.getElem?_set_ne (by omega), List.getElem?_set_ne (by omega), q3b]) (show (((Q3.set mo _).set mo X) ++ Y)[mw]? = _ by rw [List.getElem?_append_left (by rw [List.length_set, List.length_set]; exact (List.getElem?_eq_some_iff.1 q3w).1), List.getElem?_set_ne (by omega), List.getElem?_set_ne (by omega), q3w]) (by omega) a b (by omega) (by omega) ha2 hb2)) ?_
      rintro p σ' ⟨rfl, L, hR, hperm, rfl⟩
      have hLl : L.length ≤ sizes.length := by rw [hperm.length_eq]; exact hll
      obtain ⟨Q4, hQ4⟩ : ∃ Q4, Q4 = (Q3.set mo (.rows 3 1 (ints live) v')).set mo (.rows 3 1 (ints L) v') := ⟨_, rfl⟩
      have q4 : QG s.gs Q4 := by rw [hQ4]; exact (q3.setO (by omega) _).setO (by omega) _
      have q4o : Q4[mo]? = some (.rows 3 1 (ints L) v') := by rw [hQ4]; exact List.getElem?_set_self (by rw [List.length_set]; exact hol)
      simp -dsimp (maxSteps := 4000000) +contextual (disch := first | omega | decide +kernel) only [↓vsD, vsU, Bool.or_false, Bool.true_or, resW, fnRet, cond_true, cond_false, Nat.reduceShiftRight, Nat.reduceAnd, Go.PV.fits, Go.PV.mutOf, Go.PV.splice, Int.reduceToNat, Int.reduceEq, Int.reduceAdd, Int.reduceSub, Int.reduceMul, Int.reduceLE, Int.reduceLT, Int.reduceNeg, Nat.reduceMul, Nat.reduceLeDiff, ne_eq, if_true, if_false, reduceIte, Nat.reduceEqDiff, ↓Nat.reduceLT, Nat.reduceAdd, Nat.reduceBEq, reduceCtorEq, enc_length, encs_length, tyU, tyC, tyB, tyA, tyI, tyZ, tyF, tyP, enc_getD, encs_getD, wrap_i64, enc_set, splice_one, set_last, bin_snn, bin_snm, bin_sns, bin_tnn, bin_tnm, bin_tns, List.set_cons_succ]
      rw [← hQ4]
      simp -dsimp (maxSteps := 4000000) +contextual (disch := first | omega | decide +kernel) only [↓vsD, vsU, Bool.or_false, Bool.true_or, resW, fnRet, cond_true, cond_false, Nat.reduceShiftRight, Nat.reduceAnd, Go.PV.fits, Go.PV.mutOf, Go.PV.splice, Int.reduceToNat, Int.reduceEq, Int.reduceAdd, Int.reduceSub, Int.reduceMul, Int.reduceLE, Int.reduceLT, Int.reduceNeg, Nat.reduceMul, Nat.reduceLeDiff, ne_eq, if_true, if_false, reduceIte, Nat.reduceEqDiff, ↓Nat.reduceLT, Nat.reduceAdd, Nat.reduceBEq, reduceCtorEq, enc_length, encs_length, tyU, tyC, tyB, tyA, tyI, tyZ, tyF, tyP, enc_getD, encs_getD, wrap_i64, enc_set, splice_one, set_last, bin_snn, bin_snm, bin_sns, bin_tnn, bin_tnm, bin_tns, enc_length, q4o]
      have hres : ∀ out, out = outG s.gs L → GreedyR R sizes calls page out := fun out ho => ⟨s, wi, L, by rw [hs, hs0, hhe], hwi, by rw [← hlv]; exact hR, by rw [← hlv]; exact hperm, ho⟩
      refine v_loopS (fun t : Nat × Nat × Store => [(7, .ptr 2 0 0 0), (21, match t.1 with | 0 => .nils | j + 1 => .msl (t.2.1 + 5) j), (158, .msl (mo + 5) v'), (159, .int .i64 L.length), (160, .int .i64 t.1)])
        (fun t => grS E calls s t.2.2) (fun t => t.1 ≤ L.length ∧ QG s.gs t.2.2 ∧ t.2.2[mo]? = some (.rows 3 1 (ints L) v') ∧ (outG s.gs (L.take t.1)).length ≤ t.1 * 64 ∧ ∀ j, t.1 = j + 1 → mo < t.2.1 ∧ t.2.2[t.2.1]? = some (.rows 3 1 (ints (outG s.gs (L.take t.1))) j)) (fun t => L.length - t.1) (0, 0, Q4) (by simp [weaker, Go.PV.look]) rfl ⟨by simp, q4, q4o, by simp [outG], fun j e => by simp at e⟩ ?_
      clear q4 q4o hQ4 hR q3 q3w q3b q3o hQ3 hol hQw hQb hwm hwb
      rintro ⟨k, oo, Q5⟩ ⟨hk, q5, q5o, hol, hoo⟩
      dsimp only at hk q5 q5o hol hoo ⊢
      by_cases hkL : k < L.length
      · have hot := outG_take s.gs L k hkL
        have hzm : L.getD k 0 ∈ liveG s.gs sizes.length := by rw [← hlv]; exact hperm.mem_iff.1 (getDm hkL)
        obtain ⟨z, hz, hzn, hze⟩ := live_mem hzm
        rw [hz, Int.toNat_natCast] at hot
        have dz := hdG_ne (k := z) hze
        have qz := q5 z (by omega) hze
        have lz := hI.len hzn
        have nz := newsI (s.gs.getD z default).1
        obtain ⟨gz, hgz⟩ : ∃ g, g = s.gs.getD z default := ⟨_, rfl⟩
        rw [← hgz] at hot hze dz qz lz nz
        have hol2 : (outG s.gs (L.take (k + 1))).length ≤ (k + 1) * 64 := by rw [hot, List.length_append]; omega
        unfold grS
        cases k with
        | zero =>
          obtain ⟨a, q, haq⟩ : ∃ a q, gz.1 = a :: q := by
            cases hg : gz.1 with
            | nil => exact absurd hg hze
            | cons a q => exact ⟨a, q, rfl⟩
          have hc : ints gz.1 = [.int .i64 a] :: ints q := by rw [haq]; rfl
          have hql : (ints q).length = q.length := enc_length _ _
          have hql2 : q.length + 1 ≤ 64 := by rw [haq] at lz; simp at lz; omega
          rw [hc] at nz
          have hoe : outG s.gs (L.take (0 + 1)) = gz.1 := by rw [hot]; simp [outG]
          simp -dsimp (maxSteps := 4000000) +contextual (disch := first | omega | decide +kernel) only [↓vsD, vsU, Bool.or_false, Bool.true_or, resW, fnRet, cond_true, cond_false, Nat.reduceShiftRight, Nat.reduceAnd, Go.PV.fits, Go.PV.mutOf, Go.PV.splice, Int.reduceToNat, Int.reduceEq, Int.reduceAdd, Int.reduceSub, Int.reduceMul, Int.reduceLE, Int.reduceLT, Int.reduceNeg, Nat.reduceMul, Nat.reduceLeDiff, ne_eq, if_true, if_false, reduceIte, Nat.reduceEqDiff, ↓Nat.reduceLT, Nat.reduceAdd, Nat.reduceBEq, reduceCtorEq, enc_length, encs_length, tyU, tyC, tyB, tyA, tyI, tyZ, tyF, tyP, enc_getD, encs_getD, wrap_i64, enc_set, splice_one, set_last, bin_snn, bin_snm, bin_sns, bin_tnn, bin_tnm, bin_tns, enc_length, q5o, hz, encG_length, encG_getD, ← hgz, dz, qz, hc, hql, nz, bytesOk, lenOk]
          refine ⟨(1, Q5.length, Q5 ++ [Obj.rows 3 1 (ints gz.1) 0]), (by (try dsimp only); omega), by simp [weaker, Go.PV.look], by dsimp only; rw [hc], by dsimp only; omega, q5.app _, ?_, hol2, fun j e => ?_⟩
          · dsimp only
            rw [List.getElem?_append_left (List.getElem?_eq_some_iff.1 q5o).1, q5o]
          · obtain rfl : j = 0 := by dsimp only at e; omega
            exact ⟨(List.getElem?_eq_some_iff.1 q5o).1, by dsimp only; rw [hoe]; simp⟩
        | succ j =>
          obtain ⟨hmoo, qoo⟩ := hoo j rfl
          have happ : ints (outG s.gs (L.take (j + 1))) ++ ints gz.1 = ints (outG s.gs (L.take (j + 1 + 1))) := by rw [hot]; simp [ints, PV.encI]
          obtain ⟨out, hout⟩ : ∃ out, out = outG s.gs (L.take (j + 1)) := ⟨_, rfl⟩
          rw [← hout] at happ hol qoo
          simp -dsimp (maxSteps := 4000000) +contextual (disch := first | omega | decide +kernel) only [↓vsD, vsU, Bool.or_false, Bool.true_or, resW, fnRet, cond_true, cond_false, Nat.reduceShiftRight, Nat.reduceAnd, Go.PV.fits, Go.PV.mutOf, Go.PV.splice, Int.reduceToNat, Int.reduceEq, Int.reduceAdd, Int.reduceSub, Int.reduceMul, Int.reduceLE, Int.reduceLT, Int.reduceNeg, Nat.reduceMul, Nat.reduceLeDiff, ne_eq, if_true, if_false, reduceIte, Nat.reduceEqDiff, ↓Nat.reduceLT, Nat.reduceAdd, Nat.reduceBEq, reduceCtorEq, enc_length, encs_length, tyU, tyC, tyB, tyA, tyI, tyZ, tyF, tyP, enc_getD, encs_getD, wrap_i64, enc_set, splice_one, set_last, bin_snn, bin_snm, bin_sns, bin_tnn, bin_tnm, bin_tns, enc_length, q5o, hz, encG_length, encG_getD, ← hgz, dz, qz, qoo, nz, bytesOk, lenOk]
          refine ⟨(j + 1 + 1, oo, Q5.set oo (Obj.rows 3 1 (ints (outG s.gs (L.take (j + 1 + 1)))) (j + 1))), (by (try dsimp only); omega), by simp [weaker, Go.PV.look], by dsimp only; rw [happ], by dsimp only; omega, q5.setO (by omega) _, ?_, hol2, fun j2 e => ?_⟩
          · dsimp only
            rw [List.getElem?_set_ne (by omega), q5o]
          · obtain rfl : j2 = j + 1 := by dsimp only at e; omega
            exact ⟨hmoo, List.getElem?_set_self (List.getElem?_eq_some_iff.1 qoo).1⟩
      · obtain rfl : k = L.length := by omega
        rw [List.take_length] at hoo hol
        unfold grS
        cases hLn : L.length with
        | zero =>
          rw [hLn] at hoo hkL
          simp -dsimp (maxSteps := 4000000) +contextual (disch := first | omega | decide +kernel) only [↓vsD, vsU, Bool.or_false, Bool.true_or, resW, fnRet, cond_true, cond_false, Nat.reduceShiftRight, Nat.reduceAnd, Go.PV.fits, Go.PV.mutOf, Go.PV.splice, Int.reduceToNat, Int.reduceEq, Int.reduceAdd, Int.reduceSub, Int.reduceMul, Int.reduceLE, Int.reduceLT, Int.reduceNeg, Nat.reduceMul, Nat.reduceLeDiff, ne_eq, if_true, if_false, reduceIte, Nat.reduceEqDiff, ↓Nat.reduceLT, Nat.reduceAdd, Nat.reduceBEq, reduceCtorEq, enc_length, encs_length, tyU, tyC, tyB, tyA, tyI, tyZ, tyF, tyP, enc_getD, encs_getD, wrap_i64, enc_set, splice_one, set_last, bin_snn, bin_snm, bin_sns, bin_tnn, bin_tnm, bin_tns, enc_length, q5o, hLn]
          refine fin0 .nils ⟨[], hres _ ?_, rfl⟩
          rw [List.length_eq_zero_iff.1 hLn]; rfl
        | succ j =>
          obtain ⟨hmoo, qoo⟩ := hoo j hLn
          rw [hLn] at hkL
          simp -dsimp (maxSteps := 4000000) +contextual (disch := first | omega | decide +kernel) only [↓vsD, vsU, Bool.or_false, Bool.true_or, resW, fnRet, cond_true, cond_false, Nat.reduceShiftRight, Nat.reduceAnd, Go.PV.fits, Go.PV.mutOf, Go.PV.splice, Int.reduceToNat, Int.reduceEq, Int.reduceAdd, Int.reduceSub, Int.reduceMul, Int.reduceLE, Int.reduceLT, Int.reduceNeg, Nat.reduceMul, Nat.reduceLeDiff, ne_eq, if_true, if_false, reduceIte, Nat.reduceEqDiff, ↓Nat.reduceLT, Nat.reduceAdd, Nat.reduceBEq, reduceCtorEq, enc_length, encs_length, tyU, tyC, tyB, tyA, tyI, tyZ, tyF, tyP, enc_getD, encs_getD, wrap_i64, enc_set, splice_one, set_last, bin_snn, bin_snm, bin_sns, bin_tnn, bin_tnm, bin_tns, enc_length, q5o, hLn]
          exact fin0 (Frz.msl0 (elem := 3) (sz := 1) (Nat.zero_le _) (show Q5[oo]? = _ from qoo) (enc_bel _ _ _)) ⟨_, hres _ rfl, rfl⟩
end Go.Proofs.Ythginmfobikdgaa
