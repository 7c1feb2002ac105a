/- Chapter 32, the walks: sums, and the weighted sum of a number of all lists. -/
import Derived.Test.YthginmfobikdgaaWtB
set_option linter.unusedSimpArgs false
set_option linter.unusedVariables false
namespace Go.Proofs.Ythginmfobikdgaa
open Go.PV

/-- A sum. -/
def sumO (kn : Bool) (tot : Int) : Go.PV.Obj := .rows 170 2 [[.bool kn, .int .i64 tot]] 0
def addT (tot n w : Int) : Int := if 0 ≤ n then min (tot + n * w) 144115188075855872 else tot
theorem mul_bound {n w : Int} (h0 : 0 ≤ n) (h1 : n ≤ 1099511627776) (h2 : 0 ≤ w) (h3 : w ≤ 65536) : 0 ≤ n * w ∧ n * w ≤ 72057594037927936 := by
  refine ⟨Int.mul_nonneg h0 h2, ?_⟩
  have := Int.mul_le_mul h1 h3 h2 (by omega)
  omega

theorem set_same {σ : Store} {o : Nat} {X : Go.PV.Obj} (h : σ[o]? = some X) : σ.set o X = σ := by
  obtain ⟨h1, rfl⟩ := List.getElem?_eq_some_iff.1 h
  exact List.set_getElem_self h1
set_option maxHeartbeats 4000000 in
theorem add_ok (o : Nat) (kn : Bool) (tot n w : Int) (σ : Store) (ho : σ[o]? = some (sumO kn tot)) (ht : 0 ≤ tot ∧ tot ≤ 144115188075855872) (hn : n ≤ 1099511627776) (hw : 0 ≤ w ∧ w ≤ 65536) :
    PCall Try.prog 118 [.ptr o 0 0 0, .int .i64 n, .int .i64 w] σ (fun p σ' => p = .tup [] ∧ σ' = σ.set o (sumO (kn || decide (0 ≤ n)) (addT tot n w))) := by
  refine PCall.vraw [] 191 23 [] (noE_ok _) mix Try.func118 rfl (by decide) rfl rfl (by simp) ?_
  simp -dsimp only [initFr, List.zipIdx_cons, List.zipIdx_nil, List.map_cons, List.map_nil, Nat.zero_add, Nat.reduceAdd]
  have hb : 0 ≤ n → 0 ≤ n * w ∧ n * w ≤ 72057594037927936 := fun h => mul_bound h hn hw.1 hw.2
  have ho' : σ[o]? = some (.rows 170 2 [[.bool kn, .int .i64 tot]] 0) := ho
  have hs : ∀ X, (List.set σ o X)[o]? = some X := fun X => List.getElem?_set_self (List.getElem?_eq_some_iff.1 ho).1
  simp -dsimp (maxSteps := 4000000) +contextual (disch := first | omega | decide +kernel) only [↓vsD, vsU, resW, fnRet, cond_true, cond_false, Nat.reduceShiftRight, Nat.reduceAnd, Go.PV.fits, Go.PV.mutOf, Go.PV.splice, Int.reduceToNat, Int.reduceEq, Int.reduceAdd, Int.reduceSub, Int.reduceMul, Int.reduceLE, Int.reduceLT, Int.reduceNeg, Nat.reduceMul, Nat.reduceLeDiff, ne_eq, if_true, if_false, reduceIte, Nat.reduceEqDiff, ↓Nat.reduceLT, Nat.reduceAdd, Nat.reduceBEq, reduceCtorEq, enc_length, encs_length, tyU, tyC, tyB, tyA, tyI, tyZ, tyF, tyP, enc_getD, encs_getD, wrap_i64, enc_set, splice_one, set_last, bin_aeq2, bin_ane2, ho', hs, List.set_set]
  refine ⟨fun h => ?_, fun h => ?_⟩
  · have e : (if 144115188075855872 < tot + n * w then 144115188075855872 else tot + n * w) = addT tot n w := by
      rw [addT, if_pos h]; split <;> omega
    rw [e, Bool.or_true]; rfl
  · rw [addT, if_neg h, Bool.or_false]
    exact (set_same ho).symm

theorem min_if (a b : Int) : (if b < a then b else a) = min a b := by split <;> omega
set_option maxHeartbeats 4000000 in
theorem over_ok (kn : Bool) (tot den : Int) (ht : 0 ≤ tot ∧ tot ≤ 144115188075855872) (hd : 1 ≤ den) (σ : Store) :
    PCall Try.prog 119 [.agg [.bool kn, .int .i64 tot], .int .i64 den] σ (fun p σ' => p = .int .i64 (if kn then min (tot / den) 1099511627776 else -1) ∧ σ' = σ) := by
  refine PCall.vfrz [] 159 13 [.tmp 4] (noE_ok _) mix Try.func119 rfl (by decide) rfl rfl (by simp) ?_
  simp -dsimp only [initFr, List.zipIdx_cons, List.zipIdx_nil, List.map_cons, List.map_nil, Nat.zero_add, Nat.reduceAdd]
  cases kn
  · simp -dsimp (maxSteps := 4000000) +contextual (disch := first | omega | decide +kernel) only [↓vsD, vsU, resW, fnRet, cond_true, cond_false, Nat.reduceShiftRight, Nat.reduceAnd, Go.PV.fits, Go.PV.mutOf, Go.PV.splice, Int.reduceToNat, Int.reduceEq, Int.reduceAdd, Int.reduceSub, Int.reduceMul, Int.reduceLE, Int.reduceLT, Int.reduceNeg, Nat.reduceMul, Nat.reduceLeDiff, ne_eq, if_true, if_false, reduceIte, Nat.reduceEqDiff, ↓Nat.reduceLT, Nat.reduceAdd, Nat.reduceBEq, reduceCtorEq, enc_length, encs_length, tyU, tyC, tyB, tyA, tyI, tyZ, tyF, tyP, enc_getD, encs_getD, wrap_i64, enc_set, splice_one, set_last, bin_aeq2, bin_ane2]
    exact fin_app (.keep _ (bel_int _ _ _)) ⟨rfl, rfl⟩
  · have e1 : tot.tdiv den = tot / den := Int.tdiv_eq_ediv_of_nonneg ht.1
    have e2 : 0 ≤ tot / den := Int.ediv_nonneg ht.1 (by omega)
    have e3 : tot / den ≤ tot := Int.ediv_le_self _ ht.1
    simp -dsimp (maxSteps := 4000000) +contextual (disch := first | omega | decide +kernel) only [↓vsD, vsU, resW, fnRet, cond_true, cond_false, Nat.reduceShiftRight, Nat.reduceAnd, Go.PV.fits, Go.PV.mutOf, Go.PV.splice, Int.reduceToNat, Int.reduceEq, Int.reduceAdd, Int.reduceSub, Int.reduceMul, Int.reduceLE, Int.reduceLT, Int.reduceNeg, Nat.reduceMul, Nat.reduceLeDiff, ne_eq, if_true, if_false, reduceIte, Nat.reduceEqDiff, ↓Nat.reduceLT, Nat.reduceAdd, Nat.reduceBEq, reduceCtorEq, enc_length, encs_length, tyU, tyC, tyB, tyA, tyI, tyZ, tyF, tyP, enc_getD, encs_getD, wrap_i64, enc_set, splice_one, set_last, bin_aeq2, bin_ane2, e1]
    rw [min_if]
    exact fin_app (.keep _ (bel_int _ _ _)) ⟨rfl, rfl⟩

/-! The table, with sums. -/
def exAddO (o : Nat) (n w : Int) (σ : Store) : Option Go.PV.Obj → Option (Prop × PV × Store)
  | some (.rows t sz [[.bool kn, .int .i64 tot]] 0) => some ((t = 170 ∧ sz = 2) ∧ (0 ≤ tot ∧ tot ≤ 144115188075855872) ∧ n ≤ 1099511627776 ∧ 0 ≤ w ∧ w ≤ 65536, .tup [], σ.set o (sumO (kn || decide (0 ≤ n)) (addT tot n w)))
  | _ => none
def exAdd (args : List PV) (σ : Store) : Option (Prop × PV × Store) :=
  match args with
  | [.ptr o 0 0 0, .int .i64 n, .int .i64 w] => exAddO o n w σ σ[o]?
  | _ => none
def exOver (args : List PV) (σ : Store) : Option (Prop × PV × Store) :=
  match args with
  | [.agg [.bool kn, .int .i64 tot], .int .i64 den] => some ((0 ≤ tot ∧ tot ≤ 144115188075855872) ∧ 1 ≤ den, .int .i64 (if kn then min (tot / den) 1099511627776 else -1), σ)
  | _ => some (False, .unk, σ)
theorem exAdd_ok : Known.Ok Try.prog 118 exAdd := by
  intro args σ c p σ' he hc
  unfold exAdd at he
  split at he
  · rename_i o n w
    unfold exAddO at he
    split at he
    · rename_i t sz kn tot hob
      cases he
      obtain ⟨⟨rfl, rfl⟩, h1, h2, h3⟩ := hc
      exact add_ok o kn tot n w σ hob h1 h2 h3
    · cases he
  · cases he
theorem exOver_ok : Known.Ok Try.prog 119 exOver := by
  intro args σ c p σ' he hc
  unfold exOver at he
  split at he
  · cases he
    exact over_ok _ _ _ hc.1 hc.2 σ
  · cases he; exact hc.elim
theorem exOver_pure (args : List PV) (σ : Store) : ∃ c p, exOver args σ = some (c, p, σ) := by
  unfold exOver; split <;> exact ⟨_, _, rfl⟩
def wk2 : Ext := (wk1.add 118 exAdd).addP 119 exOver
theorem wk2_ok : ExtOk Try.prog wk2 := (wk1_ok.add (by decide) exAdd_ok).addP exOver_ok exOver_pure
theorem wk2_add (o : Nat) (n w : Int) (σ : Store) : wk2.f 118 [.ptr o 0 0 0, .int .i64 n, .int .i64 w] σ = exAddO o n w σ σ[o]? := rfl
theorem exAddO_sum (o : Nat) (kn : Bool) (tot n w : Int) (σ : Store) : exAddO o n w σ (some (.rows 170 2 [[.bool kn, .int .i64 tot]] 0)) = some ((0 ≤ tot ∧ tot ≤ 144115188075855872) ∧ n ≤ 1099511627776 ∧ 0 ≤ w ∧ w ≤ 65536, .tup [], σ.set o (sumO (kn || decide (0 ≤ n)) (addT tot n w))) := by
  simp only [exAddO, and_self, true_and]
theorem wk2_over (kn : Bool) (tot den : Int) (σ : Store) : wk2.f 119 [.agg [.bool kn, .int .i64 tot], .int .i64 den] σ = some ((0 ≤ tot ∧ tot ≤ 144115188075855872) ∧ 1 ≤ den, .int .i64 (if kn then min (tot / den) 1099511627776 else -1), σ) := rfl

/-- The sum of the first k. -/
def known (num : FC → Int) (l : List FC) (k : Nat) : Bool := (l.take k).any fun x => decide (0 ≤ num x)
def total (num : FC → Int) (ws : List Int) (l : List FC) : Nat → Int
  | 0 => 0
  | k + 1 => addT (total num ws l k) (num (l.getD k default)) (ws.getD k 0)
theorem total_range (num : FC → Int) (ws : List Int) (l : List FC) (hw : ∀ w ∈ ws, 0 ≤ w ∧ w ≤ 65536) : ∀ k, k ≤ ws.length → 0 ≤ total num ws l k ∧ total num ws l k ≤ 144115188075855872
  | 0, _ => by simp [total]
  | k + 1, h => by
    have ih := total_range num ws l hw k (by omega)
    have hk := hw _ (getD_mem (show k < ws.length by omega))
    simp only [total, addT]
    split
    · rename_i h0
      have := Int.mul_nonneg h0 hk.1
      omega
    · exact ih
theorem known_succ {num : FC → Int} {l : List FC} {k : Nat} (h : k < l.length) : known num l (k + 1) = (known num l k || decide (0 ≤ num (l.getD k default))) := by
  unfold known
  rw [List.take_add_one, List.getElem?_eq_getElem h, List.getD_eq_getElem?_getD, List.getElem?_eq_getElem h, List.any_append]
  simp only [Option.toList_some, List.any_cons, List.any_nil, Bool.or_false, Option.getD_some]
def eachF (num : FC → Int) (ws : List Int) (l : List FC) (den : Int) : Int := if known num l l.length then min (total num ws l l.length / den) 1099511627776 else -1
def mixV (ws : List Int) (den : Int) (l : List FC) : List PV := [.sl (ints ws), .int .i64 den, .sl (encF l)]

set_option maxHeartbeats 8000000 in
theorem each_ok (num : FC → Int) (ws : List Int) (den : Int) (l : List FC) (F : FuncId) (cap : List PV) (σ : Store) (hl : l.length ≤ ws.length) (hll : l.length < 2 ^ 40) (hw : ∀ w ∈ ws, 0 ≤ w ∧ w ≤ 65536) (hwl : ws.length < 2 ^ 40) (hd : 1 ≤ den)
    (hn : ∀ x ∈ l, num x ≤ 1099511627776) (hF0 : ∀ args σ, wk2.f F args σ = none) (hF : ∀ x ∈ l, ∀ τ, σ <+: τ → PCall Try.prog F (.agg x.row :: cap) τ (fun q τ' => q = .int .i64 (num x) ∧ τ' = τ)) :
    PCall Try.prog 92 [.agg (mixV ws den l), .func (.func F) [] cap] σ (fun p σ' => p = .int .i64 (eachF num ws l den) ∧ σ' = σ) := by
  unfold mixV
  refine PCall.vfrz [] 7935 30 [.tmp 4] wk2_ok mix Try.func92 rfl (by decide) rfl rfl (by simp) ?_
  simp -dsimp only [initFr, List.zipIdx_cons, List.zipIdx_nil, List.map_cons, List.map_nil, Nat.zero_add, Nat.reduceAdd]
  simp -dsimp (maxSteps := 4000000) +contextual (disch := first | omega | decide +kernel) only [↓vsD, vsU, resW, fnRet, cond_true, cond_false, Nat.reduceShiftRight, Nat.reduceAnd, Go.PV.fits, Go.PV.mutOf, Go.PV.splice, Int.reduceToNat, Int.reduceEq, Int.reduceAdd, Int.reduceSub, Int.reduceMul, Int.reduceLE, Int.reduceLT, Int.reduceNeg, Nat.reduceMul, Nat.reduceLeDiff, ne_eq, if_true, if_false, reduceIte, Nat.reduceEqDiff, ↓Nat.reduceLT, Nat.reduceAdd, Nat.reduceBEq, reduceCtorEq, enc_length, encs_length, tyU, tyC, tyB, tyA, tyI, tyZ, tyF, tyP, enc_getD, encs_getD, wrap_i64, enc_set, splice_one, set_last, bin_aeq2, bin_ane2, wk1_aged, wk1_rage, wk1_counted, wk1_power, wk1_rpower, wk1_valid, wk1_rvalid, wk2_add, exAddO_sum, wk2_over, encF_length, List.append_assoc, List.cons_append, gapp0, gappk]
  refine v_loopS (fun s : Nat × Store => [(1, .func (.func F) [] cap), (2, .ptr σ.length 0 0 0), (4, .int .i64 0), (5, .ptr (σ.length + 1) 0 0 0), (9, .sl (encF l)), (10, .int .i64 l.length), (11, .int .i64 s.1)])
    (fun s => σ ++ (.rows 127 3 [[.sl (ints ws), .int .i64 den, .sl (encF l)]] 0 :: .rows 170 2 [[.bool (known num l s.1), .int .i64 (total num ws l s.1)]] 0 :: s.2)) (fun s => s.1 ≤ l.length) (fun s => l.length - s.1) (0, []) (by simp [weaker, Go.PV.look]) (by simp [known, total]) (by simp) ?_
  rintro ⟨k, g⟩ hk
  dsimp only at hk ⊢
  have ht := total_range num ws l hw k (by omega)
  by_cases hkl : k < l.length
  · obtain ⟨x, hx⟩ : ∃ x, x = l.getD k default := ⟨_, rfl⟩
    have hxm : x ∈ l := by rw [hx, List.getD_eq_getElem?_getD, List.getElem?_eq_getElem hkl]; simp
    have hnx := hn x hxm
    have hwk := hw _ (getD_mem (show k < ws.length by omega))
    simp -dsimp (maxSteps := 4000000) +contextual (disch := first | omega | decide +kernel) only [↓vsD, vsU, resW, fnRet, cond_true, cond_false, Nat.reduceShiftRight, Nat.reduceAnd, Go.PV.fits, Go.PV.mutOf, Go.PV.splice, Int.reduceToNat, Int.reduceEq, Int.reduceAdd, Int.reduceSub, Int.reduceMul, Int.reduceLE, Int.reduceLT, Int.reduceNeg, Nat.reduceMul, Nat.reduceLeDiff, ne_eq, if_true, if_false, reduceIte, Nat.reduceEqDiff, ↓Nat.reduceLT, Nat.reduceAdd, Nat.reduceBEq, reduceCtorEq, enc_length, encs_length, tyU, tyC, tyB, tyA, tyI, tyZ, tyF, tyP, enc_getD, encs_getD, wrap_i64, enc_set, splice_one, set_last, bin_aeq2, bin_ane2, wk1_aged, wk1_rage, wk1_counted, wk1_power, wk1_rpower, wk1_valid, wk1_rvalid, wk2_add, exAddO_sum, wk2_over, encF_length, encF_getD, ← hx, gapp0, gappk, sapp0, sappk, gappn0, gappnk, sappn0, sappnk]
    refine v_draws _ _ _ _ _ _ [2, 8] [] [(0, 0), (0, 0), (0, 0), (0, 1), (0, 1), (0, 1), (0, 1), (0, 1), (0, 0)] (by decide +kernel) (by decide +kernel) (by decide +kernel) (by decide +kernel) ?_
    simp -dsimp (maxSteps := 4000000) +contextual (disch := first | omega | decide +kernel) only [↓vsD, vsU, resW, fnRet, cond_true, cond_false, Nat.reduceShiftRight, Nat.reduceAnd, Go.PV.fits, Go.PV.mutOf, Go.PV.splice, Int.reduceToNat, Int.reduceEq, Int.reduceAdd, Int.reduceSub, Int.reduceMul, Int.reduceLE, Int.reduceLT, Int.reduceNeg, Nat.reduceMul, Nat.reduceLeDiff, ne_eq, if_true, if_false, reduceIte, Nat.reduceEqDiff, ↓Nat.reduceLT, Nat.reduceAdd, Nat.reduceBEq, reduceCtorEq, enc_length, encs_length, tyU, tyC, tyB, tyA, tyI, tyZ, tyF, tyP, enc_getD, encs_getD, wrap_i64, enc_set, splice_one, set_last, bin_aeq2, bin_ane2, wk1_aged, wk1_rage, wk1_counted, wk1_power, wk1_rpower, wk1_valid, wk1_rvalid, wk2_add, exAddO_sum, wk2_over, vdx_none, vkp_go, ↓vd_end, place_nil, place_cons, vdo_eff, vdo_effA, ↓vdm_go, List.take_succ_cons, List.take_zero, List.drop_succ_cons, List.drop_zero, vdo_noeff_s, vdo_noeff_n, vdo_nofloat, vdo_noread, vdo_read, vdo_floatS, vdo_floatA, vde_s, vde_n, vde_c, vdx_s, vdr_s, vdr_b, vdf_m, vdf_p, ↓vd_op, ↓guard_none, ↓guard_some, gval_some, List.forall_mem_cons, List.not_mem_nil, false_implies, implies_true, List.length_append, List.length_replicate, List.replicate_zero, List.replicate_succ, List.contains_nil, List.contains_cons, Bool.or_false, Bool.false_or, Bool.or_self, Bool.or_true, Bool.true_or, vdr_o, vdq_eq, vdw_s, outR_v, rowsAt_none, mapAt_none, lnil, drop0, hF0, encF_length, encF_getD, ← hx, gapp0, gappk, sapp0, sappk, gappn0, gappnk, sappn0, sappnk]
    refine ⟨.int .i64 (num x), _, hF x hxm _ (by simp [List.append_assoc]), by simp, ?_⟩
    simp -dsimp (maxSteps := 4000000) +contextual (disch := first | omega | decide +kernel) only [↓vsD, vsU, resW, fnRet, cond_true, cond_false, Nat.reduceShiftRight, Nat.reduceAnd, Go.PV.fits, Go.PV.mutOf, Go.PV.splice, Int.reduceToNat, Int.reduceEq, Int.reduceAdd, Int.reduceSub, Int.reduceMul, Int.reduceLE, Int.reduceLT, Int.reduceNeg, Nat.reduceMul, Nat.reduceLeDiff, ne_eq, if_true, if_false, reduceIte, Nat.reduceEqDiff, ↓Nat.reduceLT, Nat.reduceAdd, Nat.reduceBEq, reduceCtorEq, enc_length, encs_length, tyU, tyC, tyB, tyA, tyI, tyZ, tyF, tyP, enc_getD, encs_getD, wrap_i64, enc_set, splice_one, set_last, bin_aeq2, bin_ane2, wk1_aged, wk1_rage, wk1_counted, wk1_power, wk1_rpower, wk1_valid, wk1_rvalid, wk2_add, exAddO_sum, wk2_over, vdx_none, vkp_go, ↓vd_end, place_nil, place_cons, vdo_eff, vdo_effA, ↓vdm_go, List.take_succ_cons, List.take_zero, List.drop_succ_cons, List.drop_zero, vdo_noeff_s, vdo_noeff_n, vdo_nofloat, vdo_noread, vdo_read, vdo_floatS, vdo_floatA, vde_s, vde_n, vde_c, vdx_s, vdr_s, vdr_b, vdf_m, vdf_p, ↓vd_op, ↓guard_none, ↓guard_some, gval_some, List.forall_mem_cons, List.not_mem_nil, false_implies, implies_true, List.length_append, List.length_replicate, List.replicate_zero, List.replicate_succ, List.contains_nil, List.contains_cons, Bool.or_false, Bool.false_or, Bool.or_self, Bool.or_true, Bool.true_or, vdr_o, vdq_eq, vdw_s, outR_v, rowsAt_none, mapAt_none, lnil, drop0, gapp0, gappk, sapp0, sappk, gappn0, gappnk, sappn0, sappnk]
    exact ⟨(k + 1, g ++ [.rows 60 4 [[.int .i64 x.ent, .sl (ints x.blocks), .sl (encT x.edges), .sl (encS x.sites)]] 0]), (by (try dsimp only); omega), (by simp [weaker, Go.PV.look]), by simp only [List.set_cons_succ, List.set_cons_zero, known_succ hkl, total, ← hx, sumO], by dsimp only; omega⟩
  have hkk : k = l.length := by omega
  subst hkk
  simp -dsimp (maxSteps := 4000000) +contextual (disch := first | omega | decide +kernel) only [↓vsD, vsU, resW, fnRet, cond_true, cond_false, Nat.reduceShiftRight, Nat.reduceAnd, Go.PV.fits, Go.PV.mutOf, Go.PV.splice, Int.reduceToNat, Int.reduceEq, Int.reduceAdd, Int.reduceSub, Int.reduceMul, Int.reduceLE, Int.reduceLT, Int.reduceNeg, Nat.reduceMul, Nat.reduceLeDiff, ne_eq, if_true, if_false, reduceIte, Nat.reduceEqDiff, ↓Nat.reduceLT, Nat.reduceAdd, Nat.reduceBEq, reduceCtorEq, enc_length, encs_length, tyU, tyC, tyB, tyA, tyI, tyZ, tyF, tyP, enc_getD, encs_getD, wrap_i64, enc_set, splice_one, set_last, bin_aeq2, bin_ane2, wk1_aged, wk1_rage, wk1_counted, wk1_power, wk1_rpower, wk1_valid, wk1_rvalid, wk2_add, exAddO_sum, wk2_over, encF_length, gapp0, gappk]
  exact fin_app (.keep _ (bel_int _ _ _)) ⟨rfl, rfl⟩

/-! The numbers. -/
theorem num1_ok (x : FC) (τ : Store) : PCall Try.prog 93 [.agg x.row] τ (fun q τ' => q = .int .i64 x.ent ∧ τ' = τ) := by
  unfold FC.row
  refine PCall.vfrz [] 7 5 [.tmp 2] wk2_ok mix Try.func93 rfl (by decide) rfl rfl (by simp) ?_
  simp -dsimp only [initFr, List.zipIdx_cons, List.zipIdx_nil, List.map_cons, List.map_nil, Nat.zero_add, Nat.reduceAdd]
  simp -dsimp (maxSteps := 4000000) +contextual (disch := first | omega | decide +kernel) only [↓vsD, vsU, resW, fnRet, cond_true, cond_false, Nat.reduceShiftRight, Nat.reduceAnd, Go.PV.fits, Go.PV.mutOf, Go.PV.splice, Int.reduceToNat, Int.reduceEq, Int.reduceAdd, Int.reduceSub, Int.reduceMul, Int.reduceLE, Int.reduceLT, Int.reduceNeg, Nat.reduceMul, Nat.reduceLeDiff, ne_eq, if_true, if_false, reduceIte, Nat.reduceEqDiff, ↓Nat.reduceLT, Nat.reduceAdd, Nat.reduceBEq, reduceCtorEq, enc_length, encs_length, tyU, tyC, tyB, tyA, tyI, tyZ, tyF, tyP, enc_getD, encs_getD, wrap_i64, enc_set, splice_one, set_last, bin_aeq2, bin_ane2, wk1_aged, wk1_rage, wk1_counted, wk1_power, wk1_rpower, wk1_valid, wk1_rvalid, wk2_add, exAddO_sum, wk2_over, gapp0, gappk]
  exact fin_app (.keep _ (bel_int _ _ _)) ⟨rfl, rfl⟩
theorem num2_ok (x : FC) (o : Nat) (b : Nat) (τ : Store) (ho : τ[o]? = some (.rows 3 1 [[.int .i64 b]] 0)) (hb : b < x.blocks.length) : PCall Try.prog 95 [.agg x.row, .ptr o 0 0 0] τ (fun q τ' => q = .int .i64 (x.blocks.getD b 0) ∧ τ' = τ) := by
  unfold FC.row
  have ho2 : ∀ L, (τ ++ L)[o]? = some (.rows 3 1 [[.int .i64 b]] 0) := fun L => by rw [List.getElem?_append_left (List.getElem?_eq_some_iff.1 ho).1, ho]
  refine PCall.vfrz [] 15 9 [.tmp 3] wk2_ok mix Try.func95 rfl (by decide) rfl rfl (by simp) ?_
  simp -dsimp only [initFr, List.zipIdx_cons, List.zipIdx_nil, List.map_cons, List.map_nil, Nat.zero_add, Nat.reduceAdd]
  simp -dsimp (maxSteps := 4000000) +contextual (disch := first | omega | decide +kernel) only [↓vsD, vsU, resW, fnRet, cond_true, cond_false, Nat.reduceShiftRight, Nat.reduceAnd, Go.PV.fits, Go.PV.mutOf, Go.PV.splice, Int.reduceToNat, Int.reduceEq, Int.reduceAdd, Int.reduceSub, Int.reduceMul, Int.reduceLE, Int.reduceLT, Int.reduceNeg, Nat.reduceMul, Nat.reduceLeDiff, ne_eq, if_true, if_false, reduceIte, Nat.reduceEqDiff, ↓Nat.reduceLT, Nat.reduceAdd, Nat.reduceBEq, reduceCtorEq, enc_length, encs_length, tyU, tyC, tyB, tyA, tyI, tyZ, tyF, tyP, enc_getD, encs_getD, wrap_i64, enc_set, splice_one, set_last, bin_aeq2, bin_ane2, wk1_aged, wk1_rage, wk1_counted, wk1_power, wk1_rpower, wk1_valid, wk1_rvalid, wk2_add, exAddO_sum, wk2_over, gapp0, gappk, ho2]
  exact fin_app (.keep _ (bel_int _ _ _)) ⟨rfl, rfl⟩
def edge (x : FC) (b w : Nat) : Int := if w = 0 then (x.edges.getD b (0, 0)).1 else (x.edges.getD b (0, 0)).2
set_option maxHeartbeats 4000000 in
theorem num3_ok (x : FC) (o o2 : Nat) (b w : Nat) (τ : Store) (ho : τ[o]? = some (.rows 3 1 [[.int .i64 b]] 0)) (ho2 : τ[o2]? = some (.rows 3 1 [[.int .i64 w]] 0)) (hb : b < x.edges.length) (hw : w < 2) :
    PCall Try.prog 96 [.agg x.row, .ptr o 0 0 0, .ptr o2 0 0 0] τ (fun q τ' => q = .int .i64 (edge x b w) ∧ τ' = τ) := by
  unfold FC.row
  have h1 : ∀ L, (τ ++ L)[o]? = some (.rows 3 1 [[.int .i64 b]] 0) := fun L => by rw [List.getElem?_append_left (List.getElem?_eq_some_iff.1 ho).1, ho]
  have h2 : ∀ L, (τ ++ L)[o2]? = some (.rows 3 1 [[.int .i64 w]] 0) := fun L => by rw [List.getElem?_append_left (List.getElem?_eq_some_iff.1 ho2).1, ho2]
  refine PCall.vfrz [] 31 12 [.tmp 4] wk2_ok mix Try.func96 rfl (by decide) rfl rfl (by simp) ?_
  simp -dsimp only [initFr, List.zipIdx_cons, List.zipIdx_nil, List.map_cons, List.map_nil, Nat.zero_add, Nat.reduceAdd]
  rcases (show w = 0 ∨ w = 1 by omega) with rfl | rfl
  · simp -dsimp (maxSteps := 4000000) +contextual (disch := first | omega | decide +kernel) only [↓vsD, vsU, resW, fnRet, cond_true, cond_false, Nat.reduceShiftRight, Nat.reduceAnd, Go.PV.fits, Go.PV.mutOf, Go.PV.splice, Int.reduceToNat, Int.reduceEq, Int.reduceAdd, Int.reduceSub, Int.reduceMul, Int.reduceLE, Int.reduceLT, Int.reduceNeg, Nat.reduceMul, Nat.reduceLeDiff, ne_eq, if_true, if_false, reduceIte, Nat.reduceEqDiff, ↓Nat.reduceLT, Nat.reduceAdd, Nat.reduceBEq, reduceCtorEq, enc_length, encs_length, tyU, tyC, tyB, tyA, tyI, tyZ, tyF, tyP, enc_getD, encs_getD, wrap_i64, enc_set, splice_one, set_last, bin_aeq2, bin_ane2, wk1_aged, wk1_rage, wk1_counted, wk1_power, wk1_rpower, wk1_valid, wk1_rvalid, wk2_add, exAddO_sum, wk2_over, gapp0, gappk, h1, h2, encT_length, encT_getD]
    exact fin_app (.keep _ (bel_int _ _ _)) ⟨rfl, rfl⟩
  · simp -dsimp (maxSteps := 4000000) +contextual (disch := first | omega | decide +kernel) only [↓vsD, vsU, resW, fnRet, cond_true, cond_false, Nat.reduceShiftRight, Nat.reduceAnd, Go.PV.fits, Go.PV.mutOf, Go.PV.splice, Int.reduceToNat, Int.reduceEq, Int.reduceAdd, Int.reduceSub, Int.reduceMul, Int.reduceLE, Int.reduceLT, Int.reduceNeg, Nat.reduceMul, Nat.reduceLeDiff, ne_eq, if_true, if_false, reduceIte, Nat.reduceEqDiff, ↓Nat.reduceLT, Nat.reduceAdd, Nat.reduceBEq, reduceCtorEq, enc_length, encs_length, tyU, tyC, tyB, tyA, tyI, tyZ, tyF, tyP, enc_getD, encs_getD, wrap_i64, enc_set, splice_one, set_last, bin_aeq2, bin_ane2, wk1_aged, wk1_rage, wk1_counted, wk1_power, wk1_rpower, wk1_valid, wk1_rvalid, wk2_add, exAddO_sum, wk2_over, gapp0, gappk, h1, h2, encT_length, encT_getD]
    exact fin_app (.keep _ (bel_int _ _ _)) ⟨rfl, rfl⟩

end Go.Proofs.Ythginmfobikdgaa
