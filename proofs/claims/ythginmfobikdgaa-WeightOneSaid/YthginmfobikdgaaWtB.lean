/- Chapter 32, the walks: rates, powers, what counts are right. -/
import Derived.Test.YthginmfobikdgaaWtA
set_option linter.unusedSimpArgs false
set_option linter.unusedVariables false
namespace Go.Proofs.Ythginmfobikdgaa
open Go.PV

theorem aged_ok (n : Int) (σ : Store) : PCall Try.prog 56 [.int .i64 n] σ (fun p σ' => p = .bool (decide (ageOk n)) ∧ σ' = σ) := by
  refine PCall.vraw [] 7 9 [.tmp 2] (noE_ok _) mix Try.func56 rfl (by decide) rfl rfl (by simp) ?_
  simp -dsimp only [initFr, List.zipIdx_cons, List.zipIdx_nil, List.map_cons, List.map_nil, Nat.zero_add, Nat.reduceAdd]
  simp -dsimp (maxSteps := 4000000) +contextual (disch := first | omega | decide +kernel) only [↓vsD, vsU, resW, fnRet, cond_true, cond_false, Nat.reduceShiftRight, Nat.reduceAnd, Go.PV.fits, Go.PV.mutOf, Go.PV.splice, Int.reduceToNat, Int.reduceEq, Int.reduceAdd, Int.reduceSub, Int.reduceMul, Int.reduceLE, Int.reduceLT, Int.reduceNeg, Nat.reduceMul, Nat.reduceLeDiff, ne_eq, if_true, if_false, reduceIte, Nat.reduceEqDiff, ↓Nat.reduceLT, Nat.reduceAdd, Nat.reduceBEq, reduceCtorEq, enc_length, encs_length, tyU, tyC, tyB, tyA, tyI, tyZ, tyF, tyP, enc_getD, encs_getD, wrap_i64, enc_set, splice_one, set_last, bin_aeq2, bin_ane2]
  refine ⟨fun h => ⟨fun h2 => ?_, fun h2 => ?_⟩, fun h => ?_⟩
  · exact (decide_eq_true (show ageOk n from ⟨h, h2⟩)).symm
  · exact (decide_eq_false (fun e : ageOk n => h2 e.2)).symm
  · exact (decide_eq_false (fun e : ageOk n => h e.1)).symm

theorem rage_ok (n : Int) (σ : Store) : PCall Try.prog 63 [.int .i64 n] σ (fun p σ' => p = .bool (decide (ageOk n)) ∧ σ' = σ) := by
  refine PCall.vraw [] 7 9 [.tmp 2] (noE_ok _) mix Try.func63 rfl (by decide) rfl rfl (by simp) ?_
  simp -dsimp only [initFr, List.zipIdx_cons, List.zipIdx_nil, List.map_cons, List.map_nil, Nat.zero_add, Nat.reduceAdd]
  simp -dsimp (maxSteps := 4000000) +contextual (disch := first | omega | decide +kernel) only [↓vsD, vsU, resW, fnRet, cond_true, cond_false, Nat.reduceShiftRight, Nat.reduceAnd, Go.PV.fits, Go.PV.mutOf, Go.PV.splice, Int.reduceToNat, Int.reduceEq, Int.reduceAdd, Int.reduceSub, Int.reduceMul, Int.reduceLE, Int.reduceLT, Int.reduceNeg, Nat.reduceMul, Nat.reduceLeDiff, ne_eq, if_true, if_false, reduceIte, Nat.reduceEqDiff, ↓Nat.reduceLT, Nat.reduceAdd, Nat.reduceBEq, reduceCtorEq, enc_length, encs_length, tyU, tyC, tyB, tyA, tyI, tyZ, tyF, tyP, enc_getD, encs_getD, wrap_i64, enc_set, splice_one, set_last, bin_aeq2, bin_ane2]
  refine ⟨fun h => ⟨fun h2 => ?_, fun h2 => ?_⟩, fun h => ?_⟩
  · exact (decide_eq_true (show ageOk n from ⟨h, h2⟩)).symm
  · exact (decide_eq_false (fun e : ageOk n => h2 e.2)).symm
  · exact (decide_eq_false (fun e : ageOk n => h e.1)).symm

def cntB (n : Int) : Bool := decide (-1 ≤ n ∧ n ≤ 1099511627776)
theorem counted_ok (n : Int) (σ : Store) : PCall Try.prog 86 [.int .i64 n] σ (fun p σ' => p = .bool (cntB n) ∧ σ' = σ) := by
  refine PCall.vraw [] 7 9 [.tmp 2] (noE_ok _) mix Try.func86 rfl (by decide) rfl rfl (by simp) ?_
  simp -dsimp only [initFr, List.zipIdx_cons, List.zipIdx_nil, List.map_cons, List.map_nil, Nat.zero_add, Nat.reduceAdd]
  simp -dsimp (maxSteps := 4000000) +contextual (disch := first | omega | decide +kernel) only [↓vsD, vsU, resW, fnRet, cond_true, cond_false, Nat.reduceShiftRight, Nat.reduceAnd, Go.PV.fits, Go.PV.mutOf, Go.PV.splice, Int.reduceToNat, Int.reduceEq, Int.reduceAdd, Int.reduceSub, Int.reduceMul, Int.reduceLE, Int.reduceLT, Int.reduceNeg, Nat.reduceMul, Nat.reduceLeDiff, ne_eq, if_true, if_false, reduceIte, Nat.reduceEqDiff, ↓Nat.reduceLT, Nat.reduceAdd, Nat.reduceBEq, reduceCtorEq, enc_length, encs_length, tyU, tyC, tyB, tyA, tyI, tyZ, tyF, tyP, enc_getD, encs_getD, wrap_i64, enc_set, splice_one, set_last, bin_aeq2, bin_ane2]
  refine ⟨fun h => ⟨fun h2 => ?_, fun h2 => ?_⟩, fun h => ?_⟩
  · exact (decide_eq_true (show -1 ≤ n ∧ n ≤ 1099511627776 from ⟨h, h2⟩)).symm
  · exact (decide_eq_false (fun e : -1 ≤ n ∧ n ≤ 1099511627776 => h2 e.2)).symm
  · exact (decide_eq_false (fun e : -1 ≤ n ∧ n ≤ 1099511627776 => h e.1)).symm

set_option maxHeartbeats 4000000 in
theorem power_ok (b : Int) (n : Nat) (h0 : 0 ≤ b) (h4 : b ≤ 4) (hn : n ≤ 8) (σ : Store) : PCall Try.prog 60 [.int .i64 b, .int .i64 n] σ (fun p σ' => p = .int .i64 (b ^ n) ∧ σ' = σ) := by
  refine PCall.vraw [] 511 14 [.tmp 4] (noE_ok _) mix Try.func60 rfl (by decide) rfl rfl (by simp) ?_
  simp -dsimp only [initFr, List.zipIdx_cons, List.zipIdx_nil, List.map_cons, List.map_nil, Nat.zero_add, Nat.reduceAdd]
  simp -dsimp (maxSteps := 4000000) +contextual (disch := first | omega | decide +kernel) only [↓vsD, vsU, resW, fnRet, cond_true, cond_false, Nat.reduceShiftRight, Nat.reduceAnd, Go.PV.fits, Go.PV.mutOf, Go.PV.splice, Int.reduceToNat, Int.reduceEq, Int.reduceAdd, Int.reduceSub, Int.reduceMul, Int.reduceLE, Int.reduceLT, Int.reduceNeg, Nat.reduceMul, Nat.reduceLeDiff, ne_eq, if_true, if_false, reduceIte, Nat.reduceEqDiff, ↓Nat.reduceLT, Nat.reduceAdd, Nat.reduceBEq, reduceCtorEq, enc_length, encs_length, tyU, tyC, tyB, tyA, tyI, tyZ, tyF, tyP, enc_getD, encs_getD, wrap_i64, enc_set, splice_one, set_last, bin_aeq2, bin_ane2]
  refine v_loopS (fun k : Nat => [(0, .int .i64 b), (5, .int .i64 (b ^ k)), (6, .int .i64 n), (7, .int .i64 k)]) (fun _ => σ) (fun k => k ≤ n) (fun k => n - k) 0 (by simp [weaker, Go.PV.look]) rfl (by omega) ?_
  intro k hk
  have h1 : k < n → 0 ≤ b ^ k * b ∧ b ^ k * b ≤ 65536 := fun h => by
    rw [← Int.pow_succ]; exact pow_small h0 h4 (by omega)
  simp -dsimp (maxSteps := 4000000) +contextual (disch := first | omega | decide +kernel) only [↓vsD, vsU, resW, fnRet, cond_true, cond_false, Nat.reduceShiftRight, Nat.reduceAnd, Go.PV.fits, Go.PV.mutOf, Go.PV.splice, Int.reduceToNat, Int.reduceEq, Int.reduceAdd, Int.reduceSub, Int.reduceMul, Int.reduceLE, Int.reduceLT, Int.reduceNeg, Nat.reduceMul, Nat.reduceLeDiff, ne_eq, if_true, if_false, reduceIte, Nat.reduceEqDiff, ↓Nat.reduceLT, Nat.reduceAdd, Nat.reduceBEq, reduceCtorEq, enc_length, encs_length, tyU, tyC, tyB, tyA, tyI, tyZ, tyF, tyP, enc_getD, encs_getD, wrap_i64, enc_set, splice_one, set_last, bin_aeq2, bin_ane2]
  refine ⟨fun h => ⟨k + 1, (by (try dsimp only); omega), by simp [weaker, Go.PV.look, Int.pow_succ], rfl, by omega⟩, fun h => ?_⟩
  have : k = n := by omega
  rw [this]

set_option maxHeartbeats 4000000 in
theorem rpower_ok (b : Int) (n : Nat) (h0 : 0 ≤ b) (h4 : b ≤ 4) (hn : n ≤ 8) (σ : Store) : PCall Try.prog 64 [.int .i64 b, .int .i64 n] σ (fun p σ' => p = .int .i64 (b ^ n) ∧ σ' = σ) := by
  refine PCall.vraw [] 191 14 [.tmp 4] (noE_ok _) mix Try.func64 rfl (by decide) rfl rfl (by simp) ?_
  simp -dsimp only [initFr, List.zipIdx_cons, List.zipIdx_nil, List.map_cons, List.map_nil, Nat.zero_add, Nat.reduceAdd]
  simp -dsimp (maxSteps := 4000000) +contextual (disch := first | omega | decide +kernel) only [↓vsD, vsU, resW, fnRet, cond_true, cond_false, Nat.reduceShiftRight, Nat.reduceAnd, Go.PV.fits, Go.PV.mutOf, Go.PV.splice, Int.reduceToNat, Int.reduceEq, Int.reduceAdd, Int.reduceSub, Int.reduceMul, Int.reduceLE, Int.reduceLT, Int.reduceNeg, Nat.reduceMul, Nat.reduceLeDiff, ne_eq, if_true, if_false, reduceIte, Nat.reduceEqDiff, ↓Nat.reduceLT, Nat.reduceAdd, Nat.reduceBEq, reduceCtorEq, enc_length, encs_length, tyU, tyC, tyB, tyA, tyI, tyZ, tyF, tyP, enc_getD, encs_getD, wrap_i64, enc_set, splice_one, set_last, bin_aeq2, bin_ane2]
  refine v_loopS (fun k : Nat => [(0, .int .i64 b), (1, .int .i64 ((n - k : Nat) : Int)), (5, .int .i64 (b ^ k))]) (fun _ => σ) (fun k => k ≤ n) (fun k => n - k) 0 (by simp [weaker, Go.PV.look]) rfl (by omega) ?_
  intro k hk
  have h1 : k < n → 0 ≤ b ^ k * b ∧ b ^ k * b ≤ 65536 := fun h => by
    rw [← Int.pow_succ]; exact pow_small h0 h4 (by omega)
  simp -dsimp (maxSteps := 4000000) +contextual (disch := first | omega | decide +kernel) only [↓vsD, vsU, resW, fnRet, cond_true, cond_false, Nat.reduceShiftRight, Nat.reduceAnd, Go.PV.fits, Go.PV.mutOf, Go.PV.splice, Int.reduceToNat, Int.reduceEq, Int.reduceAdd, Int.reduceSub, Int.reduceMul, Int.reduceLE, Int.reduceLT, Int.reduceNeg, Nat.reduceMul, Nat.reduceLeDiff, ne_eq, if_true, if_false, reduceIte, Nat.reduceEqDiff, ↓Nat.reduceLT, Nat.reduceAdd, Nat.reduceBEq, reduceCtorEq, enc_length, encs_length, tyU, tyC, tyB, tyA, tyI, tyZ, tyF, tyP, enc_getD, encs_getD, wrap_i64, enc_set, splice_one, set_last, bin_aeq2, bin_ane2]
  refine ⟨fun h => ⟨k + 1, (by (try dsimp only); omega), ?_, rfl, by omega⟩, fun h => ?_⟩
  · have e : ((n - k : Nat) : Int) - 1 = ((n - (k + 1) : Nat) : Int) := by omega
    simp [weaker, Go.PV.look, Int.pow_succ, e]
  · have : k = n := by omega
    rw [this]

theorem decide_valid {num den : Int} (h : validR num den) : (true = decide (validR num den)) := (decide_eq_true h).symm
theorem decide_invalid {num den : Int} (h : ¬ validR num den) : (false = decide (validR num den)) := (decide_eq_false h).symm

theorem valid_w (num den : Int) : PCall Try.prog 33 [.agg [.int .i64 num, .int .i64 den]] [] (fun p _ => p = .bool (decide (validR num den))) := by
  refine PCall.vfrz [] 7 23 [.tmp 2] (noE_ok _) mix Try.func33 rfl (by decide) rfl rfl (by simp) ?_
  simp -dsimp only [initFr, List.zipIdx_cons, List.zipIdx_nil, List.map_cons, List.map_nil, Nat.zero_add, Nat.reduceAdd]
  simp -dsimp (maxSteps := 4000000) +contextual (disch := first | omega | decide +kernel) only [↓vsD, vsU, resW, fnRet, cond_true, cond_false, Nat.reduceShiftRight, Nat.reduceAnd, Go.PV.fits, Go.PV.mutOf, Go.PV.splice, Int.reduceToNat, Int.reduceEq, Int.reduceAdd, Int.reduceSub, Int.reduceMul, Int.reduceLE, Int.reduceLT, Int.reduceNeg, Nat.reduceMul, Nat.reduceLeDiff, ne_eq, if_true, if_false, reduceIte, Nat.reduceEqDiff, ↓Nat.reduceLT, Nat.reduceAdd, Nat.reduceBEq, reduceCtorEq, enc_length, encs_length, tyU, tyC, tyB, tyA, tyI, tyZ, tyF, tyP, enc_getD, encs_getD, wrap_i64, enc_set, splice_one, set_last, bin_aeq2, bin_ane2]
  refine ⟨fun h1 => ⟨fun h2 => ⟨fun h3 => ⟨fun h4 => ?_, fun h4 => ?_⟩, fun h3 => ?_⟩, fun h2 => ?_⟩, fun h1 => ?_⟩
  · exact fin0 (.keep _ (bel_bool _ _)) (by rw [decide_eq_true]; exact ⟨h1, h2, h3, h4⟩)
  all_goals exact fin0 (.keep _ (bel_bool _ _)) (by rw [decide_eq_false]; unfold validR; omega)

theorem rvalid_w (num den : Int) : PCall Try.prog 34 [.agg [.int .i64 num, .int .i64 den]] [] (fun p _ => p = .bool (decide (validR num den))) := by
  refine PCall.vfrz [] 7 23 [.tmp 2] (noE_ok _) mix Try.func34 rfl (by decide) rfl rfl (by simp) ?_
  simp -dsimp only [initFr, List.zipIdx_cons, List.zipIdx_nil, List.map_cons, List.map_nil, Nat.zero_add, Nat.reduceAdd]
  simp -dsimp (maxSteps := 4000000) +contextual (disch := first | omega | decide +kernel) only [↓vsD, vsU, resW, fnRet, cond_true, cond_false, Nat.reduceShiftRight, Nat.reduceAnd, Go.PV.fits, Go.PV.mutOf, Go.PV.splice, Int.reduceToNat, Int.reduceEq, Int.reduceAdd, Int.reduceSub, Int.reduceMul, Int.reduceLE, Int.reduceLT, Int.reduceNeg, Nat.reduceMul, Nat.reduceLeDiff, ne_eq, if_true, if_false, reduceIte, Nat.reduceEqDiff, ↓Nat.reduceLT, Nat.reduceAdd, Nat.reduceBEq, reduceCtorEq, enc_length, encs_length, tyU, tyC, tyB, tyA, tyI, tyZ, tyF, tyP, enc_getD, encs_getD, wrap_i64, enc_set, splice_one, set_last, bin_aeq2, bin_ane2]
  refine ⟨fun h1 => ⟨fun h2 => ⟨fun h3 => ⟨fun h4 => ?_, fun h4 => ?_⟩, fun h3 => ?_⟩, fun h2 => ?_⟩, fun h1 => ?_⟩
  · exact fin0 (.keep _ (bel_bool _ _)) (by rw [decide_eq_true]; exact ⟨h1, h2, h3, h4⟩)
  all_goals exact fin0 (.keep _ (bel_bool _ _)) (by rw [decide_eq_false]; unfold validR; omega)

theorem bel_rate (k : Nat) (num den : Int) : Bel k (.agg [.int .i64 num, .int .i64 den]) := bel_agg (fun p hp => by simp at hp; rcases hp with rfl | rfl <;> exact bel_int _ _ _)
theorem valid_ok2 (num den : Int) (σ : Store) : PCall Try.prog 33 [.agg [.int .i64 num, .int .i64 den]] σ (fun p σ' => p = .bool (decide (validR num den)) ∧ σ' = σ) :=
  PCall.lift (valid_w num den) (by simp only [List.forall_mem_cons, List.not_mem_nil, false_implies, implies_true, and_true]; exact bel_rate _ _ _) (fun p h => ⟨by rw [h]; exact bel_bool _ _, h, rfl⟩)
theorem rvalid_ok (num den : Int) (σ : Store) : PCall Try.prog 34 [.agg [.int .i64 num, .int .i64 den]] σ (fun p σ' => p = .bool (decide (validR num den)) ∧ σ' = σ) :=
  PCall.lift (rvalid_w num den) (by simp only [List.forall_mem_cons, List.not_mem_nil, false_implies, implies_true, and_true]; exact bel_rate _ _ _) (fun p h => ⟨by rw [h]; exact bel_bool _ _, h, rfl⟩)

/-! A table of known callees. -/
def exBool1 (g : Int → Bool) (σ : Store) : List PV → Option (Prop × PV × Store)
  | [.int .i64 n] => some (True, .bool (g n), σ)
  | _ => some (False, .unk, σ)
def exPower (σ : Store) : List PV → Option (Prop × PV × Store)
  | [.int .i64 b, .int .i64 n] => some (0 ≤ b ∧ b ≤ 4 ∧ 0 ≤ n ∧ n ≤ 8, .int .i64 (b ^ n.toNat), σ)
  | _ => some (False, .unk, σ)
def exValid (σ : Store) : List PV → Option (Prop × PV × Store)
  | [.agg [.int .i64 num, .int .i64 den]] => some (True, .bool (decide (validR num den)), σ)
  | _ => some (False, .unk, σ)
theorem exBool1_pure (g : Int → Bool) (args : List PV) (σ : Store) : ∃ c p, exBool1 g σ args = some (c, p, σ) := by
  unfold exBool1; split <;> exact ⟨_, _, rfl⟩
theorem exPower_pure (args : List PV) (σ : Store) : ∃ c p, exPower σ args = some (c, p, σ) := by
  unfold exPower; split <;> exact ⟨_, _, rfl⟩
theorem exValid_pure (args : List PV) (σ : Store) : ∃ c p, exValid σ args = some (c, p, σ) := by
  unfold exValid; split <;> exact ⟨_, _, rfl⟩
theorem exBool1_ok {F : FuncId} {g : Int → Bool} (h : ∀ n σ, PCall Try.prog F [.int .i64 n] σ (fun p σ' => p = .bool (g n) ∧ σ' = σ)) : Known.Ok Try.prog F (fun args σ => exBool1 g σ args) := by
  intro args σ c p σ' he hc
  simp only [exBool1] at he
  split at he
  · cases he; exact h _ _
  · cases he; exact hc.elim
theorem exPower_ok {F : FuncId} (h : ∀ (b : Int) (n : Nat), 0 ≤ b → b ≤ 4 → n ≤ 8 → ∀ σ, PCall Try.prog F [.int .i64 b, .int .i64 n] σ (fun p σ' => p = .int .i64 (b ^ n) ∧ σ' = σ)) : Known.Ok Try.prog F (fun args σ => exPower σ args) := by
  intro args σ c p σ' he hc
  simp only [exPower] at he
  split at he
  · cases he
    obtain ⟨h1, h2, h3, h4⟩ := hc
    rename_i b n
    obtain ⟨q, rfl⟩ := Int.eq_ofNat_of_zero_le h3
    exact h b q h1 h2 (by omega) σ
  · cases he; exact hc.elim
theorem exValid_ok {F : FuncId} (h : ∀ num den σ, PCall Try.prog F [.agg [.int .i64 num, .int .i64 den]] σ (fun p σ' => p = .bool (decide (validR num den)) ∧ σ' = σ)) : Known.Ok Try.prog F (fun args σ => exValid σ args) := by
  intro args σ c p σ' he hc
  simp only [exValid] at he
  split at he
  · cases he; exact h _ _ _
  · cases he; exact hc.elim
def wk1 : Ext := ((((((noE.addP 56 (fun args σ => exBool1 (fun n => decide (ageOk n)) σ args)).addP 63 (fun args σ => exBool1 (fun n => decide (ageOk n)) σ args)).addP 86 (fun args σ => exBool1 cntB σ args)).addP
  60 (fun args σ => exPower σ args)).addP 64 (fun args σ => exPower σ args)).addP 33 (fun args σ => exValid σ args)).addP 34 (fun args σ => exValid σ args)
theorem wk1_ok : ExtOk Try.prog wk1 :=
  ((((((((noE_ok _).addP (exBool1_ok aged_ok) (exBool1_pure _)).addP (exBool1_ok rage_ok) (exBool1_pure _)).addP (exBool1_ok counted_ok) (exBool1_pure _)).addP
    (exPower_ok (fun b n h0 h4 hn σ => power_ok b n h0 h4 hn σ)) exPower_pure).addP (exPower_ok (fun b n h0 h4 hn σ => rpower_ok b n h0 h4 hn σ)) exPower_pure).addP (exValid_ok valid_ok2) exValid_pure).addP (exValid_ok rvalid_ok) exValid_pure)
section
variable (σ : Store) (n b num den : Int)
theorem wk1_aged : wk1.f 56 [.int .i64 n] σ = some (True, .bool (decide (ageOk n)), σ) := rfl
theorem wk1_rage : wk1.f 63 [.int .i64 n] σ = some (True, .bool (decide (ageOk n)), σ) := rfl
theorem wk1_counted : wk1.f 86 [.int .i64 n] σ = some (True, .bool (cntB n), σ) := rfl
theorem wk1_power : wk1.f 60 [.int .i64 b, .int .i64 n] σ = some (0 ≤ b ∧ b ≤ 4 ∧ 0 ≤ n ∧ n ≤ 8, .int .i64 (b ^ n.toNat), σ) := rfl
theorem wk1_rpower : wk1.f 64 [.int .i64 b, .int .i64 n] σ = some (0 ≤ b ∧ b ≤ 4 ∧ 0 ≤ n ∧ n ≤ 8, .int .i64 (b ^ n.toNat), σ) := rfl
theorem wk1_valid : wk1.f 33 [.agg [.int .i64 num, .int .i64 den]] σ = some (True, .bool (decide (validR num den)), σ) := rfl
theorem wk1_rvalid : wk1.f 34 [.agg [.int .i64 num, .int .i64 den]] σ = some (True, .bool (decide (validR num den)), σ) := rfl
end

/-! Factor. -/
theorem factor_w (num den age : Int) : PCall Try.prog 31 [.agg [.int .i64 num, .int .i64 den], .int .i64 age] [] (fun p _ => p = factorK num den age) := by
  refine PCall.vfrz [] 16511 23 [.tmp 4, .tmp 5, .tmp 6] wk1_ok mix Try.func31 rfl (by decide) rfl rfl (by simp) ?_
  simp -dsimp only [initFr, List.zipIdx_cons, List.zipIdx_nil, List.map_cons, List.map_nil, Nat.zero_add, Nat.reduceAdd]
  have no : ¬ (validR num den ∧ ageOk age) → ∀ σ', Go.PV.Fin [] (fun p _ => p = factorK num den age) (.tup [.int .i64 0, .int .i64 0, .int .i64 1]) σ' := fun h σ' => fin0 (.keep _ (bel_tup3 (bel_int _ _ _) (bel_int _ _ _) (bel_int _ _ _))) (factorK_no h).symm
  by_cases h1 : validR num den
  · by_cases h2 : ageOk age
    · have h1' := h1
      have h2' := h2
      unfold validR at h1'
      unfold ageOk at h2'
      have e1 := decide_eq_true h1
      have e2 := decide_eq_true h2
      simp -dsimp (maxSteps := 4000000) +contextual (disch := first | omega | decide +kernel) only [↓vsD, vsU, resW, fnRet, cond_true, cond_false, Nat.reduceShiftRight, Nat.reduceAnd, Go.PV.fits, Go.PV.mutOf, Go.PV.splice, Int.reduceToNat, Int.reduceEq, Int.reduceAdd, Int.reduceSub, Int.reduceMul, Int.reduceLE, Int.reduceLT, Int.reduceNeg, Nat.reduceMul, Nat.reduceLeDiff, ne_eq, if_true, if_false, reduceIte, Nat.reduceEqDiff, ↓Nat.reduceLT, Nat.reduceAdd, Nat.reduceBEq, reduceCtorEq, enc_length, encs_length, tyU, tyC, tyB, tyA, tyI, tyZ, tyF, tyP, enc_getD, encs_getD, wrap_i64, enc_set, splice_one, set_last, bin_aeq2, bin_ane2, wk1_aged, wk1_rage, wk1_counted, wk1_power, wk1_rpower, wk1_valid, wk1_rvalid, e1, e2]
      exact fin0 (.keep _ (bel_tup3 (bel_int _ _ _) (bel_int _ _ _) (bel_int _ _ _))) (factorK_yes ⟨h1, h2⟩).symm
    · have e1 := decide_eq_true h1
      have e2 := decide_eq_false h2
      simp -dsimp (maxSteps := 4000000) +contextual (disch := first | omega | decide +kernel) only [↓vsD, vsU, resW, fnRet, cond_true, cond_false, Nat.reduceShiftRight, Nat.reduceAnd, Go.PV.fits, Go.PV.mutOf, Go.PV.splice, Int.reduceToNat, Int.reduceEq, Int.reduceAdd, Int.reduceSub, Int.reduceMul, Int.reduceLE, Int.reduceLT, Int.reduceNeg, Nat.reduceMul, Nat.reduceLeDiff, ne_eq, if_true, if_false, reduceIte, Nat.reduceEqDiff, ↓Nat.reduceLT, Nat.reduceAdd, Nat.reduceBEq, reduceCtorEq, enc_length, encs_length, tyU, tyC, tyB, tyA, tyI, tyZ, tyF, tyP, enc_getD, encs_getD, wrap_i64, enc_set, splice_one, set_last, bin_aeq2, bin_ane2, wk1_aged, wk1_rage, wk1_counted, wk1_power, wk1_rpower, wk1_valid, wk1_rvalid, e1, e2]
      exact no (fun h => h2 h.2) _
  · have e1 := decide_eq_false h1
    simp -dsimp (maxSteps := 4000000) +contextual (disch := first | omega | decide +kernel) only [↓vsD, vsU, resW, fnRet, cond_true, cond_false, Nat.reduceShiftRight, Nat.reduceAnd, Go.PV.fits, Go.PV.mutOf, Go.PV.splice, Int.reduceToNat, Int.reduceEq, Int.reduceAdd, Int.reduceSub, Int.reduceMul, Int.reduceLE, Int.reduceLT, Int.reduceNeg, Nat.reduceMul, Nat.reduceLeDiff, ne_eq, if_true, if_false, reduceIte, Nat.reduceEqDiff, ↓Nat.reduceLT, Nat.reduceAdd, Nat.reduceBEq, reduceCtorEq, enc_length, encs_length, tyU, tyC, tyB, tyA, tyI, tyZ, tyF, tyP, enc_getD, encs_getD, wrap_i64, enc_set, splice_one, set_last, bin_aeq2, bin_ane2, wk1_aged, wk1_rage, wk1_counted, wk1_power, wk1_rpower, wk1_valid, wk1_rvalid, e1]
    exact no (fun h => h1 h.1) _

theorem rfactor_w (num den age : Int) : PCall Try.prog 32 [.agg [.int .i64 num, .int .i64 den], .int .i64 age] [] (fun p _ => p = factorK num den age) := by
  refine PCall.vfrz [] 16511 23 [.tmp 4, .tmp 5, .tmp 6] wk1_ok mix Try.func32 rfl (by decide) rfl rfl (by simp) ?_
  simp -dsimp only [initFr, List.zipIdx_cons, List.zipIdx_nil, List.map_cons, List.map_nil, Nat.zero_add, Nat.reduceAdd]
  have no : ¬ (validR num den ∧ ageOk age) → ∀ σ', Go.PV.Fin [] (fun p _ => p = factorK num den age) (.tup [.int .i64 0, .int .i64 0, .int .i64 1]) σ' := fun h σ' => fin0 (.keep _ (bel_tup3 (bel_int _ _ _) (bel_int _ _ _) (bel_int _ _ _))) (factorK_no h).symm
  by_cases h1 : validR num den
  · by_cases h2 : ageOk age
    · have h1' := h1
      have h2' := h2
      unfold validR at h1'
      unfold ageOk at h2'
      have e1 := decide_eq_true h1
      have e2 := decide_eq_true h2
      simp -dsimp (maxSteps := 4000000) +contextual (disch := first | omega | decide +kernel) only [↓vsD, vsU, resW, fnRet, cond_true, cond_false, Nat.reduceShiftRight, Nat.reduceAnd, Go.PV.fits, Go.PV.mutOf, Go.PV.splice, Int.reduceToNat, Int.reduceEq, Int.reduceAdd, Int.reduceSub, Int.reduceMul, Int.reduceLE, Int.reduceLT, Int.reduceNeg, Nat.reduceMul, Nat.reduceLeDiff, ne_eq, if_true, if_false, reduceIte, Nat.reduceEqDiff, ↓Nat.reduceLT, Nat.reduceAdd, Nat.reduceBEq, reduceCtorEq, enc_length, encs_length, tyU, tyC, tyB, tyA, tyI, tyZ, tyF, tyP, enc_getD, encs_getD, wrap_i64, enc_set, splice_one, set_last, bin_aeq2, bin_ane2, wk1_aged, wk1_rage, wk1_counted, wk1_power, wk1_rpower, wk1_valid, wk1_rvalid, e1, e2]
      exact fin0 (.keep _ (bel_tup3 (bel_int _ _ _) (bel_int _ _ _) (bel_int _ _ _))) (factorK_yes ⟨h1, h2⟩).symm
    · have e1 := decide_eq_true h1
      have e2 := decide_eq_false h2
      simp -dsimp (maxSteps := 4000000) +contextual (disch := first | omega | decide +kernel) only [↓vsD, vsU, resW, fnRet, cond_true, cond_false, Nat.reduceShiftRight, Nat.reduceAnd, Go.PV.fits, Go.PV.mutOf, Go.PV.splice, Int.reduceToNat, Int.reduceEq, Int.reduceAdd, Int.reduceSub, Int.reduceMul, Int.reduceLE, Int.reduceLT, Int.reduceNeg, Nat.reduceMul, Nat.reduceLeDiff, ne_eq, if_true, if_false, reduceIte, Nat.reduceEqDiff, ↓Nat.reduceLT, Nat.reduceAdd, Nat.reduceBEq, reduceCtorEq, enc_length, encs_length, tyU, tyC, tyB, tyA, tyI, tyZ, tyF, tyP, enc_getD, encs_getD, wrap_i64, enc_set, splice_one, set_last, bin_aeq2, bin_ane2, wk1_aged, wk1_rage, wk1_counted, wk1_power, wk1_rpower, wk1_valid, wk1_rvalid, e1, e2]
      exact no (fun h => h2 h.2) _
  · have e1 := decide_eq_false h1
    simp -dsimp (maxSteps := 4000000) +contextual (disch := first | omega | decide +kernel) only [↓vsD, vsU, resW, fnRet, cond_true, cond_false, Nat.reduceShiftRight, Nat.reduceAnd, Go.PV.fits, Go.PV.mutOf, Go.PV.splice, Int.reduceToNat, Int.reduceEq, Int.reduceAdd, Int.reduceSub, Int.reduceMul, Int.reduceLE, Int.reduceLT, Int.reduceNeg, Nat.reduceMul, Nat.reduceLeDiff, ne_eq, if_true, if_false, reduceIte, Nat.reduceEqDiff, ↓Nat.reduceLT, Nat.reduceAdd, Nat.reduceBEq, reduceCtorEq, enc_length, encs_length, tyU, tyC, tyB, tyA, tyI, tyZ, tyF, tyP, enc_getD, encs_getD, wrap_i64, enc_set, splice_one, set_last, bin_aeq2, bin_ane2, wk1_aged, wk1_rage, wk1_counted, wk1_power, wk1_rpower, wk1_valid, wk1_rvalid, e1]
    exact no (fun h => h1 h.1) _
theorem factor_on (num den age : Int) (σ : Store) : PCall Try.prog 31 [.agg [.int .i64 num, .int .i64 den], .int .i64 age] σ (fun p σ' => p = factorK num den age ∧ σ' = σ) :=
  PCall.lift (factor_w num den age) (by simp only [List.forall_mem_cons, List.not_mem_nil, false_implies, implies_true, and_true]; exact ⟨bel_rate _ _ _, bel_int _ _ _⟩) (fun p h => ⟨by rw [h]; exact bel_factorK _ _ _ _, h, rfl⟩)
theorem rfactor_on (num den age : Int) (σ : Store) : PCall Try.prog 32 [.agg [.int .i64 num, .int .i64 den], .int .i64 age] σ (fun p σ' => p = factorK num den age ∧ σ' = σ) :=
  PCall.lift (rfactor_w num den age) (by simp only [List.forall_mem_cons, List.not_mem_nil, false_implies, implies_true, and_true]; exact ⟨bel_rate _ _ _, bel_int _ _ _⟩) (fun p h => ⟨by rw [h]; exact bel_factorK _ _ _ _, h, rfl⟩)
end Go.Proofs.Ythginmfobikdgaa
