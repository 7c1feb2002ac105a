/- Chapter 32, the walks: Combine, where there are no sites; the example of the chapter. -/
import Derived.Test.YthginmfobikdgaaWtE
import Derived.Test.YthginmfobikdgaaWtG
set_option linter.unusedSimpArgs false
set_option linter.unusedVariables false
namespace Go.Proofs.Ythginmfobikdgaa
open Go.PV

theorem combine_ok (a : List Int) (l : List FC) (S : List Site) (num den : Int) (nb ne : Nat) (hr : validR num den) (ha : ∀ x ∈ a, ageOk x) (hal : a.length = l.length) (hl0 : 0 < l.length) (hl : l.length ≤ 32)
    (hx : ∀ x ∈ l, x.Ok nb ne) (hnb : nb < 2 ^ 30) (hne : ne < 2 ^ 30) (hnb1 : 0 < nb) (hne1 : 0 < ne)
    (hS : ∀ σ, PCall Try.prog 94 [.agg (mixV (a.map (wOf num den)) (den ^ 8) l)] σ (fun p σ' => p = .sl (encS S) ∧ σ' = σ)) :
    PCall Try.prog 27 [.sl (ints a), .sl (encC l), .agg [.int .i64 num, .int .i64 den]] [] (fun p _ => p = .tup [.agg [.sl [(countsF (a.map (wOf num den)) (den ^ 8) l S).row]], .int .i64 0]) := by
  have hd := pow8_in den hr.2.2.1 hr.2.2.2
  refine combine_w a l num den _ nb ne hr ha hal hl0 hl hx hnb hne (counts_ok (a.map (wOf num den)) (den ^ 8) l S nb ne hl0 (by simp; omega) (by omega) (fun w hw => ?_) (by simp; omega) hd.1 hx hnb hne hnb1 hne1 hS)
  obtain ⟨x, hx, rfl⟩ := List.mem_map.1 hw
  exact wOf_in num den x hr (ha x hx)

def oneF (n : Int) : FC := ⟨n, [n], [(0, 0)], []⟩
theorem frz_sl1 {k : Nat} {σ : Store} {row row2 : List PV} (hl : row2.length = row.length) (h : ∀ (j : Nat) (p : PV), row[j]? = some p → Frz k σ p (row2.getD j .unk)) : Frz k σ (.sl [row]) (.sl [row2]) :=
  .sl _ _ rfl (fun i r hi => by
    match i with
    | 0 => simp at hi; subst hi; exact hl
    | i + 1 => simp at hi) (fun i r j p hi hj => by
    match i with
    | 0 => simp at hi; subst hi; exact h j p hj
    | i + 1 => simp at hi)
theorem one_ok (n : Int) : PCall Try.prog 54 [.int .i64 n] [] (fun p _ => p = .agg [.sl [(oneF n).row]]) := by
  refine PCall.vfrz [] 7 11 [.cell 2 51] wk1_ok mix Try.func54 rfl (by decide) rfl rfl (by simp) ?_
  simp -dsimp only [initFr, List.zipIdx_cons, List.zipIdx_nil, List.map_cons, List.map_nil, Nat.zero_add, Nat.reduceAdd]
  simp -dsimp (maxSteps := 4000000) +contextual (disch := first | omega | decide +kernel) only [↓vsD, vsU, resW, fnRet, cond_true, cond_false, Nat.reduceShiftRight, Nat.reduceAnd, Go.PV.fits, Go.PV.mutOf, Go.PV.splice, Int.reduceToNat, Int.reduceEq, Int.reduceAdd, Int.reduceSub, Int.reduceMul, Int.reduceLE, Int.reduceLT, Int.reduceNeg, Nat.reduceMul, Nat.reduceLeDiff, ne_eq, if_true, if_false, reduceIte, Nat.reduceEqDiff, ↓Nat.reduceLT, Nat.reduceAdd, Nat.reduceBEq, reduceCtorEq, enc_length, encs_length, tyU, tyC, tyB, tyA, tyI, tyZ, tyF, tyP, enc_getD, encs_getD, wrap_i64, enc_set, splice_one, set_last, bin_aeq2, bin_ane2, wk1_aged, wk1_rage, wk1_counted, wk1_power, wk1_rpower, wk1_valid, wk1_rvalid, rowAt_ptr, rowAtO_some, loadP_B, loadPB_t, loadPB_f]
  refine fin0 (p2 := .agg [.sl [(oneF n).row]]) (frz_agg1 (frz_sl1 rfl (fun j p hj => ?_))) rfl
  match j with
  | 0 => simp at hj; subst hj; exact .keep _ (bel_int _ _ _)
  | 1 => simp at hj; subst hj; exact .keep _ (bel_ints _ [n])
  | 2 => simp at hj; subst hj; exact .keep _ (bel_pairs _ [(0, 0)])
  | 3 => simp at hj; subst hj; exact .nils
  | j + 4 => simp at hj
theorem one_on (n : Int) (σ : Store) : PCall Try.prog 54 [.int .i64 n] σ (fun p σ' => p = .agg [.sl [(oneF n).row]] ∧ σ' = σ) :=
  PCall.lift (one_ok n) (by simp only [List.forall_mem_cons, List.not_mem_nil, false_implies, implies_true, and_true]; exact bel_int _ _ _) (fun p h => ⟨by rw [h]; exact row_bel _, h, rfl⟩)
theorem oneF_ok (n : Int) (h : 0 ≤ n ∧ n ≤ 10) : (oneF n).Ok 1 1 where
  ent := by simp only [oneF]; omega
  blocks := by simp only [oneF, List.mem_singleton]; rintro x rfl; omega
  edges := by simp only [oneF, List.mem_singleton]; rintro x rfl; simp
  sites := by simp [oneF]
  nb := rfl
  ne := rfl
  few := by simp [oneF]
theorem awake32_ok : PCall Try.prog 23 [] [] (fun p _ => p = .bool true) := by
  have k0 : ∀ args σ, wk1.f 54 args σ = none := fun _ _ => rfl
  have k1 : ∀ args σ, wk1.f 27 args σ = none := fun _ _ => rfl
  have hC : PCall Try.prog 27 [.sl (ints [0, 1]), .sl (encC [oneF 10, oneF 5]), .agg [.int .i64 1, .int .i64 2]] [] (fun p _ => p = .tup [.agg [.sl [[.int .i64 12, .sl (ints [12]), .sl (encT [(0, 0)]), .sl (encS [])]]], .int .i64 0]) := by
    have h := combine_ok [0, 1] [oneF 10, oneF 5] [] 1 2 1 1 (by unfold validR; omega) (by intro x hx; simp at hx; unfold ageOk; omega) rfl (by simp) (by simp) (by
      intro x hx
      simp at hx
      rcases hx with rfl | rfl
      · exact oneF_ok 10 (by omega)
      · exact oneF_ok 5 (by omega)) (by omega) (by omega) (by omega) (by omega) (fun σ => sites_on _ _ _ (by simp) (by simp [oneF]) σ)
    refine PCall.mono h ?_
    rintro p _ rfl
    have e : countsF ([0, 1].map (wOf 1 2)) (2 ^ 8) [oneF 10, oneF 5] [] = ⟨12, [12], [(0, 0)], []⟩ := by kernel_rfl
    rw [e]
    rfl
  refine PCall.vfrz [] 15 31 [.tmp 0] wk1_ok mix Try.func23 rfl (by decide) rfl rfl (by simp) ?_
  simp -dsimp only [initFr, List.zipIdx_cons, List.zipIdx_nil, List.map_cons, List.map_nil, Nat.zero_add, Nat.reduceAdd]
  simp -dsimp (maxSteps := 4000000) +contextual (disch := first | omega | decide +kernel) only [↓vsD, vsU, resW, fnRet, cond_true, cond_false, Nat.reduceShiftRight, Nat.reduceAnd, Go.PV.fits, Go.PV.mutOf, Go.PV.splice, Int.reduceToNat, Int.reduceEq, Int.reduceAdd, Int.reduceSub, Int.reduceMul, Int.reduceLE, Int.reduceLT, Int.reduceNeg, Nat.reduceMul, Nat.reduceLeDiff, ne_eq, if_true, if_false, reduceIte, Nat.reduceEqDiff, ↓Nat.reduceLT, Nat.reduceAdd, Nat.reduceBEq, reduceCtorEq, enc_length, encs_length, tyU, tyC, tyB, tyA, tyI, tyZ, tyF, tyP, enc_getD, encs_getD, wrap_i64, enc_set, splice_one, set_last, bin_aeq2, bin_ane2, wk1_aged, wk1_rage, wk1_counted, wk1_power, wk1_rpower, wk1_valid, wk1_rvalid, k0, k1]
  refine PCall.mono (one_on 10 _) ?_
  rintro p σ' ⟨rfl, rfl⟩
  simp -dsimp (maxSteps := 4000000) +contextual (disch := first | omega | decide +kernel) only [↓vsD, vsU, resW, fnRet, cond_true, cond_false, Nat.reduceShiftRight, Nat.reduceAnd, Go.PV.fits, Go.PV.mutOf, Go.PV.splice, Int.reduceToNat, Int.reduceEq, Int.reduceAdd, Int.reduceSub, Int.reduceMul, Int.reduceLE, Int.reduceLT, Int.reduceNeg, Nat.reduceMul, Nat.reduceLeDiff, ne_eq, if_true, if_false, reduceIte, Nat.reduceEqDiff, ↓Nat.reduceLT, Nat.reduceAdd, Nat.reduceBEq, reduceCtorEq, enc_length, encs_length, tyU, tyC, tyB, tyA, tyI, tyZ, tyF, tyP, enc_getD, encs_getD, wrap_i64, enc_set, splice_one, set_last, bin_aeq2, bin_ane2, wk1_aged, wk1_rage, wk1_counted, wk1_power, wk1_rpower, wk1_valid, wk1_rvalid, k0, k1]
  refine PCall.mono (one_on 5 _) ?_
  rintro p σ' ⟨rfl, rfl⟩
  have hrc : ∀ x : FC, x.row.all PV.cell = true := fun _ => rfl
  simp -dsimp (maxSteps := 4000000) +contextual (disch := first | omega | decide +kernel) only [↓vsD, vsU, resW, fnRet, cond_true, cond_false, Nat.reduceShiftRight, Nat.reduceAnd, Go.PV.fits, Go.PV.mutOf, Go.PV.splice, Int.reduceToNat, Int.reduceEq, Int.reduceAdd, Int.reduceSub, Int.reduceMul, Int.reduceLE, Int.reduceLT, Int.reduceNeg, Nat.reduceMul, Nat.reduceLeDiff, ne_eq, if_true, if_false, reduceIte, Nat.reduceEqDiff, ↓Nat.reduceLT, Nat.reduceAdd, Nat.reduceBEq, reduceCtorEq, enc_length, encs_length, tyU, tyC, tyB, tyA, tyI, tyZ, tyF, tyP, enc_getD, encs_getD, wrap_i64, enc_set, splice_one, set_last, bin_aeq2, bin_ane2, wk1_aged, wk1_rage, wk1_counted, wk1_power, wk1_rpower, wk1_valid, wk1_rvalid, k0, k1]
  refine PCall.mono hC ?_
  rintro p σ' rfl
  simp -dsimp (maxSteps := 4000000) +contextual (disch := first | omega | decide +kernel) only [↓vsD, vsU, resW, fnRet, cond_true, cond_false, Nat.reduceShiftRight, Nat.reduceAnd, Go.PV.fits, Go.PV.mutOf, Go.PV.splice, Int.reduceToNat, Int.reduceEq, Int.reduceAdd, Int.reduceSub, Int.reduceMul, Int.reduceLE, Int.reduceLT, Int.reduceNeg, Nat.reduceMul, Nat.reduceLeDiff, ne_eq, if_true, if_false, reduceIte, Nat.reduceEqDiff, ↓Nat.reduceLT, Nat.reduceAdd, Nat.reduceBEq, reduceCtorEq, enc_length, encs_length, tyU, tyC, tyB, tyA, tyI, tyZ, tyF, tyP, enc_getD, encs_getD, wrap_i64, enc_set, splice_one, set_last, bin_aeq2, bin_ane2, wk1_aged, wk1_rage, wk1_counted, wk1_power, wk1_rpower, wk1_valid, wk1_rvalid, k0, k1]
  exact fin0 (.keep _ (bel_bool _ _)) rfl
theorem awake32_on (σ : Store) : PCall Try.prog 23 [] σ (fun p σ' => p = .bool true ∧ σ' = σ) :=
  PCall.lift awake32_ok (by simp) (fun p h => ⟨by rw [h]; exact bel_bool _ _, h, rfl⟩)
end Go.Proofs.Ythginmfobikdgaa
