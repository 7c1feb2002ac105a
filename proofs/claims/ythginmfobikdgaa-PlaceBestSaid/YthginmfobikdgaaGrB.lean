/- Chapter 38, the walks: the hottest calls. -/
import Derived.Test.YthginmfobikdgaaGrA
set_option linter.unusedSimpArgs false
set_option linter.unusedVariables false
namespace Go.Proofs.Ythginmfobikdgaa
open Go.PV

/-! Hottest. -/
def hotF (calls : List CallI) : List CallI := insS hotter (calls.filter fun c => decide (0 < c.cnt))
theorem filter_take (p : CallI → Bool) (l : List CallI) (k : Nat) (h : k < l.length) : (l.take (k + 1)).filter p = if p (l.getD k default) = true then (l.take k).filter p ++ [l.getD k default] else (l.take k).filter p := by
  rw [List.take_add_one, List.getElem?_eq_getElem h, List.filter_append, List.getD_eq_getElem?_getD, List.getElem?_eq_getElem h]
  simp only [Option.toList_some, Option.getD_some]
  split
  · rw [List.filter_cons_of_pos (by assumption)]; rfl
  · rw [List.filter_cons_of_neg (by assumption), List.filter_nil, List.append_nil]
set_option maxRecDepth 8000 in
set_option maxHeartbeats 16000000 in
theorem hot_w (E : PV) (calls : List CallI) (hE : PV.cell E = true) (hl : calls.length < 20) : PCall Try.prog 36 [graphV E calls] [] (fun p _ => p = .sl (encL (hotF calls))) := by
  unfold graphV
  refine PCall.vfrz [] 34751 24 [.tmp 2] (noE_ok _) mix Try.func36 rfl (by decide) rfl rfl (by simp) ?_
  simp -dsimp only [initFr, List.zipIdx_cons, List.zipIdx_nil, List.map_cons, List.map_nil, Nat.zero_add, Nat.reduceAdd]
  simp -dsimp (maxSteps := 4000000) +contextual (disch := first | omega | decide +kernel) only [↓vsD, vsU, resW, fnRet, cond_true, cond_false, Nat.reduceShiftRight, Nat.reduceAnd, Go.PV.fits, Go.PV.mutOf, Go.PV.splice, Int.reduceToNat, Int.reduceEq, Int.reduceAdd, Int.reduceSub, Int.reduceMul, Int.reduceLE, Int.reduceLT, Int.reduceNeg, Nat.reduceMul, Nat.reduceLeDiff, ne_eq, if_true, if_false, reduceIte, Nat.reduceEqDiff, ↓Nat.reduceLT, Nat.reduceAdd, Nat.reduceBEq, reduceCtorEq, enc_length, encs_length, tyU, tyC, tyB, tyA, tyI, tyZ, tyF, tyP, enc_getD, encs_getD, wrap_i64, enc_set, splice_one, set_last, bin_snn, bin_snm, bin_sns, bin_tnn, bin_tnm, bin_tns, encL_length, hE]
  refine v_loopS (fun s : Nat × List CallI × Nat × Store => [(3, match s.2.1 with | [] => .nils | c :: q => .msl s.2.2.1 q.length), (7, .sl (encL calls)), (8, .int .i64 calls.length), (9, .int .i64 s.1)])
    (fun s => .rows 76 2 [[E, .sl (encL calls)]] 0 :: s.2.2.2) (fun s => s.1 ≤ calls.length ∧ s.2.1 = (calls.take s.1).filter (fun c => decide (0 < c.cnt)) ∧ (∀ c q, s.2.1 = c :: q → ∃ o, s.2.2.1 = o + 1 ∧ s.2.2.2[o]? = some (.rows 78 5 (encL (c :: q)) q.length))) (fun s => calls.length - s.1) (0, [], 0, []) (by simp [weaker, Go.PV.look]) rfl ⟨by simp, rfl, fun c q h => (by cases h)⟩ ?_
  rintro ⟨k, L, o, Q⟩ ⟨hk, hL, hQ⟩
  dsimp only at hk hL hQ ⊢
  have hLl : L.length ≤ k := by
    have h1 := List.length_filter_le (fun c : CallI => decide (0 < c.cnt)) (calls.take k)
    rw [← hL, List.length_take] at h1
    omega
  by_cases hkl : k < calls.length
  · have hf := filter_take (fun c => decide (0 < c.cnt)) calls k hkl
    rw [← hL] at hf
    have hsucc : k + 1 ≤ calls.length := by omega
    cases L with
    | nil =>
      simp -dsimp (maxSteps := 4000000) +contextual (disch := first | omega | decide +kernel) only [↓vsD, vsU, resW, fnRet, cond_true, cond_false, Nat.reduceShiftRight, Nat.reduceAnd, Go.PV.fits, Go.PV.mutOf, Go.PV.splice, Int.reduceToNat, Int.reduceEq, Int.reduceAdd, Int.reduceSub, Int.reduceMul, Int.reduceLE, Int.reduceLT, Int.reduceNeg, Nat.reduceMul, Nat.reduceLeDiff, ne_eq, if_true, if_false, reduceIte, Nat.reduceEqDiff, ↓Nat.reduceLT, Nat.reduceAdd, Nat.reduceBEq, reduceCtorEq, enc_length, encs_length, tyU, tyC, tyB, tyA, tyI, tyZ, tyF, tyP, enc_getD, encs_getD, wrap_i64, enc_set, splice_one, set_last, bin_snn, bin_snm, bin_sns, bin_tnn, bin_tnm, bin_tns, encL_length, encL_getD, gapp0, gappk, sapp0, sappk, gappn0, gappnk, sappn0, sappnk, CallI.row, bytesOk, lenOk]
      refine ⟨fun hc => ?_, fun hc => ?_⟩
      · rw [if_pos (by simpa using hc)] at hf
        refine ⟨(k + 1, [calls.getD k default], Q.length + 1 + 1, Q ++ [.rows 78 5 [(calls.getD k default).row] 0] ++ [.rows 78 5 [(calls.getD k default).row] 0]), (by (try dsimp only); omega), by simp [weaker, Go.PV.look], by simp [CallI.row], hsucc, by rw [hf]; rfl, fun c q h => ?_⟩
        cases h
        exact ⟨Q.length + 1, rfl, by simp [encL]⟩
      · rw [if_neg (by simpa using hc)] at hf
        exact ⟨(k + 1, [], 0, Q ++ [.rows 78 5 [(calls.getD k default).row] 0]), (by (try dsimp only); omega), by simp [weaker, Go.PV.look], by simp [CallI.row], hsucc, hf.symm, fun c q h => (by cases h)⟩
    | cons c q =>
      obtain ⟨o, rfl, hQo⟩ := hQ c q rfl
      have hol := (List.getElem?_eq_some_iff.1 hQo).1
      have g1 : ∀ X, (Q ++ X)[o]? = some (.rows 78 5 (encL (c :: q)) q.length) := fun X => by rw [List.getElem?_append_left hol, hQo]
      have g2 : ∀ X y, (Q ++ X).set o y = Q.set o y ++ X := fun X y => by rw [List.set_append_left _ _ hol]
      have hLq : q.length + 1 ≤ k := by simpa using hLl
      simp -dsimp (maxSteps := 4000000) +contextual (disch := first | omega | decide +kernel) only [↓vsD, vsU, resW, fnRet, cond_true, cond_false, Nat.reduceShiftRight, Nat.reduceAnd, Go.PV.fits, Go.PV.mutOf, Go.PV.splice, Int.reduceToNat, Int.reduceEq, Int.reduceAdd, Int.reduceSub, Int.reduceMul, Int.reduceLE, Int.reduceLT, Int.reduceNeg, Nat.reduceMul, Nat.reduceLeDiff, ne_eq, if_true, if_false, reduceIte, Nat.reduceEqDiff, ↓Nat.reduceLT, Nat.reduceAdd, Nat.reduceBEq, reduceCtorEq, enc_length, encs_length, tyU, tyC, tyB, tyA, tyI, tyZ, tyF, tyP, enc_getD, encs_getD, wrap_i64, enc_set, splice_one, set_last, bin_snn, bin_snm, bin_sns, bin_tnn, bin_tnm, bin_tns, encL_length, encL_getD, gapp0, gappk, sapp0, sappk, gappn0, gappnk, sappn0, sappnk, CallI.row, g1, g2, bytesOk, lenOk]
      refine ⟨fun hc => ?_, fun hc => ?_⟩
      · rw [if_pos (by simpa using hc)] at hf
        refine ⟨(k + 1, c :: (q ++ [calls.getD k default]), o + 1, Q.set o (.rows 78 5 (encL (c :: q) ++ [(calls.getD k default).row]) (q.length + 1)) ++ [.rows 78 5 [(calls.getD k default).row] 0]), (by (try dsimp only); omega), by simp [weaker, Go.PV.look], by simp [CallI.row], hsucc, by rw [hf]; rfl, fun c' q' h => ?_⟩
        cases h
        refine ⟨o, rfl, ?_⟩
        rw [List.getElem?_append_left (by simpa using hol), List.getElem?_set_self hol]
        simp [encL]
      · rw [if_neg (by simpa using hc)] at hf
        refine ⟨(k + 1, c :: q, o + 1, Q ++ [.rows 78 5 [(calls.getD k default).row] 0]), (by (try dsimp only); omega), by simp [weaker, Go.PV.look], by simp [CallI.row], hsucc, hf.symm, fun c' q' h => ?_⟩
        cases h
        exact ⟨o, rfl, g1 _⟩
  · have hkz : k = calls.length := by omega
    subst hkz
    rw [List.take_length] at hL
    cases L with
    | nil =>
      simp -dsimp (maxSteps := 4000000) +contextual (disch := first | omega | decide +kernel) only [↓vsD, vsU, resW, fnRet, cond_true, cond_false, Nat.reduceShiftRight, Nat.reduceAnd, Go.PV.fits, Go.PV.mutOf, Go.PV.splice, Int.reduceToNat, Int.reduceEq, Int.reduceAdd, Int.reduceSub, Int.reduceMul, Int.reduceLE, Int.reduceLT, Int.reduceNeg, Nat.reduceMul, Nat.reduceLeDiff, ne_eq, if_true, if_false, reduceIte, Nat.reduceEqDiff, ↓Nat.reduceLT, Nat.reduceAdd, Nat.reduceBEq, reduceCtorEq, enc_length, encs_length, tyU, tyC, tyB, tyA, tyI, tyZ, tyF, tyP, enc_getD, encs_getD, wrap_i64, enc_set, splice_one, set_last, bin_snn, bin_snm, bin_sns, bin_tnn, bin_tnm, bin_tns, encL_length]
      refine PCall.mono (stableN2_ok _) ?_
      rintro p σ' ⟨rfl, rfl⟩
      simp -dsimp (maxSteps := 4000000) +contextual (disch := first | omega | decide +kernel) only [↓vsD, vsU, resW, fnRet, cond_true, cond_false, Nat.reduceShiftRight, Nat.reduceAnd, Go.PV.fits, Go.PV.mutOf, Go.PV.splice, Int.reduceToNat, Int.reduceEq, Int.reduceAdd, Int.reduceSub, Int.reduceMul, Int.reduceLE, Int.reduceLT, Int.reduceNeg, Nat.reduceMul, Nat.reduceLeDiff, ne_eq, if_true, if_false, reduceIte, Nat.reduceEqDiff, ↓Nat.reduceLT, Nat.reduceAdd, Nat.reduceBEq, reduceCtorEq, enc_length, encs_length, tyU, tyC, tyB, tyA, tyI, tyZ, tyF, tyP, enc_getD, encs_getD, wrap_i64, enc_set, splice_one, set_last, bin_snn, bin_snm, bin_sns, bin_tnn, bin_tnm, bin_tns]
      refine fin0 .nils ?_
      rw [hotF, ← hL]; rfl
    | cons c q =>
      obtain ⟨o, rfl, hQo⟩ := hQ c q rfl
      have hol := (List.getElem?_eq_some_iff.1 hQo).1
      simp -dsimp (maxSteps := 4000000) +contextual (disch := first | omega | decide +kernel) only [↓vsD, vsU, resW, fnRet, cond_true, cond_false, Nat.reduceShiftRight, Nat.reduceAnd, Go.PV.fits, Go.PV.mutOf, Go.PV.splice, Int.reduceToNat, Int.reduceEq, Int.reduceAdd, Int.reduceSub, Int.reduceMul, Int.reduceLE, Int.reduceLT, Int.reduceNeg, Nat.reduceMul, Nat.reduceLeDiff, ne_eq, if_true, if_false, reduceIte, Nat.reduceEqDiff, ↓Nat.reduceLT, Nat.reduceAdd, Nat.reduceBEq, reduceCtorEq, enc_length, encs_length, tyU, tyC, tyB, tyA, tyI, tyZ, tyF, tyP, enc_getD, encs_getD, wrap_i64, enc_set, splice_one, set_last, bin_snn, bin_snm, bin_sns, bin_tnn, bin_tnm, bin_tns, encL_length]
      refine PCall.mono (stableL_ok (o + 1) q.length (c :: q) _ (by simpa using hQo) (by omega)) ?_
      rintro p σ' ⟨rfl, rfl⟩
      simp -dsimp (maxSteps := 4000000) +contextual (disch := first | omega | decide +kernel) only [↓vsD, vsU, resW, fnRet, cond_true, cond_false, Nat.reduceShiftRight, Nat.reduceAnd, Go.PV.fits, Go.PV.mutOf, Go.PV.splice, Int.reduceToNat, Int.reduceEq, Int.reduceAdd, Int.reduceSub, Int.reduceMul, Int.reduceLE, Int.reduceLT, Int.reduceNeg, Nat.reduceMul, Nat.reduceLeDiff, ne_eq, if_true, if_false, reduceIte, Nat.reduceEqDiff, ↓Nat.reduceLT, Nat.reduceAdd, Nat.reduceBEq, reduceCtorEq, enc_length, encs_length, tyU, tyC, tyB, tyA, tyI, tyZ, tyF, tyP, enc_getD, encs_getD, wrap_i64, enc_set, splice_one, set_last, bin_snn, bin_snm, bin_sns, bin_tnn, bin_tnm, bin_tns]
      refine fin0 (Frz.msl0 (elem := 78) (sz := 5) (Nat.zero_le _) (show ((Q.set o _)[o]?) = _ from List.getElem?_set_self hol) (encL_bel _ _)) ?_
      rw [hotF, ← hL]
theorem hot_on (E : PV) (calls : List CallI) (hE : PV.cell E = true) (hB : Bel 0 E) (hl : calls.length < 20) (σ : Store) : PCall Try.prog 36 [graphV E calls] σ (fun p σ' => p = .sl (encL (hotF calls)) ∧ σ' = σ) :=
  PCall.lift (hot_w E calls hE hl) (by
    simp only [List.forall_mem_cons, List.not_mem_nil, false_implies, implies_true, and_true]
    refine bel_agg (fun p hp => ?_)
    simp only [List.mem_cons, List.not_mem_nil, or_false] at hp
    rcases hp with rfl | rfl
    · exact hB
    · exact bel_sl (encL_bel _ _)) (fun p h => ⟨by rw [h]; exact bel_sl (encL_bel _ _), h, rfl⟩)
end Go.Proofs.Ythginmfobikdgaa
