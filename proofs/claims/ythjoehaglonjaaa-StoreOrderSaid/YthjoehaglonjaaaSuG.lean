/- Chapter 31: the law StoreLaws, walked. -/
import Derived.Test.YthjoehaglonjaaaSuD
set_option linter.unusedSimpArgs false
set_option linter.unusedVariables false
namespace Go.Proofs.Ythjoehaglonjaaa
open Go.PV

theorem newS_on (l : List Int) (n : Nat) (σ : Store) : PCall Try.prog 11 [.sl (PV.encI .u8 l), .int .i64 n] σ (fun p σ' => p = .ptr σ.length 0 0 0 ∧ σ' = σ ++ [codes (l.take n) 0]) := by
  refine PCall.vraw [] 287 15 [.tmp 4] (noE_ok _) mix Try.func11 rfl (by decide) rfl rfl (by simp) ?_
  simp -dsimp only [initFr, List.zipIdx_cons, List.zipIdx_nil, List.map_cons, List.map_nil, Nat.zero_add, Nat.reduceAdd]
  simp -dsimp (maxSteps := 4000000) +contextual (disch := first | omega | decide +kernel) only [↓vsD, vsU, vsE, Bool.or_false, Bool.true_or, resW, fnRet, cond_true, cond_false, Nat.reduceShiftRight, Nat.reduceAnd, Go.PV.fits, Go.PV.mutOf, Go.PV.splice, Int.reduceToNat, Int.reduceEq, Int.reduceAdd, Int.reduceSub, Int.reduceMul, Int.reduceLE, Int.reduceLT, Int.reduceNeg, Nat.reduceMul, Nat.reduceLeDiff, ne_eq, if_true, if_false, reduceIte, Nat.reduceEqDiff, ↓Nat.reduceLT, Nat.reduceAdd, Nat.reduceBEq, reduceCtorEq, enc_length, enc_all, enc_take]
  exact ⟨fun h => rfl, fun h => by rw [List.take_of_length_le (show l.length ≤ n by omega)]; rfl⟩
theorem FilR.congr {N M : Nat} {S T : StS} {L K : List Pc} (h : FilR N S L) (h2 : FilR M T K) (he : ∀ p, p ∈ L ↔ p ∈ K) : S = T := by
  refine h.s.uniq (h2.s.congr (fun s => ?_))
  simp only [List.mem_map]
  exact ⟨fun ⟨p, hp, e⟩ => ⟨p, (he p).2 hp, e⟩, fun ⟨p, hp, e⟩ => ⟨p, (he p).1 hp, e⟩⟩
theorem FilR.emp : FilR 0 ⟨[], []⟩ [] := ⟨Nat.zero_le _, Sf.empty, fun p h => by simp at h⟩
/-- Merging, as it stands in a walk. -/
theorem fm_on {N M : Nat} {S T : StS} {L K : List Pc} (h : FilR N S L) (h2 : FilR M T K) (hn : N + M ≤ 20) (σ : Store) :
    PCall Try.prog 22 [.agg [.sl (encP S.ps), .sl (encD S.cs)], .agg [.sl (encP T.ps), .sl (encD T.cs)]] σ (fun q τ => (∃ m, FilR (N + M) m (L ++ K) ∧ q = .tup [.agg [.sl (encP m.ps), .sl (encD m.cs)], .int .i64 0]) ∧ τ = σ) := fmerge_on h h2 hn σ
set_option maxRecDepth 8000 in
set_option maxHeartbeats 8000000 in
theorem laws31_ok (l0 : List Int) (hl0 : okInts .u8 l0) : PCall Try.prog 6 [.sl (PV.encI .u8 l0)] [] (fun p _ => p = .bool true) := by
  have n1 : ∀ args σ, noE.f 22 args σ = none := fun _ _ => rfl
  have n2 : ∀ args σ, noE.f 19 args σ = none := fun _ _ => rfl
  have n3 : ∀ args σ, noE.f 10 args σ = none := fun _ _ => rfl
  have n4 : ∀ args σ, noE.f 12 args σ = none := fun _ _ => rfl
  have n5 : ∀ args σ, noE.f 11 args σ = none := fun _ _ => rfl
  refine PCall.vfrz [] 50331647 131 [.tmp 2] (noE_ok _) mix Try.func6 rfl (by decide) rfl rfl (by simp) ?_
  simp -dsimp only [initFr, List.zipIdx_cons, List.zipIdx_nil, List.map_cons, List.map_nil, Nat.zero_add, Nat.reduceAdd]
  simp -dsimp (maxSteps := 4000000) +contextual (disch := first | omega | decide +kernel) only [↓vsD, vsU, vsE, Bool.or_false, Bool.true_or, resW, fnRet, cond_true, cond_false, Nat.reduceShiftRight, Nat.reduceAnd, Go.PV.fits, Go.PV.mutOf, Go.PV.splice, Int.reduceToNat, Int.reduceEq, Int.reduceAdd, Int.reduceSub, Int.reduceMul, Int.reduceLE, Int.reduceLT, Int.reduceNeg, Nat.reduceMul, Nat.reduceLeDiff, ne_eq, if_true, if_false, reduceIte, Nat.reduceEqDiff, ↓Nat.reduceLT, Nat.reduceAdd, Nat.reduceBEq, reduceCtorEq, n3]
  refine PCall.mono (awake_on _) ?_
  rintro p σ' ⟨rfl, rfl⟩
  simp -dsimp (maxSteps := 4000000) +contextual (disch := first | omega | decide +kernel) only [↓vsD, vsU, vsE, Bool.or_false, Bool.true_or, resW, fnRet, cond_true, cond_false, Nat.reduceShiftRight, Nat.reduceAnd, Go.PV.fits, Go.PV.mutOf, Go.PV.splice, Int.reduceToNat, Int.reduceEq, Int.reduceAdd, Int.reduceSub, Int.reduceMul, Int.reduceLE, Int.reduceLT, Int.reduceNeg, Nat.reduceMul, Nat.reduceLeDiff, ne_eq, if_true, if_false, reduceIte, Nat.reduceEqDiff, ↓Nat.reduceLT, Nat.reduceAdd, Nat.reduceBEq, reduceCtorEq, n5]
  refine PCall.mono (newS_on l0 900 _) ?_
  rintro p σ' ⟨rfl, rfl⟩
  obtain ⟨cs, hcs⟩ : ∃ cs, cs = l0.take 900 := ⟨_, rfl⟩
  have hcl : okInts .u8 cs := fun n hn => hl0 n (by rw [hcs] at hn; exact List.mem_of_mem_take hn)
  have hcn : cs.length ≤ 900 := by rw [hcs]; simp; omega
  rw [← hcs]
  simp -dsimp (maxSteps := 4000000) +contextual (disch := first | omega | decide +kernel) only [↓vsD, vsU, vsE, Bool.or_false, Bool.true_or, resW, fnRet, cond_true, cond_false, Nat.reduceShiftRight, Nat.reduceAnd, Go.PV.fits, Go.PV.mutOf, Go.PV.splice, Int.reduceToNat, Int.reduceEq, Int.reduceAdd, Int.reduceSub, Int.reduceMul, Int.reduceLE, Int.reduceLT, Int.reduceNeg, Nat.reduceMul, Nat.reduceLeDiff, ne_eq, if_true, if_false, reduceIte, Nat.reduceEqDiff, ↓Nat.reduceLT, Nat.reduceAdd, Nat.reduceBEq, reduceCtorEq, n4]
  refine filled_on cs 0 5 (by omega) hcl (by omega) (Nat.zero_le _) 0 rfl ?_
  intro X LX kx hX hkx
  simp -dsimp only [List.set_cons_zero, stV, List.nil_append, List.cons_append]
  simp -dsimp (maxSteps := 4000000) +contextual (disch := first | omega | decide +kernel) only [↓vsD, vsU, vsE, Bool.or_false, Bool.true_or, resW, fnRet, cond_true, cond_false, Nat.reduceShiftRight, Nat.reduceAnd, Go.PV.fits, Go.PV.mutOf, Go.PV.splice, Int.reduceToNat, Int.reduceEq, Int.reduceAdd, Int.reduceSub, Int.reduceMul, Int.reduceLE, Int.reduceLT, Int.reduceNeg, Nat.reduceMul, Nat.reduceLeDiff, ne_eq, if_true, if_false, reduceIte, Nat.reduceEqDiff, ↓Nat.reduceLT, Nat.reduceAdd, Nat.reduceBEq, reduceCtorEq, rowAt_ptr, rowAtO_some, loadP_B, loadPB_t, loadPB_f, n4, n1]
  refine filled_on cs kx 5 (by omega) hcl (by omega) hkx 0 rfl ?_
  intro Y LY ky hY hky
  simp -dsimp only [List.set_cons_zero, stV, List.nil_append, List.cons_append]
  simp -dsimp (maxSteps := 4000000) +contextual (disch := first | omega | decide +kernel) only [↓vsD, vsU, vsE, Bool.or_false, Bool.true_or, resW, fnRet, cond_true, cond_false, Nat.reduceShiftRight, Nat.reduceAnd, Go.PV.fits, Go.PV.mutOf, Go.PV.splice, Int.reduceToNat, Int.reduceEq, Int.reduceAdd, Int.reduceSub, Int.reduceMul, Int.reduceLE, Int.reduceLT, Int.reduceNeg, Nat.reduceMul, Nat.reduceLeDiff, ne_eq, if_true, if_false, reduceIte, Nat.reduceEqDiff, ↓Nat.reduceLT, Nat.reduceAdd, Nat.reduceBEq, reduceCtorEq, rowAt_ptr, rowAtO_some, loadP_B, loadPB_t, loadPB_f, n4, n1]
  refine filled_on cs ky 5 (by omega) hcl (by omega) hky 0 rfl ?_
  intro Z LZ kz hZ hkz
  simp -dsimp only [List.set_cons_zero, stV, List.nil_append, List.cons_append]
  simp -dsimp (maxSteps := 4000000) +contextual (disch := first | omega | decide +kernel) only [↓vsD, vsU, vsE, Bool.or_false, Bool.true_or, resW, fnRet, cond_true, cond_false, Nat.reduceShiftRight, Nat.reduceAnd, Go.PV.fits, Go.PV.mutOf, Go.PV.splice, Int.reduceToNat, Int.reduceEq, Int.reduceAdd, Int.reduceSub, Int.reduceMul, Int.reduceLE, Int.reduceLT, Int.reduceNeg, Nat.reduceMul, Nat.reduceLeDiff, ne_eq, if_true, if_false, reduceIte, Nat.reduceEqDiff, ↓Nat.reduceLT, Nat.reduceAdd, Nat.reduceBEq, reduceCtorEq, rowAt_ptr, rowAtO_some, loadP_B, loadPB_t, loadPB_f, n4, n1]
  refine PCall.mono (fm_on hX hY (by omega) _) ?_
  rintro p σ' ⟨⟨XY, hXY, rfl⟩, rfl⟩
  simp -dsimp (maxSteps := 4000000) +contextual (disch := first | omega | decide +kernel) only [↓vsD, vsU, vsE, Bool.or_false, Bool.true_or, resW, fnRet, cond_true, cond_false, Nat.reduceShiftRight, Nat.reduceAnd, Go.PV.fits, Go.PV.mutOf, Go.PV.splice, Int.reduceToNat, Int.reduceEq, Int.reduceAdd, Int.reduceSub, Int.reduceMul, Int.reduceLE, Int.reduceLT, Int.reduceNeg, Nat.reduceMul, Nat.reduceLeDiff, ne_eq, if_true, if_false, reduceIte, Nat.reduceEqDiff, ↓Nat.reduceLT, Nat.reduceAdd, Nat.reduceBEq, reduceCtorEq, rowAt_ptr, rowAtO_some, loadP_B, loadPB_t, loadPB_f, n1, n2]
  refine PCall.mono (fm_on hY hX (by omega) _) ?_
  rintro p σ' ⟨⟨YX, hYX, rfl⟩, rfl⟩
  simp -dsimp (maxSteps := 4000000) +contextual (disch := first | omega | decide +kernel) only [↓vsD, vsU, vsE, Bool.or_false, Bool.true_or, resW, fnRet, cond_true, cond_false, Nat.reduceShiftRight, Nat.reduceAnd, Go.PV.fits, Go.PV.mutOf, Go.PV.splice, Int.reduceToNat, Int.reduceEq, Int.reduceAdd, Int.reduceSub, Int.reduceMul, Int.reduceLE, Int.reduceLT, Int.reduceNeg, Nat.reduceMul, Nat.reduceLeDiff, ne_eq, if_true, if_false, reduceIte, Nat.reduceEqDiff, ↓Nat.reduceLT, Nat.reduceAdd, Nat.reduceBEq, reduceCtorEq, rowAt_ptr, rowAtO_some, loadP_B, loadPB_t, loadPB_f, n1, n2]
  refine PCall.mono (fm_on hY hZ (by omega) _) ?_
  rintro p σ' ⟨⟨YZ, hYZ, rfl⟩, rfl⟩
  simp -dsimp (maxSteps := 4000000) +contextual (disch := first | omega | decide +kernel) only [↓vsD, vsU, vsE, Bool.or_false, Bool.true_or, resW, fnRet, cond_true, cond_false, Nat.reduceShiftRight, Nat.reduceAnd, Go.PV.fits, Go.PV.mutOf, Go.PV.splice, Int.reduceToNat, Int.reduceEq, Int.reduceAdd, Int.reduceSub, Int.reduceMul, Int.reduceLE, Int.reduceLT, Int.reduceNeg, Nat.reduceMul, Nat.reduceLeDiff, ne_eq, if_true, if_false, reduceIte, Nat.reduceEqDiff, ↓Nat.reduceLT, Nat.reduceAdd, Nat.reduceBEq, reduceCtorEq, rowAt_ptr, rowAtO_some, loadP_B, loadPB_t, loadPB_f, n1, n2]
  refine PCall.mono (fm_on hXY hZ (by omega) _) ?_
  rintro p σ' ⟨⟨A, hA, rfl⟩, rfl⟩
  simp -dsimp (maxSteps := 4000000) +contextual (disch := first | omega | decide +kernel) only [↓vsD, vsU, vsE, Bool.or_false, Bool.true_or, resW, fnRet, cond_true, cond_false, Nat.reduceShiftRight, Nat.reduceAnd, Go.PV.fits, Go.PV.mutOf, Go.PV.splice, Int.reduceToNat, Int.reduceEq, Int.reduceAdd, Int.reduceSub, Int.reduceMul, Int.reduceLE, Int.reduceLT, Int.reduceNeg, Nat.reduceMul, Nat.reduceLeDiff, ne_eq, if_true, if_false, reduceIte, Nat.reduceEqDiff, ↓Nat.reduceLT, Nat.reduceAdd, Nat.reduceBEq, reduceCtorEq, rowAt_ptr, rowAtO_some, loadP_B, loadPB_t, loadPB_f, n1, n2]
  refine PCall.mono (fm_on hX hYZ (by omega) _) ?_
  rintro p σ' ⟨⟨B, hB, rfl⟩, rfl⟩
  simp -dsimp (maxSteps := 4000000) +contextual (disch := first | omega | decide +kernel) only [↓vsD, vsU, vsE, Bool.or_false, Bool.true_or, resW, fnRet, cond_true, cond_false, Nat.reduceShiftRight, Nat.reduceAnd, Go.PV.fits, Go.PV.mutOf, Go.PV.splice, Int.reduceToNat, Int.reduceEq, Int.reduceAdd, Int.reduceSub, Int.reduceMul, Int.reduceLE, Int.reduceLT, Int.reduceNeg, Nat.reduceMul, Nat.reduceLeDiff, ne_eq, if_true, if_false, reduceIte, Nat.reduceEqDiff, ↓Nat.reduceLT, Nat.reduceAdd, Nat.reduceBEq, reduceCtorEq, rowAt_ptr, rowAtO_some, loadP_B, loadPB_t, loadPB_f, n1, n2]
  refine PCall.mono (fm_on hA hY (by omega) _) ?_
  rintro p σ' ⟨⟨D, hD, rfl⟩, rfl⟩
  simp -dsimp (maxSteps := 4000000) +contextual (disch := first | omega | decide +kernel) only [↓vsD, vsU, vsE, Bool.or_false, Bool.true_or, resW, fnRet, cond_true, cond_false, Nat.reduceShiftRight, Nat.reduceAnd, Go.PV.fits, Go.PV.mutOf, Go.PV.splice, Int.reduceToNat, Int.reduceEq, Int.reduceAdd, Int.reduceSub, Int.reduceMul, Int.reduceLE, Int.reduceLT, Int.reduceNeg, Nat.reduceMul, Nat.reduceLeDiff, ne_eq, if_true, if_false, reduceIte, Nat.reduceEqDiff, ↓Nat.reduceLT, Nat.reduceAdd, Nat.reduceBEq, reduceCtorEq, rowAt_ptr, rowAtO_some, loadP_B, loadPB_t, loadPB_f, n1, n2]
  refine PCall.frz [] (args2 := [stV ⟨[], []⟩, stV A]) (PCall.mono (fmerge_on (N := 0) (M := 5 + 5 + 5) FilR.emp hA (by decide) _) ?_) rfl (fun j a b h1 h2 => by
      match j, h1, h2 with
      | 0, h1, h2 => simp at h1 h2; subst h1 h2; exact frzn_emp _ _
      | 1, h1, h2 => simp at h1 h2; subst h1 h2; exact .keep _
      | j + 2, h1, h2 => simp at h1)
  rintro p σ' ⟨⟨E, hE, rfl⟩, rfl⟩
  simp -dsimp only [killZ, stV]
  have e1 : XY = YX := hXY.congr hYX (fun p => by simp [or_comm])
  have e2 : A = B := hA.congr hB (fun p => by simp [or_assoc])
  have e3 : A = D := hA.congr hD (fun p => by simp only [List.mem_append]; exact ⟨.inl, fun h => h.elim id (fun h => .inl (.inr h))⟩)
  have e4 : A = E := hA.congr hE (fun p => by simp)
  simp -dsimp (maxSteps := 4000000) +contextual (disch := first | omega | decide +kernel) only [↓vsD, vsU, vsE, Bool.or_false, Bool.true_or, resW, fnRet, cond_true, cond_false, Nat.reduceShiftRight, Nat.reduceAnd, Go.PV.fits, Go.PV.mutOf, Go.PV.splice, Int.reduceToNat, Int.reduceEq, Int.reduceAdd, Int.reduceSub, Int.reduceMul, Int.reduceLE, Int.reduceLT, Int.reduceNeg, Nat.reduceMul, Nat.reduceLeDiff, ne_eq, if_true, if_false, reduceIte, Nat.reduceEqDiff, ↓Nat.reduceLT, Nat.reduceAdd, Nat.reduceBEq, reduceCtorEq, rowAt_ptr, rowAtO_some, loadP_B, loadPB_t, loadPB_f, n2]
  refine PCall.mono (same31_on XY YX (hXY.fit (by decide)) _) ?_
  rintro p σ' ⟨rfl, rfl⟩
  rw [eqB_t e1]
  simp -dsimp (maxSteps := 4000000) +contextual (disch := first | omega | decide +kernel) only [↓vsD, vsU, vsE, Bool.or_false, Bool.true_or, resW, fnRet, cond_true, cond_false, Nat.reduceShiftRight, Nat.reduceAnd, Go.PV.fits, Go.PV.mutOf, Go.PV.splice, Int.reduceToNat, Int.reduceEq, Int.reduceAdd, Int.reduceSub, Int.reduceMul, Int.reduceLE, Int.reduceLT, Int.reduceNeg, Nat.reduceMul, Nat.reduceLeDiff, ne_eq, if_true, if_false, reduceIte, Nat.reduceEqDiff, ↓Nat.reduceLT, Nat.reduceAdd, Nat.reduceBEq, reduceCtorEq, rowAt_ptr, rowAtO_some, loadP_B, loadPB_t, loadPB_f, n2]
  refine PCall.mono (same31_on A B (hA.fit (by decide)) _) ?_
  rintro p σ' ⟨rfl, rfl⟩
  rw [eqB_t e2]
  simp -dsimp (maxSteps := 4000000) +contextual (disch := first | omega | decide +kernel) only [↓vsD, vsU, vsE, Bool.or_false, Bool.true_or, resW, fnRet, cond_true, cond_false, Nat.reduceShiftRight, Nat.reduceAnd, Go.PV.fits, Go.PV.mutOf, Go.PV.splice, Int.reduceToNat, Int.reduceEq, Int.reduceAdd, Int.reduceSub, Int.reduceMul, Int.reduceLE, Int.reduceLT, Int.reduceNeg, Nat.reduceMul, Nat.reduceLeDiff, ne_eq, if_true, if_false, reduceIte, Nat.reduceEqDiff, ↓Nat.reduceLT, Nat.reduceAdd, Nat.reduceBEq, reduceCtorEq, rowAt_ptr, rowAtO_some, loadP_B, loadPB_t, loadPB_f, n2]
  refine PCall.mono (same31_on A D (hA.fit (by decide)) _) ?_
  rintro p σ' ⟨rfl, rfl⟩
  rw [eqB_t e3]
  simp -dsimp (maxSteps := 4000000) +contextual (disch := first | omega | decide +kernel) only [↓vsD, vsU, vsE, Bool.or_false, Bool.true_or, resW, fnRet, cond_true, cond_false, Nat.reduceShiftRight, Nat.reduceAnd, Go.PV.fits, Go.PV.mutOf, Go.PV.splice, Int.reduceToNat, Int.reduceEq, Int.reduceAdd, Int.reduceSub, Int.reduceMul, Int.reduceLE, Int.reduceLT, Int.reduceNeg, Nat.reduceMul, Nat.reduceLeDiff, ne_eq, if_true, if_false, reduceIte, Nat.reduceEqDiff, ↓Nat.reduceLT, Nat.reduceAdd, Nat.reduceBEq, reduceCtorEq, rowAt_ptr, rowAtO_some, loadP_B, loadPB_t, loadPB_f, n2]
  refine PCall.mono (same31_on A E (hA.fit (by decide)) _) ?_
  rintro p σ' ⟨rfl, rfl⟩
  rw [eqB_t e4]
  simp -dsimp (maxSteps := 4000000) +contextual (disch := first | omega | decide +kernel) only [↓vsD, vsU, vsE, Bool.or_false, Bool.true_or, resW, fnRet, cond_true, cond_false, Nat.reduceShiftRight, Nat.reduceAnd, Go.PV.fits, Go.PV.mutOf, Go.PV.splice, Int.reduceToNat, Int.reduceEq, Int.reduceAdd, Int.reduceSub, Int.reduceMul, Int.reduceLE, Int.reduceLT, Int.reduceNeg, Nat.reduceMul, Nat.reduceLeDiff, ne_eq, if_true, if_false, reduceIte, Nat.reduceEqDiff, ↓Nat.reduceLT, Nat.reduceAdd, Nat.reduceBEq, reduceCtorEq, rowAt_ptr, rowAtO_some, loadP_B, loadPB_t, loadPB_f, n2]
  exact fin0 (.keep _ (bel_bool _ _)) rfl
end Go.Proofs.Ythjoehaglonjaaa
