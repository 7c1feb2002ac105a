/- The library: bits.Len of small numbers. -/
import Derived.Test.YthjoehaglonjaaaGreatTy
import Derived.Test.YthjoehaglonjaaaGreatEnA
import Derived.Test.YthjoehaglonjaaaGreatPvY
set_option linter.unusedSimpArgs false
set_option linter.unusedVariables false
namespace Go.Proofs.YthjoehaglonjaaaGreat
open Go.PV

set_option maxRecDepth 10000 in
set_option maxHeartbeats 4000000 in
theorem len64_ok (n : Nat) (hn : n < 256) (σ : Store) : PCall Tryz.prog 121 [.int .u64 n] σ (fun p σ' => (∃ r, p = .int .i64 r) ∧ σ' = σ) := by
  refine PCall.vraw [] 16663 25 [.tmp 2] (noE_ok _) mix Tryz.func121 rfl (by decide) rfl rfl (by simp) ?_
  simp -dsimp only [initFr, List.zipIdx_cons, List.zipIdx_nil, List.map_cons, List.map_nil, Nat.zero_add, Nat.reduceAdd]
  have e : IntKind.u8.wrap (n : Int) = n := Go.IntWalk.u8_in _ (by omega)
  simp -dsimp (maxSteps := 4000000) +contextual (disch := first | omega | decide +kernel) only [↓vsD, vsU, vsE, resW, fnRet, cond_true, cond_false, Go.PV.fits, Go.PV.mutOf, Go.PV.splice, if_true, if_false, ↓Nat.reduceLT, simprocAttr, e]
  exact ⟨Nat.lt_of_lt_of_le hn (by decide +kernel), _, rfl⟩
set_option maxHeartbeats 4000000 in
theorem blen_ok (n : Nat) (hn : n < 256) (σ : Store) : PCall Tryz.prog 102 [.int .u64 n] σ (fun p σ' => (∃ r, p = .int .i64 r) ∧ σ' = σ) := by
  refine PCall.vraw [] 7 8 [.tmp 2] (noE_ok _) mix Tryz.func102 rfl (by decide) rfl rfl (by simp) ?_
  simp -dsimp only [initFr, List.zipIdx_cons, List.zipIdx_nil, List.map_cons, List.map_nil, Nat.zero_add, Nat.reduceAdd]
  simp -dsimp (maxSteps := 4000000) +contextual (disch := first | omega | decide +kernel) only [↓vsD, vsU, vsE, resW, fnRet, cond_true, cond_false, Go.PV.fits, Go.PV.mutOf, Go.PV.splice, if_true, if_false, ↓Nat.reduceLT, simprocAttr]
  refine PCall.mono (len64_ok n hn σ) ?_
  rintro p σ' ⟨⟨r, rfl⟩, rfl⟩
  simp -dsimp (maxSteps := 4000000) +contextual (disch := first | omega | decide +kernel) only [↓vsD, vsU, vsE, resW, fnRet, cond_true, cond_false, Go.PV.fits, Go.PV.mutOf, Go.PV.splice, if_true, if_false, ↓Nat.reduceLT, simprocAttr]
  exact ⟨r, rfl⟩
end Go.Proofs.YthjoehaglonjaaaGreat
