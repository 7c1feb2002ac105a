/- Chapter 28: the laws' rows: facts. -/
import Derived.Test.YtijigploahapfaaMaH
import Derived.Test.YtijigploahapfaaRfA
import Derived.Test.YtijigploahapfaaMaE
import Derived.Test.YtijigploahapfaaDcC
import Derived.Test.YtijigploahapfaaRows
set_option linter.unusedSimpArgs false
set_option linter.unusedVariables false
namespace Go.Proofs.Ytijigploahapfaa
open Go.PV

theorem own : ownKnob Try.prog.godebug = none := by kernel_rfl
theorem laidOut : laidOutB Try.prog = true := by kernel_rfl
theorem intss_all (l : List (List Int)) : modest l ↔ modest l := Iff.rfl

theorem modest_of {rows cols : List (List Int)} (h : okPrefs rows cols) : modest rows ∧ modest cols := by
  refine ⟨⟨by have := h.1; omega, fun li hli => ?_⟩, ⟨by have := h.2.1; omega, fun li hli => ?_⟩⟩
  · have := pigeon _ _ (h.2.2.1 li hli); have := h.2.1; omega
  · have := pigeon _ _ (h.2.2.2 li hli); have := h.1; omega

theorem stableK_bel {rows cols : List (List Int)} {p : PV} (h : stableK rows cols p) : Bel 0 p := by
  rcases h with ⟨_, m, _, rfl⟩ | ⟨_, rfl⟩
  · exact bel_tup2 (bel_ints _ _) (bel_int _ _ _)
  · exact bel_tup2 (bel_ints _ _) (bel_int _ _ _)
theorem stable_on (rows cols : List (List Int)) (hr : modest rows) (hc : modest cols) (σ : Store) : PCall Try.prog 24 [.sl (intss rows), .sl (intss cols)] σ (fun p σ' => σ' = σ ∧ stableK rows cols p) :=
  PCall.lift (stable_ok rows cols hr hc) (by simp only [List.forall_mem_cons, List.not_mem_nil, false_implies, implies_true, and_true]; exact ⟨bel_intss _ _, bel_intss _ _⟩) (fun p h => ⟨stableK_bel h, rfl, h⟩)
theorem blocking_on (rows cols : List (List Int)) (m : List Int) (hr : modest rows) (hc : modest cols) (hm : m.length < 2 ^ 40) (σ : Store) : PCall Try.prog 27 [.sl (intss rows), .sl (intss cols), .sl (ints m)] σ (fun p σ' => σ' = σ ∧ blockingK rows cols m p) :=
  PCall.lift (blocking_ok rows cols m hr hc hm) (by simp only [List.forall_mem_cons, List.not_mem_nil, false_implies, implies_true, and_true]; exact ⟨bel_intss _ _, bel_intss _ _, bel_ints _ _⟩) (fun p h => ⟨by rcases h with ⟨_, _, rfl⟩ | ⟨_, rfl⟩ <;> exact bel_bool _ _, rfl, h⟩)
theorem awake_on (σ : Store) : PCall Try.prog 12 [] σ (fun p σ' => σ' = σ ∧ p = .bool true) :=
  PCall.lift awake_ok (by simp) (fun p h => ⟨by rw [h]; exact bel_bool _ _, rfl, h⟩)
end Go.Proofs.Ytijigploahapfaa
