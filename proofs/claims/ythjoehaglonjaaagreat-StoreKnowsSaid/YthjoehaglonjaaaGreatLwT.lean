/- Chapter 31: the law StoreKnows holds for every input: a total knows a count exactly if a piece knows it, and the total of a release is the sum of the totals of two parts of its pieces. No condition. -/
import Derived.Test.YthjoehaglonjaaaGreatLwN
import Derived.Test.YthjoehaglonjaaaGreatSvH
set_option linter.unusedSimpArgs false
set_option linter.unusedVariables false
namespace Go.Proofs.YthjoehaglonjaaaGreat
open Go.PV Go.ChangeShapes Go.WideShapes Go.ChangeAt Go.RowKit

set_option maxRecDepth 100000 in
theorem knows_lifted (os : Os) (started : os.Started) (H : Type) (enc : TypeId × Value → H) :
    ReturnsInHanded {} Tryz.checked os 3 .any (Rows.storeKnowsSpec.pre6 enc Tryz.prog Tryz.f3 Rows.storeKnowsRow.domain false) (Rows.storeKnowsSpec.post enc Tryz.prog Tryz.f3 false true false false) := by
  refine returnsInHanded_of_change (C := Tryz.checked) own started (by kernel_rfl) Tryz.func3
    (ChangeSpec.witness6 (enc := enc) (C := Tryz.checked) false ⟨#[], #[.slice none 0 0, .slice none 0 0], []⟩ 8 (by kernel_rfl) (by kernel_rfl) (by kernel_rfl) (by kernel_rfl)) ?_
  intro W base args ds gs before hval hW _ _
  refine law_contract laidOut rfl rfl u_bool (by decide +kernel) ?_ ?_ W args ds gs before ?_ hW
  · rintro (_ | ⟨d, _ | ⟨d2, _ | _⟩⟩) h <;> first | rfl | (simp [Tryz.f3] at h)
  · intro W args ds p hval hA
    obtain ⟨v0, v1, d0, d1, p0, p1, rfl, rfl, rfl, h0, h1⟩ := trodAll_two (t := 22) (t' := 22) hA
    obtain ⟨l, hl, _, hRl⟩ := open_arg_ints u_bytes u_u8 c_u8 (hval 0 _ v0 rfl rfl) h0
    obtain ⟨l1, hl1, _, hRl1⟩ := open_arg_ints u_bytes u_u8 c_u8 (hval 1 _ v1 rfl rfl) h1
    exact ⟨[.sl (PV.encI .u8 l), .sl (PV.encI .u8 l1)], argsR_cons hRl (argsR_cons hRl1 (argsR_nil _ _)), knows31_ok l l1 hl hl1⟩
  · exact fun j t v h1 h2 => hval j t v h1 h2

theorem knows_holds : Rows.StoreKnowsSaid :=
  OpenClaim.holds_of_wide 3 Tryz.f3 rfl rfl rfl rfl rfl rfl rfl ⟨rfl, rfl, rfl, rfl, rfl⟩ rfl rfl rfl rfl rfl (by kernel_rfl) Tryz.func3 (by kernel_rfl)
    (of_decide_eq_true (by kernel_rfl)) (by unfold Func.isWrapper; first | (rw [if_pos (by decide +kernel)]; kernel_rfl) | (rw [if_neg (by decide +kernel)]; exact ⟨rfl, rfl⟩))
    (fun os started H enc _ => knows_lifted os started H enc)
end Go.Proofs.YthjoehaglonjaaaGreat
