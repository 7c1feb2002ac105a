/- Chapter 32: the law WeightOrder holds for every input: the order of the lists, with their ages, does not matter to Combine. No condition. -/
import Derived.Test.YthginmfobikdgaaLwN
import Derived.Test.YthginmfobikdgaaWtR
set_option linter.unusedSimpArgs false
set_option linter.unusedVariables false
namespace Go.Proofs.Ythginmfobikdgaa
open Go.PV Go.ChangeShapes Go.WideShapes Go.ChangeAt Go.RowKit

set_option maxRecDepth 100000 in
theorem order_lifted (os : Os) (started : os.Started) (H : Type) (enc : TypeId × Value → H) :
    ReturnsInHanded {} Try.checked os 5 .any (Rows.weightOrderSpec.pre6 enc Try.prog Try.f5 Rows.weightOrderRow.domain false) (Rows.weightOrderSpec.post enc Try.prog Try.f5 false true false false) := by
  refine returnsInHanded_of_change (C := Try.checked) own started (by kernel_rfl) Try.func5
    (ChangeSpec.witness6 (enc := enc) (C := Try.checked) false ⟨#[], #[.slice none 0 0, .slice none 0 0], []⟩ 8 (by kernel_rfl) (by kernel_rfl) (by kernel_rfl) (by kernel_rfl)) ?_
  intro W base args ds gs before hval hW _ _
  refine law_contract laidOut rfl rfl u_bool (by decide +kernel) ?_ ?_ W args ds gs before ?_ hW
  · rintro (_ | ⟨d, _ | ⟨d2, _ | _⟩⟩) h <;> first | rfl | (simp [Try.f5] at h)
  · intro W args ds p hval hA
    obtain ⟨v0, v1, d0, d1, p0, p1, rfl, rfl, rfl, h0, h1⟩ := trodAll_two (t := 22) (t' := 22) hA
    obtain ⟨l, hl, _, hRl⟩ := open_arg_ints u_bytes u_u8 c_u8 (hval 0 _ v0 rfl rfl) h0
    obtain ⟨o, ho, _, hRo⟩ := open_arg_ints u_bytes u_u8 c_u8 (hval 1 _ v1 rfl rfl) h1
    exact ⟨[.sl (encI .u8 l), .sl (encI .u8 o)], argsR_cons hRl (argsR_cons hRo (argsR_nil _ _)), order_ok l o hl ho⟩
  · exact fun j t v h1 h2 => hval j t v h1 h2

theorem order_holds : Rows.WeightOrderSaid :=
  OpenClaim.holds_of_wide 5 Try.f5 rfl rfl rfl rfl rfl rfl rfl ⟨rfl, rfl, rfl, rfl, rfl⟩ rfl rfl rfl rfl rfl (by kernel_rfl) Try.func5 (by kernel_rfl)
    (of_decide_eq_true (by kernel_rfl)) (by unfold Func.isWrapper; first | (rw [if_pos (by decide +kernel)]; kernel_rfl) | (rw [if_neg (by decide +kernel)]; exact ⟨rfl, rfl⟩))
    (fun os started H enc _ => order_lifted os started H enc)
end Go.Proofs.Ythginmfobikdgaa
