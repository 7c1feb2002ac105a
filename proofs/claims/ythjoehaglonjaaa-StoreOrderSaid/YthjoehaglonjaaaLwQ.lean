/- Chapter 31: the law StoreOrder holds for every input: pieces that arrive in any order, again and again, and in parts that are merged, lead to the same store. No condition. -/
import Derived.Test.YthjoehaglonjaaaLwN
import Derived.Test.YthjoehaglonjaaaSuH
set_option linter.unusedSimpArgs false
set_option linter.unusedVariables false
namespace Go.Proofs.Ythjoehaglonjaaa
open Go.PV Go.ChangeShapes Go.WideShapes Go.ChangeAt Go.RowKit

set_option maxRecDepth 100000 in
theorem sorder_lifted (os : Os) (started : os.Started) (H : Type) (enc : TypeId × Value → H) :
    ReturnsInHanded {} Try.checked os 5 .any (Rows.storeOrderSpec.pre6 enc Try.prog Try.f5 Rows.storeOrderRow.domain false) (Rows.storeOrderSpec.post enc Try.prog Try.f5 false true false false) := by
  refine returnsInHanded_of_change (C := Try.checked) own started (by kernel_rfl) Try.func5
    (ChangeSpec.witness6 (enc := enc) (C := Try.checked) false ⟨#[], #[.slice none 0 0, .slice none 0 0], []⟩ 8 (by kernel_rfl) (by kernel_rfl) (by kernel_rfl) (by kernel_rfl)) ?_
  intro W base args ds gs before hval hW _ _
  refine law_contract laidOut rfl rfl u_bool (by decide +kernel) ?_ ?_ W args ds gs before ?_ hW
  · rintro (_ | ⟨d, _ | ⟨d2, _ | _⟩⟩) h <;> first | rfl | (simp [Try.f5] at h)
  · intro W args ds p hval hA
    obtain ⟨v0, v1, d0, d1, p0, p1, rfl, rfl, rfl, h0, h1⟩ := trodAll_two (t := 22) (t' := 22) hA
    obtain ⟨l, hl, _, hRl⟩ := open_arg_ints u_bytes u_u8 c_u8 (hval 0 _ v0 rfl rfl) h0
    obtain ⟨l1, hl1, _, hRl1⟩ := open_arg_ints u_bytes u_u8 c_u8 (hval 1 _ v1 rfl rfl) h1
    exact ⟨[.sl (PV.encI .u8 l), .sl (PV.encI .u8 l1)], argsR_cons hRl (argsR_cons hRl1 (argsR_nil _ _)), order31_ok l l1 hl hl1⟩
  · exact fun j t v h1 h2 => hval j t v h1 h2

theorem sorder_holds : Rows.StoreOrderSaid :=
  OpenClaim.holds_of_wide 5 Try.f5 rfl rfl rfl rfl rfl rfl rfl ⟨rfl, rfl, rfl, rfl, rfl⟩ rfl rfl rfl rfl rfl (by kernel_rfl) Try.func5 (by kernel_rfl)
    (of_decide_eq_true (by kernel_rfl)) (by unfold Func.isWrapper; first | (rw [if_pos (by decide +kernel)]; kernel_rfl) | (rw [if_neg (by decide +kernel)]; exact ⟨rfl, rfl⟩))
    (fun os started H enc _ => sorder_lifted os started H enc)
end Go.Proofs.Ythjoehaglonjaaa
