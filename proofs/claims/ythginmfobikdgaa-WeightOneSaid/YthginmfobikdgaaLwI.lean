/- Chapter 32: the law WeightOne holds for every input: with the rate 1 / 1 or the age 0 a single list is returned, as far as its targets are greater than 0, and a greater age never makes a count greater. No condition. -/
import Derived.Test.YthginmfobikdgaaLwN
import Derived.Test.YthginmfobikdgaaWtT
set_option linter.unusedSimpArgs false
set_option linter.unusedVariables false
namespace Go.Proofs.Ythginmfobikdgaa
open Go.PV Go.ChangeShapes Go.WideShapes Go.ChangeAt Go.RowKit

set_option maxRecDepth 100000 in
theorem one_lifted (os : Os) (started : os.Started) (H : Type) (enc : TypeId × Value → H) :
    ReturnsInHanded {} Try.checked os 6 .any (Rows.weightOneSpec.pre6 enc Try.prog Try.f6 Rows.weightOneRow.domain false) (Rows.weightOneSpec.post enc Try.prog Try.f6 false true false false) := by
  refine returnsInHanded_of_change (C := Try.checked) own started (by kernel_rfl) Try.func6
    (ChangeSpec.witness6 (enc := enc) (C := Try.checked) false ⟨#[], #[.slice none 0 0, .int .u8 0], []⟩ 8 (by kernel_rfl) (by kernel_rfl) (by kernel_rfl) (by kernel_rfl)) ?_
  intro W base args ds gs before hval hW _ _
  refine law_contract laidOut rfl rfl u_bool (by decide +kernel) ?_ ?_ W args ds gs before ?_ hW
  · rintro (_ | ⟨d, _ | ⟨d2, _ | _⟩⟩) h <;> first | rfl | (simp [Try.f6] at h)
  · intro W args ds p hval hA
    obtain ⟨v0, v1, d0, d1, p0, p1, rfl, rfl, rfl, h0, h1⟩ := trodAll_two (t := 22) (t' := 5) hA
    obtain ⟨l, hl, _, hRl⟩ := open_arg_ints u_bytes u_u8 c_u8 (hval 0 _ v0 rfl rfl) h0
    obtain ⟨n, hn, hRn⟩ := open_arg_int u_u8 (hval 1 _ v1 rfl rfl) h1
    have hy : 0 ≤ n ∧ n ≤ 255 := by
      have h2 : IntKind.u8.min ≤ n ∧ n ≤ IntKind.u8.max := by simpa [Lit.wf] using hn
      exact h2
    exact ⟨[.sl (encI .u8 l), .int .u8 n], argsR_cons hRl (argsR_cons hRn (argsR_nil _ _)), one_law l hl n hy⟩
  · exact fun j t v h1 h2 => hval j t v h1 h2

theorem one_holds : Rows.WeightOneSaid :=
  OpenClaim.holds_of_wide 6 Try.f6 rfl rfl rfl rfl rfl rfl rfl ⟨rfl, rfl, rfl, rfl, rfl⟩ rfl rfl rfl rfl rfl (by kernel_rfl) Try.func6 (by kernel_rfl)
    (of_decide_eq_true (by kernel_rfl)) (by unfold Func.isWrapper; first | (rw [if_pos (by decide +kernel)]; kernel_rfl) | (rw [if_neg (by decide +kernel)]; exact ⟨rfl, rfl⟩))
    (fun os started H enc _ => one_lifted os started H enc)
end Go.Proofs.Ythginmfobikdgaa
