/- Chapter 38: the law PlaceFits holds for every input: functions that together are smaller than a page cost nothing, nor does a call of a function by itself. No condition. -/
import Derived.Test.YthginmfobikdgaaLwN
import Derived.Test.YthginmfobikdgaaPlH
set_option linter.unusedSimpArgs false
set_option linter.unusedVariables false
namespace Go.Proofs.Ythginmfobikdgaa
open Go.PV Go.ChangeShapes Go.WideShapes Go.ChangeAt Go.RowKit

theorem u_u16 : Try.prog.underlying 92 = some (.int .u16) := by kernel_rfl
set_option maxRecDepth 100000 in
theorem fits_lifted (os : Os) (started : os.Started) (H : Type) (enc : TypeId × Value → H) :
    ReturnsInHanded {} Try.checked os 11 .any (Rows.placeFitsSpec.pre6 enc Try.prog Try.f11 Rows.placeFitsRow.domain false) (Rows.placeFitsSpec.post enc Try.prog Try.f11 false true false false) := by
  refine returnsInHanded_of_change (C := Try.checked) own started (by kernel_rfl) Try.func11
    (ChangeSpec.witness6 (enc := enc) (C := Try.checked) false ⟨#[], #[.slice none 0 0, .int .u16 0], []⟩ 8 (by kernel_rfl) (by kernel_rfl) (by kernel_rfl) (by kernel_rfl)) ?_
  intro W base args ds gs before hval hW _ _
  refine law_contract laidOut rfl rfl u_bool (by decide +kernel) ?_ ?_ W args ds gs before ?_ hW
  · rintro (_ | ⟨d, _ | ⟨d2, _ | _⟩⟩) h <;> first | rfl | (simp [Try.f11] at h)
  · intro W args ds p hval hA
    obtain ⟨v0, v1, d0, d1, p0, p1, rfl, rfl, rfl, h0, h1⟩ := trodAll_two (t := 22) (t' := 92) hA
    obtain ⟨l, hl, _, hRl⟩ := open_arg_ints u_bytes u_u8 c_u8 (hval 0 _ v0 rfl rfl) h0
    obtain ⟨n, hn, hRn⟩ := open_arg_int u_u16 (hval 1 _ v1 rfl rfl) h1
    have hy : 0 ≤ n ∧ n ≤ 65535 := by
      have h2 : IntKind.u16.min ≤ n ∧ n ≤ IntKind.u16.max := by simpa [Lit.wf] using hn
      exact h2
    exact ⟨[.sl (PV.encI .u8 l), .int .u16 n], argsR_cons hRl (argsR_cons hRn (argsR_nil _ _)), fits_ok l hl n hy⟩
  · exact fun j t v h1 h2 => hval j t v h1 h2

theorem fits_holds : Rows.PlaceFitsSaid :=
  OpenClaim.holds_of_wide 11 Try.f11 rfl rfl rfl rfl rfl rfl rfl ⟨rfl, rfl, rfl, rfl, rfl⟩ rfl rfl rfl rfl rfl (by kernel_rfl) Try.func11 (by kernel_rfl)
    (of_decide_eq_true (by kernel_rfl)) (by unfold Func.isWrapper; first | (rw [if_pos (by decide +kernel)]; kernel_rfl) | (rw [if_neg (by decide +kernel)]; exact ⟨rfl, rfl⟩))
    (fun os started H enc _ => fits_lifted os started H enc)
end Go.Proofs.Ythginmfobikdgaa
