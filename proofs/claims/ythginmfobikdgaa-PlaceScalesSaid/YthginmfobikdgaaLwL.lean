/- Chapter 38: the law PlaceScales holds for every input: sizes and a page times a number, and counts times a number, lead to the same order, and to a weight times that number. No condition. -/
import Derived.Test.YthginmfobikdgaaLwN
import Derived.Test.YthginmfobikdgaaGrK
set_option linter.unusedSimpArgs false
set_option linter.unusedVariables false
namespace Go.Proofs.Ythginmfobikdgaa
open Go.PV Go.ChangeShapes Go.WideShapes Go.ChangeAt Go.RowKit

set_option maxRecDepth 100000 in
theorem scales_lifted (os : Os) (started : os.Started) (H : Type) (enc : TypeId × Value → H) :
    ReturnsInHanded {} Try.checked os 12 .any (Rows.placeScalesSpec.pre6 enc Try.prog Try.f12 Rows.placeScalesRow.domain false) (Rows.placeScalesSpec.post enc Try.prog Try.f12 false true false false) := by
  refine returnsInHanded_of_change (C := Try.checked) own started (by kernel_rfl) Try.func12
    (ChangeSpec.witness6 (enc := enc) (C := Try.checked) false ⟨#[], #[.slice none 0 0, .int .u8 0, .int .u8 0], []⟩ 8 (by kernel_rfl) (by kernel_rfl) (by kernel_rfl) (by kernel_rfl)) ?_
  intro W base args ds gs before hval hW _ _
  refine law_contract laidOut rfl rfl u_bool (by decide +kernel) ?_ ?_ W args ds gs before ?_ hW
  · rintro (_ | ⟨d, _ | ⟨d2, _ | ⟨d3, _ | _⟩⟩⟩) h <;> first | rfl | (simp [Try.f12] at h)
  · intro W args ds p hval hA
    obtain ⟨v0, v1, v2, d0, d1, d2, p0, p1, p2, rfl, rfl, rfl, h0, h1, h2⟩ := trodAll_three (t := 22) (t' := 5) (t'' := 5) hA
    obtain ⟨l, hl, _, hRl⟩ := open_arg_ints u_bytes u_u8 c_u8 (hval 0 _ v0 rfl rfl) h0
    obtain ⟨m, hm, hRm⟩ := open_arg_int u_u8 (hval 1 _ v1 rfl rfl) h1
    obtain ⟨n, hn, hRn⟩ := open_arg_int u_u8 (hval 2 _ v2 rfl rfl) h2
    have hy : 0 ≤ m ∧ m ≤ 255 := by
      have h2 : IntKind.u8.min ≤ m ∧ m ≤ IntKind.u8.max := by simpa [Lit.wf] using hm
      exact h2
    have hz : 0 ≤ n ∧ n ≤ 255 := by
      have h2 : IntKind.u8.min ≤ n ∧ n ≤ IntKind.u8.max := by simpa [Lit.wf] using hn
      exact h2
    exact ⟨[.sl (PV.encI .u8 l), .int .u8 m, .int .u8 n], argsR_cons hRl (argsR_cons hRm (argsR_cons hRn (argsR_nil _ _))), scales_ok l hl m n hy hz⟩
  · exact fun j t v h1 h2 => hval j t v h1 h2

theorem scales_holds : Rows.PlaceScalesSaid :=
  OpenClaim.holds_of_wide 12 Try.f12 rfl rfl rfl rfl rfl rfl rfl ⟨rfl, rfl, rfl, rfl, rfl⟩ rfl rfl rfl rfl rfl (by kernel_rfl) Try.func12 (by kernel_rfl)
    (of_decide_eq_true (by kernel_rfl)) (by unfold Func.isWrapper; first | (rw [if_pos (by decide +kernel)]; kernel_rfl) | (rw [if_neg (by decide +kernel)]; exact ⟨rfl, rfl⟩))
    (fun os started H enc _ => scales_lifted os started H enc)
end Go.Proofs.Ythginmfobikdgaa
