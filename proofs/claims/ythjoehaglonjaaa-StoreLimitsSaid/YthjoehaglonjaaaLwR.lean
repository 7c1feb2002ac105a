/- Chapter 31: the law StoreLimits holds for every input: of more identities than there is room for the least ones stay, conflicts counted, in whatever order they arrive. No condition. -/
import Derived.Test.YthjoehaglonjaaaLwN
import Derived.Test.YthjoehaglonjaaaSuN
set_option linter.unusedSimpArgs false
set_option linter.unusedVariables false
namespace Go.Proofs.Ythjoehaglonjaaa
open Go.PV Go.ChangeShapes Go.WideShapes Go.ChangeAt Go.RowKit

theorem u_u8L : Try.prog.underlying 5 = some (.int .u8) := by kernel_rfl
set_option maxRecDepth 100000 in
theorem slimits_lifted (os : Os) (started : os.Started) (H : Type) (enc : TypeId × Value → H) :
    ReturnsInHanded {} Try.checked os 7 .any (Rows.storeLimitsSpec.pre6 enc Try.prog Try.f7 Rows.storeLimitsRow.domain false) (Rows.storeLimitsSpec.post enc Try.prog Try.f7 false true false false) := by
  refine returnsInHanded_of_change (C := Try.checked) own started (by kernel_rfl) Try.func7
    (ChangeSpec.witness6 (enc := enc) (C := Try.checked) false ⟨#[], #[.int .u8 0, .int .u8 0, .int .u8 0], []⟩ 8 (by kernel_rfl) (by kernel_rfl) (by kernel_rfl) (by kernel_rfl)) ?_
  intro W base args ds gs before hval hW _ _
  refine law_contract laidOut rfl rfl u_bool (by decide +kernel) ?_ ?_ W args ds gs before ?_ hW
  · rintro (_ | ⟨d, _ | ⟨d2, _ | ⟨d3, _ | _⟩⟩⟩) h <;> first | rfl | (simp [Try.f7] at h)
  · intro W args ds p hval hA
    obtain ⟨v0, v1, v2, d0, d1, d2, p0, p1, p2, rfl, rfl, rfl, h0, h1, h2⟩ := trodAll_three (t := 5) (t' := 5) (t'' := 5) hA
    obtain ⟨a, ha, hRa⟩ := open_arg_int u_u8L (hval 0 _ v0 rfl rfl) h0
    obtain ⟨b, hb, hRb⟩ := open_arg_int u_u8L (hval 1 _ v1 rfl rfl) h1
    obtain ⟨c, hc, hRc⟩ := open_arg_int u_u8L (hval 2 _ v2 rfl rfl) h2
    have u8b : ∀ n : Int, Lit.wf (.int .u8 n) = true → 0 ≤ n ∧ n ≤ 255 := fun n hn => by
      have h2 : IntKind.u8.min ≤ n ∧ n ≤ IntKind.u8.max := by simpa [Lit.wf] using hn
      exact h2
    exact ⟨[.int .u8 a, .int .u8 b, .int .u8 c], argsR_cons hRa (argsR_cons hRb (argsR_cons hRc (argsR_nil _ _))), limits31_ok a b c (u8b a ha) (u8b b hb) (u8b c hc)⟩
  · exact fun j t v h1 h2 => hval j t v h1 h2

theorem slimits_holds : Rows.StoreLimitsSaid :=
  OpenClaim.holds_of_wide 7 Try.f7 rfl rfl rfl rfl rfl rfl rfl ⟨rfl, rfl, rfl, rfl, rfl⟩ rfl rfl rfl rfl rfl (by kernel_rfl) Try.func7 (by kernel_rfl)
    (of_decide_eq_true (by kernel_rfl)) (by unfold Func.isWrapper; first | (rw [if_pos (by decide +kernel)]; kernel_rfl) | (rw [if_neg (by decide +kernel)]; exact ⟨rfl, rfl⟩))
    (fun os started H enc _ => slimits_lifted os started H enc)
end Go.Proofs.Ythjoehaglonjaaa
