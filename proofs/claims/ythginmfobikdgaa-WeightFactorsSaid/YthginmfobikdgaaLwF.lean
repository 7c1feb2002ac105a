/- Chapter 32: the law WeightFactors holds for every input: which rates are valid, and by how much an age counts. No condition. -/
import Derived.Test.YthginmfobikdgaaLwN
import Derived.Test.YthginmfobikdgaaWtJ
set_option linter.unusedSimpArgs false
set_option linter.unusedVariables false
namespace Go.PV
open Go.ChangeShapes Go.WideShapes Go.ChangeAt Go.RowKit
section
variable {P : Program} {H : Type} {enc : TypeId × Value → H}
/-- Two integers that came in. -/
theorem open_arg_int2 {W : World} {t : TypeId} {f0 f1 : Field} {k : IntKind} {v : Value} {d : DataW H} {p : List MemPlace} (ht : P.underlying t = some (.struct #[f0, f1])) (h0 : P.underlying f0.type = some (.int k)) (h1 : P.underlying f1.type = some (.int k))
    (hc : P.cellsOf t = 2) (c0 : P.cellsOf f0.type = 1) (c1 : P.cellsOf f1.type = 1) (o0 : f0.offset = 0) (o1 : f1.offset = 1)
    (hval : Value.okWide P W .any 0 t v) (h : DataW.Trod enc P W 0 (fun _ => true) true t v d p) : ∃ a b : Int, R (allI W) noR (.agg [.int k a, .int k b]) v := by
  obtain ⟨cs, rfl, hs⟩ := okWide_struct ht hval
  obtain ⟨fuel, hf⟩ := h
  obtain ⟨y0, y1, n, _, hl, e0, e1⟩ := trod_struct2 ht hf
  obtain ⟨a, ha, _, _⟩ := DataW.trod_int h0 e0
  obtain ⟨b, hb, _, _⟩ := DataW.trod_int h1 e1
  obtain ⟨l⟩ := cs
  rw [hc] at hs
  simp [Value.cells, o0, o1, c0, c1] at hs ha hb
  match l, hs with
  | [x, y], _ =>
    simp at ha hb
    subst ha hb
    refine ⟨a, b, .agg _ _ (by simp) (fun j p hj => ?_)⟩
    match j with
    | 0 => simp at hj; subst hj; exact .int _ _
    | 1 => simp at hj; subst hj; exact .int _ _
    | j + 2 => simp at hj
end
end Go.PV
namespace Go.Proofs.Ythginmfobikdgaa
open Go.PV Go.ChangeShapes Go.WideShapes Go.ChangeAt Go.RowKit

set_option maxRecDepth 100000 in
theorem factors_lifted (os : Os) (started : os.Started) (H : Type) (enc : TypeId × Value → H) :
    ReturnsInHanded {} Try.checked os 7 .any (Rows.weightFactorsSpec.pre6 enc Try.prog Try.f7 Rows.weightFactorsRow.domain false) (Rows.weightFactorsSpec.post enc Try.prog Try.f7 false true false false) := by
  refine returnsInHanded_of_change (C := Try.checked) own started (by kernel_rfl) Try.func7
    (ChangeSpec.witness6 (enc := enc) (C := Try.checked) false ⟨#[], #[.agg #[.int .i64 0, .int .i64 0], .int .i64 0, .slice none 0 0], []⟩ 8 (by kernel_rfl) (by kernel_rfl) (by kernel_rfl) (by kernel_rfl)) ?_
  intro W base args ds gs before hval hW _ _
  refine law_contract laidOut rfl rfl u_bool (by decide +kernel) ?_ ?_ W args ds gs before ?_ hW
  · rintro (_ | ⟨d, _ | ⟨d2, _ | ⟨d3, _ | _⟩⟩⟩) h <;> first | rfl | (simp [Try.f7] at h)
  · intro W args ds p hval hA
    obtain ⟨v0, v1, v2, d0, d1, d2, p0, p1, p2, rfl, rfl, rfl, h0, h1, h2⟩ := trodAll_three (t := 46) (t' := 3) (t'' := 22) hA
    obtain ⟨a, b, hRa⟩ := open_arg_int2 (k := .i64) (by kernel_rfl : Try.prog.underlying 46 = some (.struct #[{ name := "Num", type := 3, offset := 0, embedded := false, tag := "", pkgPath := "", byteOffset := 0 }, { name := "Den", type := 3, offset := 1, embedded := false, tag := "", pkgPath := "", byteOffset := 8 }])) u_int u_int (by kernel_rfl) c_int c_int rfl rfl (hval 0 _ v0 rfl rfl) h0
    obtain ⟨n, hn, hRn⟩ := open_arg_int u_int (hval 1 _ v1 rfl rfl) h1
    obtain ⟨l, hl, _, hRl⟩ := open_arg_ints u_bytes u_u8 c_u8 (hval 2 _ v2 rfl rfl) h2
    exact ⟨[.agg [.int .i64 a, .int .i64 b], .int .i64 n, .sl (encI .u8 l)], argsR_cons hRa (argsR_cons hRn (argsR_cons hRl (argsR_nil _ _))), factors_ok a b n l hl⟩
  · exact fun j t v h1 h2 => hval j t v h1 h2

theorem factors_holds : Rows.WeightFactorsSaid :=
  OpenClaim.holds_of_wide 7 Try.f7 rfl rfl rfl rfl rfl rfl rfl ⟨rfl, rfl, rfl, rfl, rfl⟩ rfl rfl rfl rfl rfl (by kernel_rfl) Try.func7 (by kernel_rfl)
    (of_decide_eq_true (by kernel_rfl)) (by unfold Func.isWrapper; first | (rw [if_pos (by decide +kernel)]; kernel_rfl) | (rw [if_neg (by decide +kernel)]; exact ⟨rfl, rfl⟩))
    (fun os started H enc _ => factors_lifted os started H enc)
end Go.Proofs.Ythginmfobikdgaa
