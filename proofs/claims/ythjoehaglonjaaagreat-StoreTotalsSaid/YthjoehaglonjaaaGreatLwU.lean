/- Chapter 31: the law StoreTotals holds for every input: the releases of a store and their totals are those of the reference, and so are the errors. No condition. -/
import Derived.Test.YthjoehaglonjaaaGreatWtA
import Derived.Test.YthjoehaglonjaaaGreatSvQ
set_option maxRecDepth 8000
set_option linter.unusedSimpArgs false
set_option linter.unusedVariables false
namespace Go.Proofs.YthjoehaglonjaaaGreat
open Go.PV Go.ChangeShapes Go.WideShapes Go.ChangeAt Go.RowKit
theorem u_i64U:Tryz.prog.underlying 3 = some (.int .i64):=by kernel_rfl
set_option maxRecDepth 100000 in
theorem totals_lifted (os:Os) (started:os.Started) (H:Type) (enc:TypeId × Value → H) :
  ReturnsInHanded {} Tryz.checked os 4 .any (Rows.storeTotalsSpec.pre6 enc Tryz.prog Tryz.f4 Rows.storeTotalsRow.domain false) (Rows.storeTotalsSpec.post enc Tryz.prog Tryz.f4 false true false false):=by
 refine returnsInHanded_of_change (C:=Tryz.checked) own started (by kernel_rfl) Tryz.func4
  (ChangeSpec.witness6 (enc:=enc) (C:=Tryz.checked) false ⟨#[],#[.slice none 0 0,.int .i64 0],[]⟩ 8 (by kernel_rfl) (by kernel_rfl) (by kernel_rfl) (by kernel_rfl)) ?_
 intro W base args ds gs before hval hW _ _
 refine law_contract laidOut rfl rfl u_bool (by decide +kernel) ?_ ?_ W args ds gs before ?_ hW
 ·rintro (_ | ⟨d,_ | ⟨d2,_ | _⟩⟩) h <;> first | rfl | (simp [Tryz.f4] at h)
 ·intro W args ds p hval hA
  obtain ⟨v0,v1,d0,d1,p0,p1,rfl,rfl,rfl,h0,h1⟩:=trodAll_two (t:=22) (t':=3) hA
  obtain ⟨l,hl,_,hRl⟩:=open_arg_ints u_bytes u_u8 c_u8 (hval 0 _ v0 rfl rfl) h0
  obtain ⟨n,hn,hRn⟩:=open_arg_int u_i64U (hval 1 _ v1 rfl rfl) h1
  exact ⟨[.sl (PV.encI .u8 l),.int .i64 n],argsR_cons hRl (argsR_cons hRn (argsR_nil _ _)),totals31_ok l hl n⟩
 ·exact fun j t v h1 h2=>hval j t v h1 h2
theorem totals_holds:Rows.StoreTotalsSaid :=
 OpenClaim.holds_of_wide 4 Tryz.f4 rfl rfl rfl rfl rfl rfl rfl ⟨rfl,rfl,rfl,rfl,rfl⟩ rfl rfl rfl rfl rfl (by kernel_rfl) Tryz.func4 (by kernel_rfl)
  (of_decide_eq_true (by kernel_rfl)) (by unfold Func.isWrapper; first | (rw [if_pos (by decide +kernel)]; kernel_rfl) | (rw [if_neg (by decide +kernel)]; exact ⟨rfl,rfl⟩))
  (fun os started H enc _=>totals_lifted os started H enc)
end Go.Proofs.YthjoehaglonjaaaGreat
