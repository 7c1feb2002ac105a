/- Chapter 33: the law CallgraphOrders holds for every input: each function is in one set, calls lead to earlier sets, and a function is recursive exactly if its set has several functions or it calls itself. No condition. -/
import Derived.Test.YthginmfobikdgaaLwN
import Derived.Test.YthginmfobikdgaaCgJ
set_option maxRecDepth 8000
set_option linter.unusedSimpArgs false
set_option linter.unusedVariables false
namespace Go.Proofs.Ythginmfobikdgaa
open Go.PV Go.ChangeShapes Go.WideShapes Go.ChangeAt Go.RowKit
set_option maxRecDepth 100000 in
theorem orders33_lifted (os:Os) (started:os.Started) (H:Type) (enc:TypeId × Value → H) :
  ReturnsInHanded {} Try.checked os 4 .any (Rows.callgraphOrdersSpec.pre6 enc Try.prog Try.f4 Rows.callgraphOrdersRow.domain false) (Rows.callgraphOrdersSpec.post enc Try.prog Try.f4 false true false false):=by
 refine returnsInHanded_of_change (C:=Try.checked) own started (by kernel_rfl) Try.func4
  (ChangeSpec.witness6 (enc:=enc) (C:=Try.checked) false ⟨#[],#[.slice none 0 0],[]⟩ 8 (by kernel_rfl) (by kernel_rfl) (by kernel_rfl) (by kernel_rfl)) ?_
 intro W base args ds gs before hval hW _ _
 refine law_contract laidOut rfl rfl u_bool (by decide +kernel) ?_ ?_ W args ds gs before ?_ hW
 ·rintro (_ | ⟨d,_ | _⟩) h <;> first | rfl | (simp [Try.f4] at h)
 ·intro W args ds p hval hA
  obtain ⟨v0,d0,rfl,rfl,h0⟩:=trodAll_one (t:=22) hA
  obtain ⟨l,hl,_,hRl⟩:=open_arg_ints u_bytes u_u8 c_u8 (hval 0 _ v0 rfl rfl) h0
  exact ⟨[.sl (PV.encI .u8 l)],argsR_cons hRl (argsR_nil _ _),orders33_ok l hl⟩
 ·exact fun j t v h1 h2=>hval j t v h1 h2
theorem orders33_holds:Rows.CallgraphOrdersSaid :=
 OpenClaim.holds_of_wide 4 Try.f4 rfl rfl rfl rfl rfl rfl rfl ⟨rfl,rfl,rfl,rfl,rfl⟩ rfl rfl rfl rfl rfl (by kernel_rfl) Try.func4 (by kernel_rfl)
  (of_decide_eq_true (by kernel_rfl)) (by unfold Func.isWrapper; first | (rw [if_pos (by decide +kernel)]; kernel_rfl) | (rw [if_neg (by decide +kernel)]; exact ⟨rfl,rfl⟩))
  (fun os started H enc _=>orders33_lifted os started H enc)
end Go.Proofs.Ythginmfobikdgaa
