/- Chapter 31: the law StoreAdds holds for every input whose arguments are together of bulk at most 1048576: adding a piece answers as the reference does, valid stores and equal pieces are told apart as there. No further condition. -/
import Derived.Test.YthjoehaglonjaaaLwN
import Derived.Test.YthjoehaglonjaaaOpS
import Derived.Test.YthjoehaglonjaaaSuS
import Derived.JoinedCond
set_option maxRecDepth 8000
set_option linter.unusedSimpArgs false
set_option linter.unusedVariables false
namespace Go.Proofs.Ythjoehaglonjaaa
open Go.PV Go.ChangeShapes Go.WideShapes Go.ChangeAt Go.RowKit
theorem SzF.sm {x:FC} (h:SzF x):SmC x:=⟨by have:=h.1; simp only [mostB] at this; omega,by have:=h.2.1; simp only [mostB] at this; omega,by have:=h.2.2.1; simp only [mostB] at this; omega,fun s hs=>by have:=h.2.2.2 s hs; simp only [mostB] at this; omega⟩
set_option maxRecDepth 100000 in
theorem adds_lifted (os:Os) (started:os.Started) (H:Type) (enc:TypeId × Value → H) (F:Stop.Interp) :
  ReturnsInHanded {} Try.checked os 3 .any ((Rows.OpenSpec.upto Rows.storeAddsSpec).pre6 enc Try.prog Try.f3 Rows.storeAddsUptoRow.domain false) (((Rows.OpenSpec.upto Rows.storeAddsSpec).at F).post enc Try.prog Try.f3 false true false false):=by
 refine returnsInHanded_of_cond (C:=Try.checked) (s:=Rows.OpenSpec.upto Rows.storeAddsSpec) (k:=Rows.uptoSmall) rfl own started (by kernel_rfl) Try.func3
  (OpenSpec.witness (enc:=enc) (C:=Try.checked) (s:=Rows.OpenSpec.upto Rows.storeAddsSpec) (k:=Rows.uptoSmall) rfl false ⟨#[],#[.slice none 0 0,.agg #[.slice none 0 0,.slice none 0 0],.agg #[.int .i64 0,.int .i64 0,.int .i64 0,.int .u64 0,.slice none 0 0]],[]⟩ 8 (by kernel_rfl) (by kernel_rfl) (by kernel_rfl)
   (x:=([.nil,.agg [.nil,.nil],.agg [.lit (.int .i64 0),.lit (.int .i64 0),.lit (.int .i64 0),.lit (.int .u64 0),.agg [.nil]]],[],[])) (by kernel_rfl) rfl (by kernel_rfl)) ?_
 intro W base args ds gs before hval hW _ hk _
 refine law_contract1 laidOut rfl rfl u_bool (by decide +kernel) ?_ W args ds gs before ?_ hW
 ·rintro (_ | ⟨d1,_ | ⟨d2,_ | ⟨d3,_ | _⟩⟩⟩) h <;> first | rfl | (simp [Try.f3] at h)
 ·intro p hA
  obtain ⟨v0,v1,v2,d0,d1,d2,p0,p1,p2,rfl,rfl,rfl,h0,h1,h2⟩:=trodAll_three (t:=22) (t':=26) (t'':=32) hA
  have hb:Rows.uptoBulkAll (([d0,d1,d2]:List (DataW H)) ++ gs) ≤ 1048576:=of_decide_eq_true hk
  have b1:=bulkAll_mem ([d0,d1,d2] ++ gs) d1 (by simp)
  have b2:=bulkAll_mem ([d0,d1,d2] ++ gs) d2 (by simp)
  obtain ⟨l,hl,_,hR0⟩:=open_arg_ints u_bytes u_u8 c_u8 (hval 0 _ v0 rfl rfl) h0
  obtain ⟨fs1,hu1⟩:∃ fs,Try.prog.underlying 26 = some (.struct fs):=⟨_,Try.underlying26⟩
  obtain ⟨fs2,hu2⟩:∃ fs,Try.prog.underlying 32 = some (.struct fs):=⟨_,Try.underlying32⟩
  obtain ⟨s,hs,hR1⟩:=op_arg hu1 op_store (hval 1 _ v1 rfl rfl) h1 (Nat.le_trans b1 hb)
  obtain ⟨q,hq,hR2⟩:=op_arg hu2 op_pc (hval 2 _ v2 rfl rfl) h2 (Nat.le_trans b2 hb)
  exact ⟨[.sl (PV.encI .u8 l),stV s,.agg q.row],argsR_cons hR0 (argsR_cons hR1 (argsR_cons hR2 (argsR_nil _ _))),adds31_ok l hl s q ⟨by have:=hs.1; simp only [mostB] at this; omega,by have:=hs.2.1; simp only [mostB] at this; omega,fun p hp=>⟨by have:=(hs.2.2 p hp).1; simp only [mostB] at this; omega,fun x hx=>((hs.2.2 p hp).2 x hx).sm⟩⟩ ⟨by have:=hq.1; simp only [mostB] at this; omega,fun x hx=>(hq.2 x hx).sm⟩⟩
theorem adds_holds:Rows.StoreAddsUptoSaid :=
 OpenClaim.holds_of_cond 3 Try.f3 rfl rfl rfl rfl rfl rfl rfl ⟨rfl,rfl,rfl,rfl,rfl⟩ rfl rfl rfl rfl rfl (by kernel_rfl) Try.func3 (by kernel_rfl)
  (of_decide_eq_true (by kernel_rfl)) (by unfold Func.isWrapper; first | (rw [if_pos (by decide +kernel)]; kernel_rfl) | (rw [if_neg (by decide +kernel)]; exact ⟨rfl,rfl⟩))
  (fun os started H enc _ F=>adds_lifted os started H enc F)
end Go.Proofs.Ythjoehaglonjaaa
