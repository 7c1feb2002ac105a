/- Chapter 37: the law BlockorderLimits holds for every input: a function of as many blocks as there may be for the best order has one that is at least as good as chains. No condition. -/
import Derived.Test.YtangodmcbmeeaaaTy
import Derived.Test.YtangodmcbmeeaaaEnA
import Derived.Test.YtangodmcbmeeaaaPvO
import Derived.Test.YtangodmcbmeeaaaPvY
import Derived.Test.YtangodmcbmeeaaaRows
import Derived.Test.YtangodmcbmeeaaaBoK
set_option maxRecDepth 8000
/- The rows: facts on the program. -/
set_option maxRecDepth 8000
set_option linter.unusedSimpArgs false
set_option linter.unusedVariables false
namespace Go.Proofs.Ytangodmcbmeeaaa
open Go.PV
theorem own:ownKnob Try.prog.godebug = none:=by kernel_rfl
theorem laidOut:laidOutB Try.prog = true:=by kernel_rfl
end Go.Proofs.Ytangodmcbmeeaaa

set_option linter.unusedSimpArgs false
set_option linter.unusedVariables false
namespace Go.Proofs.Ytangodmcbmeeaaa
open Go.PV
theorem newO (l:List Int) (n:Nat) (σ:Store):PCall Try.prog 10 [.sl (PV.encI .u8 l),.int .i64 n] σ (fun p σ'=>p = .ptr σ.length 0 0 0 ∧ σ' = σ ++ [codes (l.take n) 0]):=by
 refine PCall.vraw [] 287 15 [.tmp 4] (noE_ok _) mix Try.func10 rfl (by decide) rfl rfl (by simp) ?_
 simp -dsimp only [initFr,List.zipIdx_cons,List.zipIdx_nil,List.map_cons,List.map_nil,Nat.zero_add,Nat.reduceAdd]
 simp -dsimp (maxSteps:=4000000) +contextual (disch:=first | omega | decide +kernel) only [↓vsD,vsE,↓Nat.reduceLT,simprocAttr,enc_length,enc_all,enc_take]
 exact ⟨fun h=>rfl,fun h=>by rw [List.take_of_length_le (show l.length ≤ n by omega)]; rfl⟩
set_option maxRecDepth 8000 in
set_option maxHeartbeats 32000000 in
theorem limits37_ok (l:List Int) (hl:okInts .u8 l) (x:Int) (hx:0 ≤ x ∧ x ≤ 255):PCall Try.prog 4 [.sl (PV.encI .u8 l),.int .u8 x] [] (fun q _=>q = .bool true):=by
 have hcl:okInts .u8 (l.take 200):=fun x hx=>hl x (List.mem_of_mem_take hx)
 have hcn:(l.take 200).length < 2 ^ 40:=by rw [List.length_take]; omega
 obtain ⟨cs,hcs⟩:∃ cs,cs = l.take 200:=⟨_,rfl⟩
 have hnew:=newO l 200 []
 rw [← hcs] at hcl hcn hnew
 obtain ⟨u,hu⟩:∃ u,u = x.tmod 4:=⟨_,rfl⟩
 have hu2:0 ≤ u ∧ u < 4:=by
  rw [hu]
  exact ⟨Int.tmod_nonneg _ hx.1,Int.tmod_lt_of_pos _ (by decide)⟩
 obtain ⟨n,hn⟩:∃ n:Nat,(n:Int) = 9 - u:=⟨(9 - u).toNat,by omega⟩
 have hn6:6 ≤ n:=by omega
 have hn9:n ≤ 9:=by omega
 have k0:∀ args σ,noE.f 9 args σ = none:=fun _ _=>rfl
 have k1:∀ args σ,noE.f 10 args σ = none:=fun _ _=>rfl
 have k2:∀ args σ,noE.f 11 args σ = none:=fun _ _=>rfl
 have k3:∀ args σ,noE.f 14 args σ = none:=fun _ _=>rfl
 have k4:∀ args σ,noE.f 13 args σ = none:=fun _ _=>rfl
 have k5:∀ args σ,noE.f 12 args σ = none:=fun _ _=>rfl
 have k6:∀ args σ,noE.f 16 args σ = none:=fun _ _=>rfl
 have k7:∀ args σ,noE.f 15 args σ = none:=fun _ _=>rfl
 have k8:∀ args σ,noE.f 17 args σ = none:=fun _ _=>rfl
 refine PCall.vfrz [] 24575 79 [.tmp 4] (noE_ok _) mix Try.func4 rfl (by decide) rfl rfl (by simp) ?_
 simp -dsimp only [initFr,List.zipIdx_cons,List.zipIdx_nil,List.map_cons,List.map_nil,Nat.zero_add,Nat.reduceAdd]
 simp -dsimp (maxSteps:=4000000) +contextual (disch:=first | omega | decide +kernel) only [↓vsD,vsE,↓Nat.reduceLT,simprocAttr,k0]
 refine PCall.mono (awake37_on _) ?_
 rintro p τ ⟨rfl,rfl⟩
 simp -dsimp (maxSteps:=4000000) +contextual (disch:=first | omega | decide +kernel) only [↓vsD,vsE,↓Nat.reduceLT,simprocAttr,k1]
 refine PCall.mono hnew ?_
 rintro p τ ⟨rfl,rfl⟩
 simp -dsimp (maxSteps:=4000000) +contextual (disch:=first | omega | decide +kernel) only [↓vsD,vsE,↓Nat.reduceLT,simprocAttr,k2,← hu,← hn]
 refine PCall.mono (wide_w cs n (by omega) (by omega) hcl hcn) ?_
 rintro p τ ⟨T,B,E,k,rfl,rfl,hI⟩
 obtain ⟨hG,hkk,hne⟩:=hI.good (by omega) (by omega)
 have hlt:=hI.lt
 obtain ⟨o,⟨hop,_⟩,hoc⟩:=chains_ex nmE nmE_cell (nmE_bel 0) hG hkk hne (by omega)
 have he:=exact_on nmE nmE_cell (nmE_bel 0) hG hkk hne (by omega)
 have hep:=exact_perm (ws:=waysF T E T.length) (fun w hw=>(hG.way hw).2.2.1) hG.n0
 have hem:=exact_most (ws:=waysF T E T.length) (fun w hw=>(hG.way hw).2.2.1) hG.n0 hop
 obtain ⟨eo,heo⟩:∃ eo,castL (exactO (wt (waysF T E T.length)) T.length) = 0 :: eo:=⟨_,rfl⟩
 rw [heo] at he hep hem
 have c3:=exactE_on nmE nmE_cell (nmE_bel 0) hG (by omega) _ he
 have c4:=chainsF_on nmE nmE_cell (nmE_bel 0) hG _ hoc
 have c5:=orderE_on nmE nmE_cell (nmE_bel 0) hG (by omega) _ he
 have lep:(0 :: eo).length ≤ 1000:=by rw [hep.length_eq,natB_length]; omega
 have c6:=intsEq_ok (0 :: eo) lep
 have c7:=rordered_on nmE nmE_cell (nmE_bel 0) T hG.n0 hG.n eo hep
 have c8:=rordered_on nmE nmE_cell (nmE_bel 0) T hG.n0 hG.n o hop
 have c9:=weight_on nmE nmE_cell (nmE_bel 0) hG hkk hne eo hep
 have c10:=weight_on nmE nmE_cell (nmE_bel 0) hG hkk hne o hop
 generalize wsum (waysF T E T.length) (0 :: eo) = a at c9 hem
 generalize wsum (waysF T E T.length) (0 :: o) = b at c10 hem
 generalize 0 :: eo = A at c3 c5 c6 c7 c9
 generalize 0 :: o = D at c4 c8 c10
 clear hI hG hkk hne hop hoc he hep heo lep hcl hcn hcs hl
 unfold fnV cnV at c3 c4 c5 c9 c10 ⊢
 unfold fnV at c7 c8
 simp -dsimp (maxSteps:=4000000) +contextual (disch:=first | omega | decide +kernel) only [↓vsD,vsE,↓Nat.reduceLT,simprocAttr,vcel,nmE_cell,k3]
 refine PCall.mono (c3 _) ?_
 rintro p τ ⟨rfl,rfl⟩
 simp -dsimp (maxSteps:=4000000) +contextual (disch:=first | omega | decide +kernel) only [↓vsD,vsE,↓Nat.reduceLT,simprocAttr,vcel,nmE_cell,k4]
 refine PCall.mono (c4 _) ?_
 rintro p τ ⟨rfl,rfl⟩
 simp -dsimp (maxSteps:=4000000) +contextual (disch:=first | omega | decide +kernel) only [↓vsD,vsE,↓Nat.reduceLT,simprocAttr,vcel,nmE_cell,k5]
 refine PCall.mono (c5 _) ?_
 rintro p τ ⟨rfl,rfl⟩
 simp -dsimp (maxSteps:=4000000) +contextual (disch:=first | omega | decide +kernel) only [↓vsD,vsE,↓Nat.reduceLT,simprocAttr,vcel,nmE_cell,k6]
 refine v_draws _ _ _ _ _ _ [13,18,23,29,33] [] [(0,0),(0,0),(0,0),(0,0),(0,0),(0,0),(0,0),(0,0),(0,0),(0,0),(0,0),(0,0),(0,0),(0,0),(1,1),(1,1),(1,1),(1,1),(0,0),(2,2),(2,2),(2,2),(2,2),(0,0),(3,3),(3,3),(3,3),(3,3),(3,3),(0,0),(3,4),(3,4),(3,4),(0,0),(5,5),(5,5),(5,5)] (by decide +kernel) (by decide +kernel) (by decide +kernel) (by decide +kernel) ?_
 simp -dsimp (maxSteps:=4000000) +contextual (disch:=first | omega | decide +kernel) only [↓vsD,vsE,↓Nat.reduceLT,simprocAttr,vdA,↓vd_end,↓vdm_go,↓vd_op,↓guard_none,↓guard_some,vcel,nmE_cell,k6,k7,k8]
 refine ⟨_,_,c6 _,by simp [outR,rowsAt],?_⟩
 simp -dsimp (maxSteps:=4000000) +contextual (disch:=first | omega | decide +kernel) only [↓vsD,vsE,↓Nat.reduceLT,simprocAttr,vdA,↓vd_end,↓vdm_go,↓vd_op,↓guard_none,↓guard_some,vcel,nmE_cell,k6,k7,k8]
 refine ⟨_,_,c7 _,by simp [outR,rowsAt],?_⟩
 simp -dsimp (maxSteps:=4000000) +contextual (disch:=first | omega | decide +kernel) only [↓vsD,vsE,↓Nat.reduceLT,simprocAttr,vdA,↓vd_end,↓vdm_go,↓vd_op,↓guard_none,↓guard_some,vcel,nmE_cell,k6,k7,k8]
 refine ⟨_,_,c8 _,by simp [outR,rowsAt],?_⟩
 simp -dsimp (maxSteps:=4000000) +contextual (disch:=first | omega | decide +kernel) only [↓vsD,vsE,↓Nat.reduceLT,simprocAttr,vdA,↓vd_end,↓vdm_go,↓vd_op,↓guard_none,↓guard_some,vcel,nmE_cell,k6,k7,k8]
 refine ⟨_,_,c9 _,by simp [outR,rowsAt],?_⟩
 simp -dsimp (maxSteps:=4000000) +contextual (disch:=first | omega | decide +kernel) only [↓vsD,vsE,↓Nat.reduceLT,simprocAttr,vdA,↓vd_end,↓vdm_go,↓vd_op,↓guard_none,↓guard_some,vcel,nmE_cell,k6,k7,k8]
 refine ⟨_,_,c10 _,by simp [outR,rowsAt],?_⟩
 simp -dsimp (maxSteps:=4000000) +contextual (disch:=first | omega | decide +kernel) only [↓vsD,vsE,↓Nat.reduceLT,simprocAttr,vdA,↓vd_end,↓vdm_go,↓vd_op,↓guard_none,↓guard_some,vcel,nmE_cell,k6,k7,k8]
 exact fin0 (.keep _ (bel_bool _ _)) rfl
end Go.Proofs.Ytangodmcbmeeaaa

set_option linter.unusedSimpArgs false
set_option linter.unusedVariables false
namespace Go.Proofs.Ytangodmcbmeeaaa
open Go.PV Go.ChangeShapes Go.WideShapes Go.ChangeAt Go.RowKit
set_option maxRecDepth 100000 in
theorem olimits_lifted (os:Os) (started:os.Started) (H:Type) (enc:TypeId × Value → H) :
  ReturnsInHanded {} Try.checked os 4 .any (Rows.blockorderLimitsSpec.pre6 enc Try.prog Try.f4 Rows.blockorderLimitsRow.domain false) (Rows.blockorderLimitsSpec.post enc Try.prog Try.f4 false true false false):=by
 refine returnsInHanded_of_change (C:=Try.checked) own started (by kernel_rfl) Try.func4
  (ChangeSpec.witness6 (enc:=enc) (C:=Try.checked) false ⟨#[],#[.slice none 0 0,.int .u8 0],[]⟩ 8 (by kernel_rfl) (by kernel_rfl) (by kernel_rfl) (by kernel_rfl)) ?_
 intro W base args ds gs before hval hW _ _
 refine law_contract laidOut rfl rfl u_bool (by decide +kernel) ?_ ?_ W args ds gs before ?_ hW
 ·rintro (_ | ⟨d,_ | ⟨d2,_ | _⟩⟩) h <;> first | rfl | (simp [Try.f4] at h)
 ·intro W args ds p hval hA
  obtain ⟨v0,v1,d0,d1,p0,p1,rfl,rfl,rfl,h0,h1⟩:=trodAll_two (t:=22) (t':=5) hA
  obtain ⟨l,hl,_,hRl⟩:=open_arg_ints u_bytes u_u8 c_u8 (hval 0 _ v0 rfl rfl) h0
  obtain ⟨n,hn,hRn⟩:=open_arg_int u_u8 (hval 1 _ v1 rfl rfl) h1
  have hy:0 ≤ n ∧ n ≤ 255:=by
   have h2:IntKind.u8.min ≤ n ∧ n ≤ IntKind.u8.max:=by simpa [Lit.wf] using hn
   exact h2
  exact ⟨[.sl (PV.encI .u8 l),.int .u8 n],argsR_cons hRl (argsR_cons hRn (argsR_nil _ _)),limits37_ok l hl n hy⟩
 ·exact fun j t v h1 h2=>hval j t v h1 h2
theorem olimits_holds:Rows.BlockorderLimitsSaid :=
 OpenClaim.holds_of_wide 4 Try.f4 rfl rfl rfl rfl rfl rfl rfl ⟨rfl,rfl,rfl,rfl,rfl⟩ rfl rfl rfl rfl rfl (by kernel_rfl) Try.func4 (by kernel_rfl)
  (of_decide_eq_true (by kernel_rfl)) (by unfold Func.isWrapper; first | (rw [if_pos (by decide +kernel)]; kernel_rfl) | (rw [if_neg (by decide +kernel)]; exact ⟨rfl,rfl⟩))
  (fun os started H enc _=>olimits_lifted os started H enc)
end Go.Proofs.Ytangodmcbmeeaaa
