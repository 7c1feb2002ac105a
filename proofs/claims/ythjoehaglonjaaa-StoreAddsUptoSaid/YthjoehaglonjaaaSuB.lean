import Derived.Test.YthjoehaglonjaaaSuL
set_option maxRecDepth 8000
set_option linter.unusedSimpArgs false
set_option linter.unusedVariables false
namespace Go.Proofs.Ythjoehaglonjaaa
open Go.PV
set_option maxHeartbeats 4000000 in
theorem same31_w (a b:StS) (ha:FitS a):PCall Try.prog 19 [stV a,stV b] [] (fun q _=>q = .bool (eqB a b)):=by
 have k0:∀ args σ,cl1.f 21 args σ = none:=fun _ _=>rfl
 have hal:=ha.1
 have hac:=ha.2.1
 have fno:¬ a = b → ∀ σ',Go.PV.Fin [] (fun q _=>q = PV.bool (eqB a b)) (.bool false) σ':=fun h σ'=>fin0 (.keep _ (bel_bool _ _)) (by rw [eqB_f h])
 unfold stV
 refine PCall.vfrz [] 576533320209268863 60 [.tmp 4] cl1_ok mix Try.func19 rfl (by decide) rfl rfl (by simp) ?_
 simp -dsimp only [initFr,List.zipIdx_cons,List.zipIdx_nil,List.map_cons,List.map_nil,Nat.zero_add,Nat.reduceAdd]
 simp -dsimp (maxSteps:=4000000) +contextual (disch:=first | omega | decide +kernel) only [↓vsD,vsE,↓Nat.reduceLT,simprocAttr,cl1_in,cl1_p2,cl1_tg,cl1_cid,cl1_comp,cl1_rcomp,cl1_ident,cl1_rid,vcel,encP_length,encD_length]
 refine ⟨fun hl1=>⟨fun hl2=>?_,fun h=>fno (fun e=>h (by rw [e])) _⟩,fun h=>fno (fun e=>h (by rw [e])) _⟩
 refine v_loopS (fun i:Nat=>[(2,.ptr 0 0 0 0),(3,.ptr 1 0 0 0),(5,.int .i64 i)]) (fun _=>[.rows 26 2 [[.sl (encP a.ps),.sl (encD a.cs)]] 0,.rows 26 2 [[.sl (encP b.ps),.sl (encD b.cs)]] 0])
  (fun i=>i ≤ a.ps.length ∧ ∀ j,j < i → a.ps.getD j default = b.ps.getD j default) (fun i=>a.ps.length - i) 0 (by simp [weaker,Go.PV.look]) rfl ⟨Nat.zero_le _,fun j h=>absurd h (Nat.not_lt_zero _)⟩ ?_
 rintro i ⟨hi,hj⟩
 by_cases hil:i < a.ps.length
 ·have hr1:=encP_getD a.ps i hil
  have hr2:=encP_getD b.ps i (by omega)
  have heq:=rEq_on (a.ps.getD i default) (b.ps.getD i default) (ha.2.2 _ (gtD hil))
  rw [Pc.row,Pc.row] at heq
  simp -dsimp (maxSteps:=4000000) +contextual (disch:=first | omega | decide +kernel) only [↓vsD,vsE,↓Nat.reduceLT,simprocAttr,cl1_in,cl1_p2,cl1_tg,cl1_cid,cl1_comp,cl1_rcomp,cl1_ident,cl1_rid,vcel,encP_length,encD_length,hr1,hr2,k0]
  refine v_draws _ _ _ _ _ _ [10] [] [(0,0),(0,0),(0,0),(0,0),(0,0),(0,0),(0,0),(0,0),(0,0),(0,0),(0,0),(1,1)] (by decide +kernel) (by decide +kernel) (by decide +kernel) (by decide +kernel) ?_
  simp -dsimp (maxSteps:=4000000) +contextual (disch:=first | omega | decide +kernel) only [↓vsD,vsE,↓Nat.reduceLT,simprocAttr,cl1_in,cl1_p2,cl1_tg,cl1_cid,cl1_comp,cl1_rcomp,cl1_ident,cl1_rid,vdA,↓vd_end,↓vdm_go,↓vd_op,↓guard_none,↓guard_some,vcel,encP_length,encD_length,hr1,hr2,k0]
  refine ⟨_,_,heq _,by simp [rowsAt,outR],?_⟩
  by_cases he:a.ps.getD i default = b.ps.getD i default
  ·rw [eqB_t he]
   simp -dsimp (maxSteps:=4000000) +contextual (disch:=first | omega | decide +kernel) only [↓vsD,vsE,↓Nat.reduceLT,simprocAttr,cl1_in,cl1_p2,cl1_tg,cl1_cid,cl1_comp,cl1_rcomp,cl1_ident,cl1_rid,vdA,↓vd_end,↓vdm_go,↓vd_op,↓guard_none,↓guard_some,vcel]
   exact ⟨i + 1,(by (try dsimp only); omega),by simp [weaker,Go.PV.look],rfl,hil,nextJ hj he⟩
  ·rw [eqB_f he]
   simp -dsimp (maxSteps:=4000000) +contextual (disch:=first | omega | decide +kernel) only [↓vsD,vsE,↓Nat.reduceLT,simprocAttr,cl1_in,cl1_p2,cl1_tg,cl1_cid,cl1_comp,cl1_rcomp,cl1_ident,cl1_rid,vdA,↓vd_end,↓vdm_go,↓vd_op,↓guard_none,↓guard_some,vcel]
   exact fno (fun e=>he (by rw [e])) _
 ·simp -dsimp (maxSteps:=4000000) +contextual (disch:=first | omega | decide +kernel) only [↓vsD,vsE,↓Nat.reduceLT,simprocAttr,cl1_in,cl1_p2,cl1_tg,cl1_cid,cl1_comp,cl1_rcomp,cl1_ident,cl1_rid,vcel,encP_length,encD_length]
  have hps:a.ps = b.ps:=listExt (d:=default) (by omega) (fun j hjb=>hj j (by omega))
  refine v_loopS (fun i:Nat=>[(2,.ptr 0 0 0 0),(3,.ptr 1 0 0 0),(6,.int .i64 i)]) (fun _=>[.rows 26 2 [[.sl (encP a.ps),.sl (encD a.cs)]] 0,.rows 26 2 [[.sl (encP b.ps),.sl (encD b.cs)]] 0])
   (fun i=>i ≤ a.cs.length ∧ ∀ j,j < i → a.cs.getD j default = b.cs.getD j default) (fun i=>a.cs.length - i) 0 (by simp [weaker,Go.PV.look]) rfl ⟨Nat.zero_le _,fun j h=>absurd h (Nat.not_lt_zero _)⟩ ?_
  rintro i ⟨hi,hj⟩
  by_cases hil:i < a.cs.length
  ·have hr1:=encD_getD a.cs i hil
   have hr2:=encD_getD b.cs i (by omega)
   simp -dsimp (maxSteps:=4000000) +contextual (disch:=first | omega | decide +kernel) only [↓vsD,vsE,↓Nat.reduceLT,simprocAttr,cl1_in,cl1_p2,cl1_tg,cl1_cid,cl1_comp,cl1_rcomp,cl1_ident,cl1_rid,vcel,encP_length,encD_length,hr1,hr2,neD]
   exact ⟨fun h=>⟨i + 1,(by (try dsimp only); omega),by simp [weaker,Go.PV.look],rfl,hil,nextJ hj h⟩,fun h=>fno (fun e=>h (by rw [e])) _⟩
  ·have hcs:a.cs = b.cs:=listExt (d:=default) (by omega) (fun j hjb=>hj j (by omega))
   simp -dsimp (maxSteps:=4000000) +contextual (disch:=first | omega | decide +kernel) only [↓vsD,vsE,↓Nat.reduceLT,simprocAttr,cl1_in,cl1_p2,cl1_tg,cl1_cid,cl1_comp,cl1_rcomp,cl1_ident,cl1_rid,vcel,encP_length,encD_length]
   exact fin0 (.keep _ (bel_bool _ _)) (by rw [eqB_t (st_eq.2 ⟨hps,hcs⟩)])
theorem same31_on (a b:StS) (ha:FitS a) (σ:Store):PCall Try.prog 19 [stV a,stV b] σ (fun q τ=>q = .bool (eqB a b) ∧ τ = σ) :=
 PCall.lift (same31_w a b ha) (bel2 (bel_st _ _) (bel_st _ _)) (fun q h=>⟨by rw [h]; exact bel_bool _ _,h,rfl⟩)
theorem sameR {r1 r2:List PV} {s1 s2:StS} (h1:∀ zs σ,Frzn zs σ (.agg r1) (stV s1)) (h2:∀ zs σ,Frzn zs σ (.agg r2) (stV s2)) (hf:FitS s1) (he:s1 = s2) (σ:Store) :
  PCall Try.prog 19 [.agg r1,.agg r2] σ (fun q τ=>q = .bool true ∧ τ = σ):=by
 refine PCall.frz [] (args2:=[stV s1,stV s2]) (PCall.mono (same31_on s1 s2 hf _) ?_) rfl (fun j a b e1 e2=>?_)
 ·rintro q τ ⟨rfl,rfl⟩
  rw [eqB_t he]
  exact ⟨rfl,rfl⟩
 ·match j,e1,e2 with
  | 0,e1,e2=>simp at e1 e2; subst e1 e2; exact h1 _ _
  | 1,e1,e2=>simp at e1 e2; subst e1 e2; exact h2 _ _
  | j + 2,e1,e2=>simp at e1
end Go.Proofs.Ythjoehaglonjaaa
