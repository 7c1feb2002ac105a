import Derived.Test.YthjoehaglonjaaaStG
set_option maxRecDepth 8000
set_option linter.unusedSimpArgs false
set_option linter.unusedVariables false
namespace Go.Proofs.Ythjoehaglonjaaa
open Go.PV
noncomputable def ssB (nb n:Int) (l:List Site):Bool:=@decide (okSs nb n l) (Classical.propDecidable _)
theorem ssB_t {nb n:Int} {l:List Site} (h:okSs nb n l):ssB nb n l = true:=@decide_eq_true _ (Classical.propDecidable _) h
theorem ssB_f {nb n:Int} {l:List Site} (h:¬ okSs nb n l):ssB nb n l = false:=@decide_eq_false _ (Classical.propDecidable _) h
set_option maxHeartbeats 8000000 in
set_option maxRecDepth 20000 in
theorem rsites_w (nb n:Nat) (l:List Site) (hl:l.length < 2 ^ 63) (ht:∀ s ∈ l,s.tg.length < 2 ^ 63):PCall Try.prog 74 [.sl (encS l),.int .i64 nb,.int .i64 n] [] (fun p _=>p = .bool (ssB nb n l)):=by
 have fno:¬ okSs nb n l → ∀ σ',Go.PV.Fin [] (fun p _=>p = PV.bool (ssB nb n l)) (.bool false) σ':=fun h σ'=>fin0 (.keep _ (bel_bool _ _)) (by rw [ssB_f h])
 refine PCall.vfrz [] 1393796574908168917448952647395688985928703 141 [.tmp 6] sc2_ok mix Try.func74 rfl (by decide) rfl rfl (by simp) ?_
 simp -dsimp only [initFr,List.zipIdx_cons,List.zipIdx_nil,List.map_cons,List.map_nil,Nat.zero_add,Nat.reduceAdd]
 simp -dsimp (maxSteps:=4000000) +contextual (disch:=first | omega | decide +kernel) only [↓vsD,vsE,↓Nat.reduceLT,simprocAttr,sc2_cmp,sc2_cntd,sc2_numd,sc2_known,sc2_number,sc2_comp,sc2_rcomp,sc2_ord,sc2_id,sc2_rid,encS_length]
 refine v_loopS (fun s:Nat × Store=>[(0,.sl (encS l)),(1,.int .i64 nb),(2,.int .i64 n),(7,.int .i64 s.1)]) (fun s=>s.2) (fun s=>s.1 ≤ l.length ∧ ∀ b,b < s.1 → okSi nb n l b) (fun s=>l.length - s.1) (0,[]) (by simp [weaker,Go.PV.look]) rfl ⟨by simp,fun b h=>by simp at h⟩ ?_
 rintro ⟨i,Q⟩ ⟨hi,hS⟩
 dsimp only at hi hS ⊢
 by_cases hil:i < l.length
 ·have htl:=ht _ (gtD (d:=default) hil)
  have e1:((i:Int) - 1).toNat = i - 1:=by omega
  simp -dsimp (maxSteps:=4000000) +contextual (disch:=first | omega | decide +kernel) only [↓vsD,vsE,↓Nat.reduceLT,simprocAttr,sc2_cmp,sc2_cntd,sc2_numd,sc2_known,sc2_number,sc2_comp,sc2_rcomp,sc2_ord,sc2_id,sc2_rid,encS_length,encS_getD,e1]
  simp only [List.append_eq,List.cons_append,List.nil_append]
  simp -dsimp (maxSteps:=4000000) +contextual (disch:=first | omega | decide +kernel) only [↓vsD,vsE,↓Nat.reduceLT,simprocAttr,sc2_cmp,sc2_cntd,sc2_numd,sc2_known,sc2_number,sc2_comp,sc2_rcomp,sc2_ord,sc2_id,sc2_rid,encS_length,encS_getD,e1]
  refine ⟨fun h=>fno (fun o=>by have:=(o i hil).1; omega) _,fun g1=>⟨fun h=>fno (fun o=>by have:=(o i hil).1; omega) _,fun g2=>⟨fun h=>fno (fun o=>by have:=(o i hil).2.1; omega) _,fun g3=>⟨fun g4=>⟨fun h=>fno (fun o=>by
   have:=(o i hil).2.2.1 (by omega)
   unfold siteLt at this
   omega) _,fun g5=>⟨fun g6=>⟨fun h=>fno (fun o=>by
   have:=(o i hil).2.2.1 (by omega)
   unfold siteLt at this
   omega) _,fun g7=>?_⟩,fun g6=>?_⟩⟩,fun g4=>?_⟩⟩⟩⟩
  have hlt:0 < i → siteLt (l.getD (i - 1) default) (l.getD i default):=fun _=>by unfold siteLt; omega
  clear g4 g5 g6 g7
  rotate_left
  have hlt:0 < i → siteLt (l.getD (i - 1) default) (l.getD i default):=fun _=>by unfold siteLt; omega
  clear g4 g5 g6
  rotate_left
  have hlt:0 < i → siteLt (l.getD (i - 1) default) (l.getD i default):=fun h=>absurd h (by omega)
  clear g4
  all_goals
   have hdone:(∀ k,k < (l.getD i default).tg.length → okT n (l.getD i default).tg k) → okSi nb n l i:=fun h=>⟨by omega,by omega,hlt,h⟩
   have hno:∀ k,k < (l.getD i default).tg.length → ¬ okT n (l.getD i default).tg k → ¬ okSs nb n l:=fun k hk h o=>h ((o i hil).2.2.2 k hk)
   have hs1:i + 1 ≤ l.length:=hil
   have hrow:=encS_getD l i hil
   clear hlt e1
   generalize l.getD i default = s at *
   refine v_loopS (fun t:Nat × Store=>[(0,.sl (encS l)),(1,.int .i64 nb),(2,.int .i64 n),(7,.int .i64 i),(8,.int .i64 t.1)]) (fun t=>t.2)
    (fun t=>t.1 ≤ s.tg.length ∧ ∀ k,k < t.1 → okT n s.tg k) (fun t=>s.tg.length - t.1) (0,Q) (by simp [weaker,Go.PV.look]) rfl ⟨by simp,fun b h=>by simp at h⟩ ?_
   rintro ⟨k,R⟩ ⟨hk,hT⟩
   dsimp only at hk hT ⊢
   by_cases hkl:k < s.tg.length
   ·have e2:((k:Int) - 1).toNat = k - 1:=by omega
    have nx:okT n s.tg k → ∀ b,b < k + 1 → okT n s.tg b:=nextJ hT
    have hk1:k + 1 ≤ s.tg.length:=hkl
    simp -dsimp (maxSteps:=4000000) +contextual (disch:=first | omega | decide +kernel) only [↓vsD,vsE,↓Nat.reduceLT,simprocAttr,sc2_cmp,sc2_cntd,sc2_numd,sc2_known,sc2_number,sc2_comp,sc2_rcomp,sc2_ord,sc2_id,sc2_rid,encS_length,hrow,encT_length,encT_getD,vgap,e2]
    refine ⟨fun h=>fno (hno k hkl fun o=>by have:=o.1; omega) _,fun j1=>⟨fun h=>fno (hno k hkl fun o=>by have:=o.1; omega) _,fun j2=>⟨fun h=>fno (hno k hkl fun o=>by have:=o.2.1; omega) _,fun j3=>⟨fun h=>fno (hno k hkl fun o=>by have:=o.2.1; omega) _,fun j4=>⟨fun j5=>⟨fun h=>fno (hno k hkl fun o=>by have:=o.2.2 (by omega); omega) _,fun j6=>?_⟩,fun j5=>?_⟩⟩⟩⟩⟩
    ·exact ⟨(k + 1,_),(by (try dsimp only); omega),by simp [weaker,Go.PV.look],rfl,hk1,nx ⟨by omega,by omega,fun _=>by omega⟩⟩
    ·exact ⟨(k + 1,_),(by (try dsimp only); omega),by simp [weaker,Go.PV.look],rfl,hk1,nx ⟨by omega,by omega,fun h=>absurd h (by omega)⟩⟩
   ·have:=hdone (fun k h=>hT k (by omega))
    simp -dsimp (maxSteps:=4000000) +contextual (disch:=first | omega | decide +kernel) only [↓vsD,vsE,↓Nat.reduceLT,simprocAttr,sc2_cmp,sc2_cntd,sc2_numd,sc2_known,sc2_number,sc2_comp,sc2_rcomp,sc2_ord,sc2_id,sc2_rid,encS_length,hrow,encT_length]
    exact ⟨(i + 1,_),(by (try dsimp only); omega),by simp [weaker,Go.PV.look],rfl,hs1,nextJ hS this⟩
 ·simp -dsimp (maxSteps:=4000000) +contextual (disch:=first | omega | decide +kernel) only [↓vsD,vsE,↓Nat.reduceLT,simprocAttr,sc2_cmp,sc2_cntd,sc2_numd,sc2_known,sc2_number,sc2_comp,sc2_rcomp,sc2_ord,sc2_id,sc2_rid,encS_length]
  refine fin0 (.keep _ (bel_bool _ _)) ?_
  rw [ssB_t]
  exact fun b h=>hS b (by omega)
theorem rsites_on (nb n:Nat) (l:List Site) (hl:l.length < 2 ^ 63) (ht:∀ s ∈ l,s.tg.length < 2 ^ 63) (σ:Store):PCall Try.prog 74 [.sl (encS l),.int .i64 nb,.int .i64 n] σ (fun p σ'=>p = .bool (ssB nb n l) ∧ σ' = σ) :=
 PCall.lift (rsites_w nb n l hl ht) (bel3 (bel_sites _ l) (bel_int _ _ _) (bel_int _ _ _)) (fun p h=>⟨by rw [h]; exact bel_bool _ _,h,rfl⟩)
set_option maxHeartbeats 8000000 in
set_option maxRecDepth 20000 in
theorem rpval_w (p:Pc) (hp:FitP p):PCall Try.prog 45 [.agg p.row] [] (fun q _=>q = .bool (pcB p)):=by
 have fno:¬ OkPc p → ∀ σ',Go.PV.Fin [] (fun q _=>q = PV.bool (pcB p)) (.bool false) σ':=fun h σ'=>fin0 (.keep _ (bel_bool _ _)) (by rw [pcB_f h])
 have k0:∀ args σ,sc2.f 74 args σ = none:=fun _ _=>rfl
 have hfl:=hp.1
 unfold Pc.row
 refine PCall.vfrz [] 20769187474033862561404902701006975 115 [.tmp 2] sc2_ok mix Try.func45 rfl (by decide) rfl rfl (by simp) ?_
 simp -dsimp only [initFr,List.zipIdx_cons,List.zipIdx_nil,List.map_cons,List.map_nil,Nat.zero_add,Nat.reduceAdd]
 simp -dsimp (maxSteps:=4000000) +contextual (disch:=first | omega | decide +kernel) only [↓vsD,vsE,↓Nat.reduceLT,simprocAttr,sc2_cmp,sc2_cntd,sc2_numd,sc2_known,sc2_number,sc2_comp,sc2_rcomp,sc2_ord,sc2_id,sc2_rid,encF_length,k0]
 refine ⟨fun h1=>⟨fun h2=>⟨fun h3=>⟨fun h=>fno (fun o=>by have:=o.n; omega) _,fun h4=>⟨fun h=>fno (fun o=>by have:=o.n; omega) _,fun h5=>?_⟩⟩,fun h=>fno (fun o=>h o.r.2.2) _⟩,fun h=>fno (fun o=>h o.r.2.1) _⟩,fun h=>fno (fun o=>h o.r.1) _⟩
 refine v_loopS (fun s:Nat × Store=>[(1,.ptr 0 0 0 0),(3,.int .i64 p.fs.length),(4,.int .i64 s.1)]) (fun s=>.rows 32 5 [[.int .i64 p.id.1,.int .i64 p.id.2.1,.int .i64 p.id.2.2,.int .u64 p.dig,.sl (encF p.fs)]] 0 :: s.2) (fun s=>s.1 ≤ p.fs.length ∧ ∀ b,b < s.1 → OkFC p.fs.length (p.fs.getD b default)) (fun s=>p.fs.length - s.1) (0,[]) (by simp [weaker,Go.PV.look]) rfl ⟨by simp,fun b h=>by simp at h⟩ ?_
 rintro ⟨i,Q⟩ ⟨hi,hF⟩
 dsimp only at hi hF ⊢
 by_cases hil:i < p.fs.length
 ·have hfit:=hp.2 _ (gtD (d:=default) hil)
  have hno:¬ OkFC p.fs.length (p.fs.getD i default) → ¬ OkPc p:=fun h o=>h (o.f i hil)
  have hi1:i + 1 ≤ p.fs.length:=hil
  have hrow:=encF_getD p.fs i hil
  have hnx:OkFC p.fs.length (p.fs.getD i default) → _:=nextJ (p:=fun b=>OkFC p.fs.length (p.fs.getD b default)) hF
  generalize p.fs.getD i default = x at *
  have hb1:=hfit.1
  simp -dsimp (maxSteps:=4000000) +contextual (disch:=first | omega | decide +kernel) only [↓vsD,vsE,↓Nat.reduceLT,simprocAttr,sc2_cmp,sc2_cntd,sc2_numd,sc2_known,sc2_number,sc2_comp,sc2_rcomp,sc2_ord,sc2_id,sc2_rid,encF_length,hrow,enc_length,encT_length,vgap,k0]
  refine ⟨fun h=>fno (hno fun o=>by have:=o.l; omega) _,fun g1=>⟨fun h=>fno (hno fun o=>by have:=o.l; omega) _,fun g2=>⟨fun g3=>⟨fun g4=>?_,fun h=>fno (hno fun o=>h o.c) _⟩,fun h=>fno (hno fun o=>h (by have:=o.e; omega)) _⟩⟩⟩
  have g3:x.edges.length = x.blocks.length:=by omega
  refine PCall.mono (rsites_on x.blocks.length p.fs.length x.sites hfit.2.2.1 hfit.2.2.2 _) ?_
  rintro q τ ⟨rfl,rfl⟩
  have e4:=decide_eq_true g4
  by_cases hS:okSs x.blocks.length p.fs.length x.sites
  ·rw [ssB_t hS]
   simp -dsimp (maxSteps:=4000000) +contextual (disch:=first | omega | decide +kernel) only [↓vsD,vsE,↓Nat.reduceLT,simprocAttr,sc2_cmp,sc2_cntd,sc2_numd,sc2_known,sc2_number,sc2_comp,sc2_rcomp,sc2_ord,sc2_id,sc2_rid,encF_length,enc_length,encT_length,vgap,k0,e4]
   refine v_loopS (fun b:Nat=>[(1,.ptr 0 0 0 0),(3,.int .i64 p.fs.length),(4,.int .i64 i),(5,.ptr (Q.length + 1) 0 0 0),(6,.int .i64 b)]) (fun _=>.rows 32 5 [[.int .i64 p.id.1,.int .i64 p.id.2.1,.int .i64 p.id.2.2,.int .u64 p.dig,.sl (encF p.fs)]] 0 :: (Q ++ [.rows 66 4 [[.int .i64 x.ent,.sl (ints x.blocks),.sl (encT x.edges),.sl (encS x.sites)]] 0]))
    (fun b=>b ≤ x.blocks.length ∧ ∀ j,j < b → okBl x j) (fun b=>x.blocks.length - b) 0 (by simp [weaker,Go.PV.look]) rfl ⟨by omega,fun j h=>by omega⟩ ?_
   rintro b ⟨hb,hB⟩
   by_cases hbl:b < x.blocks.length
   ·have hbl1:b + 1 ≤ x.blocks.length:=hbl
    simp -dsimp (maxSteps:=4000000) +contextual (disch:=first | omega | decide +kernel) only [↓vsD,vsE,↓Nat.reduceLT,simprocAttr,sc2_cmp,sc2_cntd,sc2_numd,sc2_known,sc2_number,sc2_comp,sc2_rcomp,sc2_ord,sc2_id,sc2_rid,encF_length,enc_length,encT_length,enc_getD,encT_getD,vgap,k0,e4]
    exact ⟨fun j1=>⟨fun j2=>⟨fun j3=>⟨b + 1,(by (try dsimp only); omega),by simp [weaker,Go.PV.look],rfl,hbl1,nextJ hB ⟨j1,j2,j3⟩⟩,fun h=>fno (hno fun o=>h (o.b b hbl).2.2) _⟩,fun h=>fno (hno fun o=>h (o.b b hbl).2.1) _⟩,fun h=>fno (hno fun o=>h (o.b b hbl).1) _⟩
   ·simp -dsimp (maxSteps:=4000000) +contextual (disch:=first | omega | decide +kernel) only [↓vsD,vsE,↓Nat.reduceLT,simprocAttr,sc2_cmp,sc2_cntd,sc2_numd,sc2_known,sc2_number,sc2_comp,sc2_rcomp,sc2_ord,sc2_id,sc2_rid,encF_length,enc_length,encT_length,vgap,k0,e4]
    exact ⟨(i + 1,_),(by (try dsimp only); omega),by simp [weaker,Go.PV.look],rfl,hi1,hnx ⟨by omega,g3,g4,fun b h=>hB b (by omega),hS⟩⟩
  ·rw [ssB_f hS]
   simp -dsimp (maxSteps:=4000000) +contextual (disch:=first | omega | decide +kernel) only [↓vsD,vsE,↓Nat.reduceLT,simprocAttr,sc2_cmp,sc2_cntd,sc2_numd,sc2_known,sc2_number,sc2_comp,sc2_rcomp,sc2_ord,sc2_id,sc2_rid,encF_length,enc_length,encT_length,vgap,k0,e4]
   exact fno (hno fun o=>hS o.s) _
 ·simp -dsimp (maxSteps:=4000000) +contextual (disch:=first | omega | decide +kernel) only [↓vsD,vsE,↓Nat.reduceLT,simprocAttr,sc2_cmp,sc2_cntd,sc2_numd,sc2_known,sc2_number,sc2_comp,sc2_rcomp,sc2_ord,sc2_id,sc2_rid,encF_length]
  refine fin0 (.keep _ (bel_bool _ _)) ?_
  rw [pcB_t]
  exact ⟨⟨h1,h2,h3⟩,by omega,fun i h=>hF i (by omega)⟩
theorem rpval_on (p:Pc) (hp:FitP p) (σ:Store):PCall Try.prog 45 [.agg p.row] σ (fun q σ'=>q = .bool (pcB p) ∧ σ' = σ) :=
 PCall.lift (rpval_w p hp) (bel1 (bel_pc _ p)) (fun q h=>⟨by rw [h]; exact bel_bool _ _,h,rfl⟩)
theorem confl_w (s:StS) (x:Idn) (hl:s.cs.length < 2 ^ 63):PCall Try.prog 48 [stV s,.agg (idRow x)] [] (fun q _=>q = .bool (decide (x ∈ s.cs))):=by
 unfold stV idRow
 refine PCall.vfrz [] 525375 20 [.tmp 4] (noE_ok _) mix Try.func48 rfl (by decide) rfl rfl (by simp) ?_
 simp -dsimp only [initFr,List.zipIdx_cons,List.zipIdx_nil,List.map_cons,List.map_nil,Nat.zero_add,Nat.reduceAdd]
 simp -dsimp (maxSteps:=4000000) +contextual (disch:=first | omega | decide +kernel) only [↓vsD,vsE,↓Nat.reduceLT,simprocAttr,encD_length]
 refine v_loopS (fun i:Nat=>[(2,.ptr 0 0 0 0),(3,.ptr 1 0 0 0),(5,.int .i64 i)]) (fun _=>[.rows 26 2 [[.sl (encP s.ps),.sl (encD s.cs)]] 0,.rows 58 3 [[.int .i64 x.1,.int .i64 x.2.1,.int .i64 x.2.2]] 0]) (fun i=>i ≤ s.cs.length ∧ ∀ j,j < i → ¬ s.cs.getD j default = x) (fun i=>s.cs.length - i) 0 (by simp [weaker,Go.PV.look]) rfl ⟨Nat.zero_le _,fun j h=>absurd h (Nat.not_lt_zero _)⟩ ?_
 rintro i ⟨hi,hj⟩
 by_cases hil:i < s.cs.length
 ·simp -dsimp (maxSteps:=4000000) +contextual (disch:=first | omega | decide +kernel) only [↓vsD,vsE,↓Nat.reduceLT,simprocAttr,encD_length,encD_getD,eqD]
  refine ⟨fun h=>fin0 (.keep _ (bel_bool _ _)) ?_,fun h=>⟨i + 1,(by (try dsimp only); omega),by simp [weaker,Go.PV.look],rfl,hil,nextJ hj h⟩⟩
  rw [decide_eq_true]
  first | exact gtD hil | (rw [← h]; exact gtD hil)
 ·simp -dsimp (maxSteps:=4000000) +contextual (disch:=first | omega | decide +kernel) only [↓vsD,vsE,↓Nat.reduceLT,simprocAttr,encD_length]
  refine fin0 (.keep _ (bel_bool _ _)) ?_
  rw [decide_eq_false]
  intro h
  obtain ⟨j,hj2,he⟩:=List.mem_iff_getElem.1 h
  refine hj j (by omega) ?_
  rw [List.getD_eq_getElem?_getD,List.getElem?_eq_getElem hj2,← he]; rfl
theorem confl_on (s:StS) (x:Idn) (hl:s.cs.length < 2 ^ 63) (σ:Store):PCall Try.prog 48 [stV s,.agg (idRow x)] σ (fun q σ'=>q = .bool (decide (x ∈ s.cs)) ∧ σ' = σ) :=
 PCall.lift (confl_w s x hl) (bel2 (bel_st _ s) (bel_id _ x)) (fun q h=>⟨by rw [h]; exact bel_bool _ _,h,rfl⟩)
set_option maxHeartbeats 8000000 in
set_option maxRecDepth 20000 in
theorem rsval_w (s:StS) (hs:FitS s):PCall Try.prog 16 [stV s] [] (fun q _=>q = .bool (stB s)):=by
 obtain ⟨hs1,hs2,hs3⟩:=hs
 have fno:¬ OkSt s → ∀ σ',Go.PV.Fin [] (fun q _=>q = PV.bool (stB s)) (.bool false) σ':=fun h σ'=>fin0 (.keep _ (bel_bool _ _)) (by rw [stB_f h])
 have k0:∀ args σ,sc2.f 45 args σ = none:=fun _ _=>rfl
 have k1:∀ args σ,sc2.f 48 args σ = none:=fun _ _=>rfl
 unfold stV
 refine PCall.vfrz [] 151120483253035150217247 78 [.tmp 2] sc2_ok mix Try.func16 rfl (by decide) rfl rfl (by simp) ?_
 simp -dsimp only [initFr,List.zipIdx_cons,List.zipIdx_nil,List.map_cons,List.map_nil,Nat.zero_add,Nat.reduceAdd]
 simp -dsimp (maxSteps:=4000000) +contextual (disch:=first | omega | decide +kernel) only [↓vsD,vsE,↓Nat.reduceLT,simprocAttr,sc2_cmp,sc2_cntd,sc2_numd,sc2_known,sc2_number,sc2_comp,sc2_rcomp,sc2_ord,sc2_id,sc2_rid,encP_length,encD_length]
 refine ⟨fun h=>fno (fun o=>by have:=o.n; omega) _,fun h1=>?_⟩
 refine v_loopS (fun i:Nat=>[(1,.ptr 0 0 0 0),(3,.int .i64 i)]) (fun _=>[.rows 26 2 [[.sl (encP s.ps),.sl (encD s.cs)]] 0]) (fun i=>i ≤ s.ps.length ∧ ∀ j,j < i → OkPc (s.ps.getD j default) ∧ (0 < j → idlt (s.ps.getD (j - 1) default).id (s.ps.getD j default).id) ∧ (s.ps.getD j default).id ∉ s.cs) (fun i=>s.ps.length - i) 0 (by simp [weaker,Go.PV.look]) rfl ⟨Nat.zero_le _,fun j h=>absurd h (Nat.not_lt_zero _)⟩ ?_
 rintro i ⟨hi,hj⟩
 by_cases hil:i < s.ps.length
 ·have hp:=rpval_on (s.ps.getD i default) (hs3 _ (gtD hil))
  have hc:=confl_on s (s.ps.getD i default).id (by omega)
  unfold Pc.row at hp
  unfold stV idRow at hc
  have e1:((i:Int) - 1).toNat = i - 1:=by omega
  simp -dsimp (maxSteps:=4000000) +contextual (disch:=first | omega | decide +kernel) only [↓vsD,vsE,↓Nat.reduceLT,simprocAttr,sc2_cmp,sc2_cntd,sc2_numd,sc2_known,sc2_number,sc2_comp,sc2_rcomp,sc2_ord,sc2_id,sc2_rid,encP_length,encP_getD,k0,k1,e1]
  refine v_draws _ _ _ _ _ _ [5,17,23,24,35,36] [] [(0,0),(0,0),(0,0),(0,0),(0,0),(0,0),(1,1),(1,1),(1,1),(1,1),(1,1),(1,1),(1,1),(1,1),(1,1),(1,1),(1,1),(0,0),(1,2),(1,2),(1,2),(1,2),(1,2),(0,0),(0,0),(4,4),(4,4),(4,4),(4,4),(4,5),(4,4),(4,4),(4,4),(4,4),(4,4),(0,0),(0,0),(6,6)] (by decide +kernel) (by decide +kernel) (by decide +kernel) (by decide +kernel) ?_
  simp -dsimp (maxSteps:=4000000) +contextual (disch:=first | omega | decide +kernel) only [↓vsD,vsE,↓Nat.reduceLT,simprocAttr,sc2_cmp,sc2_cntd,sc2_numd,sc2_known,sc2_number,sc2_comp,sc2_rcomp,sc2_ord,sc2_id,sc2_rid,vdA,↓vdD,encP_length,encP_getD,k0,k1,e1]
  refine ⟨.bool (pcB (s.ps.getD i default)),_,hp _,(by simp [outR,rowsAt]),?_⟩
  by_cases hv:OkPc (s.ps.getD i default)
  ·rw [pcB_t hv]
   simp -dsimp (maxSteps:=4000000) +contextual (disch:=first | omega | decide +kernel) only [↓vsD,vsE,↓Nat.reduceLT,simprocAttr,sc2_cmp,sc2_cntd,sc2_numd,sc2_known,sc2_number,sc2_comp,sc2_rcomp,sc2_ord,sc2_id,sc2_rid,vdA,↓vdD,encP_length,encP_getD,k0,k1,e1]
   refine ⟨fun g1=>⟨fun h=>?_,fun g2=>?_⟩,fun g1=>?_⟩
   ·refine fno (fun o=>?_) _
    have h3:=pw_adj (d:=default) o.o.p (j:=i - 1) (by omega)
    rw [show i - 1 + 1 = i by omega] at h3
    have:=(cmp3_lt _ _).2 h3
    omega
   have hlt:0 < i → idlt (s.ps.getD (i - 1) default).id (s.ps.getD i default).id:=fun _=>(cmp3_lt _ _).1 (by omega)
   clear g1 g2
   rotate_left
   have hlt:0 < i → idlt (s.ps.getD (i - 1) default).id (s.ps.getD i default).id:=fun h=>absurd h (by omega)
   clear g1
   all_goals
    refine ⟨.bool (decide ((s.ps.getD i default).id ∈ s.cs)),_,hc _,(by simp [outR,rowsAt]),?_⟩
    by_cases hm:(s.ps.getD i default).id ∈ s.cs
    ·rw [decide_eq_true hm]
     simp -dsimp (maxSteps:=4000000) +contextual (disch:=first | omega | decide +kernel) only [↓vsD,vsE,↓Nat.reduceLT,simprocAttr,sc2_cmp,sc2_cntd,sc2_numd,sc2_known,sc2_number,sc2_comp,sc2_rcomp,sc2_ord,sc2_id,sc2_rid,vdA,↓vdD]
     exact fno (fun o=>o.o.d _ (gtD hil) hm) _
    ·rw [decide_eq_false hm]
     simp -dsimp (maxSteps:=4000000) +contextual (disch:=first | omega | decide +kernel) only [↓vsD,vsE,↓Nat.reduceLT,simprocAttr,sc2_cmp,sc2_cntd,sc2_numd,sc2_known,sc2_number,sc2_comp,sc2_rcomp,sc2_ord,sc2_id,sc2_rid,vdA,↓vdD]
     exact ⟨i + 1,(by (try dsimp only); omega),by simp [weaker,Go.PV.look],rfl,hil,nextJ hj ⟨hv,hlt,hm⟩⟩
  ·rw [pcB_f hv]
   simp -dsimp (maxSteps:=4000000) +contextual (disch:=first | omega | decide +kernel) only [↓vsD,vsE,↓Nat.reduceLT,simprocAttr,sc2_cmp,sc2_cntd,sc2_numd,sc2_known,sc2_number,sc2_comp,sc2_rcomp,sc2_ord,sc2_id,sc2_rid,vdA,↓vdD]
   exact fno (fun o=>hv (o.p i hil)) _
 ·have hall:∀ j,j < s.ps.length → OkPc (s.ps.getD j default) ∧ (0 < j → idlt (s.ps.getD (j - 1) default).id (s.ps.getD j default).id) ∧ (s.ps.getD j default).id ∉ s.cs:=fun j h=>hj j (by omega)
  clear hj hi
  simp -dsimp (maxSteps:=4000000) +contextual (disch:=first | omega | decide +kernel) only [↓vsD,vsE,↓Nat.reduceLT,simprocAttr,sc2_cmp,sc2_cntd,sc2_numd,sc2_known,sc2_number,sc2_comp,sc2_rcomp,sc2_ord,sc2_id,sc2_rid,encP_length,encD_length]
  refine v_loopS (fun i:Nat=>[(1,.ptr 0 0 0 0),(4,.int .i64 ((i + 1:Nat):Int))]) (fun _=>[.rows 26 2 [[.sl (encP s.ps),.sl (encD s.cs)]] 0]) (fun i=>(i + 1 ≤ s.cs.length ∨ i = 0) ∧ ∀ j,j < i → idlt (s.cs.getD j default) (s.cs.getD (j + 1) default)) (fun i=>s.cs.length - i) 0 (by simp [weaker,Go.PV.look]) rfl ⟨.inr rfl,fun j h=>absurd h (Nat.not_lt_zero _)⟩ ?_
  rintro i ⟨hi,hp⟩
  by_cases hil:i + 1 < s.cs.length
  ·have e1:(((i + 1:Nat):Int) - 1).toNat = i:=by omega
   have e2:((i + 1:Nat):Int) - 1 = i:=by omega
   simp -dsimp (maxSteps:=4000000) +contextual (disch:=first | omega | decide +kernel) only [↓vsD,vsE,↓Nat.reduceLT,simprocAttr,sc2_cmp,sc2_cntd,sc2_numd,sc2_known,sc2_number,sc2_comp,sc2_rcomp,sc2_ord,sc2_id,sc2_rid,encD_length,encD_getD,e1,e2]
   refine ⟨fun h=>?_,fun h=>?_⟩
   ·refine fno (fun o=>?_) _
    have:=(cmp3_lt _ _).2 (pw_adj (d:=default) o.o.c hil)
    omega
   ·have h2:=(cmp3_lt (s.cs.getD i default) (s.cs.getD (i + 1) default)).1 (by omega)
    exact ⟨i + 1,(by (try dsimp only); omega),by simp [weaker,Go.PV.look],rfl,.inl (by omega),nextJ hp h2⟩
  ·simp -dsimp (maxSteps:=4000000) +contextual (disch:=first | omega | decide +kernel) only [↓vsD,vsE,↓Nat.reduceLT,simprocAttr,sc2_cmp,sc2_cntd,sc2_numd,sc2_known,sc2_number,sc2_comp,sc2_rcomp,sc2_ord,sc2_id,sc2_rid,encD_length]
   refine fin0 (.keep _ (bel_bool _ _)) ?_
   rw [stB_t]
   refine ⟨by omega,⟨?_,adj_pw (l:=s.cs) (R:=idlt) (fun a b c=>idlt_trans) (d:=default) (fun j hj=>hp j (by omega)),fun p hp=>?_⟩,fun i hi=>(hall i hi).1⟩
   ·refine adj_pw (R:=fun p q:Pc=>idlt p.id q.id) (fun a b c=>idlt_trans) (d:=default) (fun j hj=>?_)
    have:=(hall (j + 1) hj).2.1 (by omega)
    rw [show j + 1 - 1 = j by omega] at this
    exact this
   ·obtain ⟨j,hj,rfl⟩:=List.mem_iff_getElem.1 hp
    have:=(hall j hj).2.2
    rw [List.getD_eq_getElem?_getD,List.getElem?_eq_getElem hj] at this
    exact this
theorem rsval_on (s:StS) (hs:FitS s) (σ:Store):PCall Try.prog 16 [stV s] σ (fun q σ'=>q = .bool (stB s) ∧ σ' = σ) :=
 PCall.lift (rsval_w s hs) (bel1 (bel_st _ s)) (fun q h=>⟨by rw [h]; exact bel_bool _ _,h,rfl⟩)
end Go.Proofs.Ythjoehaglonjaaa
