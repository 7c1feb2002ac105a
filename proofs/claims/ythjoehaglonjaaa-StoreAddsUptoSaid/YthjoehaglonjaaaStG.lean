import Derived.Test.YthjoehaglonjaaaStE
set_option maxRecDepth 8000
set_option linter.unusedSimpArgs false
set_option linter.unusedVariables false
namespace Go.Proofs.Ythjoehaglonjaaa
open Go.PV
noncomputable def eqB {α:Type} (a b:α):Bool:=@decide (a = b) (Classical.propDecidable _)
theorem eqB_t {α:Type} {a b:α} (h:a = b):eqB a b = true:=@decide_eq_true _ (Classical.propDecidable _) h
theorem eqB_f {α:Type} {a b:α} (h:¬ a = b):eqB a b = false:=@decide_eq_false _ (Classical.propDecidable _) h
theorem eqB_iff {α:Type} {a b:α}:eqB a b = true ↔ a = b:=⟨fun h=>Classical.byContradiction (fun hn=>by rw [eqB_f hn] at h; cases h),eqB_t⟩
theorem listExt {α:Type} {d:α} {a b:List α} (hl:a.length = b.length) (h:∀ j,j < b.length → a.getD j d = b.getD j d):a = b:=by
 apply List.ext_getElem hl
 intro j h1 h2
 have:=h j h2
 rw [List.getD_eq_getElem?_getD,List.getD_eq_getElem?_getD,List.getElem?_eq_getElem h1,List.getElem?_eq_getElem h2] at this
 exact this
theorem nextJ {p:Nat → Prop} {i:Nat} (h:∀ j,j < i → p j) (hi:p i):∀ j,j < i + 1 → p j:=fun j hj=>by
 rcases Nat.lt_succ_iff_lt_or_eq.1 hj with h2 | rfl
 ·exact h j h2
 ·exact hi
theorem equalI (a b:List Int) (ha:a.length < 2 ^ 63) (σ:Store):PCall Try.prog 76 [.sl (ints a),.sl (ints b)] σ (fun p σ'=>p = .bool (eqB a b) ∧ σ' = σ):=by
 refine PCall.vraw [] 16806975 26 [.tmp 4] (noE_ok _) mix Try.func76 rfl (by decide) rfl rfl (by simp) ?_
 simp -dsimp only [initFr,List.zipIdx_cons,List.zipIdx_nil,List.map_cons,List.map_nil,Nat.zero_add,Nat.reduceAdd]
 by_cases hl:a.length = b.length
 ·simp -dsimp (maxSteps:=4000000) +contextual (disch:=first | omega | decide +kernel) only [↓vsD,vsE,↓Nat.reduceLT,simprocAttr,enc_length,hl]
  refine v_loopS (fun i:Nat=>[(0,.sl (ints a)),(1,.sl (ints b)),(12,.int .i64 b.length),(13,.int .i64 i)]) (fun _=>σ) (fun i=>i ≤ b.length ∧ ∀ j,j < i → a.getD j 0 = b.getD j 0) (fun i=>b.length - i) 0 (by simp [weaker,Go.PV.look]) rfl ⟨by omega,fun j h=>by omega⟩ ?_
  rintro i ⟨hi,hj⟩
  by_cases hib:i < b.length
  ·simp -dsimp (maxSteps:=4000000) +contextual (disch:=first | omega | decide +kernel) only [↓vsD,vsE,↓Nat.reduceLT,simprocAttr,enc_length,enc_getD,hl]
   refine ⟨fun h=>?_,fun h=>?_⟩
   ·exact ⟨i + 1,(by (try dsimp only); omega),by simp [weaker,Go.PV.look],rfl,hib,nextJ hj h⟩
   ·rw [eqB_f (fun e=>h (by rw [e]))]
  ·simp -dsimp (maxSteps:=4000000) +contextual (disch:=first | omega | decide +kernel) only [↓vsD,vsE,↓Nat.reduceLT,simprocAttr,enc_length,hl]
   rw [eqB_t (listExt hl (fun j h=>hj j (by omega)))]
 ·simp -dsimp (maxSteps:=4000000) +contextual (disch:=first | omega | decide +kernel) only [↓vsD,vsE,↓Nat.reduceLT,simprocAttr,enc_length,hl]
  rw [eqB_f (fun e=>hl (by rw [e]))]
theorem equalE (a b:List (Int × Int)) (ha:a.length < 2 ^ 63) (σ:Store):PCall Try.prog 77 [.sl (encT a),.sl (encT b)] σ (fun p σ'=>p = .bool (eqB a b) ∧ σ' = σ):=by
 refine PCall.vraw [] 16806975 26 [.tmp 4] (noE_ok _) mix Try.func77 rfl (by decide) rfl rfl (by simp) ?_
 simp -dsimp only [initFr,List.zipIdx_cons,List.zipIdx_nil,List.map_cons,List.map_nil,Nat.zero_add,Nat.reduceAdd]
 by_cases hl:a.length = b.length
 ·simp -dsimp (maxSteps:=4000000) +contextual (disch:=first | omega | decide +kernel) only [↓vsD,vsE,↓Nat.reduceLT,simprocAttr,encT_length,hl]
  refine v_loopS (fun i:Nat=>[(0,.sl (encT a)),(1,.sl (encT b)),(12,.int .i64 b.length),(13,.int .i64 i)]) (fun _=>σ) (fun i=>i ≤ b.length ∧ ∀ j,j < i → a.getD j (0,0) = b.getD j (0,0)) (fun i=>b.length - i) 0 (by simp [weaker,Go.PV.look]) rfl ⟨by omega,fun j h=>by omega⟩ ?_
  rintro i ⟨hi,hj⟩
  by_cases hib:i < b.length
  ·simp -dsimp (maxSteps:=4000000) +contextual (disch:=first | omega | decide +kernel) only [↓vsD,vsE,↓Nat.reduceLT,simprocAttr,encT_length,encT_getD,hl,neEd]
   refine ⟨fun h=>?_,fun h=>?_⟩
   ·exact ⟨i + 1,(by (try dsimp only); omega),by simp [weaker,Go.PV.look],rfl,hib,nextJ hj (Prod.ext h.1 h.2)⟩
   ·rw [eqB_f (fun e=>h (by rw [e]; exact ⟨rfl,rfl⟩))]
  ·simp -dsimp (maxSteps:=4000000) +contextual (disch:=first | omega | decide +kernel) only [↓vsD,vsE,↓Nat.reduceLT,simprocAttr,encT_length,hl]
   rw [eqB_t (listExt hl (fun j h=>hj j (by omega)))]
 ·simp -dsimp (maxSteps:=4000000) +contextual (disch:=first | omega | decide +kernel) only [↓vsD,vsE,↓Nat.reduceLT,simprocAttr,encT_length,hl]
  rw [eqB_f (fun e=>hl (by rw [e]))]
theorem equalT (a b:List (Int × Int)) (ha:a.length < 2 ^ 63) (σ:Store):PCall Try.prog 106 [.sl (encT a),.sl (encT b)] σ (fun p σ'=>p = .bool (eqB a b) ∧ σ' = σ):=by
 refine PCall.vraw [] 16806975 26 [.tmp 4] (noE_ok _) mix Try.func106 rfl (by decide) rfl rfl (by simp) ?_
 simp -dsimp only [initFr,List.zipIdx_cons,List.zipIdx_nil,List.map_cons,List.map_nil,Nat.zero_add,Nat.reduceAdd]
 by_cases hl:a.length = b.length
 ·simp -dsimp (maxSteps:=4000000) +contextual (disch:=first | omega | decide +kernel) only [↓vsD,vsE,↓Nat.reduceLT,simprocAttr,encT_length,hl]
  refine v_loopS (fun i:Nat=>[(0,.sl (encT a)),(1,.sl (encT b)),(12,.int .i64 b.length),(13,.int .i64 i)]) (fun _=>σ) (fun i=>i ≤ b.length ∧ ∀ j,j < i → a.getD j (0,0) = b.getD j (0,0)) (fun i=>b.length - i) 0 (by simp [weaker,Go.PV.look]) rfl ⟨by omega,fun j h=>by omega⟩ ?_
  rintro i ⟨hi,hj⟩
  by_cases hib:i < b.length
  ·simp -dsimp (maxSteps:=4000000) +contextual (disch:=first | omega | decide +kernel) only [↓vsD,vsE,↓Nat.reduceLT,simprocAttr,encT_length,encT_getD,hl,neTg]
   refine ⟨fun h=>?_,fun h=>?_⟩
   ·exact ⟨i + 1,(by (try dsimp only); omega),by simp [weaker,Go.PV.look],rfl,hib,nextJ hj (Prod.ext h.1 h.2)⟩
   ·rw [eqB_f (fun e=>h (by rw [e]; exact ⟨rfl,rfl⟩))]
  ·simp -dsimp (maxSteps:=4000000) +contextual (disch:=first | omega | decide +kernel) only [↓vsD,vsE,↓Nat.reduceLT,simprocAttr,encT_length,hl]
   rw [eqB_t (listExt hl (fun j h=>hj j (by omega)))]
 ·simp -dsimp (maxSteps:=4000000) +contextual (disch:=first | omega | decide +kernel) only [↓vsD,vsE,↓Nat.reduceLT,simprocAttr,encT_length,hl]
  rw [eqB_f (fun e=>hl (by rw [e]))]
theorem equalFS (a b:List Site) (ha:a.length < 2 ^ 63) (F:FuncId) (hFn:∀ args σ,noE.f F args σ = none) (hF:∀ x ∈ a,∀ y ∈ b,∀ σ,PCall Try.prog F [.agg x.row,.agg y.row] σ (fun q τ=>q = .bool (eqB x y) ∧ τ = σ)) :
  PCall Try.prog 78 [.sl (encS a),.sl (encS b),.func (.func F) [] []] [] (fun p _=>p = .bool (eqB a b)):=by
 refine PCall.vfrz [] 1074250751 32 [.tmp 6] (noE_ok _) mix Try.func78 rfl (by decide) rfl rfl (by simp) ?_
 simp -dsimp only [initFr,List.zipIdx_cons,List.zipIdx_nil,List.map_cons,List.map_nil,Nat.zero_add,Nat.reduceAdd]
 by_cases hl:a.length = b.length
 ·simp -dsimp (maxSteps:=4000000) +contextual (disch:=first | omega | decide +kernel) only [↓vsD,vsE,↓Nat.reduceLT,simprocAttr,encS_length,hl]
  refine v_loopS (fun s:Nat × Store=>[(0,.sl (encS a)),(1,.sl (encS b)),(2,.func (.func F) [] []),(15,.sl (encS a)),(16,.int .i64 b.length),(17,.int .i64 s.1)]) (fun s=>s.2) (fun s=>s.1 ≤ b.length ∧ ∀ j,j < s.1 → a.getD j default = b.getD j default) (fun s=>b.length - s.1) (0,[]) (by simp [weaker,Go.PV.look]) rfl ⟨by simp,fun j h=>by simp at h⟩ ?_
  rintro ⟨i,Q⟩ ⟨hi,hj⟩
  dsimp only at hi hj ⊢
  by_cases hib:i < b.length
  ·have hc:=hF _ (gtD (d:=default) (show i < a.length by omega)) _ (gtD (d:=default) hib)
   obtain ⟨x,hx⟩:∃ x,x = a.getD i default:=⟨_,rfl⟩
   obtain ⟨y,hy⟩:∃ y,y = b.getD i default:=⟨_,rfl⟩
   rw [← hx,← hy] at hc
   unfold Site.row at hc
   simp -dsimp (maxSteps:=4000000) +contextual (disch:=first | omega | decide +kernel) only [↓vsD,vsE,↓Nat.reduceLT,simprocAttr,encS_length,encS_getD,hl,vgap,← hx,← hy,hFn]
   refine PCall.mono (hc _) ?_
   rintro q τ ⟨rfl,rfl⟩
   by_cases hxy:x = y
   ·rw [eqB_t hxy]
    simp -dsimp (maxSteps:=4000000) +contextual (disch:=first | omega | decide +kernel) only [↓vsD,vsE,↓Nat.reduceLT,simprocAttr]
    exact ⟨(i + 1,_),(by (try dsimp only); omega),by simp [weaker,Go.PV.look],rfl,hib,nextJ hj (by rw [← hx,← hy]; exact hxy)⟩
   ·rw [eqB_f hxy]
    simp -dsimp (maxSteps:=4000000) +contextual (disch:=first | omega | decide +kernel) only [↓vsD,vsE,↓Nat.reduceLT,simprocAttr]
    refine fin0 (.keep _ (bel_bool _ _)) ?_
    rw [eqB_f (fun e=>hxy (by rw [hx,hy,e]))]
  ·simp -dsimp (maxSteps:=4000000) +contextual (disch:=first | omega | decide +kernel) only [↓vsD,vsE,↓Nat.reduceLT,simprocAttr,encS_length,hl]
   refine fin0 (.keep _ (bel_bool _ _)) ?_
   rw [eqB_t (listExt hl (fun j h=>hj j (by omega)))]
 ·simp -dsimp (maxSteps:=4000000) +contextual (disch:=first | omega | decide +kernel) only [↓vsD,vsE,↓Nat.reduceLT,simprocAttr,encS_length,hl]
  refine fin0 (.keep _ (bel_bool _ _)) ?_
  rw [eqB_f (fun e=>hl (by rw [e]))]
theorem equalFF (a b:List FC) (ha:a.length < 2 ^ 63) (F:FuncId) (hFn:∀ args σ,noE.f F args σ = none) (hF:∀ x ∈ a,∀ y ∈ b,∀ σ,PCall Try.prog F [.agg x.row,.agg y.row] σ (fun q τ=>q = .bool (eqB x y) ∧ τ = σ)) :
  PCall Try.prog 50 [.sl (encF a),.sl (encF b),.func (.func F) [] []] [] (fun p _=>p = .bool (eqB a b)):=by
 refine PCall.vfrz [] 1074250751 32 [.tmp 6] (noE_ok _) mix Try.func50 rfl (by decide) rfl rfl (by simp) ?_
 simp -dsimp only [initFr,List.zipIdx_cons,List.zipIdx_nil,List.map_cons,List.map_nil,Nat.zero_add,Nat.reduceAdd]
 by_cases hl:a.length = b.length
 ·simp -dsimp (maxSteps:=4000000) +contextual (disch:=first | omega | decide +kernel) only [↓vsD,vsE,↓Nat.reduceLT,simprocAttr,encF_length,hl]
  refine v_loopS (fun s:Nat × Store=>[(0,.sl (encF a)),(1,.sl (encF b)),(2,.func (.func F) [] []),(15,.sl (encF a)),(16,.int .i64 b.length),(17,.int .i64 s.1)]) (fun s=>s.2) (fun s=>s.1 ≤ b.length ∧ ∀ j,j < s.1 → a.getD j default = b.getD j default) (fun s=>b.length - s.1) (0,[]) (by simp [weaker,Go.PV.look]) rfl ⟨by simp,fun j h=>by simp at h⟩ ?_
  rintro ⟨i,Q⟩ ⟨hi,hj⟩
  dsimp only at hi hj ⊢
  by_cases hib:i < b.length
  ·have hc:=hF _ (gtD (d:=default) (show i < a.length by omega)) _ (gtD (d:=default) hib)
   obtain ⟨x,hx⟩:∃ x,x = a.getD i default:=⟨_,rfl⟩
   obtain ⟨y,hy⟩:∃ y,y = b.getD i default:=⟨_,rfl⟩
   rw [← hx,← hy] at hc
   unfold FC.row at hc
   simp -dsimp (maxSteps:=4000000) +contextual (disch:=first | omega | decide +kernel) only [↓vsD,vsE,↓Nat.reduceLT,simprocAttr,encF_length,encF_getD,hl,vgap,← hx,← hy,hFn]
   refine PCall.mono (hc _) ?_
   rintro q τ ⟨rfl,rfl⟩
   by_cases hxy:x = y
   ·rw [eqB_t hxy]
    simp -dsimp (maxSteps:=4000000) +contextual (disch:=first | omega | decide +kernel) only [↓vsD,vsE,↓Nat.reduceLT,simprocAttr]
    exact ⟨(i + 1,_),(by (try dsimp only); omega),by simp [weaker,Go.PV.look],rfl,hib,nextJ hj (by rw [← hx,← hy]; exact hxy)⟩
   ·rw [eqB_f hxy]
    simp -dsimp (maxSteps:=4000000) +contextual (disch:=first | omega | decide +kernel) only [↓vsD,vsE,↓Nat.reduceLT,simprocAttr]
    refine fin0 (.keep _ (bel_bool _ _)) ?_
    rw [eqB_f (fun e=>hxy (by rw [hx,hy,e]))]
  ·simp -dsimp (maxSteps:=4000000) +contextual (disch:=first | omega | decide +kernel) only [↓vsD,vsE,↓Nat.reduceLT,simprocAttr,encF_length,hl]
   refine fin0 (.keep _ (bel_bool _ _)) ?_
   rw [eqB_t (listExt hl (fun j h=>hj j (by omega)))]
 ·simp -dsimp (maxSteps:=4000000) +contextual (disch:=first | omega | decide +kernel) only [↓vsD,vsE,↓Nat.reduceLT,simprocAttr,encF_length,hl]
  refine fin0 (.keep _ (bel_bool _ _)) ?_
  rw [eqB_f (fun e=>hl (by rw [e]))]
theorem site_eq {a b:Site}:a = b ↔ a.blk = b.blk ∧ a.ins = b.ins ∧ a.tg = b.tg:=by
 obtain ⟨a1,a2,a3⟩:=a
 obtain ⟨b1,b2,b3⟩:=b
 simp
theorem fc_eq {a b:FC}:a = b ↔ a.ent = b.ent ∧ a.blocks = b.blocks ∧ a.edges = b.edges ∧ a.sites = b.sites:=by
 obtain ⟨a1,a2,a3,a4⟩:=a
 obtain ⟨b1,b2,b3,b4⟩:=b
 simp
theorem pc_eq {a b:Pc}:a = b ↔ a.id = b.id ∧ a.dig = b.dig ∧ a.fs = b.fs:=by
 obtain ⟨a1,a2,a3⟩:=a
 obtain ⟨b1,b2,b3⟩:=b
 simp
theorem sSite_w (a b:Site) (ha:a.tg.length < 2 ^ 63):PCall Try.prog 79 [.agg a.row,.agg b.row] [] (fun p _=>p = .bool (eqB a b)):=by
 have fno:¬ a = b → ∀ σ',Go.PV.Fin [] (fun p _=>p = PV.bool (eqB a b)) (.bool false) σ':=fun h σ'=>fin0 (.keep _ (bel_bool _ _)) (by rw [eqB_f h])
 have k0:∀ args σ,noE.f 106 args σ = none:=fun _ _=>rfl
 unfold Site.row
 refine PCall.vfrz [] 31 24 [.tmp 4] (noE_ok _) mix Try.func79 rfl (by decide) rfl rfl (by simp) ?_
 simp -dsimp only [initFr,List.zipIdx_cons,List.zipIdx_nil,List.map_cons,List.map_nil,Nat.zero_add,Nat.reduceAdd]
 simp -dsimp (maxSteps:=4000000) +contextual (disch:=first | omega | decide +kernel) only [↓vsD,vsE,↓Nat.reduceLT,simprocAttr,k0]
 refine ⟨fun h1=>⟨fun h2=>?_,fun h=>fno (fun e=>h (by rw [e])) _⟩,fun h=>fno (fun e=>h (by rw [e])) _⟩
 refine PCall.mono (equalT a.tg b.tg ha _) ?_
 rintro q τ ⟨rfl,rfl⟩
 by_cases h3:a.tg = b.tg
 ·rw [eqB_t h3]
  simp -dsimp (maxSteps:=4000000) +contextual (disch:=first | omega | decide +kernel) only [↓vsD,vsE,↓Nat.reduceLT,simprocAttr]
  exact fin0 (.keep _ (bel_bool _ _)) (by rw [eqB_t (site_eq.2 ⟨h1,h2,h3⟩)])
 ·rw [eqB_f h3]
  simp -dsimp (maxSteps:=4000000) +contextual (disch:=first | omega | decide +kernel) only [↓vsD,vsE,↓Nat.reduceLT,simprocAttr]
  exact fno (fun e=>h3 (by rw [e])) _
theorem sSite_on (a b:Site) (ha:a.tg.length < 2 ^ 63) (σ:Store):PCall Try.prog 79 [.agg a.row,.agg b.row] σ (fun p σ'=>p = .bool (eqB a b) ∧ σ' = σ) :=
 PCall.lift (sSite_w a b ha) (bel2 (bel_site _ a) (bel_site _ b)) (fun p h=>⟨by rw [h]; exact bel_bool _ _,h,rfl⟩)
theorem bel_fn (k:Nat) (F:FuncId):Bel k (.func (.func F) [] []):=by
 intro I ρ ρ' v hρ hr
 cases hr with
 | func _ _ _ fs cs hfs hcs hf hc=>exact .func _ _ _ fs cs hfs hcs (fun j p hj=>by simp at hj) (fun j p hj=>by simp at hj)
theorem bel3 {k:Nat} {p q r:PV} (hp:Bel k p) (hq:Bel k q) (hr:Bel k r):∀ x ∈ [p,q,r],Bel k x:=fun x hx=>by
 simp only [List.mem_cons,List.not_mem_nil,or_false] at hx
 rcases hx with rfl | rfl | rfl
 ·exact hp
 ·exact hq
 ·exact hr
set_option maxHeartbeats 8000000 in
theorem sCnt_w (a b:FC) (ha:FitC a):PCall Try.prog 51 [.agg a.row,.agg b.row] [] (fun p _=>p = .bool (eqB a b)):=by
 have fno:¬ a = b → ∀ σ',Go.PV.Fin [] (fun p _=>p = PV.bool (eqB a b)) (.bool false) σ':=fun h σ'=>fin0 (.keep _ (bel_bool _ _)) (by rw [eqB_f h])
 have hS:∀ σ,PCall Try.prog 78 [.sl (encS a.sites),.sl (encS b.sites),.func (.func 79) [] []] σ (fun p σ'=>p = .bool (eqB a.sites b.sites) ∧ σ' = σ):=fun σ =>
  PCall.lift (equalFS a.sites b.sites ha.2.2.1 79 (fun _ _=>rfl) (fun x hx y _ σ=>sSite_on x y (ha.2.2.2 x hx) σ)) (bel3 (bel_sites _ _) (bel_sites _ _) (bel_fn _ _)) (fun p h=>⟨by rw [h]; exact bel_bool _ _,h,rfl⟩)
 have k0:∀ args σ,noE.f 76 args σ = none:=fun _ _=>rfl
 have k1:∀ args σ,noE.f 77 args σ = none:=fun _ _=>rfl
 have k2:∀ args σ,noE.f 78 args σ = none:=fun _ _=>rfl
 unfold FC.row
 refine PCall.vfrz [] 31 31 [.tmp 4] (noE_ok _) mix Try.func51 rfl (by decide) rfl rfl (by simp) ?_
 simp -dsimp only [initFr,List.zipIdx_cons,List.zipIdx_nil,List.map_cons,List.map_nil,Nat.zero_add,Nat.reduceAdd]
 simp -dsimp (maxSteps:=4000000) +contextual (disch:=first | omega | decide +kernel) only [↓vsD,vsE,↓Nat.reduceLT,simprocAttr,k0,k1,k2]
 refine ⟨fun h1=>?_,fun h=>fno (fun e=>h (by rw [e])) _⟩
 refine PCall.mono (equalI a.blocks b.blocks ha.1 _) ?_
 rintro q τ ⟨rfl,rfl⟩
 by_cases h2:a.blocks = b.blocks
 ·rw [eqB_t h2]
  simp -dsimp (maxSteps:=4000000) +contextual (disch:=first | omega | decide +kernel) only [↓vsD,vsE,↓Nat.reduceLT,simprocAttr,k0,k1,k2]
  refine PCall.mono (equalE a.edges b.edges ha.2.1 _) ?_
  rintro q τ ⟨rfl,rfl⟩
  by_cases h3:a.edges = b.edges
  ·rw [eqB_t h3]
   simp -dsimp (maxSteps:=4000000) +contextual (disch:=first | omega | decide +kernel) only [↓vsD,vsE,↓Nat.reduceLT,simprocAttr,k0,k1,k2]
   refine PCall.mono (hS _) ?_
   rintro q τ ⟨rfl,rfl⟩
   by_cases h4:a.sites = b.sites
   ·rw [eqB_t h4]
    simp -dsimp (maxSteps:=4000000) +contextual (disch:=first | omega | decide +kernel) only [↓vsD,vsE,↓Nat.reduceLT,simprocAttr]
    exact fin0 (.keep _ (bel_bool _ _)) (by rw [eqB_t (fc_eq.2 ⟨h1,h2,h3,h4⟩)])
   ·rw [eqB_f h4]
    simp -dsimp (maxSteps:=4000000) +contextual (disch:=first | omega | decide +kernel) only [↓vsD,vsE,↓Nat.reduceLT,simprocAttr]
    exact fno (fun e=>h4 (by rw [e])) _
  ·rw [eqB_f h3]
   simp -dsimp (maxSteps:=4000000) +contextual (disch:=first | omega | decide +kernel) only [↓vsD,vsE,↓Nat.reduceLT,simprocAttr]
   exact fno (fun e=>h3 (by rw [e])) _
 ·rw [eqB_f h2]
  simp -dsimp (maxSteps:=4000000) +contextual (disch:=first | omega | decide +kernel) only [↓vsD,vsE,↓Nat.reduceLT,simprocAttr]
  exact fno (fun e=>h2 (by rw [e])) _
theorem sCnt_on (a b:FC) (ha:FitC a) (σ:Store):PCall Try.prog 51 [.agg a.row,.agg b.row] σ (fun p σ'=>p = .bool (eqB a b) ∧ σ' = σ) :=
 PCall.lift (sCnt_w a b ha) (bel2 (bel_fc _ a) (bel_fc _ b)) (fun p h=>⟨by rw [h]; exact bel_bool _ _,h,rfl⟩)
set_option maxHeartbeats 8000000 in
theorem pEq_w (a b:Pc) (ha:FitP a):PCall Try.prog 20 [.agg a.row,.agg b.row] [] (fun p _=>p = .bool (eqB a b)):=by
 have fno:¬ a = b → ∀ σ',Go.PV.Fin [] (fun p _=>p = PV.bool (eqB a b)) (.bool false) σ':=fun h σ'=>fin0 (.keep _ (bel_bool _ _)) (by rw [eqB_f h])
 have hS:∀ σ,PCall Try.prog 50 [.sl (encF a.fs),.sl (encF b.fs),.func (.func 51) [] []] σ (fun p σ'=>p = .bool (eqB a.fs b.fs) ∧ σ' = σ):=fun σ =>
  PCall.lift (equalFF a.fs b.fs ha.1 51 (fun _ _=>rfl) (fun x hx y _ σ=>sCnt_on x y (ha.2 x hx) σ)) (bel3 (bel_fcs _ _) (bel_fcs _ _) (bel_fn _ _)) (fun p h=>⟨by rw [h]; exact bel_bool _ _,h,rfl⟩)
 have k2:∀ args σ,sc2.f 50 args σ = none:=fun _ _=>rfl
 unfold Pc.row
 refine PCall.vfrz [] 31 26 [.tmp 4] sc2_ok mix Try.func20 rfl (by decide) rfl rfl (by simp) ?_
 simp -dsimp only [initFr,List.zipIdx_cons,List.zipIdx_nil,List.map_cons,List.map_nil,Nat.zero_add,Nat.reduceAdd]
 simp -dsimp (maxSteps:=4000000) +contextual (disch:=first | omega | decide +kernel) only [↓vsD,vsE,↓Nat.reduceLT,simprocAttr,sc2_cmp,sc2_cntd,sc2_numd,sc2_known,sc2_number,sc2_comp,sc2_rcomp,sc2_ord,sc2_id,sc2_rid,k2,eqD]
 refine v_draws _ _ _ _ _ _ [1,3,19] [] [(0,0),(0,0),(0,1),(0,0),(2,2),(2,2),(2,2),(2,2),(2,2),(2,2),(2,2),(2,2),(2,2),(2,2),(2,2),(2,2),(2,2),(2,2),(2,2),(0,0),(3,3),(3,3)] (by decide +kernel) (by decide +kernel) (by decide +kernel) (by decide +kernel) ?_
 simp -dsimp (maxSteps:=4000000) +contextual (disch:=first | omega | decide +kernel) only [↓vsD,vsE,↓Nat.reduceLT,simprocAttr,sc2_cmp,sc2_cntd,sc2_numd,sc2_known,sc2_number,sc2_comp,sc2_rcomp,sc2_ord,sc2_id,sc2_rid,vdA,↓vdD,k2,eqD]
 refine ⟨fun h1=>⟨fun h2=>?_,fun h=>fno (fun e=>h (by rw [e])) _⟩,fun h=>fno (fun e=>h (by rw [e])) _⟩
 refine ⟨.bool (eqB a.fs b.fs),_,hS _,(by simp [outR,rowsAt]),?_⟩
 by_cases h3:a.fs = b.fs
 ·rw [eqB_t h3]
  simp -dsimp (maxSteps:=4000000) +contextual (disch:=first | omega | decide +kernel) only [↓vsD,vsE,↓Nat.reduceLT,simprocAttr,sc2_cmp,sc2_cntd,sc2_numd,sc2_known,sc2_number,sc2_comp,sc2_rcomp,sc2_ord,sc2_id,sc2_rid,vdA,↓vdD]
  exact fin0 (.keep _ (bel_bool _ _)) (by rw [eqB_t (pc_eq.2 ⟨h1,h2,h3⟩)])
 ·rw [eqB_f h3]
  simp -dsimp (maxSteps:=4000000) +contextual (disch:=first | omega | decide +kernel) only [↓vsD,vsE,↓Nat.reduceLT,simprocAttr,sc2_cmp,sc2_cntd,sc2_numd,sc2_known,sc2_number,sc2_comp,sc2_rcomp,sc2_ord,sc2_id,sc2_rid,vdA,↓vdD]
  exact fno (fun e=>h3 (by rw [e])) _
theorem pEq_on (a b:Pc) (ha:FitP a) (σ:Store):PCall Try.prog 20 [.agg a.row,.agg b.row] σ (fun p σ'=>p = .bool (eqB a b) ∧ σ' = σ) :=
 PCall.lift (pEq_w a b ha) (bel2 (bel_pc _ a) (bel_pc _ b)) (fun p h=>⟨by rw [h]; exact bel_bool _ _,h,rfl⟩)
theorem rInts_ok (a b:List Int) (ha:a.length < 2 ^ 63) (σ:Store):PCall Try.prog 33 [.sl (ints a),.sl (ints b)] σ (fun p σ'=>p = .bool (eqB a b) ∧ σ' = σ):=by
 refine PCall.vraw [] 33571903 26 [.tmp 4] (noE_ok _) mix Try.func33 rfl (by decide) rfl rfl (by simp) ?_
 simp -dsimp only [initFr,List.zipIdx_cons,List.zipIdx_nil,List.map_cons,List.map_nil,Nat.zero_add,Nat.reduceAdd]
 by_cases hl:a.length = b.length
 ·simp -dsimp (maxSteps:=4000000) +contextual (disch:=first | omega | decide +kernel) only [↓vsD,vsE,↓Nat.reduceLT,simprocAttr,enc_length,hl]
  refine v_loopS (fun i:Nat=>[(0,.sl (ints a)),(1,.sl (ints b)),(5,.int .i64 i)]) (fun _=>σ) (fun i=>i ≤ b.length ∧ ∀ j,j < i → a.getD j 0 = b.getD j 0) (fun i=>b.length - i) 0 (by simp [weaker,Go.PV.look]) rfl ⟨by omega,fun j h=>by omega⟩ ?_
  rintro i ⟨hi,hj⟩
  by_cases hib:i < b.length
  ·simp -dsimp (maxSteps:=4000000) +contextual (disch:=first | omega | decide +kernel) only [↓vsD,vsE,↓Nat.reduceLT,simprocAttr,enc_length,enc_getD,hl]
   refine ⟨fun h=>?_,fun h=>?_⟩
   ·exact ⟨i + 1,(by (try dsimp only); omega),by simp [weaker,Go.PV.look],rfl,hib,nextJ hj h⟩
   ·rw [eqB_f (fun e=>h (by rw [e]))]
  ·simp -dsimp (maxSteps:=4000000) +contextual (disch:=first | omega | decide +kernel) only [↓vsD,vsE,↓Nat.reduceLT,simprocAttr,enc_length,hl]
   rw [eqB_t (listExt hl (fun j h=>hj j (by omega)))]
 ·simp -dsimp (maxSteps:=4000000) +contextual (disch:=first | omega | decide +kernel) only [↓vsD,vsE,↓Nat.reduceLT,simprocAttr,enc_length,hl]
  rw [eqB_f (fun e=>hl (by rw [e]))]
set_option maxHeartbeats 8000000 in
set_option maxRecDepth 20000 in
theorem rSites_ok (a b:List Site) (ha:a.length < 2 ^ 63) (ht:∀ s ∈ a,s.tg.length < 2 ^ 63) (σ:Store):PCall Try.prog 107 [.sl (encS a),.sl (encS b)] σ (fun p σ'=>p = .bool (eqB a b) ∧ σ' = σ):=by
 refine PCall.vraw [] 9671425075718701145163903 84 [.tmp 4] (noE_ok _) mix Try.func107 rfl (by decide) rfl rfl (by simp) ?_
 simp -dsimp only [initFr,List.zipIdx_cons,List.zipIdx_nil,List.map_cons,List.map_nil,Nat.zero_add,Nat.reduceAdd]
 by_cases hl:a.length = b.length
 ·simp -dsimp (maxSteps:=4000000) +contextual (disch:=first | omega | decide +kernel) only [↓vsD,vsE,↓Nat.reduceLT,simprocAttr,encS_length,hl]
  refine v_loopS (fun i:Nat=>[(0,.sl (encS a)),(1,.sl (encS b)),(5,.int .i64 i)]) (fun _=>σ) (fun i=>i ≤ b.length ∧ ∀ j,j < i → a.getD j default = b.getD j default) (fun i=>b.length - i) 0 (by simp [weaker,Go.PV.look]) rfl ⟨by omega,fun j h=>by omega⟩ ?_
  rintro i ⟨hi,hj⟩
  by_cases hib:i < b.length
  ·have hta:=ht _ (gtD (d:=default) (show i < a.length by omega))
   simp -dsimp (maxSteps:=4000000) +contextual (disch:=first | omega | decide +kernel) only [↓vsD,vsE,↓Nat.reduceLT,simprocAttr,encS_length,encS_getD,encT_length,hl]
   have hx:¬ a.getD i default = b.getD i default → false = eqB a b:=fun h=>by rw [eqB_f (fun e=>h (by rw [e]))]
   have hib1:i + 1 ≤ b.length:=hib
   refine ⟨fun h1=>⟨fun h2=>⟨fun h3=>?_,fun h=>?_⟩,fun h=>?_⟩,fun h=>?_⟩
   ·have hal:i < a.length:=by omega
    have hyes:(a.getD i default).tg = (b.getD i default).tg → a.getD i default = b.getD i default:=fun h=>site_eq.2 ⟨h1,h2,h⟩
    have h4:(a.getD i default).tg.length = (b.getD i default).tg.length:=by omega
    refine v_loopS (fun k:Nat=>[(0,.sl (encS a)),(1,.sl (encS b)),(5,.int .i64 i),(6,.int .i64 k)]) (fun _=>σ) (fun k=>k ≤ (b.getD i default).tg.length ∧ ∀ j,j < k → (a.getD i default).tg.getD j (0,0) = (b.getD i default).tg.getD j (0,0)) (fun k=>(b.getD i default).tg.length - k) 0 (by simp [weaker,Go.PV.look]) rfl ⟨by omega,fun j h=>by omega⟩ ?_
    rintro k ⟨hk,hkj⟩
    by_cases hkl:k < (b.getD i default).tg.length
    ·have hkl2:k < (a.getD i default).tg.length:=by omega
     simp -dsimp (maxSteps:=4000000) +contextual (disch:=first | omega | decide +kernel) only [↓vsD,vsE,↓Nat.reduceLT,simprocAttr,encS_length,encS_getD,encT_length,encT_getD,hl,neTg]
     refine ⟨fun h=>?_,fun h=>?_⟩
     ·exact ⟨k + 1,(by (try dsimp only); omega),by simp [weaker,Go.PV.look],rfl,hkl,nextJ hkj (Prod.ext h.1 h.2)⟩
     ·exact hx (fun e=>h (by rw [e]; exact ⟨rfl,rfl⟩))
    ·have e:=hyes (listExt h4 (fun j h=>hkj j (by omega)))
     simp -dsimp (maxSteps:=4000000) +contextual (disch:=first | omega | decide +kernel) only [↓vsD,vsE,↓Nat.reduceLT,simprocAttr,encS_length,encS_getD,encT_length,hl]
     exact ⟨i + 1,(by (try dsimp only); omega),by simp [weaker,Go.PV.look],rfl,hib1,nextJ hj e⟩
   ·exact hx (fun e=>h (by rw [e]))
   ·exact hx (fun e=>h (by rw [e]))
   ·exact hx (fun e=>h (by rw [e]))
  ·simp -dsimp (maxSteps:=4000000) +contextual (disch:=first | omega | decide +kernel) only [↓vsD,vsE,↓Nat.reduceLT,simprocAttr,encS_length,hl]
   rw [eqB_t (listExt hl (fun j h=>hj j (by omega)))]
 ·simp -dsimp (maxSteps:=4000000) +contextual (disch:=first | omega | decide +kernel) only [↓vsD,vsE,↓Nat.reduceLT,simprocAttr,encS_length,hl]
  rw [eqB_f (fun e=>hl (by rw [e]))]
set_option maxHeartbeats 8000000 in
set_option maxRecDepth 20000 in
theorem rSame_w (a b:FC) (ha:FitC a):PCall Try.prog 80 [.agg a.row,.agg b.row] [] (fun p _=>p = .bool (eqB a b)):=by
 have fno:¬ a = b → ∀ σ',Go.PV.Fin [] (fun p _=>p = PV.bool (eqB a b)) (.bool false) σ':=fun h σ'=>fin0 (.keep _ (bel_bool _ _)) (by rw [eqB_f h])
 have k0:∀ args σ,noE.f 33 args σ = none:=fun _ _=>rfl
 have k1:∀ args σ,noE.f 107 args σ = none:=fun _ _=>rfl
 have hea:=ha.2.1
 unfold FC.row
 refine PCall.vfrz [] 9008333126107199 54 [.tmp 4] (noE_ok _) mix Try.func80 rfl (by decide) rfl rfl (by simp) ?_
 simp -dsimp only [initFr,List.zipIdx_cons,List.zipIdx_nil,List.map_cons,List.map_nil,Nat.zero_add,Nat.reduceAdd]
 simp -dsimp (maxSteps:=4000000) +contextual (disch:=first | omega | decide +kernel) only [↓vsD,vsE,↓Nat.reduceLT,simprocAttr,k0,k1,encT_length]
 refine ⟨fun h1=>?_,fun h=>fno (fun e=>h (by rw [e])) _⟩
 refine PCall.mono (rInts_ok a.blocks b.blocks ha.1 _) ?_
 rintro q τ ⟨rfl,rfl⟩
 by_cases h2:a.blocks = b.blocks
 ·rw [eqB_t h2]
  simp -dsimp (maxSteps:=4000000) +contextual (disch:=first | omega | decide +kernel) only [↓vsD,vsE,↓Nat.reduceLT,simprocAttr,k0,k1,encT_length]
  refine ⟨fun h3=>?_,fun h=>fno (fun e=>h (by rw [e])) _⟩
  have h3:a.edges.length = b.edges.length:=by omega
  refine PCall.mono (rSites_ok a.sites b.sites ha.2.2.1 ha.2.2.2 _) ?_
  rintro q τ ⟨rfl,rfl⟩
  by_cases h4:a.sites = b.sites
  ·rw [eqB_t h4]
   simp -dsimp (maxSteps:=4000000) +contextual (disch:=first | omega | decide +kernel) only [↓vsD,vsE,↓Nat.reduceLT,simprocAttr,k0,k1,encT_length]
   refine v_loopS (fun i:Nat=>[(2,.ptr 0 0 0 0),(3,.ptr 1 0 0 0),(5,.int .i64 i)]) (fun _=>[.rows 66 4 [[.int .i64 a.ent,.sl (ints a.blocks),.sl (encT a.edges),.sl (encS a.sites)]] 0,.rows 66 4 [[.int .i64 b.ent,.sl (ints b.blocks),.sl (encT b.edges),.sl (encS b.sites)]] 0])
    (fun i=>i ≤ b.edges.length ∧ ∀ j,j < i → a.edges.getD j (0,0) = b.edges.getD j (0,0)) (fun i=>b.edges.length - i) 0 (by simp [weaker,Go.PV.look]) rfl ⟨by omega,fun j h=>by omega⟩ ?_
   rintro i ⟨hi,hj⟩
   by_cases hib:i < b.edges.length
   ·have hia:i < a.edges.length:=by omega
    simp -dsimp (maxSteps:=4000000) +contextual (disch:=first | omega | decide +kernel) only [↓vsD,vsE,↓Nat.reduceLT,simprocAttr,encT_length,encT_getD,neEd]
    refine ⟨fun h=>?_,fun h=>fno (fun e=>h (by rw [e]; exact ⟨rfl,rfl⟩)) _⟩
    exact ⟨i + 1,(by (try dsimp only); omega),by simp [weaker,Go.PV.look],rfl,hib,nextJ hj (Prod.ext h.1 h.2)⟩
   ·simp -dsimp (maxSteps:=4000000) +contextual (disch:=first | omega | decide +kernel) only [↓vsD,vsE,↓Nat.reduceLT,simprocAttr,encT_length]
    exact fin0 (.keep _ (bel_bool _ _)) (by rw [eqB_t (fc_eq.2 ⟨h1,h2,listExt h3 (fun j h=>hj j (by omega)),h4⟩)])
  ·rw [eqB_f h4]
   simp -dsimp (maxSteps:=4000000) +contextual (disch:=first | omega | decide +kernel) only [↓vsD,vsE,↓Nat.reduceLT,simprocAttr]
   exact fno (fun e=>h4 (by rw [e])) _
 ·rw [eqB_f h2]
  simp -dsimp (maxSteps:=4000000) +contextual (disch:=first | omega | decide +kernel) only [↓vsD,vsE,↓Nat.reduceLT,simprocAttr]
  exact fno (fun e=>h2 (by rw [e])) _
theorem rSame_on (a b:FC) (ha:FitC a) (σ:Store):PCall Try.prog 80 [.agg a.row,.agg b.row] σ (fun p σ'=>p = .bool (eqB a b) ∧ σ' = σ) :=
 PCall.lift (rSame_w a b ha) (bel2 (bel_fc _ a) (bel_fc _ b)) (fun p h=>⟨by rw [h]; exact bel_bool _ _,h,rfl⟩)
def cntV (l:List FC):PV:=.agg [.sl (encF l)]
theorem bel_cnt (k:Nat) (l:List FC):Bel k (cntV l):=bel_agg (bel1 (bel_fcs k l))
set_option maxHeartbeats 8000000 in
theorem rAll_w (a b:List FC) (hl0:a.length < 2 ^ 63) (ha:∀ x ∈ a,FitC x):PCall Try.prog 52 [cntV a,cntV b] [] (fun p _=>p = .bool (eqB a b)):=by
 have fno:¬ a = b → ∀ σ',Go.PV.Fin [] (fun p _=>p = PV.bool (eqB a b)) (.bool false) σ':=fun h σ'=>fin0 (.keep _ (bel_bool _ _)) (by rw [eqB_f h])
 have k0:∀ args σ,noE.f 80 args σ = none:=fun _ _=>rfl
 unfold cntV
 refine PCall.vfrz [] 2147618879 32 [.tmp 4] (noE_ok _) mix Try.func52 rfl (by decide) rfl rfl (by simp) ?_
 simp -dsimp only [initFr,List.zipIdx_cons,List.zipIdx_nil,List.map_cons,List.map_nil,Nat.zero_add,Nat.reduceAdd]
 simp -dsimp (maxSteps:=4000000) +contextual (disch:=first | omega | decide +kernel) only [↓vsD,vsE,↓Nat.reduceLT,simprocAttr,encF_length,k0]
 refine ⟨fun hl=>?_,fun h=>fno (fun e=>h (by rw [e])) _⟩
 have hl:a.length = b.length:=by omega
 refine v_loopS (fun i:Nat=>[(2,.ptr 0 0 0 0),(3,.ptr 1 0 0 0),(5,.int .i64 i)]) (fun _=>[.rows 30 1 [[.sl (encF a)]] 0,.rows 30 1 [[.sl (encF b)]] 0])
  (fun i=>i ≤ b.length ∧ ∀ j,j < i → a.getD j default = b.getD j default) (fun i=>b.length - i) 0 (by simp [weaker,Go.PV.look]) rfl ⟨by omega,fun j h=>by omega⟩ ?_
 rintro i ⟨hi,hj⟩
 by_cases hib:i < b.length
 ·have hia:i < a.length:=by omega
  have hc:=rSame_on (a.getD i default) (b.getD i default) (ha _ (gtD hia))
  unfold FC.row at hc
  simp -dsimp (maxSteps:=4000000) +contextual (disch:=first | omega | decide +kernel) only [↓vsD,vsE,↓Nat.reduceLT,simprocAttr,encF_length,encF_getD,k0]
  refine v_draws _ _ _ _ _ _ [10] [] [(0,0),(0,0),(0,0),(0,0),(0,0),(0,0),(0,0),(0,0),(0,0),(0,0),(0,0),(1,1)] (by decide +kernel) (by decide +kernel) (by decide +kernel) (by decide +kernel) ?_
  simp -dsimp (maxSteps:=4000000) +contextual (disch:=first | omega | decide +kernel) only [↓vsD,vsE,↓Nat.reduceLT,simprocAttr,vdA,↓vdD,encF_length,encF_getD,k0]
  refine ⟨.bool (eqB (a.getD i default) (b.getD i default)),_,hc _,(by simp [outR,rowsAt]),?_⟩
  by_cases h:a.getD i default = b.getD i default
  ·rw [eqB_t h]
   simp -dsimp (maxSteps:=4000000) +contextual (disch:=first | omega | decide +kernel) only [↓vsD,vsE,↓Nat.reduceLT,simprocAttr,vdA,↓vdD]
   exact ⟨i + 1,(by (try dsimp only); omega),by simp [weaker,Go.PV.look],rfl,hib,nextJ hj h⟩
  ·rw [eqB_f h]
   simp -dsimp (maxSteps:=4000000) +contextual (disch:=first | omega | decide +kernel) only [↓vsD,vsE,↓Nat.reduceLT,simprocAttr,vdA,↓vdD]
   exact fno (fun e=>h (by rw [e])) _
 ·simp -dsimp (maxSteps:=4000000) +contextual (disch:=first | omega | decide +kernel) only [↓vsD,vsE,↓Nat.reduceLT,simprocAttr,encF_length]
  exact fin0 (.keep _ (bel_bool _ _)) (by rw [eqB_t (listExt hl (fun j h=>hj j (by omega)))])
theorem rAll_on (a b:List FC) (hl0:a.length < 2 ^ 63) (ha:∀ x ∈ a,FitC x) (σ:Store):PCall Try.prog 52 [cntV a,cntV b] σ (fun p σ'=>p = .bool (eqB a b) ∧ σ' = σ) :=
 PCall.lift (rAll_w a b hl0 ha) (bel2 (bel_cnt _ a) (bel_cnt _ b)) (fun p h=>⟨by rw [h]; exact bel_bool _ _,h,rfl⟩)
set_option maxHeartbeats 8000000 in
theorem rEq_w (a b:Pc) (ha:FitP a):PCall Try.prog 21 [.agg a.row,.agg b.row] [] (fun p _=>p = .bool (eqB a b)):=by
 have fno:¬ a = b → ∀ σ',Go.PV.Fin [] (fun p _=>p = PV.bool (eqB a b)) (.bool false) σ':=fun h σ'=>fin0 (.keep _ (bel_bool _ _)) (by rw [eqB_f h])
 have hS:=rAll_on a.fs b.fs ha.1 ha.2
 have k2:∀ args σ,sc2.f 52 args σ = none:=fun _ _=>rfl
 unfold cntV at hS
 unfold Pc.row
 refine PCall.vfrz [] 31 24 [.tmp 4] sc2_ok mix Try.func21 rfl (by decide) rfl rfl (by simp) ?_
 simp -dsimp only [initFr,List.zipIdx_cons,List.zipIdx_nil,List.map_cons,List.map_nil,Nat.zero_add,Nat.reduceAdd]
 simp -dsimp (maxSteps:=4000000) +contextual (disch:=first | omega | decide +kernel) only [↓vsD,vsE,↓Nat.reduceLT,simprocAttr,sc2_cmp,sc2_cntd,sc2_numd,sc2_known,sc2_number,sc2_comp,sc2_rcomp,sc2_ord,sc2_id,sc2_rid,k2,eqD]
 refine v_draws _ _ _ _ _ _ [1,3,17] [] [(0,0),(0,0),(0,1),(0,0),(2,2),(2,2),(2,2),(2,2),(2,2),(2,2),(2,2),(2,2),(2,2),(2,2),(2,2),(2,2),(2,2),(0,0),(3,3),(3,3)] (by decide +kernel) (by decide +kernel) (by decide +kernel) (by decide +kernel) ?_
 simp -dsimp (maxSteps:=4000000) +contextual (disch:=first | omega | decide +kernel) only [↓vsD,vsE,↓Nat.reduceLT,simprocAttr,sc2_cmp,sc2_cntd,sc2_numd,sc2_known,sc2_number,sc2_comp,sc2_rcomp,sc2_ord,sc2_id,sc2_rid,vdA,↓vdD,k2,eqD]
 refine ⟨fun h1=>⟨fun h2=>?_,fun h=>fno (fun e=>h (by rw [e])) _⟩,fun h=>fno (fun e=>h (by rw [e])) _⟩
 refine ⟨.bool (eqB a.fs b.fs),_,hS _,(by simp [outR,rowsAt]),?_⟩
 by_cases h3:a.fs = b.fs
 ·rw [eqB_t h3]
  simp -dsimp (maxSteps:=4000000) +contextual (disch:=first | omega | decide +kernel) only [↓vsD,vsE,↓Nat.reduceLT,simprocAttr,sc2_cmp,sc2_cntd,sc2_numd,sc2_known,sc2_number,sc2_comp,sc2_rcomp,sc2_ord,sc2_id,sc2_rid,vdA,↓vdD]
  exact fin0 (.keep _ (bel_bool _ _)) (by rw [eqB_t (pc_eq.2 ⟨h1,h2,h3⟩)])
 ·rw [eqB_f h3]
  simp -dsimp (maxSteps:=4000000) +contextual (disch:=first | omega | decide +kernel) only [↓vsD,vsE,↓Nat.reduceLT,simprocAttr,sc2_cmp,sc2_cntd,sc2_numd,sc2_known,sc2_number,sc2_comp,sc2_rcomp,sc2_ord,sc2_id,sc2_rid,vdA,↓vdD]
  exact fno (fun e=>h3 (by rw [e])) _
theorem rEq_on (a b:Pc) (ha:FitP a) (σ:Store):PCall Try.prog 21 [.agg a.row,.agg b.row] σ (fun p σ'=>p = .bool (eqB a b) ∧ σ' = σ) :=
 PCall.lift (rEq_w a b ha) (bel2 (bel_pc _ a) (bel_pc _ b)) (fun p h=>⟨by rw [h]; exact bel_bool _ _,h,rfl⟩)
end Go.Proofs.Ythjoehaglonjaaa
