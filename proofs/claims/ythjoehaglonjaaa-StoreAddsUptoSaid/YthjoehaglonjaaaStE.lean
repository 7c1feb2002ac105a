import Derived.Test.YthjoehaglonjaaaStD
set_option maxRecDepth 8000
set_option linter.unusedSimpArgs false
set_option linter.unusedVariables false
namespace Go.Proofs.Ythjoehaglonjaaa
open Go.PV
theorem bel_fc (k:Nat) (x:FC):Bel k (.agg x.row):=bel_agg (x.row_bel k)
set_option maxRecDepth 8000 in
set_option maxHeartbeats 4000000 in
theorem valid_w (x:FC) (n:Nat) (hx:x.blocks.length < 2 ^ 63) (hs:x.sites.length < 2 ^ 63) (ht:∀ s ∈ x.sites,s.tg.length < 2 ^ 63):PCall Try.prog 69 [.agg x.row,.int .i64 n] [] (fun p _=>p = .bool (fcB n x)):=by
 have fno:¬ OkFC n x → ∀ σ',Go.PV.Fin [] (fun p _=>p = PV.bool (fcB n x)) (.bool false) σ':=fun h σ'=>fin0 (.keep _ (bel_bool _ _)) (by rw [fcB_f h])
 unfold FC.row
 refine PCall.vfrz [] 713623846357928848472442920532324468872185855 152 [.tmp 4] sc2_ok mix Try.func69 rfl (by decide) rfl rfl (by simp) ?_
 simp -dsimp only [initFr,List.zipIdx_cons,List.zipIdx_nil,List.map_cons,List.map_nil,Nat.zero_add,Nat.reduceAdd]
 simp -dsimp (maxSteps:=4000000) +contextual (disch:=first | omega | decide +kernel) only [↓vsD,vsE,↓Nat.reduceLT,simprocAttr,sc2_cmp,sc2_cntd,sc2_numd,sc2_known,sc2_number,sc2_comp,sc2_rcomp,sc2_ord,sc2_id,sc2_rid,enc_length,encT_length,encS_length]
 refine ⟨fun h=>fno (fun o=>by have:=o.l; omega) _,fun h1=>⟨fun h=>fno (fun o=>by have:=o.l; omega) _,fun h2=>⟨fun h3=>⟨fun h4=>?_,fun h=>fno (fun o=>h o.c) _⟩,fun h=>fno (fun o=>h (by have:=o.e; omega)) _⟩⟩⟩
 have h3:x.edges.length = x.blocks.length:=by omega
 refine v_loopS (fun i:Nat=>[(1,.int .i64 n),(2,.ptr 0 0 0 0),(37,.sl (ints x.blocks)),(38,.int .i64 x.blocks.length),(39,.int .i64 i)]) (fun _=>[.rows 66 4 [[.int .i64 x.ent,.sl (ints x.blocks),.sl (encT x.edges),.sl (encS x.sites)]] 0])
  (fun i=>i ≤ x.blocks.length ∧ ∀ b,b < i → okBl x b) (fun i=>x.blocks.length - i) 0 (by simp [weaker,Go.PV.look]) rfl ⟨by omega,fun b h=>by omega⟩ ?_
 rintro i ⟨hi,hb⟩
 by_cases hil:i < x.blocks.length
 ·simp -dsimp (maxSteps:=4000000) +contextual (disch:=first | omega | decide +kernel) only [↓vsD,vsE,↓Nat.reduceLT,simprocAttr,sc2_cmp,sc2_cntd,sc2_numd,sc2_known,sc2_number,sc2_comp,sc2_rcomp,sc2_ord,sc2_id,sc2_rid,enc_length,encT_length,enc_getD,encT_getD]
  exact ⟨fun g1=>⟨fun g2=>⟨fun g3=>⟨i + 1,(by (try dsimp only); omega),by simp [weaker,Go.PV.look],rfl,by omega,fun b hb2=>by
   rcases Nat.lt_succ_iff_lt_or_eq.1 hb2 with h | rfl
   ·exact hb b h
   ·exact ⟨g1,g2,g3⟩⟩,fun h=>fno (fun o=>h (o.b i hil).2.2) _⟩,fun h=>fno (fun o=>h (o.b i hil).2.1) _⟩,fun h=>fno (fun o=>h (o.b i hil).1) _⟩
 ·have hball:∀ b,b < x.blocks.length → okBl x b:=fun b h=>hb b (by omega)
  clear hb
  simp -dsimp (maxSteps:=4000000) +contextual (disch:=first | omega | decide +kernel) only [↓vsD,vsE,↓Nat.reduceLT,simprocAttr,sc2_cmp,sc2_cntd,sc2_numd,sc2_known,sc2_number,sc2_comp,sc2_rcomp,sc2_ord,sc2_id,sc2_rid,enc_length,encS_length]
  refine v_loopS (fun s:Nat × Store=>[(1,.int .i64 n),(2,.ptr 0 0 0 0),(69,.sl (encS x.sites)),(70,.int .i64 x.sites.length),(71,.int .i64 s.1)]) (fun s=>.rows 66 4 [[.int .i64 x.ent,.sl (ints x.blocks),.sl (encT x.edges),.sl (encS x.sites)]] 0 :: s.2)
   (fun s=>s.1 ≤ x.sites.length ∧ ∀ b,b < s.1 → okSi x.blocks.length n x.sites b) (fun s=>x.sites.length - s.1) (0,[]) (by simp [weaker,Go.PV.look]) rfl ⟨by simp,fun b h=>by simp at h⟩ ?_
  rintro ⟨i,Q⟩ ⟨hi,hS⟩
  dsimp only at hi hS ⊢
  by_cases hil:i < x.sites.length
  ·have htl:=ht _ (gtD (d:=default) hil)
   simp -dsimp (maxSteps:=4000000) +contextual (disch:=first | omega | decide +kernel) only [↓vsD,vsE,↓Nat.reduceLT,simprocAttr,sc2_cmp,sc2_cntd,sc2_numd,sc2_known,sc2_number,sc2_comp,sc2_rcomp,sc2_ord,sc2_id,sc2_rid,enc_length,encS_length,encS_getD,vgap]
   have e1:((i:Int) - 1).toNat = i - 1:=by omega
   refine ⟨fun h=>fno (fun o=>by have:=(o.s i hil).1; omega) _,fun g1=>⟨fun h=>fno (fun o=>by have:=(o.s i hil).1; omega) _,fun g2=>⟨fun h=>fno (fun o=>by have:=(o.s i hil).2.1; omega) _,fun g3=>⟨fun g4=>⟨fun h=>fno (fun o=>by
    have h5:=(cmpS_lt _ _).2 ((o.s i hil).2.2.1 (by omega))
    rw [e1] at h
    omega) _,fun g5=>?_⟩,fun g4=>?_⟩⟩⟩⟩
   have hlt:0 < i → siteLt (x.sites.getD (i - 1) default) (x.sites.getD i default):=fun _=>(cmpS_lt _ _).1 (by rw [e1] at g5; omega)
   clear g4 g5
   rotate_left
   have hlt:0 < i → siteLt (x.sites.getD (i - 1) default) (x.sites.getD i default):=fun h=>absurd h (by omega)
   clear g4
   all_goals
    have hdone:(∀ k,k < (x.sites.getD i default).tg.length → okT n (x.sites.getD i default).tg k) → okSi x.blocks.length n x.sites i:=fun h=>⟨by omega,by omega,hlt,h⟩
    have hno:∀ k,k < (x.sites.getD i default).tg.length → ¬ okT n (x.sites.getD i default).tg k → ¬ OkFC n x:=fun k hk h o=>h ((o.s i hil).2.2.2 k hk)
    have hs1:i + 1 ≤ x.sites.length:=hil
    clear hlt e1
    generalize x.sites.getD i default = s at *
    refine v_loopS (fun t:Nat × Store=>[(1,.int .i64 n),(2,.ptr 0 0 0 0),(8,.ptr (Q.length + 1) 0 0 0),(69,.sl (encS x.sites)),(70,.int .i64 x.sites.length),(71,.int .i64 i),(108,.sl (encT s.tg)),(109,.int .i64 s.tg.length),(110,.int .i64 t.1)])
     (fun t=>.rows 66 4 [[.int .i64 x.ent,.sl (ints x.blocks),.sl (encT x.edges),.sl (encS x.sites)]] 0 :: (Q ++ .rows 91 3 [[.int .i64 s.blk,.int .i64 s.ins,.sl (encT s.tg)]] 0 :: t.2))
     (fun t=>t.1 ≤ s.tg.length ∧ ∀ k,k < t.1 → okT n s.tg k) (fun t=>s.tg.length - t.1) (0,[]) (by simp [weaker,Go.PV.look,encT_length]) rfl ⟨by simp,fun b h=>by simp at h⟩ ?_
    rintro ⟨k,R⟩ ⟨hk,hT⟩
    dsimp only at hk hT ⊢
    by_cases hkl:k < s.tg.length
    ·simp -dsimp (maxSteps:=4000000) +contextual (disch:=first | omega | decide +kernel) only [↓vsD,vsE,↓Nat.reduceLT,simprocAttr,sc2_cmp,sc2_cntd,sc2_numd,sc2_known,sc2_number,sc2_comp,sc2_rcomp,sc2_ord,sc2_id,sc2_rid,enc_length,encS_length,encT_length,encT_getD,vgap]
     have e2:((k:Int) - 1).toNat = k - 1:=by omega
     have nx:okT n s.tg k → ∀ b,b < k + 1 → okT n s.tg b:=fun h b hb=>by
      rcases Nat.lt_succ_iff_lt_or_eq.1 hb with h2 | rfl
      ·exact hT b h2
      ·exact h
     have hk1:k + 1 ≤ s.tg.length:=hkl
     refine ⟨fun h=>fno (hno k hkl fun o=>by have:=o.1; omega) _,fun j1=>⟨fun h=>fno (hno k hkl fun o=>by have:=o.1; omega) _,fun j2=>⟨fun h=>fno (hno k hkl fun o=>by have:=o.2.1; omega) _,fun j3=>⟨fun h=>fno (hno k hkl fun o=>by have:=o.2.1; omega) _,fun j4=>⟨fun j5=>⟨fun h=>fno (hno k hkl fun o=>by
      have:=o.2.2 (by omega)
      rw [e2] at h
      omega) _,fun j6=>?_⟩,fun j5=>?_⟩⟩⟩⟩⟩
     ·exact ⟨(k + 1,R ++ [.rows 88 2 [[.int .i64 (s.tg.getD k (0,0)).1,.int .i64 (s.tg.getD k (0,0)).2]] 0]),(by (try dsimp only); omega),by simp [weaker,Go.PV.look],by simp,hk1,nx ⟨by omega,by omega,fun _=>by rw [e2] at j6; omega⟩⟩
     ·exact ⟨(k + 1,R ++ [.rows 88 2 [[.int .i64 (s.tg.getD k (0,0)).1,.int .i64 (s.tg.getD k (0,0)).2]] 0]),(by (try dsimp only); omega),by simp [weaker,Go.PV.look],by simp,hk1,nx ⟨by omega,by omega,fun h=>absurd h (by omega)⟩⟩
    ·have:=hdone (fun k h=>hT k (by omega))
     simp -dsimp (maxSteps:=4000000) +contextual (disch:=first | omega | decide +kernel) only [↓vsD,vsE,↓Nat.reduceLT,simprocAttr,sc2_cmp,sc2_cntd,sc2_numd,sc2_known,sc2_number,sc2_comp,sc2_rcomp,sc2_ord,sc2_id,sc2_rid,enc_length,encS_length,encT_length]
     exact ⟨(i + 1,_),(by (try dsimp only); omega),by simp [weaker,Go.PV.look],rfl,hs1,fun b hb=>by
      rcases Nat.lt_succ_iff_lt_or_eq.1 hb with h | rfl
      ·exact hS b h
      ·exact this⟩
  ·simp -dsimp (maxSteps:=4000000) +contextual (disch:=first | omega | decide +kernel) only [↓vsD,vsE,↓Nat.reduceLT,simprocAttr,sc2_cmp,sc2_cntd,sc2_numd,sc2_known,sc2_number,sc2_comp,sc2_rcomp,sc2_ord,sc2_id,sc2_rid,enc_length,encS_length]
   refine fin0 (.keep _ (bel_bool _ _)) ?_
   rw [fcB_t]
   exact ⟨by omega,h3,h4,hball,fun b h=>hS b (by omega)⟩
theorem valid_on (x:FC) (n:Nat) (hx:x.blocks.length < 2 ^ 63) (hs:x.sites.length < 2 ^ 63) (ht:∀ s ∈ x.sites,s.tg.length < 2 ^ 63) (σ:Store):PCall Try.prog 69 [.agg x.row,.int .i64 n] σ (fun p σ'=>p = .bool (fcB n x) ∧ σ' = σ) :=
 PCall.lift (valid_w x n hx hs ht) (bel2 (bel_fc _ x) (bel_int _ _ _)) (fun p h=>⟨by rw [h]; exact bel_bool _ _,h,rfl⟩)
theorem bytesK (a:Nat) (h:a ≤ 1099511627776):(a ≤ maxBytes) = True:=eq_true (by unfold maxBytes; omega)
theorem lenK (a:Nat) (h:a ≤ 1099511627776):(a ≤ maxLen) = True:=eq_true (by unfold maxLen; omega)
theorem findNone {α:Type} {p:α → Bool} {d:α} {l:List α} (h:∀ j,j < l.length → p (l.getD j d) = false):l.any p = false:=by
 rw [Bool.eq_false_iff]
 intro h2
 obtain ⟨x,hx,hp⟩:=List.any_eq_true.1 h2
 obtain ⟨i,hi,rfl⟩:=List.mem_iff_getElem.1 hx
 have:=h i hi
 rw [List.getD_eq_getElem?_getD,List.getElem?_eq_getElem hi] at this
 rw [Option.getD_some] at this
 rw [this] at hp
 cases hp
theorem findSome {α:Type} {p:α → Bool} {d:α} {l:List α} {j:Nat} (hj:j < l.length) (h:p (l.getD j d) = true):l.any p = true:=List.any_eq_true.2 ⟨_,gtD hj,h⟩
theorem indexFC (l:List FC) (hl:l.length < 2 ^ 63) (F:FuncId) (cap:List PV) (p:FC → Bool) (σ:Store) (hFn:∀ args σ,noE.f F args σ = none) (hF:∀ x ∈ l,PCall Try.prog F (.agg x.row :: cap) σ (fun q τ=>q = .bool (p x) ∧ τ = σ)) :
  PCall Try.prog 103 [.sl (encF l),.func (.func F) [] cap] σ (fun q τ=>(∃ r:Int,q = .int .i64 r ∧ (0 ≤ r ↔ l.any p = true)) ∧ τ = σ):=by
 refine PCall.vraw [] 66495 19 [.tmp 4] (noE_ok _) mix Try.func103 rfl (by decide) rfl rfl (by simp) ?_
 simp -dsimp only [initFr,List.zipIdx_cons,List.zipIdx_nil,List.map_cons,List.map_nil,Nat.zero_add,Nat.reduceAdd]
 simp -dsimp (maxSteps:=4000000) +contextual (disch:=first | omega | decide +kernel) only [↓vsD,vsE,↓Nat.reduceLT,simprocAttr,encF_length]
 refine v_loopS (fun k:Nat=>[(0,.sl (encF l)),(1,.func (.func F) [] cap),(7,.int .i64 l.length),(8,.int .i64 k)]) (fun _=>σ) (fun k=>k ≤ l.length ∧ ∀ j,j < k → p (l.getD j default) = false) (fun k=>l.length - k) 0 (by simp [weaker,Go.PV.look]) rfl ⟨Nat.zero_le _,fun j h=>absurd h (Nat.not_lt_zero _)⟩ ?_
 rintro k ⟨hk,hp⟩
 by_cases hkl:k < l.length
 ·have hc:=hF _ (gtD (d:=default) hkl)
  unfold FC.row at hc
  simp -dsimp (maxSteps:=4000000) +contextual (disch:=first | omega | decide +kernel) only [↓vsD,vsE,↓Nat.reduceLT,simprocAttr,encF_length,encF_getD,hFn]
  refine PCall.mono hc ?_
  rintro q τ ⟨rfl,rfl⟩
  obtain ⟨b,hb⟩:∃ b,b = p (l.getD k default):=⟨_,rfl⟩
  rw [← hb]
  cases b with
  | true =>
   simp -dsimp (maxSteps:=4000000) +contextual (disch:=first | omega | decide +kernel) only [↓vsD,vsE,↓Nat.reduceLT,simprocAttr]
   exact ⟨_,rfl,fun _=>findSome hkl hb.symm,fun _=>by omega⟩
  | false =>
   have hk1:k + 1 ≤ l.length:=hkl
   simp -dsimp (maxSteps:=4000000) +contextual (disch:=first | omega | decide +kernel) only [↓vsD,vsE,↓Nat.reduceLT,simprocAttr]
   exact ⟨k + 1,(by (try dsimp only); omega),by simp [weaker,Go.PV.look],rfl,hk1,fun j hj=>by
    rcases Nat.lt_succ_iff_lt_or_eq.1 hj with h | rfl
    ·exact hp j h
    ·exact hb.symm⟩
 ·have:=findNone (d:=default) (l:=l) (fun j hj=>hp j (by omega))
  simp -dsimp (maxSteps:=4000000) +contextual (disch:=first | omega | decide +kernel) only [↓vsD,vsE,↓Nat.reduceLT,simprocAttr,encF_length]
  exact ⟨_,rfl,fun h=>absurd h (by omega),fun h=>by rw [this] at h; cases h⟩
theorem contFC (l:List FC) (hl:l.length < 2 ^ 63) (F:FuncId) (cap:List PV) (p:FC → Bool) (σ:Store) (hFn:∀ args σ,noE.f F args σ = none) (hF:∀ x ∈ l,PCall Try.prog F (.agg x.row :: cap) σ (fun q τ=>q = .bool (p x) ∧ τ = σ)) :
  PCall Try.prog 67 [.sl (encF l),.func (.func F) [] cap] σ (fun q τ=>q = .bool (l.any p) ∧ τ = σ):=by
 refine PCall.vraw [] 31 9 [.tmp 4] (noE_ok _) mix Try.func67 rfl (by decide) rfl rfl (by simp) ?_
 simp -dsimp only [initFr,List.zipIdx_cons,List.zipIdx_nil,List.map_cons,List.map_nil,Nat.zero_add,Nat.reduceAdd]
 simp -dsimp (maxSteps:=4000000) +contextual (disch:=first | omega | decide +kernel) only [↓vsD,vsE,↓Nat.reduceLT,simprocAttr]
 refine PCall.mono (indexFC l hl F cap p σ hFn hF) ?_
 rintro q τ ⟨⟨r,rfl,hr⟩,rfl⟩
 simp -dsimp (maxSteps:=4000000) +contextual (disch:=first | omega | decide +kernel) only [↓vsD,vsE,↓Nat.reduceLT,simprocAttr]
 exact ⟨fun h=>(hr.1 h).symm,fun h=>by
  cases hb:l.any p with
  | false=>rfl
  | true=>exact absurd (hr.2 hb) h⟩
theorem indexPC (l:List Pc) (hl:l.length < 2 ^ 63) (F:FuncId) (cap:List PV) (p:Pc → Bool) (σ:Store) (hFn:∀ args σ,noE.f F args σ = none) (hF:∀ x ∈ l,PCall Try.prog F (.agg x.row :: cap) σ (fun q τ=>q = .bool (p x) ∧ τ = σ)) :
  PCall Try.prog 65 [.sl (encP l),.func (.func F) [] cap] σ (fun q τ=>(∃ r:Int,q = .int .i64 r ∧ (0 ≤ r ↔ l.any p = true)) ∧ τ = σ):=by
 refine PCall.vraw [] 66495 19 [.tmp 4] (noE_ok _) mix Try.func65 rfl (by decide) rfl rfl (by simp) ?_
 simp -dsimp only [initFr,List.zipIdx_cons,List.zipIdx_nil,List.map_cons,List.map_nil,Nat.zero_add,Nat.reduceAdd]
 simp -dsimp (maxSteps:=4000000) +contextual (disch:=first | omega | decide +kernel) only [↓vsD,vsE,↓Nat.reduceLT,simprocAttr,encP_length]
 refine v_loopS (fun k:Nat=>[(0,.sl (encP l)),(1,.func (.func F) [] cap),(7,.int .i64 l.length),(8,.int .i64 k)]) (fun _=>σ) (fun k=>k ≤ l.length ∧ ∀ j,j < k → p (l.getD j default) = false) (fun k=>l.length - k) 0 (by simp [weaker,Go.PV.look]) rfl ⟨Nat.zero_le _,fun j h=>absurd h (Nat.not_lt_zero _)⟩ ?_
 rintro k ⟨hk,hp⟩
 by_cases hkl:k < l.length
 ·have hc:=hF _ (gtD (d:=default) hkl)
  unfold Pc.row at hc
  simp -dsimp (maxSteps:=4000000) +contextual (disch:=first | omega | decide +kernel) only [↓vsD,vsE,↓Nat.reduceLT,simprocAttr,encP_length,encP_getD,hFn]
  refine PCall.mono hc ?_
  rintro q τ ⟨rfl,rfl⟩
  obtain ⟨b,hb⟩:∃ b,b = p (l.getD k default):=⟨_,rfl⟩
  rw [← hb]
  cases b with
  | true =>
   simp -dsimp (maxSteps:=4000000) +contextual (disch:=first | omega | decide +kernel) only [↓vsD,vsE,↓Nat.reduceLT,simprocAttr]
   exact ⟨_,rfl,fun _=>findSome hkl hb.symm,fun _=>by omega⟩
  | false =>
   have hk1:k + 1 ≤ l.length:=hkl
   simp -dsimp (maxSteps:=4000000) +contextual (disch:=first | omega | decide +kernel) only [↓vsD,vsE,↓Nat.reduceLT,simprocAttr]
   exact ⟨k + 1,(by (try dsimp only); omega),by simp [weaker,Go.PV.look],rfl,hk1,fun j hj=>by
    rcases Nat.lt_succ_iff_lt_or_eq.1 hj with h | rfl
    ·exact hp j h
    ·exact hb.symm⟩
 ·have:=findNone (d:=default) (l:=l) (fun j hj=>hp j (by omega))
  simp -dsimp (maxSteps:=4000000) +contextual (disch:=first | omega | decide +kernel) only [↓vsD,vsE,↓Nat.reduceLT,simprocAttr,encP_length]
  exact ⟨_,rfl,fun h=>absurd h (by omega),fun h=>by rw [this] at h; cases h⟩
theorem contPC (l:List Pc) (hl:l.length < 2 ^ 63) (F:FuncId) (cap:List PV) (p:Pc → Bool) (σ:Store) (hFn:∀ args σ,noE.f F args σ = none) (hF:∀ x ∈ l,PCall Try.prog F (.agg x.row :: cap) σ (fun q τ=>q = .bool (p x) ∧ τ = σ)) :
  PCall Try.prog 39 [.sl (encP l),.func (.func F) [] cap] σ (fun q τ=>q = .bool (l.any p) ∧ τ = σ):=by
 refine PCall.vraw [] 31 9 [.tmp 4] (noE_ok _) mix Try.func39 rfl (by decide) rfl rfl (by simp) ?_
 simp -dsimp only [initFr,List.zipIdx_cons,List.zipIdx_nil,List.map_cons,List.map_nil,Nat.zero_add,Nat.reduceAdd]
 simp -dsimp (maxSteps:=4000000) +contextual (disch:=first | omega | decide +kernel) only [↓vsD,vsE,↓Nat.reduceLT,simprocAttr]
 refine PCall.mono (indexPC l hl F cap p σ hFn hF) ?_
 rintro q τ ⟨⟨r,rfl,hr⟩,rfl⟩
 simp -dsimp (maxSteps:=4000000) +contextual (disch:=first | omega | decide +kernel) only [↓vsD,vsE,↓Nat.reduceLT,simprocAttr]
 exact ⟨fun h=>(hr.1 h).symm,fun h=>by
  cases hb:l.any p with
  | false=>rfl
  | true=>exact absurd (hr.2 hb) h⟩
theorem indexID (l:List Idn) (hl:l.length < 2 ^ 63) (F:FuncId) (cap:List PV) (p:Idn → Bool) (σ:Store) (hFn:∀ args σ,noE.f F args σ = none) (hF:∀ x ∈ l,PCall Try.prog F (.agg (idRow x) :: cap) σ (fun q τ=>q = .bool (p x) ∧ τ = σ)) :
  PCall Try.prog 70 [.sl (encD l),.func (.func F) [] cap] σ (fun q τ=>(∃ r:Int,q = .int .i64 r ∧ (0 ≤ r ↔ l.any p = true)) ∧ τ = σ):=by
 refine PCall.vraw [] 66495 19 [.tmp 4] (noE_ok _) mix Try.func70 rfl (by decide) rfl rfl (by simp) ?_
 simp -dsimp only [initFr,List.zipIdx_cons,List.zipIdx_nil,List.map_cons,List.map_nil,Nat.zero_add,Nat.reduceAdd]
 simp -dsimp (maxSteps:=4000000) +contextual (disch:=first | omega | decide +kernel) only [↓vsD,vsE,↓Nat.reduceLT,simprocAttr,encD_length]
 refine v_loopS (fun k:Nat=>[(0,.sl (encD l)),(1,.func (.func F) [] cap),(7,.int .i64 l.length),(8,.int .i64 k)]) (fun _=>σ) (fun k=>k ≤ l.length ∧ ∀ j,j < k → p (l.getD j default) = false) (fun k=>l.length - k) 0 (by simp [weaker,Go.PV.look]) rfl ⟨Nat.zero_le _,fun j h=>absurd h (Nat.not_lt_zero _)⟩ ?_
 rintro k ⟨hk,hp⟩
 by_cases hkl:k < l.length
 ·have hc:=hF _ (gtD (d:=default) hkl)
  unfold idRow at hc
  simp -dsimp (maxSteps:=4000000) +contextual (disch:=first | omega | decide +kernel) only [↓vsD,vsE,↓Nat.reduceLT,simprocAttr,encD_length,encD_getD,hFn]
  refine PCall.mono hc ?_
  rintro q τ ⟨rfl,rfl⟩
  obtain ⟨b,hb⟩:∃ b,b = p (l.getD k default):=⟨_,rfl⟩
  rw [← hb]
  cases b with
  | true =>
   simp -dsimp (maxSteps:=4000000) +contextual (disch:=first | omega | decide +kernel) only [↓vsD,vsE,↓Nat.reduceLT,simprocAttr]
   exact ⟨_,rfl,fun _=>findSome hkl hb.symm,fun _=>by omega⟩
  | false =>
   have hk1:k + 1 ≤ l.length:=hkl
   simp -dsimp (maxSteps:=4000000) +contextual (disch:=first | omega | decide +kernel) only [↓vsD,vsE,↓Nat.reduceLT,simprocAttr]
   exact ⟨k + 1,(by (try dsimp only); omega),by simp [weaker,Go.PV.look],rfl,hk1,fun j hj=>by
    rcases Nat.lt_succ_iff_lt_or_eq.1 hj with h | rfl
    ·exact hp j h
    ·exact hb.symm⟩
 ·have:=findNone (d:=default) (l:=l) (fun j hj=>hp j (by omega))
  simp -dsimp (maxSteps:=4000000) +contextual (disch:=first | omega | decide +kernel) only [↓vsD,vsE,↓Nat.reduceLT,simprocAttr,encD_length]
  exact ⟨_,rfl,fun h=>absurd h (by omega),fun h=>by rw [this] at h; cases h⟩
theorem contID (l:List Idn) (hl:l.length < 2 ^ 63) (F:FuncId) (cap:List PV) (p:Idn → Bool) (σ:Store) (hFn:∀ args σ,noE.f F args σ = none) (hF:∀ x ∈ l,PCall Try.prog F (.agg (idRow x) :: cap) σ (fun q τ=>q = .bool (p x) ∧ τ = σ)) :
  PCall Try.prog 42 [.sl (encD l),.func (.func F) [] cap] σ (fun q τ=>q = .bool (l.any p) ∧ τ = σ):=by
 refine PCall.vraw [] 31 9 [.tmp 4] (noE_ok _) mix Try.func42 rfl (by decide) rfl rfl (by simp) ?_
 simp -dsimp only [initFr,List.zipIdx_cons,List.zipIdx_nil,List.map_cons,List.map_nil,Nat.zero_add,Nat.reduceAdd]
 simp -dsimp (maxSteps:=4000000) +contextual (disch:=first | omega | decide +kernel) only [↓vsD,vsE,↓Nat.reduceLT,simprocAttr]
 refine PCall.mono (indexID l hl F cap p σ hFn hF) ?_
 rintro q τ ⟨⟨r,rfl,hr⟩,rfl⟩
 simp -dsimp (maxSteps:=4000000) +contextual (disch:=first | omega | decide +kernel) only [↓vsD,vsE,↓Nat.reduceLT,simprocAttr]
 exact ⟨fun h=>(hr.1 h).symm,fun h=>by
  cases hb:l.any p with
  | false=>rfl
  | true=>exact absurd (hr.2 hb) h⟩
def FitC (x:FC):Prop:=x.blocks.length < 2 ^ 63 ∧ x.edges.length < 2 ^ 63 ∧ x.sites.length < 2 ^ 63 ∧ ∀ s ∈ x.sites,s.tg.length < 2 ^ 63
def FitP (p:Pc):Prop:=p.fs.length < 2 ^ 63 ∧ ∀ x ∈ p.fs,FitC x
theorem vfn_on (x:FC) (n:Nat) (o:Nat) (hx:FitC x) (σ:Store) (ho:σ[o]? = some (.rows 3 1 [[.int .i64 n]] 0)) :
  PCall Try.prog 68 [.agg x.row,.ptr o 0 0 0] σ (fun p τ=>p = .bool (!fcB n x) ∧ τ = σ):=by
 have hol:=(List.getElem?_eq_some_iff.1 ho).1
 have g1:∀ X,(σ ++ X)[o]? = some (.rows 3 1 [[.int .i64 n]] 0):=fun X=>by rw [List.getElem?_append_left hol,ho]
 have hv:=valid_on x n hx.1 hx.2.2.1 hx.2.2.2
 have k0:∀ args σ,noE.f 69 args σ = none:=fun _ _=>rfl
 unfold FC.row at hv ⊢
 refine PCall.vfrz [] 15 8 [.tmp 3] (noE_ok _) mix Try.func68 rfl (by decide) rfl rfl (by simp) ?_
 simp -dsimp only [initFr,List.zipIdx_cons,List.zipIdx_nil,List.map_cons,List.map_nil,Nat.zero_add,Nat.reduceAdd]
 simp -dsimp (maxSteps:=4000000) +contextual (disch:=first | omega | decide +kernel) only [↓vsD,vsE,↓Nat.reduceLT,simprocAttr,vgap,g1,k0]
 refine PCall.mono (hv _) ?_
 rintro p σ' ⟨rfl,rfl⟩
 cases fcB n x <;>
 ·simp -dsimp (maxSteps:=4000000) +contextual (disch:=first | omega | decide +kernel) only [↓vsD,vsE,↓Nat.reduceLT,simprocAttr]
  exact fin_app (.keep _ (bel_bool _ _)) ⟨rfl,rfl⟩
theorem pval_w (p:Pc) (hp:FitP p):PCall Try.prog 41 [.agg p.row] [] (fun q _=>q = .bool (pcB p)):=by
 have fno:¬ OkPc p → ∀ σ',Go.PV.Fin [] (fun q _=>q = PV.bool (pcB p)) (.bool false) σ':=fun h σ'=>fin0 (.keep _ (bel_bool _ _)) (by rw [pcB_f h])
 unfold Pc.row
 refine PCall.vfrz [] 2147483663 38 [.tmp 2] sc2_ok mix Try.func41 rfl (by decide) rfl rfl (by simp) ?_
 simp -dsimp only [initFr,List.zipIdx_cons,List.zipIdx_nil,List.map_cons,List.map_nil,Nat.zero_add,Nat.reduceAdd]
 have k0:∀ args σ,sc2.f 67 args σ = none:=fun _ _=>rfl
 simp -dsimp (maxSteps:=4000000) +contextual (disch:=first | omega | decide +kernel) only [↓vsD,vsE,↓Nat.reduceLT,simprocAttr,sc2_cmp,sc2_cntd,sc2_numd,sc2_known,sc2_number,sc2_comp,sc2_rcomp,sc2_ord,sc2_id,sc2_rid,encF_length,k0]
 refine ⟨fun h1=>⟨fun h2=>⟨fun h3=>⟨fun h=>fno (fun o=>by have:=o.n; omega) _,fun h4=>⟨fun h=>fno (fun o=>by have:=o.n; omega) _,fun h5=>?_⟩⟩,fun h=>fno (fun o=>h o.r.2.2) _⟩,fun h=>fno (fun o=>h o.r.2.1) _⟩,fun h=>fno (fun o=>h o.r.1) _⟩
 refine PCall.mono (contFC p.fs hp.1 68 [.ptr 1 0 0 0] (fun x=>!fcB p.fs.length x) _ (fun _ _=>rfl) (fun x hx=>vfn_on x p.fs.length 1 (hp.2 x hx) _ rfl)) ?_
 rintro q τ ⟨rfl,rfl⟩
 cases hb:p.fs.any (fun x=>!fcB p.fs.length x) with
 | true =>
  simp -dsimp (maxSteps:=4000000) +contextual (disch:=first | omega | decide +kernel) only [↓vsD,vsE,↓Nat.reduceLT,simprocAttr,sc2_cmp,sc2_cntd,sc2_numd,sc2_known,sc2_number,sc2_comp,sc2_rcomp,sc2_ord,sc2_id,sc2_rid]
  refine fno (fun o=>?_) _
  obtain ⟨x,hx,hf⟩:=List.any_eq_true.1 hb
  obtain ⟨i,hi,rfl⟩:=List.mem_iff_getElem.1 hx
  have:=o.f i hi
  rw [List.getD_eq_getElem?_getD,List.getElem?_eq_getElem hi,Option.getD_some] at this
  rw [fcB_t this] at hf
  cases hf
 | false =>
  simp -dsimp (maxSteps:=4000000) +contextual (disch:=first | omega | decide +kernel) only [↓vsD,vsE,↓Nat.reduceLT,simprocAttr,sc2_cmp,sc2_cntd,sc2_numd,sc2_known,sc2_number,sc2_comp,sc2_rcomp,sc2_ord,sc2_id,sc2_rid]
  refine fin0 (.keep _ (bel_bool _ _)) ?_
  rw [pcB_t]
  refine ⟨⟨h1,h2,h3⟩,by omega,fun i hi=>Classical.byContradiction fun h=>?_⟩
  have:p.fs.any (fun x=>!fcB p.fs.length x) = true:=List.any_eq_true.2 ⟨_,gtD (d:=default) hi,by rw [fcB_f h]; rfl⟩
  rw [hb] at this
  cases this
theorem pval_on (p:Pc) (hp:FitP p) (σ:Store):PCall Try.prog 41 [.agg p.row] σ (fun q σ'=>q = .bool (pcB p) ∧ σ' = σ) :=
 PCall.lift (pval_w p hp) (bel1 (bel_pc _ p)) (fun q h=>⟨by rw [h]; exact bel_bool _ _,h,rfl⟩)
theorem idents_w (l:List Pc) (hl:l.length ≤ 1000):PCall Try.prog 37 [.sl (encP l)] [] (fun q _=>q = .sl (encD (l.map (·.id)))):=by
 refine PCall.vfrz [] 1023 19 [.tmp 2] sc2_ok mix Try.func37 rfl (by decide) rfl rfl (by simp) ?_
 simp -dsimp only [initFr,List.zipIdx_cons,List.zipIdx_nil,List.map_cons,List.map_nil,Nat.zero_add,Nat.reduceAdd]
 simp -dsimp (maxSteps:=4000000) +contextual (disch:=first | omega | decide +kernel) only [↓vsD,vsE,↓Nat.reduceLT,simprocAttr,sc2_cmp,sc2_cntd,sc2_numd,sc2_known,sc2_number,sc2_comp,sc2_rcomp,sc2_ord,sc2_id,sc2_rid,encP_length]
 refine v_loopS (fun s:Nat × Nat × Store=>[(3,match s.1 with | 0=>.nils | j + 1=>.msl (s.2.1 + 0) j),(6,.sl (encP l)),(7,.int .i64 l.length),(8,.int .i64 s.1)])
  (fun s=>s.2.2) (fun s=>s.1 ≤ l.length ∧ ∀ j,s.1 = j + 1 → s.2.2[s.2.1]? = some (.rows 58 3 (encD ((l.take s.1).map (·.id))) j)) (fun s=>l.length - s.1) (0,0,[]) (by simp [weaker,Go.PV.look]) rfl ⟨by simp,fun j h=>by simp at h⟩ ?_
 rintro ⟨k,o,Q⟩ ⟨hk,hQ⟩
 dsimp only at hk hQ ⊢
 by_cases hkl:k < l.length
 ·cases k with
  | zero =>
   have e1:l.take 1 = [l.getD 0 default]:=by rw [take_succD l 0 hkl,List.take_zero]; rfl
   have hk1:1 ≤ l.length:=hkl
   simp -dsimp (maxSteps:=4000000) +contextual (disch:=first | omega | decide +kernel) only [↓vsD,vsE,↓Nat.reduceLT,simprocAttr,sc2_cmp,sc2_cntd,sc2_numd,sc2_known,sc2_number,sc2_comp,sc2_rcomp,sc2_ord,sc2_id,sc2_rid,encP_length,encP_getD,bytesK,lenK,vgap]
   refine ⟨(1,Q.length + 1,_),(by (try dsimp only); omega),by simp [weaker,Go.PV.look],rfl,hk1,fun j h=>?_⟩
   obtain rfl:j = 0:=by dsimp only at h; omega
   dsimp only
   rw [e1]
   simp [encD,idRow]
  | succ j =>
   have hq:=hQ j rfl
   have e1:=take_succD l (j + 1) hkl
   have hk1:j + 1 + 1 ≤ l.length:=hkl
   have hql:=(List.getElem?_eq_some_iff.1 hq).1
   have g1:∀ X,(Q ++ X)[o]? = some (.rows 58 3 (encD ((l.take (j + 1)).map (·.id))) j):=fun X=>by rw [List.getElem?_append_left hql,hq]
   have g2:∀ X y,(Q ++ X).set o y = Q.set o y ++ X:=fun X y=>by rw [List.set_append_left _ _ hql]
   have hel:(encD ((l.take (j + 1)).map (·.id))).length = j + 1:=by rw [encD_length,List.length_map,List.length_take]; omega
   simp -dsimp (maxSteps:=4000000) +contextual (disch:=first | omega | decide +kernel) only [↓vsD,vsE,↓Nat.reduceLT,simprocAttr,sc2_cmp,sc2_cntd,sc2_numd,sc2_known,sc2_number,sc2_comp,sc2_rcomp,sc2_ord,sc2_id,sc2_rid,encP_length,encP_getD,bytesK,lenK,vgap,g1,g2,hel,Nat.add_zero]
   refine ⟨(j + 1 + 1,o,_),(by (try dsimp only); omega),by simp [weaker,Go.PV.look],rfl,hk1,fun j2 h=>?_⟩
   obtain rfl:j2 = j + 1:=by dsimp only at h; omega
   dsimp only
   rw [List.getElem?_append_left (by rw [List.length_set]; exact hql),List.getElem?_set_self hql,e1]
   simp [encD,idRow]
 ·cases k with
  | zero =>
   have:l = []:=List.eq_nil_of_length_eq_zero (by omega)
   subst this
   simp -dsimp (maxSteps:=4000000) +contextual (disch:=first | omega | decide +kernel) only [↓vsD,vsE,↓Nat.reduceLT,simprocAttr,sc2_cmp,sc2_cntd,sc2_numd,sc2_known,sc2_number,sc2_comp,sc2_rcomp,sc2_ord,sc2_id,sc2_rid,encP_length]
   exact fin0 .nils rfl
  | succ j =>
   have hq:=hQ j rfl
   have e1:l.take (j + 1) = l:=List.take_of_length_le (by omega)
   rw [e1] at hq
   simp -dsimp (maxSteps:=4000000) +contextual (disch:=first | omega | decide +kernel) only [↓vsD,vsE,↓Nat.reduceLT,simprocAttr,sc2_cmp,sc2_cntd,sc2_numd,sc2_known,sc2_number,sc2_comp,sc2_rcomp,sc2_ord,sc2_id,sc2_rid,encP_length,Nat.add_zero]
   exact fin0 (Frz.msl0 (Nat.zero_le _) hq (encD_bel _ _)) rfl
theorem idents_on (l:List Pc) (hl:l.length ≤ 1000) (σ:Store):PCall Try.prog 37 [.sl (encP l)] σ (fun q σ'=>q = .sl (encD (l.map (·.id))) ∧ σ' = σ) :=
 PCall.lift (idents_w l hl) (bel1 (bel_pcs _ l)) (fun q h=>⟨by rw [h]; exact bel_ids _ _,h,rfl⟩)
theorem adj_pw {α:Type} {R:α → α → Prop} (ht:∀ a b c,R a b → R b c → R a c) {d:α}:∀ {l:List α},(∀ j,j + 1 < l.length → R (l.getD j d) (l.getD (j + 1) d)) → l.Pairwise R
 | [],_=>.nil
 | [a],_=>List.pairwise_singleton _ _
 | a :: b :: l,h=>by
  have ih:=adj_pw (R:=R) ht (d:=d) (l:=b :: l) (fun j hj=>by
   have:=h (j + 1) (by simp at hj ⊢; omega)
   simpa [List.getD_eq_getElem?_getD] using this)
  have h0:R a b:=by
   have:=h 0 (by simp)
   simpa [List.getD_eq_getElem?_getD] using this
  refine List.pairwise_cons.2 ⟨fun x hx=>?_,ih⟩
  rcases List.mem_cons.1 hx with rfl | hx
  ·exact h0
  ·exact ht _ _ _ h0 ((List.pairwise_cons.1 ih).1 x hx)
theorem pw_adj {α:Type} {R:α → α → Prop} {d:α} {l:List α} (h:l.Pairwise R) {j:Nat} (hj:j + 1 < l.length):R (l.getD j d) (l.getD (j + 1) d):=by
 have:=List.pairwise_iff_getElem.1 h j (j + 1) (by omega) hj (by omega)
 rw [List.getD_eq_getElem?_getD,List.getD_eq_getElem?_getD,List.getElem?_eq_getElem (by omega),List.getElem?_eq_getElem hj]
 exact this
theorem asc_ok (l:List Idn) (hl:l.length < 2 ^ 63) (σ:Store):PCall Try.prog 38 [.sl (encD l)] σ (fun q σ'=>q = .bool (decide (l.Pairwise idlt)) ∧ σ' = σ):=by
 refine PCall.vraw [] 1048719 21 [.tmp 2] sc2_ok mix Try.func38 rfl (by decide) rfl rfl (by simp) ?_
 simp -dsimp only [initFr,List.zipIdx_cons,List.zipIdx_nil,List.map_cons,List.map_nil,Nat.zero_add,Nat.reduceAdd]
 simp -dsimp (maxSteps:=4000000) +contextual (disch:=first | omega | decide +kernel) only [↓vsD,vsE,↓Nat.reduceLT,simprocAttr,sc2_cmp,sc2_cntd,sc2_numd,sc2_known,sc2_number,sc2_comp,sc2_rcomp,sc2_ord,sc2_id,sc2_rid,encD_length]
 refine v_loopS (fun i:Nat=>[(0,.sl (encD l)),(3,.int .i64 ((i + 1:Nat):Int))]) (fun _=>σ) (fun i=>(i + 1 ≤ l.length ∨ i = 0) ∧ ∀ j,j < i → idlt (l.getD j default) (l.getD (j + 1) default)) (fun i=>l.length - i) 0 (by simp [weaker,Go.PV.look]) rfl ⟨.inr rfl,fun j h=>absurd h (Nat.not_lt_zero _)⟩ ?_
 rintro i ⟨hi,hp⟩
 by_cases hil:i + 1 < l.length
 ·have e1:(((i + 1:Nat):Int) - 1).toNat = i:=by omega
  have e2:((i + 1:Nat):Int) - 1 = i:=by omega
  simp -dsimp (maxSteps:=4000000) +contextual (disch:=first | omega | decide +kernel) only [↓vsD,vsE,↓Nat.reduceLT,simprocAttr,sc2_cmp,sc2_cntd,sc2_numd,sc2_known,sc2_number,sc2_comp,sc2_rcomp,sc2_ord,sc2_id,sc2_rid,encD_length,encD_getD,e1,e2]
  refine ⟨fun h=>?_,fun h=>?_⟩
  ·rw [decide_eq_false]
   intro hpw
   have:=(cmp3_lt _ _).2 (pw_adj (d:=default) hpw hil)
   omega
  ·have h2:=(cmp3_lt (l.getD i default) (l.getD (i + 1) default)).1 (by omega)
   exact ⟨i + 1,(by (try dsimp only); omega),by simp [weaker,Go.PV.look],rfl,.inl (by omega),fun j hj=>by
    rcases Nat.lt_succ_iff_lt_or_eq.1 hj with h | rfl
    ·exact hp j h
    ·exact h2⟩
 ·simp -dsimp (maxSteps:=4000000) +contextual (disch:=first | omega | decide +kernel) only [↓vsD,vsE,↓Nat.reduceLT,simprocAttr,sc2_cmp,sc2_cntd,sc2_numd,sc2_known,sc2_number,sc2_comp,sc2_rcomp,sc2_ord,sc2_id,sc2_rid,encD_length]
  rw [decide_eq_true]
  exact adj_pw (l:=l) (R:=idlt) (fun a b c=>idlt_trans) (d:=default) (fun j hj=>hp j (by omega))
theorem idx_w (l:List Idn) (x:Idn) (hl:l.length < 2 ^ 63):PCall Try.prog 71 [.sl (encD l),.agg (idRow x)] [] (fun q _=>∃ r:Int,q = .int .i64 r ∧ (0 ≤ r ↔ x ∈ l)):=by
 unfold idRow
 refine PCall.vfrz [] 66495 19 [.tmp 4] (noE_ok _) mix Try.func71 rfl (by decide) rfl rfl (by simp) ?_
 simp -dsimp only [initFr,List.zipIdx_cons,List.zipIdx_nil,List.map_cons,List.map_nil,Nat.zero_add,Nat.reduceAdd]
 simp -dsimp (maxSteps:=4000000) +contextual (disch:=first | omega | decide +kernel) only [↓vsD,vsE,↓Nat.reduceLT,simprocAttr,encD_length]
 refine v_loopS (fun k:Nat=>[(0,.sl (encD l)),(3,.ptr 0 0 0 0),(7,.int .i64 l.length),(8,.int .i64 k)]) (fun _=>[.rows 58 3 [[.int .i64 x.1,.int .i64 x.2.1,.int .i64 x.2.2]] 0]) (fun k=>k ≤ l.length ∧ ∀ j,j < k → x ≠ l.getD j default) (fun k=>l.length - k) 0 (by simp [weaker,Go.PV.look]) rfl ⟨Nat.zero_le _,fun j h=>absurd h (Nat.not_lt_zero _)⟩ ?_
 rintro k ⟨hk,hp⟩
 by_cases hkl:k < l.length
 ·simp -dsimp (maxSteps:=4000000) +contextual (disch:=first | omega | decide +kernel) only [↓vsD,vsE,↓Nat.reduceLT,simprocAttr,encD_length,encD_getD,eqD]
  exact ⟨fun h=>fin0 (.keep _ (bel_int _ _ _)) ⟨_,rfl,fun _=>gtD hkl,fun _=>by omega⟩,fun h=>⟨k + 1,(by (try dsimp only); omega),by simp [weaker,Go.PV.look],rfl,hkl,fun j hj=>by
   rcases Nat.lt_succ_iff_lt_or_eq.1 hj with h2 | rfl
   ·exact hp j h2
   ·exact h⟩⟩
 ·simp -dsimp (maxSteps:=4000000) +contextual (disch:=first | omega | decide +kernel) only [↓vsD,vsE,↓Nat.reduceLT,simprocAttr,encD_length]
  refine fin0 (.keep _ (bel_int _ _ _)) ⟨_,rfl,fun h=>absurd h (by omega),fun h=>?_⟩
  obtain ⟨j,hj,he⟩:=List.mem_iff_getElem.1 h
  refine absurd ?_ (hp j (by omega))
  rw [List.getD_eq_getElem?_getD,List.getElem?_eq_getElem hj,← he]; rfl
theorem contD_w (l:List Idn) (x:Idn) (hl:l.length < 2 ^ 63):PCall Try.prog 44 [.sl (encD l),.agg (idRow x)] [] (fun q _=>q = .bool (decide (x ∈ l))):=by
 have h1:∀ σ,PCall Try.prog 71 [.sl (encD l),.agg (idRow x)] σ (fun q σ'=>(∃ r:Int,q = .int .i64 r ∧ (0 ≤ r ↔ x ∈ l)) ∧ σ' = σ):=fun σ =>
  PCall.lift (idx_w l x hl) (bel2 (bel_ids _ l) (bel_id _ x)) (fun q ⟨r,h,h2⟩=>⟨by rw [h]; exact bel_int _ _ _,⟨r,h,h2⟩,rfl⟩)
 unfold idRow at h1 ⊢
 refine PCall.vfrz [] 31 9 [.tmp 4] (noE_ok _) mix Try.func44 rfl (by decide) rfl rfl (by simp) ?_
 simp -dsimp only [initFr,List.zipIdx_cons,List.zipIdx_nil,List.map_cons,List.map_nil,Nat.zero_add,Nat.reduceAdd]
 simp -dsimp (maxSteps:=4000000) +contextual (disch:=first | omega | decide +kernel) only [↓vsD,vsE,↓Nat.reduceLT,simprocAttr]
 refine PCall.mono (h1 _) ?_
 rintro q σ' ⟨⟨r,rfl,hr⟩,rfl⟩
 simp -dsimp (maxSteps:=4000000) +contextual (disch:=first | omega | decide +kernel) only [↓vsD,vsE,↓Nat.reduceLT,simprocAttr]
 exact ⟨fun h=>fin0 (.keep _ (bel_bool _ _)) (by rw [decide_eq_true (hr.1 h)]),fun h=>fin0 (.keep _ (bel_bool _ _)) (by rw [decide_eq_false (fun h2=>h (hr.2 h2))])⟩
theorem contD_on (l:List Idn) (x:Idn) (hl:l.length < 2 ^ 63) (σ:Store):PCall Try.prog 44 [.sl (encD l),.agg (idRow x)] σ (fun q σ'=>q = .bool (decide (x ∈ l)) ∧ σ' = σ) :=
 PCall.lift (contD_w l x hl) (bel2 (bel_ids _ l) (bel_id _ x)) (fun q h=>⟨by rw [h]; exact bel_bool _ _,h,rfl⟩)
theorem v1_on (p:Pc) (hp:FitP p) (σ:Store):PCall Try.prog 40 [.agg p.row] σ (fun q τ=>q = .bool (!pcB p) ∧ τ = σ):=by
 have hv:=pval_on p hp
 have k0:∀ args σ,noE.f 41 args σ = none:=fun _ _=>rfl
 unfold Pc.row at hv ⊢
 refine PCall.vfrz [] 7 6 [.tmp 2] (noE_ok _) mix Try.func40 rfl (by decide) rfl rfl (by simp) ?_
 simp -dsimp only [initFr,List.zipIdx_cons,List.zipIdx_nil,List.map_cons,List.map_nil,Nat.zero_add,Nat.reduceAdd]
 simp -dsimp (maxSteps:=4000000) +contextual (disch:=first | omega | decide +kernel) only [↓vsD,vsE,↓Nat.reduceLT,simprocAttr,vgap,k0]
 refine PCall.mono (hv _) ?_
 rintro q σ' ⟨rfl,rfl⟩
 cases pcB p <;>
 ·simp -dsimp (maxSteps:=4000000) +contextual (disch:=first | omega | decide +kernel) only [↓vsD,vsE,↓Nat.reduceLT,simprocAttr]
  exact fin_app (.keep _ (bel_bool _ _)) ⟨rfl,rfl⟩
theorem v2_on (x:Idn) (cs:List Idn) (o:Nat) (P:PV) (hc:cs.length < 2 ^ 63) (σ:Store) (ho:σ[o]? = some (.rows 26 2 [[P,.sl (encD cs)]] 0)) :
  PCall Try.prog 43 [.agg (idRow x),.ptr o 0 0 0] σ (fun q τ=>q = .bool (decide (x ∈ cs)) ∧ τ = σ):=by
 have hol:=(List.getElem?_eq_some_iff.1 ho).1
 have g1:∀ X,(σ ++ X)[o]? = some (.rows 26 2 [[P,.sl (encD cs)]] 0):=fun X=>by rw [List.getElem?_append_left hol,ho]
 have hv:=contD_on cs x hc
 have k0:∀ args σ,noE.f 44 args σ = none:=fun _ _=>rfl
 unfold idRow at hv ⊢
 refine PCall.vfrz [] 15 8 [.tmp 3] (noE_ok _) mix Try.func43 rfl (by decide) rfl rfl (by simp) ?_
 simp -dsimp only [initFr,List.zipIdx_cons,List.zipIdx_nil,List.map_cons,List.map_nil,Nat.zero_add,Nat.reduceAdd]
 simp -dsimp (maxSteps:=4000000) +contextual (disch:=first | omega | decide +kernel) only [↓vsD,vsE,↓Nat.reduceLT,simprocAttr,vgap,g1,k0]
 refine PCall.mono (hv _) ?_
 rintro q σ' ⟨rfl,rfl⟩
 simp -dsimp (maxSteps:=4000000) +contextual (disch:=first | omega | decide +kernel) only [↓vsD,vsE,↓Nat.reduceLT,simprocAttr]
 exact fin_app (.keep _ (bel_bool _ _)) ⟨rfl,rfl⟩
def FitS (s:StS):Prop:=s.ps.length ≤ 1000 ∧ s.cs.length ≤ 1000 ∧ ∀ p ∈ s.ps,FitP p
set_option maxHeartbeats 4000000 in
theorem sval_w (s:StS) (hs:FitS s):PCall Try.prog 15 [stV s] [] (fun q _=>q = .bool (stB s)):=by
 obtain ⟨hs1,hs2,hs3⟩:=hs
 have fno:¬ OkSt s → ∀ σ',Go.PV.Fin [] (fun q _=>q = PV.bool (stB s)) (.bool false) σ':=fun h σ'=>fin0 (.keep _ (bel_bool _ _)) (by rw [stB_f h])
 unfold stV
 refine PCall.vfrz [] 150994959 32 [.tmp 2] (noE_ok _) mix Try.func15 rfl (by decide) rfl rfl (by simp) ?_
 simp -dsimp only [initFr,List.zipIdx_cons,List.zipIdx_nil,List.map_cons,List.map_nil,Nat.zero_add,Nat.reduceAdd]
 simp -dsimp (maxSteps:=4000000) +contextual (disch:=first | omega | decide +kernel) only [↓vsD,vsE,↓Nat.reduceLT,simprocAttr,encP_length,encD_length]
 refine PCall.mono (idents_on s.ps hs1 _) ?_
 rintro q σ' ⟨rfl,rfl⟩
 have hml:(s.ps.map (·.id)).length = s.ps.length:=List.length_map _
 generalize hown:s.ps.map (·.id) = own at hml
 simp -dsimp (maxSteps:=4000000) +contextual (disch:=first | omega | decide +kernel) only [↓vsD,vsE,↓Nat.reduceLT,simprocAttr,encP_length,encD_length]
 refine ⟨fun h=>fno (fun o=>by have:=o.n; omega) _,fun h1=>?_⟩
 refine PCall.mono (asc_ok own (by omega) _) ?_
 rintro q σ' ⟨rfl,rfl⟩
 by_cases hA:own.Pairwise idlt
 ·rw [decide_eq_true hA]
  simp -dsimp (maxSteps:=4000000) +contextual (disch:=first | omega | decide +kernel) only [↓vsD,vsE,↓Nat.reduceLT,simprocAttr,encP_length,encD_length]
  refine PCall.mono (asc_ok s.cs (by omega) _) ?_
  rintro q σ' ⟨rfl,rfl⟩
  by_cases hB:s.cs.Pairwise idlt
  ·rw [decide_eq_true hB]
   simp -dsimp (maxSteps:=4000000) +contextual (disch:=first | omega | decide +kernel) only [↓vsD,vsE,↓Nat.reduceLT,simprocAttr,encP_length,encD_length]
   refine PCall.mono (contPC s.ps (by omega) 40 [] (fun p=>!pcB p) _ (fun _ _=>rfl) (fun p hp=>v1_on p (hs3 p hp) _)) ?_
   rintro q σ' ⟨rfl,rfl⟩
   cases hC:s.ps.any (fun p=>!pcB p) with
   | true =>
    simp -dsimp (maxSteps:=4000000) +contextual (disch:=first | omega | decide +kernel) only [↓vsD,vsE,↓Nat.reduceLT,simprocAttr]
    refine fno (fun o=>?_) _
    obtain ⟨x,hx,hf⟩:=List.any_eq_true.1 hC
    obtain ⟨i,hi,rfl⟩:=List.mem_iff_getElem.1 hx
    have:=o.p i hi
    rw [List.getD_eq_getElem?_getD,List.getElem?_eq_getElem hi,Option.getD_some] at this
    rw [pcB_t this] at hf
    cases hf
   | false =>
    simp -dsimp (maxSteps:=4000000) +contextual (disch:=first | omega | decide +kernel) only [↓vsD,vsE,↓Nat.reduceLT,simprocAttr]
    refine PCall.mono (contID own (by omega) 43 [.ptr 0 0 0 0] (fun x=>decide (x ∈ s.cs)) _ (fun _ _=>rfl) (fun x hx=>v2_on x s.cs 0 (.sl (encP s.ps)) (by omega) _ rfl)) ?_
    rintro q σ' ⟨rfl,rfl⟩
    cases hD:own.any (fun x=>decide (x ∈ s.cs)) with
    | true =>
     simp -dsimp (maxSteps:=4000000) +contextual (disch:=first | omega | decide +kernel) only [↓vsD,vsE,↓Nat.reduceLT,simprocAttr]
     refine fno (fun o=>?_) _
     obtain ⟨x,hx,hf⟩:=List.any_eq_true.1 hD
     rw [← hown] at hx
     obtain ⟨p,hp,rfl⟩:=List.mem_map.1 hx
     exact o.o.d p hp (of_decide_eq_true hf)
    | false =>
     simp -dsimp (maxSteps:=4000000) +contextual (disch:=first | omega | decide +kernel) only [↓vsD,vsE,↓Nat.reduceLT,simprocAttr]
     refine fin0 (.keep _ (bel_bool _ _)) ?_
     rw [stB_t]
     refine ⟨by omega,⟨?_,hB,fun p hp h=>?_⟩,fun i hi=>Classical.byContradiction fun h=>?_⟩
     ·rw [← hown] at hA
      exact List.pairwise_map.1 hA
     ·have:own.any (fun x=>decide (x ∈ s.cs)) = true:=List.any_eq_true.2 ⟨p.id,by rw [← hown]; exact List.mem_map.2 ⟨p,hp,rfl⟩,decide_eq_true h⟩
      rw [hD] at this
      cases this
     ·have:s.ps.any (fun p=>!pcB p) = true:=List.any_eq_true.2 ⟨_,gtD (d:=default) hi,by rw [pcB_f h]; rfl⟩
      rw [hC] at this
      cases this
  ·rw [decide_eq_false hB]
   simp -dsimp (maxSteps:=4000000) +contextual (disch:=first | omega | decide +kernel) only [↓vsD,vsE,↓Nat.reduceLT,simprocAttr,encP_length,encD_length]
   exact fno (fun o=>hB o.o.c) _
 ·rw [decide_eq_false hA]
  simp -dsimp (maxSteps:=4000000) +contextual (disch:=first | omega | decide +kernel) only [↓vsD,vsE,↓Nat.reduceLT,simprocAttr,encP_length,encD_length]
  exact fno (fun o=>hA (by rw [← hown]; exact List.pairwise_map.2 o.o.p)) _
theorem sval_on (s:StS) (hs:FitS s) (σ:Store):PCall Try.prog 15 [stV s] σ (fun q σ'=>q = .bool (stB s) ∧ σ' = σ) :=
 PCall.lift (sval_w s hs) (bel1 (bel_st _ s)) (fun q h=>⟨by rw [h]; exact bel_bool _ _,h,rfl⟩)
end Go.Proofs.Ythjoehaglonjaaa
