import Derived.Test.YthjoehaglonjaaaGreatSvM
import Derived.Test.YthjoehaglonjaaaGreatSvG
set_option maxRecDepth 8000
set_option linter.unusedSimpArgs false
set_option linter.unusedVariables false
namespace Go.Proofs.YthjoehaglonjaaaGreat
open Go.PV
theorem totC_snoc {L:List (List FC)} (h:L ≠ []) (y:List FC) (f:Nat):totC (L ++ [y]) f = sumF (totC L f) (y.getD f default):=by
 have h0:(L ++ [y]).getD 0 [] = L.getD 0 []:=by
  cases L with
  | nil=>exact absurd rfl h
  | cons a l=>rfl
 unfold totC
 rw [h0,List.map_append,List.foldl_append]
 rfl
theorem totF_length (L:List (List FC)):(totF L).length = (L.getD 0 []).length:=by simp [totF]
theorem totF_at (L:List (List FC)) (f:Nat) (hf:f < (L.getD 0 []).length):(totF L).getD f default = totC L f:=by
 unfold totF
 rw [List.getD_eq_getElem?_getD,List.getElem?_map,List.getElem?_range hf]
 rfl
theorem okG {s:StS} (h:SmP s) (ho:OkSt s) {p:Pc} (hp:p ∈ s.ps):(1 ≤ p.fs.length ∧ p.fs.length ≤ 64) ∧ ∀ x ∈ p.fs,CntG x.blocks.length 1 x ∧ 1 ≤ x.blocks.length ∧ x.blocks.length ≤ 256:=by
 obtain ⟨i,hi,rfl⟩:=List.mem_iff_getElem.1 hp
 have h1:=ho.p i hi
 rw [List.getD_eq_getElem?_getD,List.getElem?_eq_getElem hi,Option.getD_some] at h1
 refine ⟨h1.n,fun x hx=>?_⟩
 have hc:=okCnt h ho hp hx
 have hsl:=h.o _ hp _ hx
 obtain ⟨j,hj,rfl⟩:=List.mem_iff_getElem.1 hx
 have h2:=h1.f j hj
 rw [List.getD_eq_getElem?_getD,List.getElem?_eq_getElem hj,Option.getD_some] at h2
 exact ⟨⟨rfl,h2.e,h2.c,fun k hk=>(h2.b k hk).1,fun k hk=>(h2.b k hk).2,hsl.1,hc.2.2,hsl.2⟩,h2.l⟩
theorem OneG.tg {n c:Nat} {x:FC} (h:CntG n c x):∀ s ∈ x.sites,s.tg.length ≤ 1:=fun s hs=>by
 obtain ⟨c,hc,_⟩:=h.s s hs
 rw [hc]; simp
def AllG (c:Nat) (A:List FC):Prop:=∀ x ∈ A,CntG x.blocks.length c x ∧ x.blocks.length ≤ 256
theorem TtI.frz {n0:Nat} {Q:Store} {g:Nat → Nat} {oo v:Nat} {Rw:List (List PV)} {A:List FC} (h:TtI n0 Q g oo v Rw A A.length) (hA:∀ x ∈ A,One1 x.sites):Frz 0 Q (.msl oo v) (.sl (encF A)):=by
 have key:∀ i row,Rw[i]? = some row → i < A.length ∧ RowA Q g A.length i row (A.getD i default):=fun i row hr=>by
  have hi:i < A.length:=by rw [← h.rl]; exact (List.getElem?_eq_some_iff.1 hr).1
  have h1:=h.row i hi
  rw [List.getD_eq_getElem?_getD,hr,Option.getD_some] at h1
  exact ⟨hi,h1⟩
 refine .msl oo v _ _ Rw (encF A) (Nat.zero_le _) h.ob (by rw [encF_length,h.rl]) (fun i row hr=>?_) (fun i row j p hr hj=>?_)
 ·obtain ⟨hi,b,e,S,W,h1,_⟩:=key i row hr
  rw [encF_getD A i hi,h1]; rfl
 ·obtain ⟨hi,b,e,S,W,h1,hb,he,_,_,h5,_⟩:=key i row hr
  rw [encF_getD A i hi]
  subst h1
  match j,hj with
  | 0,hj=>simp at hj; subst hj; exact .keep _ (bel_int _ _ _)
  | 1,hj=>simp at hj; subst hj; exact Frz.msl0 (Nat.zero_le _) hb (enc_bel _ _ _)
  | 2,hj=>simp at hj; subst hj; exact Frz.msl0 (Nat.zero_le _) he (encT_bel _ _)
  | 3,hj=>simp at hj; subst hj; exact (h5 hi).1.frz (hA _ (gtD hi))
  | j + 4,hj=>simp at hj
theorem RowA.done {Q:Store} {g:Nat → Nat} {m i b e:Nat} {S2:PV} {W2:List Nat} {x2:FC} {Z:Store} {row:List PV} (hn:row = [.int .i64 x2.ent,.msl b 0,.msl e 0,S2]) (hm:i < m) (gb:g b = 3 * i + 1) (ge:g e = 3 * i + 2) (hbl:b < Q.length) (hel:e < Q.length)
  (hb:Z[b]? = some (.rows 3 1 (ints x2.blocks) 0)) (he:Z[e]? = some (.rows 65 2 (encT x2.edges) 0)) (hr:RefL Z x2.sites S2 W2) (hw:∀ w ∈ W2,(w < Q.length ∧ g w = 3 * i + 3) ∨ Q.length ≤ w) (hl:Q.length ≤ Z.length) :
  RowA Z (fun j=>if j < Q.length then g j else 3 * i + 3) m i row x2 :=
 ⟨b,e,S2,_,hn,hb,he,by dsimp only; rw [if_pos hbl,gb],by dsimp only; rw [if_pos hel,ge],fun _=>⟨hr.cut,fun w hw2=>by
  rw [List.mem_filter,decide_eq_true_eq] at hw2
  refine ⟨hw2.2,?_⟩
  dsimp only
  rcases hw w hw2.1 with ⟨h1,h2⟩ | h
  ·rw [if_pos h1,h2]
  ·rw [if_neg (by omega)]⟩,fun h=>absurd h (by omega)⟩
def finX (x _y:FC):FC:=⟨x.ent,x.blocks,x.edges,addSs [] x.sites⟩
structure FiP (s:StS) (p:Pc) (oo v f:Nat) (A:List FC) (g:Nat → Nat) (Rw:List (List PV)) (Q:Store):Prop where
 q0:Q[0]? = some (.rows 29 2 [[.sl (encP s.ps),.sl (encD s.cs)]] 0)
 q1:Q[1]? = some (.rows 36 1 [[.nils]] 0)
 q2:Q[2]? = some (.rows 36 1 [[.msl oo v]] 0)
 t:TtI 3 Q g oo v Rw A f
 h:HalfL finX default p.fs p.fs f A
structure ToI (s:StS) (r:Int) (k n:Nat) (OV:PV) (Q:Store):Prop where
 hn:n = (ofR (s.ps.take k) r).length
 q0:Q[0]? = some (.rows 29 2 [[.sl (encP s.ps),.sl (encD s.cs)]] 0)
 q1:Q[1]? = some (.rows 36 1 [[.nils]] 0)
 q2:Q[2]? = some (.rows 36 1 [[OV]] 0)
 ov:(n = 0 ∧ OV = .nils) ∨ (0 < n ∧ OneSh (ofR (s.ps.take k) r) (shp ((ofR (s.ps.take k) r).getD 0 [])) ∧ AllG n (totF (ofR (s.ps.take k) r)) ∧ ∃ g oo v Rw,OV = .msl oo v ∧ TtI 3 Q g oo v Rw (totF (ofR (s.ps.take k) r)) (totF (ofR (s.ps.take k) r)).length)
theorem ofR_split (ps:List Pc) (r:Int) (k:Nat):ofR ps r = ofR (ps.take k) r ++ ofR (ps.drop k) r:=by
 unfold ofR
 rw [← List.map_append,← List.filter_append,List.take_append_drop]
theorem shp_totF {L:List (List FC)} {w:List Nat} (h:OneSh L w) (h0:L ≠ []):shp (totF L) = w:=by
 have hl:=totF_len h h0
 refine listExt (d:=0) (by rw [shp_len,hl]) (fun f hf=>?_)
 rw [shp_get _ _ (by omega),totF_get h h0 hf,totC_eq h h0 hf]
 refine (fold_blk _ _ (by simp [zeroF]) (fun x hx=>?_)).1
 obtain ⟨l,hl,rfl⟩:=List.mem_map.1 hx
 have h1:=h l hl
 rw [← shp_get l f (by rw [← shp_len,h1]; exact hf),h1]
structure SuP (s:StS) (p:Pc) (oo v f pb:Nat) (A0 A:List FC) (g:Nat → Nat) (Rw:List (List PV)) (Q:Store):Prop where
 q0:Q[0]? = some (.rows 29 2 [[.sl (encP s.ps),.sl (encD s.cs)]] 0)
 q1:Q[1]? = some (.rows 36 1 [[.nils]] 0)
 q2:Q[2]? = some (.rows 36 1 [[.msl oo v]] 0)
 qp:Q[pb]? = some (.rows 38 5 [[.int .i64 p.id.1,.int .i64 p.id.2.1,.int .i64 p.id.2.2,.int .u64 p.dig,.sl (encF p.fs)]] 0)
 gp:g pb = 0
 t:TtI 3 Q g oo v Rw A A0.length
 h:HalfL sumF default A0 p.fs f A
theorem finish {Q:Store} {oo v:Nat} {A:List FC} {n:Int} (h:Frz 0 Q (.msl oo v) (.sl (encF A))) {K:PV → Store → Prop} (hK:K (.tup [cntV A,.int .i64 n,.int .i64 0]) []):Go.PV.Fin [] K (.tup [.agg [.msl oo v],.int .i64 n,.int .i64 0]) Q:=by
 refine fin0 (.tup _ [cntV A,.int .i64 n,.int .i64 0] rfl (fun j p hj=>?_)) hK
 match j,hj with
 | 0,hj =>
  simp at hj; subst hj
  refine .agg _ [.sl (encF A)] rfl (fun i c hc=>?_)
  match i,hc with
  | 0,hc=>simp at hc; subst hc; exact h
  | i + 1,hc=>simp at hc
 | 1,hj=>simp at hj; subst hj; exact .keep _ (bel_int _ _ _)
 | 2,hj=>simp at hj; subst hj; exact .keep _ (bel_int _ _ _)
 | j + 3,hj=>simp at hj
set_option maxRecDepth 8000 in
set_option maxHeartbeats 32000000 in
theorem rtotal_w (s:StS) (r:Int) (hs:SmP s):PCall Tryz.prog 15 [stV s,.int .i64 r] [] (fun q _=>q = .tup [cntV (totR s r).1,.int .i64 (totR s r).2.1,.int .i64 (totR s r).2.2]):=by
 have k0:∀ args σ,noE.f 29 args σ = none:=fun _ _=>rfl
 have k1:∀ args σ,noE.f 30 args σ = none:=fun _ _=>rfl
 have k2:∀ args σ,noE.f 31 args σ = none:=fun _ _=>rfl
 have k3:∀ args σ,noE.f 32 args σ = none:=fun _ _=>rfl
 have k4:∀ args σ,noE.f 10 args σ = none:=fun _ _=>rfl
 have hv:=rsval_on s hs.fit
 unfold stV at hv ⊢
 refine PCall.vfrz [] 23384026197336981992194677041898674948551144505343 168 [.cell 4 36,.tmp 5,.tmp 6] (noE_ok _) mix Tryz.func15 rfl (by decide) rfl rfl (by simp) ?_
 simp -dsimp only [initFr,List.zipIdx_cons,List.zipIdx_nil,List.map_cons,List.map_nil,Nat.zero_add,Nat.reduceAdd]
 simp -dsimp (maxSteps:=4000000) +contextual (disch:=first | omega | decide +kernel) only [↓vsD,vsE,↓Nat.reduceLT,simprocAttr,vcel,k0]
 refine PCall.mono (hv _) ?_
 rintro q τ ⟨rfl,rfl⟩
 by_cases hok:OkSt s
 ·rw [stB_t hok]
  rw [totR_t hok]
  have hpn:=hs.n
  simp -dsimp (maxSteps:=4000000) +contextual (disch:=first | omega | decide +kernel) only [↓vsD,vsE,↓Nat.reduceLT,simprocAttr,vcel,encP_length]
  refine v_loopS (fun t:Nat × Nat × PV × Store=>[(1,.int .i64 r),(2,.ptr 0 0 0 0),(4,.ptr 1 0 0 0),(7,.ptr 2 0 0 0),(8,.int .i64 t.2.1),(9,.int .i64 t.1)]) (fun t=>t.2.2.2) (fun t=>t.1 ≤ s.ps.length ∧ ToI s r t.1 t.2.1 t.2.2.1 t.2.2.2) (fun t=>s.ps.length - t.1) (0,0,.nils,_) (by simp [weaker,Go.PV.look]) rfl ⟨Nat.zero_le _,⟨rfl,rfl,rfl,rfl,.inl ⟨rfl,rfl⟩⟩⟩ ?_
  rintro ⟨k,n,OV,Q⟩ ⟨hk,hI⟩
  dsimp only at hk hI ⊢
  have q0:=hI.q0
  have q1:=hI.q1
  have q2:=hI.q2
  have hQl:=(List.getElem?_eq_some_iff.1 q2).1
  by_cases hkn:k < s.ps.length
  ·have ht:=ofR_take s.ps r k hkn
   have hll:=ofR_len (s.ps.take k) r
   rw [List.length_take] at hll
   have hrow:=encP_getD s.ps k hkn
   have hpm:=gtD (d:=(default:Pc)) hkn
   obtain ⟨p,hp⟩:∃ p,p = s.ps.getD k default:=⟨_,rfl⟩
   rw [← hp] at ht hrow hpm
   have hpg:=okG hs hok hpm
   have hpr:p.row = [.int .i64 p.id.1,.int .i64 p.id.2.1,.int .i64 p.id.2.2,.int .u64 p.dig,.sl (encF p.fs)]:=rfl
   by_cases hA:p.id.1 = r ∧ n = 0
   ·obtain ⟨hpr1,hn0⟩:=hA
    subst hn0
    have hL0:ofR (s.ps.take k) r = []:=List.eq_nil_of_length_eq_zero hI.hn.symm
    rcases hI.ov with ⟨_,rfl⟩ | ⟨h,_⟩
    ·rw [if_pos hpr1,hL0,List.nil_append] at ht
     simp -dsimp (maxSteps:=4000000) +contextual (disch:=first | omega | decide +kernel) only [↓vsD,vsE,↓Nat.reduceLT,simprocAttr,vcel,vgap,q0,q1,q2,encP_length,hrow,k1]
     refine PCall.mono (copied31_raw p hpg.1 (fun x hx=>?_) Q) ?_
     ·obtain ⟨h1,h2,h3⟩:=hpg.2 x hx
      exact ⟨⟨h2,by omega⟩,⟨by rw [h1.e]; exact h2,by rw [h1.e]; omega⟩,by have:=h1.sl; omega,fun s hs=>by have:=OneG.tg h1 s hs; omega⟩
     rintro q τ ⟨g,oo,v,Rw,rfl,hT,hlo⟩
     have t0:=(hlo 0 (by omega)).trans q0
     have t1:=(hlo 1 (by omega)).trans q1
     have t2:=(hlo 2 (by omega)).trans q2
     have hon:=hT.no
     have hol:=hT.lt
     have yt:∀ (X:Store) (j:Nat),j < τ.length → (τ ++ X)[j]? = τ[j]?:=fun X j hj=>List.getElem?_append_left hj
     have y2:∀ X:Store,(τ ++ X)[2]? = some (.rows 36 1 [[.nils]] 0):=fun X=>by rw [yt _ _ (by omega),t2]
     simp -dsimp (maxSteps:=4000000) +contextual (disch:=first | omega | decide +kernel) only [↓vsD,vsE,↓Nat.reduceLT,simprocAttr,vcel,vgap,t0,t1,t2,y2,hpr1]
     have y0:FiP s p oo v 0 p.fs g Rw (List.set (τ ++ [.rows 38 5 [[.int .i64 r,.int .i64 p.id.2.1,.int .i64 p.id.2.2,.int .u64 p.dig,.msl oo v]] 0]) 2 (.rows 36 1 [[.msl oo v]] 0)):=by
      refine ⟨by rw [List.getElem?_set_ne (by omega),yt _ _ (by omega),t0],by rw [List.getElem?_set_ne (by omega),yt _ _ (by omega),t1],by rw [List.getElem?_set_self (by simp; omega)],TtI.low (hT.app (fun j hj hgj=>?_) (by simp)) (by omega),HalfL.start _ _ _ _⟩
      have:j ≠ 2:=by
       rcases hgj with h | h
       ·exact fun e=>h (hT.lo j (by omega))
       ·omega
      rw [List.getElem?_set_ne (by omega),yt _ _ hj]
     refine v_loopS (fun t:Nat × List FC × (Nat → Nat) × List (List PV) × Store=>[(1,.int .i64 r),(2,.ptr 0 0 0 0),(4,.ptr 1 0 0 0),(7,.ptr 2 0 0 0),(8,.int .i64 1),(9,.int .i64 k),(10,.ptr τ.length 0 0 0),(11,.int .i64 t.1)]) (fun t=>t.2.2.2.2) (fun t=>t.1 ≤ p.fs.length ∧ FiP s p oo v t.1 t.2.1 t.2.2.1 t.2.2.2.1 t.2.2.2.2) (fun t=>p.fs.length - t.1) (0,p.fs,g,Rw,_) (by simp [weaker,Go.PV.look]) rfl ⟨Nat.zero_le _,y0⟩ ?_
     clear y0 y2 yt t0 t1 t2 hT hlo hol
     rintro ⟨f,A,g,Rw,Q⟩ ⟨hf,hI⟩
     dsimp only at hf hI ⊢
     have q0:=hI.q0
     have q1:=hI.q1
     have q2:=hI.q2
     have hoo:=hI.t.ob
     have hol:=hI.t.lt
     have hrl:=hI.t.rl
     have hAl:=hI.h.1
     have hgo:=hI.t.go
     by_cases hfn:f < p.fs.length
     ·have hx:=hI.h.at' hfn
      have hxm:=gtD (d:=(default:FC)) hfn
      obtain ⟨x,hxe⟩:∃ x,x = p.fs.getD f default:=⟨_,rfl⟩
      rw [← hxe] at hx hxm
      obtain ⟨hxg,hxb⟩:=hpg.2 x hxm
      obtain ⟨b,e,S,W,hRf,hb,he,gb,ge,_,hS⟩:=hI.t.row f (by omega)
      rw [hx] at hRf hb he hS
      have hS:=hS (Nat.le_refl _)
      subst hS
      obtain ⟨q,τ2,W2,hcall,hT2⟩:=addS_any (Y:=Q) (l:=[]) (O:=.nils) (W:=[]) (.inl ⟨rfl,rfl⟩) (fun s h=>by simp at h) List.Pairwise.nil x.sites hxg.s (by have:=hxg.sl; simp; omega)
      obtain ⟨cq,cc⟩:=hT2.r.cell
      have hold:∀ j,j < Q.length → τ2[j]? = Q[j]?:=fun j hj=>hT2.old j hj (by simp)
      have too:=(hold oo hol).trans hoo
      have tq2:=(hold 2 (by omega)).trans q2
      simp -dsimp (maxSteps:=4000000) +contextual (disch:=first | omega | decide +kernel) only [↓vsD,vsE,↓Nat.reduceLT,simprocAttr,vcel,vgap,q0,q1,q2,hoo,hrl,hAl]
      refine v_draws _ _ _ _ _ _ [9,12] [] [(0,1),(0,1),(0,1),(0,0),(0,0),(0,0),(0,0),(0,0),(0,0),(0,0),(1,1),(1,1),(0,0)] (by decide +kernel) (by decide +kernel) (by decide +kernel) (by decide +kernel) ?_
      simp -dsimp (maxSteps:=4000000) +contextual (disch:=first | omega | decide +kernel) only [↓vsD,vsE,↓Nat.reduceLT,simprocAttr,vdA,↓vd_end,↓vdm_go,↓vd_op,↓guard_none,↓guard_some,vcel,vgap,q0,q1,q2,hoo,hrl,hAl,hRf,k2]
      refine ⟨_,_,hcall,by simp [rowsAt,outR,too,tq2,q2,hoo],?_⟩
      simp -dsimp (maxSteps:=4000000) +contextual (disch:=first | omega | decide +kernel) only [↓vsD,vsE,↓Nat.reduceLT,simprocAttr,vdA,↓vd_end,↓vdm_go,↓vd_op,↓guard_none,↓guard_some,vcel,vgap,too,tq2,hrl,hAl,hRf,cq,cc]
      have hst:=hI.h.step hfn
      rw [← hxe] at hst
      have hbl:=(List.getElem?_eq_some_iff.1 hb).1
      have hel:=(List.getElem?_eq_some_iff.1 he).1
      have h2l:=hT2.len
      have hbo:oo ≠ b:=fun h=>by rw [← h,hgo] at gb; omega
      have heo:oo ≠ e:=fun h=>by rw [← h,hgo] at ge; omega
      refine ⟨(f + 1,A.set f (finX x x),fun j=>if j < Q.length then g j else 3 * f + 3,Rw.set f [.int .i64 x.ent,.msl b 0,.msl e 0,q],_),(by (try dsimp only); omega),(by simp [weaker,Go.PV.look]),rfl,hfn,⟨?_,?_,?_,?_,hst⟩⟩
      ·dsimp only; rw [List.getElem?_set_ne (by omega),hold 0 (by omega),q0]
      ·dsimp only; rw [List.getElem?_set_ne (by omega),hold 1 (by omega),q1]
      ·dsimp only; rw [List.getElem?_set_ne (by omega),hold 2 (by omega),q2]
      ·refine hI.t.set (by omega) (List.getElem?_set_self (by omega)) (RowA.done (W2:=W2) rfl (Nat.lt_succ_self f) gb ge hbl hel ?_ ?_ (hT2.r.keep (fun j hj hjl=>?_)) (fun w hw=>.inr ?_) ?_) (fun j hj h1 _ _ _=>?_) (fun j hj=>by dsimp only; rw [if_pos hj]) ?_ (fun i hi=>by omega)
       ·rw [List.getElem?_set_ne hbo,hold b hbl,hb]; rfl
       ·rw [List.getElem?_set_ne heo,hold e hel,he]; rfl
       ·rw [List.getElem?_set_ne (fun h=>?_)]
        rcases hT2.w j hj with h3 | h3
        ·simp at h3
        ·omega
       ·rcases hT2.w w hw with h3 | h3
        ·simp at h3
        ·exact h3
       ·rw [List.length_set]; exact h2l
       ·rw [List.getElem?_set_ne (Ne.symm h1),hold j hj]
       ·rw [List.length_set]; exact h2l
     ·obtain rfl:f = p.fs.length:=by omega
      simp -dsimp (maxSteps:=4000000) +contextual (disch:=first | omega | decide +kernel) only [↓vsD,vsE,↓Nat.reduceLT,simprocAttr,vcel,vgap,q0,q1,q2,hoo,hrl,hAl]
      have hAi:∀ i,i < p.fs.length → A.getD i default = finX (p.fs.getD i default) (p.fs.getD i default):=fun i hi=>by rw [hI.h.2 i hi,if_pos hi]
      have eA:totF [p.fs] = A:=by
       refine listExt (d:=default) (by rw [totF_length,hAl]; rfl) (fun i hi=>?_)
       rw [hAl] at hi
       rw [totF_at _ _ (by exact hi),hAi i hi]
       exact sumF_zero (hpg.2 _ (gtD hi)).1
      refine ⟨(k + 1,1,.msl oo v,Q),(by (try dsimp only); omega),(by simp [weaker,Go.PV.look]),rfl,hkn,?_⟩
      dsimp only
      refine ⟨by rw [ht]; rfl,q0,q1,q2,.inr ⟨by omega,?_,?_,g,oo,v,Rw,rfl,?_⟩⟩
      ·rw [ht]
       intro l hl
       rw [List.mem_singleton.1 hl]; rfl
      ·rw [ht,eA]
       intro x hx
       obtain ⟨i,hi,rfl⟩:=List.mem_iff_getElem.1 hx
       have h1:=hAi i (by omega)
       rw [List.getD_eq_getElem?_getD,List.getElem?_eq_getElem hi,Option.getD_some] at h1
       obtain ⟨h2,h3⟩:=hpg.2 _ (gtD (d:=(default:FC)) (show i < p.fs.length by omega))
       have ap:=addSs_props (p.fs.getD i default).sites [] (fun s h=>by simp at h) h2.s List.Pairwise.nil
       have h4:=h2.sl
       rw [h1]
       exact ⟨⟨rfl,h2.e,h2.en,h2.bc,h2.ec,ap.1,ap.2.1,by have:=ap.2.2; rw [List.length_nil,Nat.zero_add] at this; show (addSs [] _).length ≤ 1; omega⟩,h3.2⟩
      ·rw [ht,eA,hAl]; exact hI.t
    ·omega
   ·have hcp:=copied31_on p (by omega) (fun x hx=>by
     obtain ⟨h1,h2,h3⟩:=hpg.2 x hx
     exact ⟨by omega,by rw [h1.e]; omega,by have:=h1.sl; omega,fun s hs=>by have:=OneG.tg h1 s hs; omega⟩) Q
    rw [hpr] at hcp
    have yq:∀ (X:Store) (j:Nat),j < Q.length → (Q ++ X)[j]? = Q[j]?:=fun X j hj=>List.getElem?_append_left hj
    have y2:∀ X:Store,(Q ++ X)[2]? = some (.rows 36 1 [[OV]] 0):=fun X=>by rw [yq _ _ (by omega),q2]
    simp -dsimp (maxSteps:=4000000) +contextual (disch:=first | omega | decide +kernel) only [↓vsD,vsE,↓Nat.reduceLT,simprocAttr,vcel,vgap,q0,q1,q2,encP_length,hrow,k1]
    refine PCall.mono hcp ?_
    rintro q τ ⟨rfl,rfl⟩
    by_cases hpr1:p.id.1 = r
    ·rcases hI.ov with h | ⟨hn0,hsh,hall,g,oo,v,Rw,rfl,hT⟩
     ·exact absurd ⟨hpr1,h.1⟩ hA
     ·have hn1:¬ (n:Int) + 1 = 1:=by omega
      have hnl:n ≤ 40:=by have:=hI.hn; omega
      obtain ⟨L,hL⟩:∃ L,L = ofR (s.ps.take k) r:=⟨_,rfl⟩
      have hLn:=hI.hn
      rw [← hL] at hsh hall hT ht hLn
      have hL0:L ≠ []:=fun e=>by rw [e] at hLn; simp at hLn; omega
      have hshp:=shp_totF hsh hL0
      rw [if_pos hpr1] at ht
      have hgs:∀ x ∈ p.fs,x.blocks.length ≤ 1000 ∧ x.edges.length = x.blocks.length:=fun x hx=>by
       obtain ⟨h1,h2,h3⟩:=hpg.2 x hx
       exact ⟨by omega,h1.e⟩
      have hgt:∀ x ∈ totF L,x.blocks.length ≤ 1000 ∧ x.edges.length = x.blocks.length:=fun x hx=>by
       obtain ⟨h1,h2⟩:=hall x hx
       exact ⟨by omega,h1.e⟩
      have hrl:=hT.rl
      have hLm:L.getD 0 [] ∈ L:=gtD (List.length_pos_iff.2 hL0)
      have htl:(totF L).length ≤ 64:=by
       rw [totF_length]
       obtain ⟨p0,hp0,he⟩:=ofR_mem (by rw [hL] at hLm; exact hLm)
       rw [hL,he]
       exact (okG hs hok (List.mem_of_mem_take hp0)).1.2
      simp -dsimp (maxSteps:=4000000) +contextual (disch:=first | omega | decide +kernel) only [↓vsD,vsE,↓Nat.reduceLT,simprocAttr,vcel,vgap,q0,q1,q2,y2,hpr1,hn1,k3]
      have hTA:=hT.app (Z:=τ ++ [.rows 38 5 [[.int .i64 r,.int .i64 p.id.2.1,.int .i64 p.id.2.2,.int .u64 p.dig,.sl (encF p.fs)]] 0]) (fun j hj _=>yq _ j hj) (by simp)
      refine PCall.use_lend (shape_w (totF L) p.fs (by omega) (by omega) hgt hgs) (FrzL.cons (.agg _ [.sl (encF (totF L))] rfl (fun i c hc=>?_)) (FrzL.cons (.keep _ (bel_cnt _ _)) (FrzL.nil _))) ?_
      ·match i,hc with
       | 0,hc=>simp at hc; subst hc; exact hTA.frz (fun x hx=>(hall x hx).1.s)
       | i + 1,hc=>simp at hc
      rintro q rfl
      refine ⟨rfl,?_⟩
      rw [hshp]
      by_cases hsame:shp (L.getD 0 []) = shp p.fs
      ·rw [decide_eq_true hsame]
       simp -dsimp (maxSteps:=4000000) +contextual (disch:=first | omega | decide +kernel) only [↓vsD,vsE,↓Nat.reduceLT,simprocAttr,vcel,vgap,q0,q1,q2,y2]
       have hFl:(totF L).length = p.fs.length:=by rw [← shp_len,hshp,hsame,shp_len]
       have y0:SuP s p oo v 0 τ.length (totF L) (totF L) (fun j=>if j < τ.length then g j else 0) Rw (τ ++ [.rows 38 5 [[.int .i64 r,.int .i64 p.id.2.1,.int .i64 p.id.2.2,.int .u64 p.dig,.sl (encF p.fs)]] 0]) :=
        ⟨by rw [yq _ _ (by omega),q0],by rw [yq _ _ (by omega),q1],by rw [y2],by rw [gapp0,hpr1]; rfl,if_neg (Nat.lt_irrefl _),(hT.regr (fun j hj=>if_pos hj)).app (fun j hj _=>yq _ j hj) (by simp),HalfL.start _ _ _ _⟩
       refine v_loopS (fun t:Nat × List FC × (Nat → Nat) × List (List PV) × Store=>[(1,.int .i64 r),(2,.ptr 0 0 0 0),(4,.ptr 1 0 0 0),(7,.ptr 2 0 0 0),(8,.int .i64 (n + 1)),(9,.int .i64 k),(10,.ptr τ.length 0 0 0),(12,.int .i64 t.1)]) (fun t=>t.2.2.2.2) (fun t=>t.1 ≤ p.fs.length ∧ SuP s p oo v t.1 τ.length (totF L) t.2.1 t.2.2.1 t.2.2.2.1 t.2.2.2.2) (fun t=>p.fs.length - t.1) (0,totF L,_,Rw,_) (by simp [weaker,Go.PV.look]) rfl ⟨Nat.zero_le _,y0⟩ ?_
       obtain ⟨pb,hpb⟩:∃ pb,pb = τ.length:=⟨_,rfl⟩
       rw [← hpb]
       clear y0 hTA y2 yq hrl hT q0 q1 q2
       rintro ⟨f,A,g,Rw,Q⟩ ⟨hf,hI⟩
       dsimp only at hf hI ⊢
       have q0:=hI.q0
       have q1:=hI.q1
       have q2:=hI.q2
       have qp:=hI.qp
       have hoo:=hI.t.ob
       have hol:=hI.t.lt
       have hon:=hI.t.no
       have hrl:=hI.t.rl
       have hAl:=hI.h.1
       have hgo:=hI.t.go
       have hpl:=(List.getElem?_eq_some_iff.1 qp).1
       by_cases hfn:f < p.fs.length
       ·have hx:=hI.h.at' (k:=f) (by omega)
        have hxm:=gtD (d:=(default:FC)) (show f < (totF L).length by omega)
        have hym:=gtD (d:=(default:FC)) hfn
        have hyr:=encF_getD p.fs f hfn
        have hxy:(p.fs.getD f default).blocks.length = ((totF L).getD f default).blocks.length:=by
         rw [← shp_get _ _ hfn,← shp_get _ _ (by omega),hshp,hsame]
        obtain ⟨x,hxe⟩:∃ x,x = (totF L).getD f default:=⟨_,rfl⟩
        obtain ⟨y,hye⟩:∃ y,y = p.fs.getD f default:=⟨_,rfl⟩
        rw [← hxe] at hx hxm hxy
        rw [← hye] at hym hyr hxy
        obtain ⟨hxg,hxl⟩:=hall x hxm
        obtain ⟨hyg,hy1,hyl⟩:=hpg.2 y hym
        obtain ⟨nb,hnb⟩:∃ nb,nb = x.blocks.length:=⟨_,rfl⟩
        rw [hxy] at hyg
        rw [← hnb] at hxg hyg hxl
        obtain ⟨b,e,S,W,hRf,hb,he,gb,ge,hW,_⟩:=hI.t.row f (by omega)
        rw [hx] at hRf hb he hW
        obtain ⟨hW,hWg⟩:=hW (by omega)
        have hbl:=(List.getElem?_eq_some_iff.1 hb).1
        have hel:=(List.getElem?_eq_some_iff.1 he).1
        have hbo:oo ≠ b:=fun h=>by rw [← h,hgo] at gb; omega
        have heo:oo ≠ e:=fun h=>by rw [← h,hgo] at ge; omega
        have hbe:b ≠ e:=fun h=>by rw [h,ge] at gb; omega
        have hqA:∀ (X:Store) (j:Nat),j < Q.length → (Q ++ X)[j]? = Q[j]?:=fun X j hj=>List.getElem?_append_left hj
        have q2A:∀ X:Store,(Q ++ X)[2]? = some (.rows 36 1 [[.msl oo v]] 0):=fun X=>by rw [hqA _ _ (by omega),q2]
        have qoA:∀ X:Store,(Q ++ X)[oo]? = some (.rows 46 4 Rw v):=fun X=>by rw [hqA _ _ hol,hoo]
        have qpA:∀ X:Store,(Q ++ X)[pb]? = some (.rows 38 5 [[.int .i64 p.id.1,.int .i64 p.id.2.1,.int .i64 p.id.2.2,.int .u64 p.dig,.sl (encF p.fs)]] 0):=fun X=>by rw [hqA _ _ hpl,qp]
        simp -dsimp (maxSteps:=4000000) +contextual (disch:=first | omega | decide +kernel) only [↓vsD,vsE,↓Nat.reduceLT,simprocAttr,vcel,vgap,q0,q1,q2,qp,hoo,hrl,hAl,encF_length]
        refine v_draws _ _ _ _ _ _ [10,12] [] [(0,1),(0,1),(0,1),(0,1),(0,1),(0,1),(0,1),(0,1),(0,1),(0,1),(0,0),(1,1),(0,0)] (by decide +kernel) (by decide +kernel) (by decide +kernel) (by decide +kernel) ?_
        simp -dsimp (maxSteps:=4000000) +contextual (disch:=first | omega | decide +kernel) only [↓vsD,vsE,↓Nat.reduceLT,simprocAttr,vdA,↓vd_end,↓vdm_go,↓vd_op,↓guard_none,↓guard_some,vcel,vgap,q0,q1,q2,qp,hoo,q2A,qoA,qpA,hrl,hAl,hRf,hyr,encF_length]
        refine v_draws _ _ _ _ _ _ [7,10] [] [(0,1),(0,0),(0,0),(0,0),(0,0),(0,0),(0,0),(0,0),(1,1),(1,1),(0,0)] (by decide +kernel) (by decide +kernel) (by decide +kernel) (by decide +kernel) ?_
        simp -dsimp (maxSteps:=4000000) +contextual (disch:=first | omega | decide +kernel) only [↓vsD,vsE,↓Nat.reduceLT,simprocAttr,vdA,↓vd_end,↓vdm_go,↓vd_op,↓guard_none,↓guard_some,vcel,vgap,q2A,qoA,qpA,hrl,hAl,hRf,hyr,k4]
        refine ⟨_,_,sumP_ok hxg.en hyg.en _,by simp [rowsAt,outR],?_⟩
        have hsx:∀ (X:Store) (B:Go.PV.Obj),(X.set oo B)[Q.length]? = X[Q.length]?:=fun X B=>List.getElem?_set_ne (by omega)
        simp -dsimp (maxSteps:=4000000) +contextual (disch:=first | omega | decide +kernel) only [↓vsD,vsE,↓Nat.reduceLT,simprocAttr,vdA,↓vd_end,↓vdm_go,↓vd_op,↓guard_none,↓guard_some,vcel,vgap,q2A,qoA,qpA,hrl,hAl,hRf,hyr,k4,hsx]
        obtain ⟨Rw1,hRw1⟩:∃ Rw1,Rw1 = Rw.set f [.int .i64 (plusI x.ent y.ent),.msl b 0,.msl e 0,S]:=⟨_,rfl⟩
        obtain ⟨yb,hyb⟩:∃ yb,yb = Go.PV.Obj.rows 46 4 [[.int .i64 y.ent,.sl (ints y.blocks),.sl (encT y.edges),.sl (encS y.sites)]] 0:=⟨_,rfl⟩
        rw [← hRw1,← hyb]
        have hR1l:Rw1.length = p.fs.length:=by rw [hRw1,List.length_set]; omega
        have hR1f:Rw1.getD f [] = [.int .i64 (plusI x.ent y.ent),.msl b 0,.msl e 0,S]:=by rw [hRw1,getD_set2 _ _ _ _ _ (by omega),if_pos rfl]
        have hR1i:∀ h:f < Rw1.length,Rw1[f] = [.int .i64 (plusI x.ent y.ent),.msl b 0,.msl e 0,S]:=fun h=>by rw [← hR1f,List.getD_eq_getElem?_getD,List.getElem?_eq_getElem h]; rfl
        obtain ⟨T,hT⟩:∃ T:List Int → List (Int × Int) → Store,T = fun L E=>(((Q ++ [yb]).set oo (.rows 46 4 Rw1 v)).set b (.rows 3 1 (ints L) 0)).set e (.rows 65 2 (encT E) 0):=⟨_,rfl⟩
        have t0:(Q ++ [yb]).set oo (.rows 46 4 Rw1 v) = T x.blocks x.edges:=by
         rw [hT]
         refine List.ext_getElem? fun j=>?_
         have e1:((Q ++ [yb]).set oo (.rows 46 4 Rw1 v))[b]? = some (.rows 3 1 (ints x.blocks) 0):=by rw [List.getElem?_set_ne hbo,hqA _ _ hbl,hb]
         have e2:((Q ++ [yb]).set oo (.rows 46 4 Rw1 v))[e]? = some (.rows 65 2 (encT x.edges) 0):=by rw [List.getElem?_set_ne heo,hqA _ _ hel,he]
         by_cases hj:j = e
         ·subst hj; rw [List.getElem?_set_self (by simp; omega),e2]
         ·rw [List.getElem?_set_ne (fun e=>hj e.symm)]
          by_cases hj2:j = b
          ·subst hj2; rw [List.getElem?_set_self (by simp; omega),e1]
          ·rw [List.getElem?_set_ne (fun e=>hj2 e.symm)]
        have qo:∀ L E,(T L E)[oo]? = some (.rows 46 4 Rw1 v):=fun L E=>by
         rw [hT]; dsimp only
         rw [List.getElem?_set_ne (Ne.symm heo),List.getElem?_set_ne (Ne.symm hbo),List.getElem?_set_self (by simp; omega)]
        have qb:∀ L E,(T L E)[b]? = some (.rows 3 1 (ints L) 0):=fun L E=>by
         rw [hT]; dsimp only
         rw [List.getElem?_set_ne (Ne.symm hbe),List.getElem?_set_self (by simp; omega)]
        have qe:∀ L E,(T L E)[e]? = some (.rows 65 2 (encT E) 0):=fun L E=>by
         rw [hT]; dsimp only
         rw [List.getElem?_set_self (by simp; omega)]
        have qx:∀ L E,(T L E)[Q.length]? = some yb:=fun L E=>by
         rw [hT]; dsimp only
         rw [List.getElem?_set_ne (by omega),List.getElem?_set_ne (by omega),List.getElem?_set_ne (by omega)]; simp
        have sb:∀ L E L',(T L E).set b (.rows 3 1 (ints L') 0) = T L' E:=fun L E L'=>by
         rw [hT]; dsimp only
         rw [List.set_comm _ _ (Ne.symm hbe),List.set_set]
        have se:∀ L E E',(T L E).set e (.rows 65 2 (encT E') 0) = T L E':=fun L E E'=>by
         rw [hT]; dsimp only
         rw [List.set_set]
        have told:∀ L E j,j < Q.length → j ≠ oo → j ≠ b → j ≠ e → (T L E)[j]? = Q[j]?:=fun L E j h1 h2 h3 h4=>by
         rw [hT]; dsimp only
         rw [List.getElem?_set_ne (Ne.symm h4),List.getElem?_set_ne (Ne.symm h3),List.getElem?_set_ne (Ne.symm h2),hqA _ _ h1]
        have tl:∀ L E,(T L E).length = Q.length + 1:=fun L E=>by rw [hT]; simp
        rw [t0]
        rw [hyb] at qx
        refine v_loopS (fun t:Nat × List Int × List (Int × Int)=>[(1,.int .i64 r),(2,.ptr 0 0 0 0),(4,.ptr 1 0 0 0),(7,.ptr 2 0 0 0),(8,.int .i64 (n + 1)),(9,.int .i64 k),(10,.ptr pb 0 0 0),(12,.int .i64 f),(13,.ptr oo v f 0),(14,.ptr Q.length 0 0 0),(15,.int .i64 t.1)]) (fun t=>T t.2.1 t.2.2) (fun t=>t.1 ≤ nb ∧ HalfL plusI 0 x.blocks y.blocks t.1 t.2.1 ∧ HalfL plusP (0,0) x.edges y.edges t.1 t.2.2) (fun t=>nb - t.1) (0,x.blocks,x.edges) (by simp [weaker,Go.PV.look]) rfl ⟨Nat.zero_le _,HalfL.start _ _ _ _,HalfL.start _ _ _ _⟩ ?_
        rintro ⟨kb,B,E⟩ ⟨hk2,hL,hE⟩
        dsimp only at hk2 hL hE ⊢
        have hxb:=hxg.b
        have hxe2:=hxg.e
        have hyb2:=hyg.b
        have hye2:=hyg.e
        have hLl:=hL.1
        have hEl:=hE.1
        by_cases hkbn:kb < nb
        ·have hLk:=hL.at' (k:=kb) (by omega)
         have hEk:=hE.at' (k:=kb) (by omega)
         have g1:=ints_getD y.blocks kb (by omega)
         have g2:=ints_getD B kb (by omega)
         have g3:=encT_getD y.edges kb (by omega)
         have g4:=encT_getD E kb (by omega)
         rw [hLk] at g2
         rw [hEk] at g4
         simp -dsimp (maxSteps:=4000000) +contextual (disch:=first | omega | decide +kernel) only [↓vsD,vsE,↓Nat.reduceLT,simprocAttr,vcel,vgap,qo,qb,qe,qx,hR1l,hR1f,ints_len,encT_length,g1]
         refine v_draws _ _ _ _ _ _ [17,19] [] [(0,1),(0,1),(0,1),(0,1),(0,1),(0,0),(0,0),(0,0),(0,0),(0,0),(0,0),(0,0),(0,0),(0,0),(0,0),(0,0),(0,0),(0,0),(1,1),(0,0)] (by decide +kernel) (by decide +kernel) (by decide +kernel) (by decide +kernel) ?_
         simp -dsimp (maxSteps:=4000000) +contextual (disch:=first | omega | decide +kernel) only [↓vsD,vsE,↓Nat.reduceLT,simprocAttr,vdA,↓vd_end,↓vdm_go,↓vd_op,↓guard_none,↓guard_some,vcel,vgap,qo,qb,qe,qx,hR1l,hR1f,ints_len,g1,g2,k4]
         refine ⟨_,_,sumP_ok (hxg.bc kb hkbn) (hyg.bc kb hkbn) _,by simp [rowsAt,outR,qo,qb,qe,hR1l,hR1i,hfn],?_⟩
         simp -dsimp (maxSteps:=4000000) +contextual (disch:=first | omega | decide +kernel) only [↓vsD,vsE,↓Nat.reduceLT,simprocAttr,vdA,↓vd_end,↓vdm_go,↓vd_op,↓guard_none,↓guard_some,vcel,vgap,qo,qb,qe,qx,hR1l,hR1f,ints_len,encT_length,g1,g2,g3,k4,ints_set1,sb]
         obtain ⟨L',hL'⟩:∃ L',L' = B.set kb (plusI (x.blocks.getD kb 0) (y.blocks.getD kb 0)):=⟨_,rfl⟩
         have hLs:=hL.step (k:=kb) (by omega)
         rw [← hL'] at hLs ⊢
         obtain ⟨u,hu⟩:∃ u,u = x.edges.getD kb (0,0):=⟨_,rfl⟩
         obtain ⟨z,hz⟩:∃ z,z = y.edges.getD kb (0,0):=⟨_,rfl⟩
         have hxec:=hxg.ec kb hkbn
         have hyec:=hyg.ec kb hkbn
         have hEs:=hE.step (k:=kb) (by omega)
         rw [← hu] at hxec hEs g4
         rw [← hz] at hyec hEs g3
         have g5:(encT (E.set kb (plusI u.1 z.1,u.2))).getD kb [] = [.int .i64 (plusI u.1 z.1),.int .i64 u.2]:=by
          rw [encT_getD _ _ (by rw [List.length_set]; omega),getD_set2 _ _ _ _ _ (by omega),if_pos rfl]
         refine v_loopS (fun w:Nat=>[(1,.int .i64 r),(2,.ptr 0 0 0 0),(4,.ptr 1 0 0 0),(7,.ptr 2 0 0 0),(8,.int .i64 (n + 1)),(9,.int .i64 k),(10,.ptr pb 0 0 0),(12,.int .i64 f),(13,.ptr oo v f 0),(14,.ptr Q.length 0 0 0),(15,.int .i64 kb),(16,.int .i64 w)]) (fun w=>T L' (if w = 0 then E else if w = 1 then E.set kb (plusI u.1 z.1,u.2) else E.set kb (plusP u z))) (fun w=>w ≤ 2) (fun w=>2 - w) 0 (by simp [weaker,Go.PV.look]) rfl (Nat.zero_le _) ?_
         intro w hw
         rcases (show w = 0 ∨ w = 1 ∨ w = 2 by omega) with rfl | rfl | rfl
         ·rw [if_pos rfl]
          simp -dsimp (maxSteps:=4000000) +contextual (disch:=first | omega | decide +kernel) only [↓vsD,vsE,↓Nat.reduceLT,simprocAttr,vcel]
          refine v_draws _ _ _ _ _ _ [22,25] [] [(0,1),(0,1),(0,1),(0,1),(0,1),(0,1),(0,0),(0,0),(0,0),(0,0),(0,0),(0,0),(0,0),(0,0),(0,0),(0,0),(0,0),(0,0),(0,0),(0,0),(0,0),(0,0),(0,0),(0,1),(1,1),(0,0)] (by decide +kernel) (by decide +kernel) (by decide +kernel) (by decide +kernel) ?_
          simp -dsimp (maxSteps:=4000000) +contextual (disch:=first | omega | decide +kernel) only [↓vsD,vsE,↓Nat.reduceLT,simprocAttr,vdA,↓vd_end,↓vdm_go,↓vd_op,↓guard_none,↓guard_some,vcel,vgap,qo,qb,qe,qx,hR1l,hR1f,encT_length,g3,g4,k4]
          refine ⟨_,_,sumP_ok hxec.1 hyec.1 _,by simp [rowsAt,outR,qo,qb,qe,hR1l,hR1i,hfn],?_⟩
          simp -dsimp (maxSteps:=4000000) +contextual (disch:=first | omega | decide +kernel) only [↓vsD,vsE,↓Nat.reduceLT,simprocAttr,vdA,↓vd_end,↓vdm_go,↓vd_op,↓guard_none,↓guard_some,vcel,vgap,qo,qb,qe,qx,hR1l,hR1f,encT_length,g3,g4,k4,encT_set1,se]
          exact ⟨1,(by (try dsimp only); omega),(by simp [weaker,Go.PV.look]),rfl,by omega⟩
         ·rw [if_neg (show ¬ (1:Nat) = 0 by omega),if_pos (rfl:(1:Nat) = 1)]
          simp -dsimp (maxSteps:=4000000) +contextual (disch:=first | omega | decide +kernel) only [↓vsD,vsE,↓Nat.reduceLT,simprocAttr,vcel]
          refine v_draws _ _ _ _ _ _ [22,25] [] [(0,1),(0,1),(0,1),(0,1),(0,1),(0,1),(0,0),(0,0),(0,0),(0,0),(0,0),(0,0),(0,0),(0,0),(0,0),(0,0),(0,0),(0,0),(0,0),(0,0),(0,0),(0,0),(0,0),(0,1),(1,1),(0,0)] (by decide +kernel) (by decide +kernel) (by decide +kernel) (by decide +kernel) ?_
          simp -dsimp (maxSteps:=4000000) +contextual (disch:=first | omega | decide +kernel) only [↓vsD,vsE,↓Nat.reduceLT,simprocAttr,vdA,↓vd_end,↓vdm_go,↓vd_op,↓guard_none,↓guard_some,vcel,vgap,qo,qb,qe,qx,hR1l,hR1f,encT_length,List.length_set,g3,g5,k4]
          refine ⟨_,_,sumP_ok hxec.2 hyec.2 _,by simp [rowsAt,outR,qo,qb,qe,hR1l,hR1i,hfn],?_⟩
          simp -dsimp (maxSteps:=4000000) +contextual (disch:=first | omega | decide +kernel) only [↓vsD,vsE,↓Nat.reduceLT,simprocAttr,vdA,↓vd_end,↓vdm_go,↓vd_op,↓guard_none,↓guard_some,vcel,vgap,qo,qb,qe,qx,hR1l,hR1f,encT_length,List.length_set,g3,g5,k4,encT_set1,se,List.set_set]
          exact ⟨2,(by (try dsimp only); omega),(by simp [weaker,Go.PV.look]),rfl,by omega⟩
         ·rw [if_neg (show ¬ (2:Nat) = 0 by omega),if_neg (show ¬ (2:Nat) = 1 by omega)]
          simp -dsimp (maxSteps:=4000000) +contextual (disch:=first | omega | decide +kernel) only [↓vsD,vsE,↓Nat.reduceLT,simprocAttr,vcel]
          exact ⟨(kb + 1,L',E.set kb (plusP u z)),(by (try dsimp only); omega),(by simp [weaker,Go.PV.look]),rfl,hkbn,hLs,hEs⟩
        ·obtain rfl:kb = nb:=by omega
         have hWT:RefL (T B E) x.sites S W:=hW.keep (fun j hj hjl=>told _ _ j hjl (fun h=>by have:=(hWg j hj).2; rw [h,hgo] at this; omega) (fun h=>by have:=(hWg j hj).2; rw [h,gb] at this; omega) (fun h=>by have:=(hWg j hj).2; rw [h,ge] at this; omega))
         obtain ⟨q,τ2,W2,hcall,hT2⟩:=addS_any hWT hxg.s hxg.so y.sites hyg.s (by have:=hxg.sl; have:=hyg.sl; omega)
         obtain ⟨cq,cc⟩:=hT2.r.cell
         have hooW:oo ∉ W:=fun h=>by have:=(hWg oo h).2; rw [hgo] at this; omega
         have hl2:=hT2.len
         rw [tl] at hl2
         have too:=(hT2.old oo (by rw [tl]; omega) hooW).trans (qo B E)
         simp -dsimp (maxSteps:=4000000) +contextual (disch:=first | omega | decide +kernel) only [↓vsD,vsE,↓Nat.reduceLT,simprocAttr,vcel,vgap,qo,qb,qe,qx,hR1l,hR1f,ints_len]
         refine v_draws _ _ _ _ _ _ [7,10] [] [(0,1),(0,0),(0,0),(0,0),(0,0),(0,0),(0,0),(0,0),(1,1),(1,1),(0,0)] (by decide +kernel) (by decide +kernel) (by decide +kernel) (by decide +kernel) ?_
         simp -dsimp (maxSteps:=4000000) +contextual (disch:=first | omega | decide +kernel) only [↓vsD,vsE,↓Nat.reduceLT,simprocAttr,vdA,↓vd_end,↓vdm_go,↓vd_op,↓guard_none,↓guard_some,vcel,vgap,qo,qb,qe,qx,hR1l,hR1f,k2]
         have hxW:Q.length ∉ W:=fun h=>by have:=(hWg _ h).1; omega
         have tox:=(hT2.old Q.length (by rw [tl]; omega) hxW).trans (qx B E)
         refine ⟨_,_,hcall,by simp [rowsAt,outR,qo,qx,too,tox,hR1l,hR1i,hfn],?_⟩
         simp -dsimp (maxSteps:=4000000) +contextual (disch:=first | omega | decide +kernel) only [↓vsD,vsE,↓Nat.reduceLT,simprocAttr,vdA,↓vd_end,↓vdm_go,↓vd_op,↓guard_none,↓guard_some,vcel,vgap,too,tox,hR1l,hR1f,k2,cq,cc]
         have hnW:∀ j,g j ≠ 3 * f + 3 → j ∉ W:=fun j h hj=>h (hWg j hj).2
         have zold:∀ (B':Go.PV.Obj) (j:Nat),j < Q.length → j ≠ oo → g j ≠ 3 * f + 1 → g j ≠ 3 * f + 2 → g j ≠ 3 * f + 3 → (τ2.set oo B')[j]? = Q[j]?:=fun B' j h1 h2 h3 h4 h5=>by
          rw [List.getElem?_set_ne (Ne.symm h2),hT2.old j (by rw [tl]; omega) (hnW j h5),told _ _ j h1 h2 (fun h=>h3 (by rw [h]; exact gb)) (fun h=>h4 (by rw [h]; exact ge))]
         have hst:=hI.h.step (k:=f) (by omega)
         rw [← hxe,← hye] at hst
         have hLz:B = List.zipWith plusI x.blocks y.blocks:=(show HalfL plusI 0 x.blocks y.blocks x.blocks.length B by rw [hxb]; exact hL).end' (by omega)
         have hEz:E = List.zipWith plusP x.edges y.edges:=(show HalfL plusP (0,0) x.edges y.edges x.edges.length E by rw [hxe2]; exact hE).end' (by omega)
         have gpb:=hI.gp
         have g00:=hI.t.lo 0 (by omega)
         have g01:=hI.t.lo 1 (by omega)
         have g02:=hI.t.lo 2 (by omega)
         have hpo:pb ≠ oo:=fun h=>by rw [h,hoo] at qp; simp at qp
         refine ⟨(f + 1,A.set f (sumF x y),fun j=>if j < Q.length then g j else 3 * f + 3,Rw.set f [.int .i64 (plusI x.ent y.ent),.msl b 0,.msl e 0,q],_),(by (try dsimp only); omega),(by simp [weaker,Go.PV.look]),rfl,hfn,?_⟩
         dsimp only
         rw [hRw1,List.set_set]
         refine ⟨by rw [zold _ 0 (by omega) (by omega) (by omega) (by omega) (by omega),q0],by rw [zold _ 1 (by omega) (by omega) (by omega) (by omega) (by omega),q1],by rw [zold _ 2 (by omega) (by omega) (by omega) (by omega) (by omega),q2],by rw [zold _ pb hpl hpo (by omega) (by omega) (by omega),qp],by rw [if_pos hpl]; exact gpb,?_,hst⟩
         refine hI.t.set (by omega) (List.getElem?_set_self (by omega)) (RowA.done (W2:=W2) rfl (by omega) gb ge hbl hel ?_ ?_ (hT2.r.keep (fun j hj hjl=>?_)) (fun w hw=>?_) ?_) (fun j hj h1 h2 h3 h4=>zold _ j hj h1 h2 h3 h4) (fun j hj=>if_pos hj) ?_ (fun i hi=>Iff.rfl)
         ·rw [List.getElem?_set_ne hbo,hT2.old b (by rw [tl]; omega) (hnW b (by omega)),qb,hLz]; rfl
         ·rw [List.getElem?_set_ne heo,hT2.old e (by rw [tl]; omega) (hnW e (by omega)),qe,hEz]; rfl
         ·rw [List.getElem?_set_ne (fun h=>?_)]
          rcases hT2.w j hj with h3 | h3
          ·exact hooW (by rw [h]; exact h3)
          ·rw [tl] at h3; omega
         ·rcases hT2.w w hw with h3 | h3
          ·exact .inl (hWg w h3)
          ·rw [tl] at h3; exact .inr (by omega)
         ·rw [List.length_set]; omega
         ·rw [List.length_set]; omega
       ·obtain rfl:f = p.fs.length:=by omega
        simp -dsimp (maxSteps:=4000000) +contextual (disch:=first | omega | decide +kernel) only [↓vsD,vsE,↓Nat.reduceLT,simprocAttr,vcel,vgap,q0,q1,q2,qp,hoo,hrl,hAl]
        have hM0:(L ++ [p.fs]).getD 0 [] = L.getD 0 []:=by
         cases L with
         | nil=>exact absurd rfl hL0
         | cons a l=>rfl
        have hAi:∀ i,i < (totF L).length → A.getD i default = sumF ((totF L).getD i default) (p.fs.getD i default):=fun i hi=>by rw [hI.h.2 i hi,if_pos (by omega)]
        have eA:totF (L ++ [p.fs]) = A:=by
         refine listExt (d:=default) (by rw [totF_length,hM0,hAl,totF_length]) (fun i hi=>?_)
         rw [hAl] at hi
         have hi2:i < (L.getD 0 []).length:=by rw [← totF_length]; exact hi
         rw [totF_at _ _ (by rw [hM0]; exact hi2),totC_snoc hL0,hAi i hi,totF_at _ _ hi2]
        refine ⟨(k + 1,n + 1,.msl oo v,Q),(by (try dsimp only); omega),(by simp [weaker,Go.PV.look]),rfl,hkn,?_⟩
        dsimp only
        refine ⟨by rw [ht,List.length_append,← hLn]; rfl,q0,q1,q2,.inr ⟨by omega,?_,?_,g,oo,v,Rw,rfl,?_⟩⟩
        ·rw [ht,hM0]
         intro l hl
         rcases List.mem_append.1 hl with h | h
         ·exact hsh l h
         ·rw [List.mem_singleton.1 h]; exact hsame.symm
        ·rw [ht,eA]
         intro x hx
         obtain ⟨i,hi,rfl⟩:=List.mem_iff_getElem.1 hx
         have h1:=hAi i (by omega)
         rw [List.getD_eq_getElem?_getD,List.getElem?_eq_getElem hi,Option.getD_some] at h1
         obtain ⟨h2,h3⟩:=hall _ (gtD (d:=(default:FC)) (show i < (totF L).length by omega))
         obtain ⟨h4,_,_⟩:=hpg.2 _ (gtD (d:=(default:FC)) (show i < p.fs.length by omega))
         have h5:(p.fs.getD i default).blocks.length = ((totF L).getD i default).blocks.length:=by
          rw [← shp_get _ _ (by omega),← shp_get _ _ (by omega),hshp,hsame]
         rw [h5] at h4
         have h6:=h2.sum h4
         rw [h1]
         exact ⟨by rw [h6.b]; exact h6,by rw [h6.b]; exact h3⟩
        ·rw [ht,eA,hAl]; exact hI.t
      ·rw [decide_eq_false hsame]
       have y1:∀ X:Store,(τ ++ X)[1]? = some (.rows 36 1 [[.nils]] 0):=fun X=>by rw [yq _ _ (by omega),q1]
       have ys:∀ (X:Store) (B:Go.PV.Obj),((τ ++ X).set 1 B)[1]? = some B:=fun X B=>List.getElem?_set_self (by simp; omega)
       simp -dsimp (maxSteps:=4000000) +contextual (disch:=first | omega | decide +kernel) only [↓vsD,vsE,↓Nat.reduceLT,simprocAttr,vcel,vgap,q0,q1,q2,y2,y1,ys]
       have hM:ofR s.ps r = L ++ p.fs :: ofR (s.ps.drop (k + 1)) r:=by
        have h1:=ofR_split s.ps r (k + 1)
        rw [ht,List.append_assoc] at h1
        exact h1
       have hM0:(ofR s.ps r).getD 0 [] = L.getD 0 []:=by
        rw [hM]
        cases L with
        | nil=>exact absurd rfl hL0
        | cons a l=>rfl
       have hna:notAll (ofR s.ps r) = true:=by
        unfold notAll
        rw [List.any_eq_true]
        exact ⟨p.fs,by rw [hM]; simp,by rw [hM0,decide_eq_false hsame]; rfl⟩
       rw [if_neg (fun e=>by rw [e] at hM; simp at hM),if_pos hna]
       exact fin_errT 21 rfl _
    ·simp -dsimp (maxSteps:=4000000) +contextual (disch:=first | omega | decide +kernel) only [↓vsD,vsE,↓Nat.reduceLT,simprocAttr,vcel,vgap,q0,q1,q2,y2]
     rw [if_neg hpr1] at ht
     refine ⟨(k + 1,n,OV,_),(by (try dsimp only); omega),(by simp [weaker,Go.PV.look]),rfl,hkn,⟨?_,?_,?_,?_,?_⟩⟩
     ·dsimp only; rw [ht]; exact hI.hn
     ·dsimp only; rw [yq _ _ (by omega),q0]
     ·dsimp only; rw [yq _ _ (by omega),q1]
     ·dsimp only; rw [y2]
     ·dsimp only
      rw [ht]
      rcases hI.ov with h | ⟨hn0,hsh,hall,g,oo,v,Rw,e1,hT⟩
      ·exact .inl h
      ·exact .inr ⟨hn0,hsh,hall,g,oo,v,Rw,e1,hT.app (fun j hj _=>yq _ j hj) (by simp)⟩
  ·obtain rfl:k = s.ps.length:=by omega
   have hn:=hI.hn
   have hov:=hI.ov
   rw [List.take_length] at hn hov
   rcases hov with ⟨hn0,rfl⟩ | ⟨hn0,hsh,hall,g,oo,v,Rw,rfl,hT⟩
   ·rw [if_pos (List.eq_nil_of_length_eq_zero (by omega))]
    have qs:∀ B:Go.PV.Obj,(Q.set 1 B)[1]? = some B:=fun B=>List.getElem?_set_self (by omega)
    simp -dsimp (maxSteps:=4000000) +contextual (disch:=first | omega | decide +kernel) only [↓vsD,vsE,↓Nat.reduceLT,simprocAttr,vcel,vgap,q0,q1,q2,hn0,qs,encP_length]
    exact fin_errT 34 rfl _
   ·have hne:ofR s.ps r ≠ []:=fun e=>by rw [e] at hn; simp at hn; omega
    rw [if_neg hne,if_neg (by rw [notAll_of hsh hne]; simp)]
    have qs:∀ B:Go.PV.Obj,(Q.set 1 B)[1]? = some B:=fun B=>List.getElem?_set_self (by omega)
    simp -dsimp (maxSteps:=4000000) +contextual (disch:=first | omega | decide +kernel) only [↓vsD,vsE,↓Nat.reduceLT,simprocAttr,vcel,vgap,q0,q1,q2,qs,encP_length]
    refine finish (TtI.frz (hT.app (fun j hj hgj=>?_) (by simp)) (fun x hx=>(hall x hx).1.s)) (by rw [hn])
    have:j ≠ 1:=by
     rcases hgj with h | h
     ·exact fun e=>h (hT.lo j (by omega))
     ·have:=hT.no; omega
    rw [List.getElem?_set_ne (by omega)]
 ·rw [stB_f hok]
  rw [totR_no hok]
  simp -dsimp (maxSteps:=4000000) +contextual (disch:=first | omega | decide +kernel) only [↓vsD,vsE,↓Nat.reduceLT,simprocAttr,vcel]
  exact fin_errT 20 rfl _
theorem rtotal_on (s:StS) (r:Int) (hs:SmP s) (σ:Store):PCall Tryz.prog 15 [stV s,.int .i64 r] σ (fun q τ=>q = .tup [cntV (totR s r).1,.int .i64 (totR s r).2.1,.int .i64 (totR s r).2.2] ∧ τ = σ) :=
 PCall.lift (rtotal_w s r hs) (bel2 (bel_st _ _) (bel_int _ _ _)) (fun q h=>⟨by rw [h]; exact bel_totR _ _ _,h,rfl⟩)
end Go.Proofs.YthjoehaglonjaaaGreat
