import Derived.Test.YthjoehaglonjaaaGreatSvE
set_option maxRecDepth 8000
set_option linter.unusedSimpArgs false
set_option linter.unusedVariables false
namespace Go.Proofs.YthjoehaglonjaaaGreat
open Go.PV
def ofR (ps:List Pc) (r:Int):List (List FC):=(ps.filter fun p=>decide (p.id.1 = r)).map (·.fs)
def zeroF (n:Nat):FC:=⟨-1,List.replicate n (-1),List.replicate n (-1,-1),[]⟩
def totC (L:List (List FC)) (f:Nat):FC:=(L.map fun l=>l.getD f default).foldl sumF (zeroF ((L.getD 0 []).getD f default).blocks.length)
def totF (L:List (List FC)):List FC:=(List.range (L.getD 0 []).length).map (totC L)
def notAll (L:List (List FC)):Bool:=L.any fun y=>!decide (shp (L.getD 0 []) = shp y)
noncomputable def totR (s:StS) (r:Int):List FC × Int × Int :=
 @ite _ (OkSt s) (Classical.propDecidable _) (if ofR s.ps r = [] then ([],0,34) else if notAll (ofR s.ps r) = true then ([],0,21) else (totF (ofR s.ps r),((ofR s.ps r).length:Int),0)) ([],0,20)
theorem totR_no {s:StS} (h:¬ OkSt s) (r:Int):totR s r = ([],0,20):=by unfold totR; rw [if_neg h]
theorem totR_t {s:StS} (h:OkSt s) (r:Int):totR s r = if ofR s.ps r = [] then ([],0,34) else if notAll (ofR s.ps r) = true then ([],0,21) else (totF (ofR s.ps r),((ofR s.ps r).length:Int),0):=by unfold totR; rw [if_pos h]
theorem ofR_take (ps:List Pc) (r:Int) (k:Nat) (hk:k < ps.length):ofR (ps.take (k + 1)) r = if (ps.getD k default).id.1 = r then ofR (ps.take k) r ++ [(ps.getD k default).fs] else ofR (ps.take k) r:=by
 unfold ofR
 rw [take_succD ps k hk,List.filter_append]
 generalize ps.getD k default = p
 split
 ·rename_i h; simp [h]
 ·rename_i h; simp [h]
theorem ofR_mem {ps:List Pc} {r:Int} {l:List FC} (h:l ∈ ofR ps r):∃ p ∈ ps,l = p.fs:=by
 unfold ofR at h
 obtain ⟨p,hp,rfl⟩:=List.mem_map.1 h
 exact ⟨p,(List.mem_filter.1 hp).1,rfl⟩
theorem ofR_len (ps:List Pc) (r:Int):(ofR ps r).length ≤ ps.length:=by
 unfold ofR; rw [List.length_map]; exact List.length_filter_le _ _
def LiR (Y:Store) (L:List (List FC)) (V:PV):Prop:=(L = [] ∧ V = .nils) ∨ (L ≠ [] ∧ ∃ o v,V = .msl (o + 3) v ∧ Y[o]? = some (.rows 36 1 (encCn L) v))
structure SmP (s:StS):Prop where
 n:s.ps.length ≤ 40
 c:s.cs.length ≤ 40
 f:∀ p ∈ s.ps,FitP p
 o:∀ p ∈ s.ps,∀ x ∈ p.fs,One1 x.sites ∧ x.sites.length ≤ 1
theorem SmP.fit {s:StS} (h:SmP s):FitS s:=⟨by have:=h.n; omega,by have:=h.c; omega,h.f⟩
theorem okCnt {s:StS} (h:SmP s) (ho:OkSt s) {p:Pc} (hp:p ∈ s.ps) {x:FC} (hx:x ∈ p.fs):CntF x.blocks.length x ∧ x.blocks.length ≤ 256 ∧ SoS x.sites:=by
 obtain ⟨i,hi,rfl⟩:=List.mem_iff_getElem.1 hp
 obtain ⟨j,hj,rfl⟩:=List.mem_iff_getElem.1 hx
 have h1:=ho.p i hi
 rw [List.getD_eq_getElem?_getD,List.getElem?_eq_getElem hi,Option.getD_some] at h1
 have h2:=h1.f j hj
 rw [List.getD_eq_getElem?_getD,List.getElem?_eq_getElem hj,Option.getD_some] at h2
 have h3:=h.o _ hp _ hx
 refine ⟨⟨rfl,h2.e,h2.c.2,fun k hk=>(h2.b k hk).1.2,fun k hk=>⟨(h2.b k hk).2.1.2,(h2.b k hk).2.2.2⟩,h3.1,by have:=h3.2; omega⟩,h2.l.2,?_⟩
 refine adj_pw (R:=siteLt) (d:=(default:Site)) (fun a b c=>siteLt_trans) (fun k hk=>?_)
 have:=(h2.s (k + 1) hk).2.2.1 (by omega)
 simpa using this
theorem fin_errT (n:Int) {K:PV → Store → Prop} (h:K (.tup [cntV [],.int .i64 0,.int .i64 n]) []) (σ:Store):Go.PV.Fin [] K (.tup [.agg [.nils],.int .i64 0,.int .i64 n]) σ:=by
 refine fin0 (.tup _ [cntV [],.int .i64 0,.int .i64 n] rfl (fun j p hj=>?_)) h
 match j,hj with
 | 0,hj =>
  simp at hj; subst hj
  refine .agg _ [.sl []] rfl (fun i c hc=>?_)
  match i,hc with
  | 0,hc=>simp at hc; subst hc; exact .nils
  | i + 1,hc=>simp at hc
 | 1,hj=>simp at hj; subst hj; exact .keep _ (bel_int _ _ _)
 | 2,hj=>simp at hj; subst hj; exact .keep _ (bel_int _ _ _)
 | j + 3,hj=>simp at hj
theorem addSs_props:∀ (b a:List Site),One1 a → One1 b → SoS a → One1 (addSs a b) ∧ SoS (addSs a b) ∧ (addSs a b).length ≤ a.length + b.length
 | [],a,h1,_,h3=>⟨h1,h3,Nat.le_refl _⟩
 | s :: b,a,h1,h2,h3=>by
  obtain ⟨c,hc,hcr⟩:=h2 s (by simp)
  obtain ⟨g1,g2,g3⟩:=addSs_props b (addSi a s) (addSi_one h1 hc hcr) (fun x hx=>h2 x (by simp [hx])) (addSi_sorted h3 s)
  refine ⟨g1,g2,?_⟩
  have:=addSi_len a s
  rw [List.length_cons]
  show (addSs (addSi a s) b).length ≤ _
  omega
def accC (L:List (List FC)) (n f j:Nat):FC:=((L.take j).map fun l=>l.getD f default).foldl sumF (zeroF n)
theorem accC_succ (L:List (List FC)) (n f j:Nat) (hj:j < L.length):accC L n f (j + 1) = sumF (accC L n f j) ((L.getD j []).getD f default):=by
 unfold accC
 rw [List.take_add_one,List.getElem?_eq_getElem hj,List.getD_eq_getElem?_getD (l:=L),List.getElem?_eq_getElem hj,List.map_append,List.foldl_append]
 rfl
theorem Own.app {σ:Store} {o b e:Nat} {x:FC} (h:Own σ o b e x) (X:Store):Own (σ ++ X) o b e x :=
 ⟨by rw [List.getElem?_append_left (List.getElem?_eq_some_iff.1 h.ob).1,h.ob],by rw [List.getElem?_append_left (List.getElem?_eq_some_iff.1 h.bb).1,h.bb],by rw [List.getElem?_append_left (List.getElem?_eq_some_iff.1 h.eb).1,h.eb],h.ne⟩
theorem zero_cnt (n:Nat):CntF n (zeroF n):=⟨by simp [zeroF],by simp [zeroF],by simp [zeroF],fun k hk=>by simp [zeroF,List.getD_eq_getElem?_getD,hk],fun k hk=>by simp [zeroF,List.getD_eq_getElem?_getD,hk],fun s hs=>by simp [zeroF] at hs,by simp [zeroF]⟩
structure RowT (Q:Store) (oc oo:Nat) (row:List PV) (x:FC):Prop where
 e:∃ b e,row = [.int .i64 x.ent,.msl b 0,.msl e 0,sV x.sites] ∧ Q[b]? = some (.rows 3 1 (ints x.blocks) 0) ∧ Q[e]? = some (.rows 65 2 (encT x.edges) 0) ∧ b ≠ oo ∧ e ≠ oo ∧ b ≠ oc ∧ e ≠ oc
structure TotI (L:List (List FC)) (rc:Go.PV.Obj) (ol v oc f:Nat) (OV:PV) (Q:Store):Prop where
 r:Q[1]? = some rc
 c:Q[2]? = some (.rows 62 1 [[.msl ol v]] 0)
 l:Q[ol]? = some (.rows 36 1 (encCn L) v)
 o:Q[oc]? = some (.rows 36 1 [[OV]] 0)
 ov:(f = 0 ∧ OV = .nils) ∨ (0 < f ∧ ∃ oo v2 Rw,OV = .msl oo v2 ∧ Q[oo]? = some (.rows 46 4 Rw v2) ∧ Rw.length = f ∧ (oo ≠ 1 ∧ oo ≠ 2 ∧ oo ≠ ol ∧ oo ≠ oc) ∧ ∀ i,i < f → RowT Q oc oo (Rw.getD i []) (totC L i))
 ne:ol ≠ 1 ∧ ol ≠ 2 ∧ oc ≠ 1 ∧ oc ≠ 2 ∧ oc ≠ ol
set_option maxRecDepth 8000 in
set_option maxHeartbeats 16000000 in
theorem total_w (s:StS) (r:Int) (hs:SmP s):PCall Tryz.prog 9 [stV s,.int .i64 r] [] (fun q _=>q = .tup [cntV (totR s r).1,.int .i64 (totR s r).2.1,.int .i64 (totR s r).2.2]):=by
 have k0:∀ args σ,noE.f 21 args σ = none:=fun _ _=>rfl
 have k1:∀ args σ,noE.f 22 args σ = none:=fun _ _=>rfl
 have k2:∀ args σ,noE.f 25 args σ = none:=fun _ _=>rfl
 have hv:=sval_on s hs.fit
 unfold stV at hv ⊢
 refine PCall.vfrz [] 36268807614569946186121215 104 [.cell 4 36,.tmp 5,.tmp 6] (noE_ok _) mix Tryz.func9 rfl (by decide) rfl rfl (by simp) ?_
 simp -dsimp only [initFr,List.zipIdx_cons,List.zipIdx_nil,List.map_cons,List.map_nil,Nat.zero_add,Nat.reduceAdd]
 simp -dsimp (maxSteps:=4000000) +contextual (disch:=first | omega | decide +kernel) only [↓vsD,vsE,↓Nat.reduceLT,simprocAttr,vcel,k0]
 refine PCall.mono (hv _) ?_
 rintro q τ ⟨rfl,rfl⟩
 by_cases hok:OkSt s
 ·rw [stB_t hok]
  rw [totR_t hok]
  obtain ⟨sb,hsb⟩:∃ sb,sb = Go.PV.Obj.rows 29 2 [[.sl (encP s.ps),.sl (encD s.cs)]] 0:=⟨_,rfl⟩
  obtain ⟨rc,hrc⟩:∃ rc,rc = Go.PV.Obj.rows 36 1 [[.nils]] 0:=⟨_,rfl⟩
  have hpn:=hs.n
  simp -dsimp (maxSteps:=4000000) +contextual (disch:=first | omega | decide +kernel) only [↓vsD,vsE,↓Nat.reduceLT,simprocAttr,vcel,encP_length]
  rw [← hsb,← hrc]
  refine v_loopS (fun t:Nat × PV × Store=>[(1,.int .i64 r),(4,.ptr 1 0 0 0),(7,.ptr 2 0 0 0),(22,.sl (encP s.ps)),(23,.int .i64 s.ps.length),(24,.int .i64 t.1)]) (fun t=>sb :: rc :: .rows 62 1 [[t.2.1]] 0 :: t.2.2) (fun t=>t.1 ≤ s.ps.length ∧ LiR t.2.2 (ofR (s.ps.take t.1) r) t.2.1) (fun t=>s.ps.length - t.1) (0,.nils,[]) (by simp [weaker,Go.PV.look]) rfl ⟨Nat.zero_le _,.inl ⟨rfl,rfl⟩⟩ ?_
  rintro ⟨k,V,Y⟩ ⟨hk,hV⟩
  dsimp only at hk hV ⊢
  by_cases hkn:k < s.ps.length
  ·have ht:=ofR_take s.ps r k hkn
   have hll:=ofR_len (s.ps.take k) r
   rw [List.length_take] at hll
   obtain ⟨p,hp⟩:∃ p,p = s.ps.getD k default:=⟨_,rfl⟩
   have hrow:=encP_getD s.ps k hkn
   rw [← hp] at ht hrow
   rcases hV with ⟨hV0,rfl⟩ | ⟨hV0,o,v,rfl,hVo⟩
   ·simp -dsimp (maxSteps:=4000000) +contextual (disch:=first | omega | decide +kernel) only [↓vsD,vsE,↓Nat.reduceLT,simprocAttr,vcel,vgap,encP_length,hrow,List.append_assoc,List.length_append,bytesK,lenK]
    refine ⟨fun h=>⟨(k + 1,.msl (Y.length + 1 + 3) 0,Y ++ _),(by (try dsimp only); omega),(by simp [weaker,Go.PV.look]),rfl,hkn,?_⟩,fun h=>⟨(k + 1,.nils,Y ++ _),(by (try dsimp only); omega),(by simp [weaker,Go.PV.look]),rfl,hkn,?_⟩⟩
    ·dsimp only
     rw [ht,if_pos h,hV0]
     exact .inr ⟨by simp,Y.length + 1,0,rfl,by simp [encCn]⟩
    ·dsimp only
     rw [ht,if_neg h]
     exact .inl ⟨hV0,rfl⟩
   ·have hol:=(List.getElem?_eq_some_iff.1 hVo).1
    have hVA:∀ X:Store,(Y ++ X)[o]? = some (.rows 36 1 (encCn (ofR (s.ps.take k) r)) v):=fun X=>by rw [List.getElem?_append_left hol,hVo]
    simp -dsimp (maxSteps:=4000000) +contextual (disch:=first | omega | decide +kernel) only [↓vsD,vsE,↓Nat.reduceLT,simprocAttr,vcel,vgap,encP_length,hrow,List.append_assoc,bytesK,lenK,hVA,encCn_length]
    refine ⟨fun h=>⟨(k + 1,.msl (o + 3) (v + 1),List.set (Y ++ _) o _),(by (try dsimp only); omega),(by simp [weaker,Go.PV.look]),rfl,hkn,?_⟩,fun h=>⟨(k + 1,.msl (o + 3) v,Y ++ _),(by (try dsimp only); omega),(by simp [weaker,Go.PV.look]),rfl,hkn,?_⟩⟩
    ·dsimp only
     rw [ht,if_pos h]
     exact .inr ⟨by simp,o,v + 1,rfl,by rw [List.getElem?_set_self (by simp; omega)]; simp [encCn]⟩
    ·dsimp only
     rw [ht,if_neg h]
     exact .inr ⟨hV0,o,v,rfl,hVA _⟩
  ·obtain rfl:k = s.ps.length:=by omega
   rw [List.take_length] at hV
   obtain ⟨L,hL⟩:∃ L,L = ofR s.ps r:=⟨_,rfl⟩
   have hLp:∀ l ∈ L,∃ p ∈ s.ps,l = p.fs:=fun l h=>by rw [hL] at h; exact ofR_mem h
   have hLn:L.length ≤ 40:=by rw [hL]; have:=ofR_len s.ps r; omega
   rw [← hL] at hV ⊢
   rcases hV with ⟨hV0,rfl⟩ | ⟨hV0,o,v,rfl,hVo⟩
   ·rw [if_pos hV0]
    rw [hrc]
    simp -dsimp (maxSteps:=4000000) +contextual (disch:=first | omega | decide +kernel) only [↓vsD,vsE,↓Nat.reduceLT,simprocAttr,vcel,vgap]
    exact fin_errT 34 rfl _
   ·rw [if_neg hV0]
    have hL0:0 < L.length:=List.length_pos_iff.2 hV0
    simp -dsimp (maxSteps:=4000000) +contextual (disch:=first | omega | decide +kernel) only [↓vsD,vsE,↓Nat.reduceLT,simprocAttr,vcel,vgap,hVo,encCn_length,k1]
    have hbl:∀ f ∈ L,f.length < 2 ^ 63 ∧ ∀ x ∈ f,x.blocks.length < 2 ^ 63:=fun f hf=>by
     obtain ⟨p,hp,rfl⟩:=hLp f hf
     exact ⟨(hs.f p hp).1,fun x hx=>((hs.f p hp).2 x hx).1⟩
    have hcn:=contCn L (by omega) 23 [.ptr 2 0 0 0] (fun y=>!decide (shp (L.getD 0 []) = shp y)) (o + 3) v (sb :: rc :: .rows 62 1 [[.msl (o + 3) v]] 0 :: Y) (by simpa using hVo) (fun _ _=>rfl)
     (fun y hy=>tot1_on L y 2 (o + 3) v _ hL0 hbl hy rfl (by simpa using hVo))
    refine PCall.mono hcn ?_
    rintro q τ ⟨rfl,rfl⟩
    obtain ⟨nb,hnb⟩:∃ nb,nb = notAll L:=⟨_,rfl⟩
    rw [show (L.any fun y=>!decide (shp (L.getD 0 []) = shp y)) = nb from hnb.symm,← hnb]
    cases nb with
    | true =>
     rw [hrc]
     simp -dsimp (maxSteps:=4000000) +contextual (disch:=first | omega | decide +kernel) only [↓vsD,vsE,↓Nat.reduceLT,simprocAttr,vcel,vgap]
     exact fin_errT 21 rfl _
    | false =>
     have hg0:=encCn_getD L 0 hL0
     have hol:=(List.getElem?_eq_some_iff.1 hVo).1
     have hVA:∀ X:Store,(Y ++ X)[o]? = some (.rows 36 1 (encCn L) v):=fun X=>by rw [List.getElem?_append_left hol,hVo]
     simp -dsimp (maxSteps:=4000000) +contextual (disch:=first | omega | decide +kernel) only [↓vsD,vsE,↓Nat.reduceLT,simprocAttr,vcel,vgap,hVA,encCn_length,hg0,encF_length]
     obtain ⟨F0,hF0⟩:∃ F0,F0 = L.getD 0 []:=⟨_,rfl⟩
     rw [← hF0]
     obtain ⟨oc,hoc⟩:∃ oc,oc = Y.length + 1 + 1 + 1:=⟨_,rfl⟩
     rw [← hoc]
     have hinit:TotI L rc (o + 3) v oc 0 .nils (sb :: rc :: .rows 62 1 [[.msl (o + 3) v]] 0 :: (Y ++ [.rows 36 1 [[.nils]] 0])) :=
      ⟨rfl,rfl,by simpa using hVA _,by rw [hoc]; simp,.inl ⟨rfl,rfl⟩,by omega,by omega,by omega,by omega,by omega⟩
     have hsh:∀ l ∈ L,shp l = shp F0:=fun l hl=>by
      have h1:¬ (L.any fun y=>!decide (shp (L.getD 0 []) = shp y)) = true:=by
       show ¬ notAll L = true
       rw [← hnb]; simp
      rw [List.any_eq_true] at h1
      by_cases h2:shp (L.getD 0 []) = shp l
      ·rw [hF0]; exact h2.symm
      ·exact absurd ⟨l,hl,by rw [decide_eq_false h2]; rfl⟩ h1
     obtain ⟨ol,hole⟩:∃ ol,ol = o + 3:=⟨_,rfl⟩
     rw [← hole] at hinit ⊢
     have hF0m:F0 ∈ L:=by rw [hF0]; exact gtD hL0
     have hF0l:=(hbl F0 hF0m).1
     refine v_loopS (fun t:Nat × PV × Store=>[(4,.ptr 1 0 0 0),(7,.ptr 2 0 0 0),(10,.ptr oc 0 0 0),(49,.sl (encF F0)),(50,.int .i64 F0.length),(51,.int .i64 t.1)]) (fun t=>t.2.2) (fun t=>t.1 ≤ F0.length ∧ TotI L rc ol v oc t.1 t.2.1 t.2.2) (fun t=>F0.length - t.1) (0,.nils,_) (by simp [weaker,Go.PV.look]) rfl ⟨Nat.zero_le _,hinit⟩ ?_
     rintro ⟨f,OV,Q⟩ ⟨hf,hI⟩
     dsimp only at hf hI ⊢
     by_cases hfn:f < F0.length
     ·obtain ⟨x,hx⟩:∃ x,x = F0.getD f default:=⟨_,rfl⟩
      have hrx:=encF_getD F0 f hfn
      rw [← hx] at hrx
      obtain ⟨pp,hpp,hppe⟩:=hLp F0 hF0m
      have hxm:x ∈ pp.fs:=by rw [hx,← hppe]; exact gtD hfn
      have hxc:=okCnt hs hok hpp hxm
      obtain ⟨n,hn⟩:∃ n,n = x.blocks.length:=⟨_,rfl⟩
      rw [← hn] at hxc
      have hn2:=hxc.2.1
      simp -dsimp (maxSteps:=4000000) +contextual (disch:=first | omega | decide +kernel) only [↓vsD,vsE,↓Nat.reduceLT,simprocAttr,vcel,vgap,encF_length,hrx]
      refine v_draws _ _ _ _ _ _ [9,10] [3,7] [(0,1),(0,1),(0,1),(0,1),(0,1),(0,1),(0,1),(0,1),(0,1),(0,0),(2,0)] (by decide +kernel) (by decide +kernel) (by decide +kernel) (by decide +kernel) ?_
      simp -dsimp (maxSteps:=4000000) +contextual (disch:=first | omega | decide +kernel) only [↓vsD,vsE,↓Nat.reduceLT,simprocAttr,vdA,↓vd_end,↓vdm_go,↓vd_op,↓guard_none,↓guard_some,vcel,vgap,ints_len,← hn,bytesK,lenK,List.append_assoc,List.length_append,Nat.add_assoc]
      obtain ⟨xb,hxb⟩:∃ xb,xb = Go.PV.Obj.rows 46 4 [[.int .i64 x.ent,.sl (ints x.blocks),.sl (encT x.edges),.sl (encS x.sites)]] 0:=⟨_,rfl⟩
      obtain ⟨cb,hcb⟩:∃ cb,cb = Go.PV.Obj.rows 46 4 [[.int .i64 (-1),.msl (Q.length + 1) 0,.msl (Q.length + 2) 0,.nils]] 0:=⟨_,rfl⟩
      have hi1:List.replicate n [PV.int .i64 0] = ints (List.replicate n 0):=by simp [ints,PV.encI]
      have hi2:List.replicate n [PV.int .i64 0,PV.int .i64 0] = encT (List.replicate n (0,0)):=by simp [encT]
      rw [← hxb,← hcb,hi1,hi2]
      refine v_loopS (fun t:Nat × List Int × List (Int × Int)=>[(4,.ptr 1 0 0 0),(7,.ptr 2 0 0 0),(10,.ptr oc 0 0 0),(11,.int .i64 f),(13,.ptr (Q.length + 3) 0 0 0),(49,.sl (encF F0)),(50,.int .i64 F0.length),(51,.int .i64 f),(67,.int .i64 n),(68,.int .i64 t.1)])
       (fun t=>Q ++ [xb,.rows 3 1 (ints t.2.1) 0,.rows 65 2 (encT t.2.2) 0,cb]) (fun t=>t.1 ≤ n ∧ HalfL (fun _ _=>-1) 0 (List.replicate n 0) (List.replicate n 0) t.1 t.2.1 ∧ HalfL (fun _ _=>(-1,-1)) (0,0) (List.replicate n (0,0)) (List.replicate n (0,0)) t.1 t.2.2) (fun t=>n - t.1) (0,List.replicate n 0,List.replicate n (0,0)) (by simp [weaker,Go.PV.look]) rfl ⟨Nat.zero_le _,HalfL.start _ _ _ _,HalfL.start _ _ _ _⟩ ?_
      rintro ⟨k,A,B⟩ ⟨hk,hA,hB⟩
      dsimp only at hk hA hB ⊢
      have hAl:=hA.1
      have hBl:=hB.1
      rw [List.length_replicate] at hAl hBl
      by_cases hkn:k < n
      ·have hg:=encT_getD B k (by omega)
       have hA2:=hA.step (k:=k) (by simp; omega)
       have hB2:=hB.step (k:=k) (by simp; omega)
       simp -dsimp (maxSteps:=4000000) +contextual (disch:=first | omega | decide +kernel) only [↓vsD,vsE,↓Nat.reduceLT,simprocAttr,vcel,vgap]
       rw [hcb]
       simp -dsimp (maxSteps:=4000000) +contextual (disch:=first | omega | decide +kernel) only [↓vsD,vsE,↓Nat.reduceLT,simprocAttr,vcel,vgap,ints_len,encT_length,ints_set1,encT_set1,List.append_assoc,List.length_append,Nat.add_assoc,hg]
       exact ⟨(k + 1,_,_),(by (try dsimp only); omega),(by simp [weaker,Go.PV.look]),rfl,hkn,hA2,hB2⟩
      ·obtain rfl:k = n:=by omega
       have eA:A = List.replicate k (-1):=by
        refine listExt (d:=0) (by simp; omega) (fun j hj=>?_)
        rw [List.length_replicate] at hj
        rw [hA.2 j (by simpa using hj),if_pos hj]
        simp [List.getD_eq_getElem?_getD,hj]
       have eB:B = List.replicate k (-1,-1):=by
        refine listExt (d:=(0,0)) (by simp; omega) (fun j hj=>?_)
        rw [List.length_replicate] at hj
        rw [hB.2 j (by simpa using hj),if_pos hj]
        simp [List.getD_eq_getElem?_getD,hj]
       rw [eA,eB]
       have hql:2 < Q.length:=(List.getElem?_eq_some_iff.1 hI.c).1
       have qc:∀ X:Store,(Q ++ X)[2]? = some (.rows 62 1 [[.msl ol v]] 0):=fun X=>by rw [List.getElem?_append_left hql,hI.c]
       have ql:∀ X:Store,(Q ++ X)[ol]? = some (.rows 36 1 (encCn L) v):=fun X=>by rw [List.getElem?_append_left (List.getElem?_eq_some_iff.1 hI.l).1,hI.l]
       simp -dsimp (maxSteps:=4000000) +contextual (disch:=first | omega | decide +kernel) only [↓vsD,vsE,↓Nat.reduceLT,simprocAttr,vcel,vgap,qc,ql,encCn_length]
       have hfl:∀ l ∈ L,f < l.length ∧ (l.getD f default).blocks.length = k:=fun l hl=>by
        have h1:=hsh l hl
        have h2:f < l.length:=by have:=congrArg List.length h1; rw [shp_len,shp_len] at this; omega
        refine ⟨h2,?_⟩
        have h3:=congrArg (fun z=>z.getD f 0) h1
        rw [shp_get l f h2,shp_get F0 f hfn,← hx] at h3
        omega
       have hown0:Own (Q ++ [xb,.rows 3 1 (ints (List.replicate k (-1))) 0,.rows 65 2 (encT (List.replicate k (-1,-1))) 0,cb]) (Q.length + 3) (Q.length + 1) (Q.length + 2) (accC L k f 0) :=
        ⟨by rw [gappk,hcb]; rfl,by rw [gappk]; rfl,by rw [gappk]; rfl,by omega,by omega,by omega⟩
       refine v_loopS (fun t:Nat × Store=>[(4,.ptr 1 0 0 0),(7,.ptr 2 0 0 0),(10,.ptr oc 0 0 0),(11,.int .i64 f),(13,.ptr (Q.length + 3) 0 0 0),(49,.sl (encF F0)),(50,.int .i64 F0.length),(51,.int .i64 f),(81,.msl ol v),(82,.int .i64 L.length),(83,.int .i64 t.1)])
        (fun t=>t.2) (fun t=>t.1 ≤ L.length ∧ Own t.2 (Q.length + 3) (Q.length + 1) (Q.length + 2) (accC L k f t.1) ∧ (∀ i,i < Q.length → t.2[i]? = Q[i]?) ∧ Q.length + 4 ≤ t.2.length ∧ CntF k (accC L k f t.1) ∧ SoS (accC L k f t.1).sites ∧ (accC L k f t.1).sites.length ≤ t.1) (fun t=>L.length - t.1) (0,_) (by simp [weaker,Go.PV.look]) rfl ⟨Nat.zero_le _,hown0,fun i hi=>List.getElem?_append_left hi,by simp,zero_cnt k,List.Pairwise.nil,Nat.le_refl _⟩ ?_
       rintro ⟨j,τ⟩ ⟨hj,hown,hold,hτl,hcnt,hso,hsl⟩
       dsimp only at hj hown hold hτl hcnt hso hsl
       have hlol:=(List.getElem?_eq_some_iff.1 hI.l).1
       by_cases hjl:j < L.length
       ·have tl:τ[ol]? = some (.rows 36 1 (encCn L) v):=by rw [hold ol hlol,hI.l]
        have hgj:=encCn_getD L j hjl
        obtain ⟨lj,hlj⟩:∃ lj,lj = L.getD j []:=⟨_,rfl⟩
        have hljm:lj ∈ L:=by rw [hlj]; exact gtD hjl
        rw [← hlj] at hgj
        obtain ⟨hfj,hnj⟩:=hfl lj hljm
        have hgf:=encF_getD lj f hfj
        obtain ⟨pj,hpj,hpje⟩:=hLp lj hljm
        obtain ⟨y,hy⟩:∃ y,y = lj.getD f default:=⟨_,rfl⟩
        have hym:y ∈ pj.fs:=by rw [hy,← hpje]; exact gtD hfj
        have hyc:=okCnt hs hok hpj hym
        rw [← hy] at hgf hnj
        rw [hnj] at hyc
        have hysl:=(hs.o pj hpj y hym).2
        have hacc:=accC_succ L k f j hjl
        rw [← hlj,← hy] at hacc
        simp -dsimp (maxSteps:=4000000) +contextual (disch:=first | omega | decide +kernel) only [↓vsD,vsE,↓Nat.reduceLT,simprocAttr,vcel,vgap,tl,encCn_length,hgj,encF_length,hgf,k2]
        have hss:=hs.o pj hpj y hym
        have hap:=addSs_props y.sites (accC L k f j).sites hcnt.s hss.1 hso
        refine PCall.mono (sum_ok (hown.app _) hcnt hyc.1 (by omega) hso (by omega)) ?_
        rintro q τ2 ⟨rfl,hw1,hw2,hw3⟩
        simp only [List.length_append,List.length_cons,List.length_nil] at hw2 hw3
        simp -dsimp (maxSteps:=4000000) +contextual (disch:=first | omega | decide +kernel) only [↓vsD,vsE,↓Nat.reduceLT,simprocAttr,vcel,vgap]
        refine ⟨(j + 1,τ2),(by (try dsimp only); omega),(by simp [weaker,Go.PV.look]),rfl,hjl,?_⟩
        rw [hacc]
        refine ⟨hw1,fun i hi=>?_,by show Q.length + 4 ≤ τ2.length; omega,sumF_cnt hcnt hyc.1 hap.1 (by omega),hap.2.1,?_⟩
        ·rw [hw2 i (by omega) (by omega) (by omega) (by omega),List.getElem?_append_left (by omega),hold i hi]
        ·show (addSs (accC L k f j).sites y.sites).length ≤ j + 1
         omega
       ·obtain rfl:j = L.length:=by omega
        have hoc1:=(List.getElem?_eq_some_iff.1 hI.o).1
        have to:τ[oc]? = some (.rows 36 1 [[OV]] 0):=by rw [hold oc hoc1,hI.o]
        have tc:=hown.ob
        have eacc:accC L k f L.length = totC L f:=by unfold accC totC; rw [List.take_length,← hF0,← hx,← hn]
        rw [eacc] at tc hown
        have hτo:=(List.getElem?_eq_some_iff.1 to).1
        have toA:∀ X:Store,(τ ++ X)[oc]? = some (.rows 36 1 [[OV]] 0):=fun X=>by rw [List.getElem?_append_left hτo,to]
        have hne:=hI.ne
        have h1l:=(List.getElem?_eq_some_iff.1 hI.r).1
        have hF64:F0.length ≤ 64:=by
         obtain ⟨i,hi,rfl⟩:=List.mem_iff_getElem.1 hpp
         have h1:=(hok.p i hi).n.2
         rw [List.getD_eq_getElem?_getD,List.getElem?_eq_getElem hi,Option.getD_some] at h1
         rw [hppe]; exact h1
        have hrow:∀ {Z:Store} {oo:Nat},(∀ i,i < τ.length → i ≠ oc → i ≠ oo → Z[i]? = τ[i]?) → oo ≠ Q.length + 1 → oo ≠ Q.length + 2 → RowT Z oc oo [.int .i64 (totC L f).ent,.msl (Q.length + 1) 0,.msl (Q.length + 2) 0,sV (totC L f).sites] (totC L f):=fun {Z oo} hz h1 h2 =>
         ⟨Q.length + 1,Q.length + 2,rfl,by rw [hz _ (by omega) (by omega) (Ne.symm h1)]; exact hown.bb,by rw [hz _ (by omega) (by omega) (Ne.symm h2)]; exact hown.eb,Ne.symm h1,Ne.symm h2,by omega,by omega⟩
        rcases hI.ov with ⟨hf0,rfl⟩ | ⟨hf0,oo,v2,Rw,rfl,hoo,hRl,hon,hRows⟩
        ·simp -dsimp (maxSteps:=4000000) +contextual (disch:=first | omega | decide +kernel) only [↓vsD,vsE,↓Nat.reduceLT,simprocAttr,vcel,vgap,to,toA,tc,bytesK,lenK,cell_sV,cells_sV]
         refine ⟨(f + 1,.msl τ.length 0,_),(by (try dsimp only); omega),(by simp [weaker,Go.PV.look]),rfl,hfn,?_⟩
         dsimp only
         have hz:∀ (B C:Go.PV.Obj) (i:Nat),i < τ.length → i ≠ oc → ((τ ++ [B]).set oc C)[i]? = τ[i]?:=fun B C i h1 h2=>by
          rw [List.getElem?_set_ne (Ne.symm h2),List.getElem?_append_left h1]
         refine ⟨?_,?_,?_,?_,.inr ⟨by omega,τ.length,0,[[.int .i64 (totC L f).ent,.msl (Q.length + 1) 0,.msl (Q.length + 2) 0,sV (totC L f).sites]],rfl,?_,?_,by omega,?_⟩,hne⟩
         ·rw [hz _ _ _ (by omega) (by omega),hold _ (by omega),hI.r]
         ·rw [hz _ _ _ (by omega) (by omega),hold _ (by omega),hI.c]
         ·rw [hz _ _ _ (by omega) (by omega),hold _ (by omega),hI.l]
         ·rw [List.getElem?_set_self (by simp; omega)]
         ·rw [List.getElem?_set_ne (by omega),List.getElem?_concat_length]
         ·rw [hf0]; rfl
         ·intro i hi
          obtain rfl:i = f:=by omega
          rw [hf0]
          rw [hf0] at hrow
          exact hrow (fun i h1 h2 h3=>hz _ _ i h1 h2) (by omega) (by omega)
        ·have hoo1:=(List.getElem?_eq_some_iff.1 hoo).1
         have too:τ[oo]? = some (.rows 46 4 Rw v2):=by rw [hold oo hoo1,hoo]
         have toS:∀ B:Go.PV.Obj,(τ.set oo B)[oc]? = some (.rows 36 1 [[.msl oo v2]] 0):=fun B=>by rw [List.getElem?_set_ne hon.2.2.2,to]
         simp -dsimp (maxSteps:=4000000) +contextual (disch:=first | omega | decide +kernel) only [↓vsD,vsE,↓Nat.reduceLT,simprocAttr,vcel,vgap,to,toS,tc,too,bytesK,lenK,cell_sV,cells_sV]
         refine ⟨(f + 1,.msl oo (v2 + 1),_),(by (try dsimp only); omega),(by simp [weaker,Go.PV.look]),rfl,hfn,?_⟩
         dsimp only
         have hz:∀ (B C:Go.PV.Obj) (i:Nat),i ≠ oc → i ≠ oo → ((τ.set oo B).set oc C)[i]? = τ[i]?:=fun B C i h1 h2=>by
          rw [List.getElem?_set_ne (Ne.symm h1),List.getElem?_set_ne (Ne.symm h2)]
         refine ⟨?_,?_,?_,?_,.inr ⟨by omega,oo,v2 + 1,Rw ++ [[.int .i64 (totC L f).ent,.msl (Q.length + 1) 0,.msl (Q.length + 2) 0,sV (totC L f).sites]],rfl,?_,?_,hon,?_⟩,hne⟩
         ·rw [hz _ _ _ (by omega) (by omega),hold _ (by omega),hI.r]
         ·rw [hz _ _ _ (by omega) (by omega),hold _ (by omega),hI.c]
         ·rw [hz _ _ _ (by omega) (by omega),hold _ (by omega),hI.l]
         ·rw [List.getElem?_set_self (by simp; omega)]
         ·rw [List.getElem?_set_ne (Ne.symm hon.2.2.2),List.getElem?_set_self (by omega)]
         ·simp [hRl]
         ·intro i hi
          rcases Nat.lt_succ_iff_lt_or_eq.1 hi with h | rfl
          ·obtain ⟨b,e,g1,g2,g3,g4,g5,g6,g7⟩:=(hRows i h).e
           have hbq:=(List.getElem?_eq_some_iff.1 g2).1
           have heq:=(List.getElem?_eq_some_iff.1 g3).1
           rw [List.getD_eq_getElem?_getD,List.getElem?_append_left (by omega),← List.getD_eq_getElem?_getD]
           exact ⟨b,e,g1,by rw [hz _ _ _ g6 g4,hold _ hbq,g2],by rw [hz _ _ _ g7 g5,hold _ heq,g3],g4,g5,g6,g7⟩
          ·rw [List.getD_eq_getElem?_getD,List.getElem?_append_right (by omega),hRl,Nat.sub_self]
           exact hrow (fun i h1 h2 h3=>hz _ _ i h2 h3) (by omega) (by omega)
     ·obtain rfl:f = F0.length:=by omega
      simp -dsimp (maxSteps:=4000000) +contextual (disch:=first | omega | decide +kernel) only [↓vsD,vsE,↓Nat.reduceLT,simprocAttr,vcel,vgap]
      refine v_draws _ _ _ _ _ _ [3] [] [(0,0),(0,1),(0,1),(0,0),(1,1),(1,1)] (by decide +kernel) (by decide +kernel) (by decide +kernel) (by decide +kernel) ?_
      have qr:=hI.r
      have qc:=hI.c
      have ql:=hI.l
      have qo:=hI.o
      rw [hrc] at qr
      have hne:=hI.ne
      have h1l:=(List.getElem?_eq_some_iff.1 hI.r).1
      have s1:∀ B:Go.PV.Obj,(Q.set 1 B)[1]? = some B:=fun B=>List.getElem?_set_self h1l
      have s2:∀ B:Go.PV.Obj,(Q.set 1 B)[2]? = some (.rows 62 1 [[.msl ol v]] 0):=fun B=>by rw [List.getElem?_set_ne (by omega),qc]
      have s3:∀ B:Go.PV.Obj,(Q.set 1 B)[ol]? = some (.rows 36 1 (encCn L) v):=fun B=>by rw [List.getElem?_set_ne (by omega),ql]
      rcases hI.ov with ⟨hf0,rfl⟩ | ⟨hf0,oo,v2,Rw,rfl,hoo,hRl,hon,hRows⟩
      ·simp -dsimp (maxSteps:=4000000) +contextual (disch:=first | omega | decide +kernel) only [↓vsD,vsE,↓Nat.reduceLT,simprocAttr,vdA,↓vd_end,↓vdm_go,↓vd_op,↓guard_none,↓guard_some,vcel,vgap,qr,qc,ql,qo,encCn_length,s1,s2,s3]
       have e0:totF L = []:=by unfold totF; rw [← hF0,hf0]; rfl
       rw [e0]
       refine fin0 (.tup _ [cntV [],.int .i64 L.length,.int .i64 0] rfl (fun j p hj=>?_)) rfl
       match j,hj with
       | 0,hj =>
        simp at hj; subst hj
        refine .agg _ [.sl []] rfl (fun i c hc=>?_)
        match i,hc with
        | 0,hc=>simp at hc; subst hc; exact .nils
        | i + 1,hc=>simp at hc
       | 1,hj=>simp at hj; subst hj; exact .keep _ (bel_int _ _ _)
       | 2,hj=>simp at hj; subst hj; exact .keep _ (bel_int _ _ _)
       | j + 3,hj=>simp at hj
      ·simp -dsimp (maxSteps:=4000000) +contextual (disch:=first | omega | decide +kernel) only [↓vsD,vsE,↓Nat.reduceLT,simprocAttr,vdA,↓vd_end,↓vdm_go,↓vd_op,↓guard_none,↓guard_some,vcel,vgap,qr,qc,ql,qo,encCn_length,s1,s2,s3]
       have eL:(totF L).length = F0.length:=by unfold totF; rw [← hF0]; simp
       have eG:∀ i,i < F0.length → (totF L).getD i default = totC L i:=fun i hi=>by
        unfold totF; rw [← hF0]; simp [List.getD_eq_getElem?_getD,hi]
       have qoo:(Q.set 1 (Go.PV.Obj.rows 36 1 [[.msl oo v2]] 0))[oo]? = some (.rows 46 4 Rw v2):=by rw [List.getElem?_set_ne (by omega),hoo]
       have hz:∀ b,b ≠ 1 → (Q.set 1 (Go.PV.Obj.rows 36 1 [[.msl oo v2]] 0))[b]? = Q[b]?:=fun b hb=>List.getElem?_set_ne (Ne.symm hb)
       have hn1:∀ {b:Nat} {e:TypeId} {k:Nat} {rr:List (List PV)} {w:Nat},Q[b]? = some (.rows e k rr w) → e ≠ 36 → b ≠ 1:=fun {b e k rr w} h h2 h3=>by
        rw [h3,qr] at h; simp at h; exact h2 h.1.symm
       have key:Frz 0 (Q.set 1 (Go.PV.Obj.rows 36 1 [[.msl oo v2]] 0)) (.msl oo v2) (.sl (encF (totF L))):=by
        have kr:∀ i row,Rw[i]? = some row → i < F0.length ∧ RowT Q oc oo row (totC L i) ∧ (encF (totF L)).getD i [] = (totC L i).row:=fun i row hr=>by
         have hi:i < F0.length:=by rw [← hRl]; exact (List.getElem?_eq_some_iff.1 hr).1
         have h1:=hRows i hi
         rw [List.getD_eq_getElem?_getD,hr,Option.getD_some] at h1
         refine ⟨hi,h1,?_⟩
         rw [encF_getD _ _ (by omega),eG i hi]; rfl
        refine .msl oo v2 _ _ Rw _ (Nat.zero_le _) qoo (by rw [encF_length,eL,hRl]) (fun i row hr=>?_) (fun i row j p hr hj=>?_)
        ·obtain ⟨_,⟨b,e,h1,_⟩,h3⟩:=kr i row hr
         rw [h3,h1]; rfl
        ·obtain ⟨_,⟨b,e,h1,h2,h4,_⟩,h3⟩:=kr i row hr
         rw [h3]
         subst h1
         match j,hj with
         | 0,hj=>simp at hj; subst hj; exact .keep _ (bel_int _ _ _)
         | 1,hj=>simp at hj; subst hj; exact Frz.msl0 (Nat.zero_le _) (by rw [hz _ (hn1 h2 (by decide))]; exact h2) (enc_bel _ 0 _)
         | 2,hj=>simp at hj; subst hj; exact Frz.msl0 (Nat.zero_le _) (by rw [hz _ (hn1 h4 (by decide))]; exact h4) (encT_bel 0 _)
         | 3,hj =>
          simp at hj; subst hj
          show Frz 0 _ _ (.sl (encS (totC L i).sites))
          unfold sV
          split
          ·rename_i hh
           rw [List.isEmpty_iff.1 hh]; exact .nils
          ·exact .keep _ (bel_sites _ _)
         | j + 4,hj=>simp at hj
       refine fin0 (.tup _ [cntV (totF L),.int .i64 L.length,.int .i64 0] rfl (fun j p hj=>?_)) rfl
       match j,hj with
       | 0,hj =>
        simp at hj; subst hj
        refine .agg _ [.sl (encF (totF L))] rfl (fun i c hc=>?_)
        match i,hc with
        | 0,hc=>simp at hc; subst hc; exact key
        | i + 1,hc=>simp at hc
       | 1,hj=>simp at hj; subst hj; exact .keep _ (bel_int _ _ _)
       | 2,hj=>simp at hj; subst hj; exact .keep _ (bel_int _ _ _)
       | j + 3,hj=>simp at hj
 ·rw [stB_f hok,totR_no hok]
  simp -dsimp (maxSteps:=4000000) +contextual (disch:=first | omega | decide +kernel) only [↓vsD,vsE,↓Nat.reduceLT,simprocAttr,vcel]
  exact fin_errT 20 rfl _
theorem bel_totR (k:Nat) (s:StS) (r:Int):Bel k (.tup [cntV (totR s r).1,.int .i64 (totR s r).2.1,.int .i64 (totR s r).2.2]):=bel_tup (fun q hq=>by
 simp only [List.mem_cons,List.not_mem_nil,or_false] at hq
 rcases hq with rfl | rfl | rfl
 ·exact bel_cnt _ _
 ·exact bel_int _ _ _
 ·exact bel_int _ _ _)
theorem total_on (s:StS) (r:Int) (hs:SmP s) (σ:Store):PCall Tryz.prog 9 [stV s,.int .i64 r] σ (fun q τ=>q = .tup [cntV (totR s r).1,.int .i64 (totR s r).2.1,.int .i64 (totR s r).2.2] ∧ τ = σ) :=
 PCall.lift (total_w s r hs) (bel2 (bel_st _ _) (bel_int _ _ _)) (fun q h=>⟨by rw [h]; exact bel_totR _ _ _,h,rfl⟩)
end Go.Proofs.YthjoehaglonjaaaGreat
