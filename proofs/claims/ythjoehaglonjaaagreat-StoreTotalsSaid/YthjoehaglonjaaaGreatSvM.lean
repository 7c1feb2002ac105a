import Derived.Test.YthjoehaglonjaaaGreatSvL
import Derived.Test.YthjoehaglonjaaaGreatSvF
set_option maxRecDepth 8000
set_option linter.unusedSimpArgs false
set_option linter.unusedVariables false
namespace Go.Proofs.YthjoehaglonjaaaGreat
open Go.PV
def RowA (Q:Store) (g:Nat → Nat) (m i:Nat) (row:List PV) (x:FC):Prop :=
 ∃ b e S W,row = [.int .i64 x.ent,.msl b 0,.msl e 0,S] ∧ Q[b]? = some (.rows 3 1 (ints x.blocks) 0) ∧ Q[e]? = some (.rows 65 2 (encT x.edges) 0) ∧ g b = 3 * i + 1 ∧ g e = 3 * i + 2 ∧
  (i < m → RefL Q x.sites S W ∧ ∀ w ∈ W,w < Q.length ∧ g w = 3 * i + 3) ∧ (m ≤ i → S = .sl (encS x.sites))
theorem RowA.keep {Q Z:Store} {g g':Nat → Nat} {m m' i:Nat} {row:List PV} {x:FC} (h:RowA Q g m i row x) (hz:∀ j,j < Q.length → (g j = 3 * i + 1 ∨ g j = 3 * i + 2 ∨ g j = 3 * i + 3) → Z[j]? = Q[j]?)
  (hg:∀ j,j < Q.length → g' j = g j) (hl:Q.length ≤ Z.length) (hm:i < m' ↔ i < m):RowA Z g' m' i row x:=by
 obtain ⟨b,e,S,W,h1,hb,he,gb,ge,h5,h6⟩:=h
 have hbl:=(List.getElem?_eq_some_iff.1 hb).1
 have hel:=(List.getElem?_eq_some_iff.1 he).1
 exact ⟨b,e,S,W,h1,by rw [hz b hbl (.inl gb),hb],by rw [hz e hel (.inr (.inl ge)),he],by rw [hg b hbl,gb],by rw [hg e hel,ge],
  fun hi=>⟨(h5 (hm.1 hi)).1.keep (fun j hj hjl=>hz j hjl (.inr (.inr ((h5 (hm.1 hi)).2 j hj).2))),fun w hw=>by
   obtain ⟨w1,w2⟩:=(h5 (hm.1 hi)).2 w hw
   exact ⟨Nat.lt_of_lt_of_le w1 hl,by rw [hg w w1,w2]⟩⟩,fun hi=>h6 (by omega)⟩
structure TtI (n0:Nat) (Q:Store) (g:Nat → Nat) (oo v:Nat) (Rw:List (List PV)) (A:List FC) (m:Nat):Prop where
 ob:Q[oo]? = some (.rows 46 4 Rw v)
 rl:Rw.length = A.length
 row:∀ i,i < A.length → RowA Q g m i (Rw.getD i []) (A.getD i default)
 go:g oo = 0
 lo:∀ j,j < n0 → g j = 0
 no:n0 ≤ oo
theorem TtI.lt {n0:Nat} {Q:Store} {g:Nat → Nat} {oo v:Nat} {Rw:List (List PV)} {A:List FC} {m:Nat} (h:TtI n0 Q g oo v Rw A m):oo < Q.length:=(List.getElem?_eq_some_iff.1 h.ob).1
theorem TtI.set {n0:Nat} {Q:Store} {g:Nat → Nat} {oo v:Nat} {Rw:List (List PV)} {A:List FC} {m:Nat} (h:TtI n0 Q g oo v Rw A m) {f:Nat} (hf:f < A.length) {Z:Store} {g':Nat → Nat} {row':List PV} {x':FC} {m':Nat}
  (ho:Z[oo]? = some (.rows 46 4 (Rw.set f row') v)) (hr:RowA Z g' m' f row' x') (hz:∀ j,j < Q.length → j ≠ oo → g j ≠ 3 * f + 1 → g j ≠ 3 * f + 2 → g j ≠ 3 * f + 3 → Z[j]? = Q[j]?)
  (hg:∀ j,j < Q.length → g' j = g j) (hl:Q.length ≤ Z.length) (hm:∀ i,i ≠ f → (i < m' ↔ i < m)):TtI n0 Z g' oo v (Rw.set f row') (A.set f x') m':=by
 have hol:=h.lt
 refine ⟨ho,by rw [List.length_set,List.length_set]; exact h.rl,fun i hi=>?_,by rw [hg oo hol,h.go],fun j hj=>by rw [hg j (by have:=h.no; omega),h.lo j hj],h.no⟩
 rw [List.length_set] at hi
 rw [getD_set2 _ _ _ _ _ (by rw [h.rl]; exact hf),getD_set2 _ _ _ _ _ hf]
 by_cases hif:f = i
 ·subst hif
  rw [if_pos rfl,if_pos rfl]; exact hr
 ·rw [if_neg hif,if_neg hif]
  refine (h.row i hi).keep (fun j hj hgj=>hz j hj (fun e=>?_) (by omega) (by omega) (by omega)) hg hl (hm i (fun e=>hif e.symm))
  subst e
  have:=h.go
  omega
theorem TtI.app {n0:Nat} {Q:Store} {g:Nat → Nat} {oo v:Nat} {Rw:List (List PV)} {A:List FC} {m:Nat} (h:TtI n0 Q g oo v Rw A m) {Z:Store} (hz:∀ j,j < Q.length → (g j ≠ 0 ∨ j = oo) → Z[j]? = Q[j]?) (hl:Q.length ≤ Z.length):TtI n0 Z g oo v Rw A m :=
 ⟨by rw [hz _ h.lt (.inr rfl)]; exact h.ob,h.rl,fun i hi=>(h.row i hi).keep (fun j hj hgj=>hz j hj (.inl (by omega))) (fun _ _=>rfl) hl Iff.rfl,h.go,h.lo,h.no⟩
theorem TtI.regr {n0:Nat} {Q:Store} {g g':Nat → Nat} {oo v:Nat} {Rw:List (List PV)} {A:List FC} {m:Nat} (h:TtI n0 Q g oo v Rw A m) (hg:∀ j,j < Q.length → g' j = g j):TtI n0 Q g' oo v Rw A m :=
 ⟨h.ob,h.rl,fun i hi=>(h.row i hi).keep (fun _ _ _=>rfl) hg (Nat.le_refl _) Iff.rfl,by rw [hg _ h.lt,h.go],fun j hj=>by rw [hg j (by have:=h.lt; have:=h.no; omega),h.lo j hj],h.no⟩
theorem TtI.low {n0 n1:Nat} {Q:Store} {g:Nat → Nat} {oo v:Nat} {Rw:List (List PV)} {A:List FC} {m:Nat} (h:TtI n0 Q g oo v Rw A m) (hn:n1 ≤ n0):TtI n1 Q g oo v Rw A m :=
 ⟨h.ob,h.rl,h.row,h.go,fun j hj=>h.lo j (by omega),by have:=h.no; omega⟩
theorem TtI.push {n0:Nat} {Q:Store} {g:Nat → Nat} {oo v:Nat} {Rw:List (List PV)} {A:List FC} (h:TtI n0 Q g oo v Rw A 0) {Z:Store} {g':Nat → Nat} {v':Nat} {row:List PV} {x:FC}
  (ho:Z[oo]? = some (.rows 46 4 (Rw ++ [row]) v')) (hr:RowA Z g' 0 A.length row x) (hz:∀ j,j < Q.length → g j ≠ 0 → Z[j]? = Q[j]?) (hg:∀ j,j < Q.length → g' j = g j) (hl:Q.length ≤ Z.length):TtI n0 Z g' oo v' (Rw ++ [row]) (A ++ [x]) 0:=by
 have hol:=h.lt
 refine ⟨ho,by simp [h.rl],fun i hi=>?_,by rw [hg oo hol,h.go],fun j hj=>by rw [hg j (by have:=h.no; omega),h.lo j hj],h.no⟩
 rw [List.length_append,List.length_singleton] at hi
 by_cases hif:i < A.length
 ·have e1:(Rw ++ [row]).getD i [] = Rw.getD i []:=by rw [List.getD_eq_getElem?_getD,List.getElem?_append_left (by rw [h.rl]; exact hif),← List.getD_eq_getElem?_getD]
  have e2:(A ++ [x]).getD i default = A.getD i default:=by rw [List.getD_eq_getElem?_getD,List.getElem?_append_left hif,← List.getD_eq_getElem?_getD]
  rw [e1,e2]
  exact (h.row i hif).keep (fun j hj hgj=>hz j hj (by omega)) hg hl Iff.rfl
 ·obtain rfl:i = A.length:=by omega
  have e1:(Rw ++ [row]).getD A.length [] = row:=by rw [← h.rl]; simp [List.getD_eq_getElem?_getD]
  have e2:(A ++ [x]).getD A.length default = x:=by simp [List.getD_eq_getElem?_getD]
  rw [e1,e2]; exact hr
theorem RefL.cut {Y:Store} {l:List Site} {O:PV} {W:List Nat} (h:RefL Y l O W):RefL Y l O (W.filter fun w=>decide (w < Y.length)):=by
 rcases h with h | ⟨h0,o,v,Rw,T,h1,h2,h3,h4⟩
 ·exact .inl h
 ·refine .inr ⟨h0,o,v,Rw,T,h1,h2,?_,fun i hi=>?_⟩
  ·rw [List.mem_filter,decide_eq_true_eq]; exact ⟨h3,(List.getElem?_eq_some_iff.1 h2.ob).1⟩
  ·rw [List.mem_filter,decide_eq_true_eq]; exact ⟨h4 i hi,(List.getElem?_eq_some_iff.1 (h2.tg i hi)).1⟩
theorem RefL.cell {Y:Store} {l:List Site} {O:PV} {W:List Nat} (h:RefL Y l O W):cellsV O = some [O] ∧ PV.cell O = true:=by
 rcases h with ⟨_,rfl⟩ | ⟨h0,o,v,Rw,T,rfl,_⟩
 ·exact ⟨rfl,rfl⟩
 ·exact ⟨rfl,rfl⟩
structure CntG (n c:Nat) (x:FC):Prop where
 b:x.blocks.length = n
 e:x.edges.length = n
 en:cntd x.ent
 bc:∀ k,k < n → cntd (x.blocks.getD k 0)
 ec:∀ k,k < n → cntd (x.edges.getD k (0,0)).1 ∧ cntd (x.edges.getD k (0,0)).2
 s:One1 x.sites
 so:SoS x.sites
 sl:x.sites.length ≤ c
theorem CntG.sum {n c:Nat} {x y:FC} (hx:CntG n c x) (hy:CntG n 1 y):CntG n (c + 1) (sumF x y):=by
 have h:=addSs_props y.sites x.sites hx.s hy.s hx.so
 have hxb:=hx.b
 have hxe:=hx.e
 have hyb:=hy.b
 have hye:=hy.e
 have hsl:=hx.sl
 have hsl2:=hy.sl
 refine ⟨by show (List.zipWith _ _ _).length = n; simp [hxb,hyb],by show (List.zipWith _ _ _).length = n; simp [hxe,hye],plusI_cnt hx.en hy.en,fun k hk=>?_,fun k hk=>?_,h.1,h.2.1,by show (addSs _ _).length ≤ _; omega⟩
 ·show cntd ((List.zipWith plusI x.blocks y.blocks).getD k 0)
  rw [zip_getD plusI _ _ 0 0 0 k (by omega) (by omega)]
  exact plusI_cnt (hx.bc k hk) (hy.bc k hk)
 ·show cntd ((List.zipWith plusP x.edges y.edges).getD k (0,0)).1 ∧ _
  rw [show (sumF x y).edges = List.zipWith plusP x.edges y.edges from rfl,zip_getD plusP _ _ (0,0) (0,0) (0,0) k (by omega) (by omega)]
  exact ⟨plusI_cnt (hx.ec k hk).1 (hy.ec k hk).1,plusI_cnt (hx.ec k hk).2 (hy.ec k hk).2⟩
theorem plusI_m1 {c:Int} (h:cntd c):plusI (-1) c = c:=by
 unfold plusI cntd at *
 split
 ·omega
 ·rw [if_pos (by omega)]
theorem sumF_zero {n c:Nat} {x:FC} (h:CntG n c x):sumF (zeroF n) x = ⟨x.ent,x.blocks,x.edges,addSs [] x.sites⟩:=by
 unfold sumF zeroF
 dsimp only
 rw [plusI_m1 h.en]
 congr 1
 ·refine listExt (d:=0) (by simp [h.b]) (fun k hk=>?_)
  have hk2:k < n:=by rw [h.b] at hk; exact hk
  rw [zip_getD plusI _ _ 0 0 0 k (by simpa using hk2) (by rw [h.b]; exact hk2)]
  have:(List.replicate n (-1:Int)).getD k 0 = -1:=by simp [List.getD_eq_getElem?_getD,hk2]
  rw [this,plusI_m1 (h.bc k hk2)]
 ·refine listExt (d:=(0,0)) (by simp [h.e]) (fun k hk=>?_)
  have hk2:k < n:=by rw [h.e] at hk; exact hk
  rw [zip_getD plusP _ _ (0,0) (0,0) (0,0) k (by simpa using hk2) (by rw [h.e]; exact hk2)]
  have:(List.replicate n ((-1,-1):Int × Int)).getD k (0,0) = (-1,-1):=by simp [List.getD_eq_getElem?_getD,hk2]
  rw [this]
  unfold plusP
  rw [plusI_m1 (h.ec k hk2).1,plusI_m1 (h.ec k hk2).2]
theorem sumP_ok {a b:Int} (ha:cntd a) (hb:cntd b) (σ:Store):PCall Tryz.prog 10 [.int .i64 a,.int .i64 b] σ (fun p σ'=>p = .int .i64 (plusI a b) ∧ σ' = σ):=by
 have h:=sumR_ok a b ha.2 hb.2 σ
 have e:(if a < 0 then b else if b < 0 then a else min (a + b) 1099511627776) = plusI a b:=by
  unfold plusI
  unfold cntd at ha hb
  split <;> split <;> first | rfl | omega
 rw [e] at h
 exact h
set_option maxHeartbeats 8000000 in
theorem copy25_raw (x:FC) (h1:1 ≤ x.blocks.length ∧ x.blocks.length ≤ 1000) (h2:1 ≤ x.edges.length ∧ x.edges.length ≤ 1000) (hl:x.sites.length ≤ 1000) (ht:∀ s ∈ x.sites,s.tg.length ≤ 1000) (σ:Store) :
  PCall Tryz.prog 53 [.agg x.row] σ (fun q τ=>q = .agg [.int .i64 x.ent,.msl (σ.length + 2) 0,.msl (σ.length + 3) 0,.sl (encS x.sites)] ∧
   τ = σ ++ [.rows 46 4 [x.row] 0,.rows 46 4 [[.int .i64 x.ent,.msl (σ.length + 2) 0,.msl (σ.length + 3) 0,.sl (encS x.sites)]] 0,.rows 3 1 (ints x.blocks) 0,.rows 65 2 (encT x.edges) 0]):=by
 obtain ⟨ent,bs,es,ss⟩:=x
 dsimp only at h1 h2 hl ht ⊢
 have k0:∀ args σ,noE.f 85 args σ = none:=fun _ _=>rfl
 simp only [FC.row]
 refine PCall.vraw [] 7 15 [.cell 2 46] (noE_ok _) mix Tryz.func53 rfl (by decide) rfl rfl (by simp) ?_
 simp -dsimp only [initFr,List.zipIdx_cons,List.zipIdx_nil,List.map_cons,List.map_nil,Nat.zero_add,Nat.reduceAdd]
 have hc:=csites_on ss (by omega) (fun s hs=>by have:=ht s hs; omega)
 have e2:∀ b l,ints (b :: l) = [.int .i64 b] :: ints l:=fun _ _=>rfl
 have e3:∀ (t:Int × Int) l,encT (t :: l) = [.int .i64 t.1,.int .i64 t.2] :: encT l:=fun _ _=>rfl
 have nI:∀ b l,newsOk Tryz.prog 3 ([.int .i64 b] :: ints l) = true:=fun b l=>newsI (b :: l)
 have nP:∀ (t:Int × Int) l,newsOk Tryz.prog 65 ([.int .i64 t.1,.int .i64 t.2] :: encT l) = true:=fun b l=>newsP2 (b :: l)
 have eI:∀ l,(ints l).length = l.length:=fun l=>enc_length _ _
 have eP:∀ l,(encT l).length = l.length:=encT_length
 cases bs with
 | nil=>simp at h1
 | cons b bs =>
  rw [List.length_cons] at h1
  cases es with
  | nil=>simp at h2
  | cons e es =>
   rw [List.length_cons] at h2
   rw [e2,e3]
   simp -dsimp (maxSteps:=4000000) +contextual (disch:=first | omega | decide +kernel) only [↓vsD,vsE,↓Nat.reduceLT,simprocAttr,vcel,vgap,k0]
   refine v_draws _ _ _ _ _ _ [4,7,10,12] [] [(0,3),(0,3),(0,0),(0,0),(0,0),(0,1),(0,1),(0,0),(0,2),(0,2),(0,0),(3,3),(0,0)] (by decide +kernel) (by decide +kernel) (by decide +kernel) (by decide +kernel) ?_
   simp -dsimp (maxSteps:=4000000) +contextual (disch:=first | omega | decide +kernel) only [↓vsD,vsE,↓Nat.reduceLT,simprocAttr,vdA,↓vd_end,↓vdm_go,↓vd_op,↓guard_none,↓guard_some,vcel,k0,bytesK,lenK,newsI,newsP2,nI,nP,List.length_cons,eI,eP,vgap,List.append_assoc,List.length_append]
   refine ⟨_,_,hc _,by simp [rowsAt,outR],?_⟩
   simp -dsimp (maxSteps:=4000000) +contextual (disch:=first | omega | decide +kernel) only [↓vsD,vsE,↓Nat.reduceLT,simprocAttr,vdA,↓vd_end,↓vdm_go,↓vd_op,↓guard_none,↓guard_some,vcel,bytesK,lenK,newsI,newsP2,nI,nP,eI,eP,vgap,List.append_assoc,List.length_append]
structure CprI (σ:Store) (p:Pc) (k:Nat) (OV:PV) (Y:Store):Prop where
 b0:Y[σ.length]? = some (.rows 38 5 [p.row] 0)
 b1:Y[σ.length + 1]? = some (.rows 38 5 [[.int .i64 0,.int .i64 0,.int .i64 0,.int .u64 0,.nils]] 0)
 b2:Y[σ.length + 2]? = some (.rows 36 1 [[OV]] 0)
 lo:∀ j,j < σ.length → Y[j]? = σ[j]?
 ov:(k = 0 ∧ OV = .nils) ∨ (0 < k ∧ ∃ g oo v Rw,OV = .msl oo v ∧ TtI (σ.length + 3) Y g oo v Rw (p.fs.take k) 0)
set_option maxRecDepth 8000 in
set_option maxHeartbeats 8000000 in
theorem copied31_raw (p:Pc) (h0:1 ≤ p.fs.length ∧ p.fs.length ≤ 64) (hx:∀ x ∈ p.fs,(1 ≤ x.blocks.length ∧ x.blocks.length ≤ 1000) ∧ (1 ≤ x.edges.length ∧ x.edges.length ≤ 1000) ∧ x.sites.length ≤ 1000 ∧ ∀ s ∈ x.sites,s.tg.length ≤ 1000) (σ:Store) :
  PCall Tryz.prog 30 [.agg p.row] σ (fun q τ=>∃ g oo v Rw,q = .agg [.int .i64 p.id.1,.int .i64 p.id.2.1,.int .i64 p.id.2.2,.int .u64 p.dig,.msl oo v] ∧ TtI σ.length τ g oo v Rw p.fs 0 ∧ ∀ j,j < σ.length → τ[j]? = σ[j]?):=by
 have k0:∀ args σ,noE.f 53 args σ = none:=fun _ _=>rfl
 have eF:(encF p.fs).length = p.fs.length:=encF_length _
 have er:p.row = [.int .i64 p.id.1,.int .i64 p.id.2.1,.int .i64 p.id.2.2,.int .u64 p.dig,.sl (encF p.fs)]:=rfl
 rw [er]
 refine PCall.vraw [] 1055 28 [.cell 2 38] (noE_ok _) mix Tryz.func30 rfl (by decide) rfl rfl (by simp) ?_
 simp -dsimp only [initFr,List.zipIdx_cons,List.zipIdx_nil,List.map_cons,List.map_nil,Nat.zero_add,Nat.reduceAdd]
 simp -dsimp (maxSteps:=4000000) +contextual (disch:=first | omega | decide +kernel) only [↓vsD,vsE,↓Nat.reduceLT,simprocAttr,vcel,vgap,List.append_assoc,List.length_append]
 refine v_loopS (fun t:Nat × PV × Store=>[(1,.ptr σ.length 0 0 0),(2,.ptr (σ.length + 1) 0 0 0),(3,.ptr (σ.length + 2) 0 0 0),(4,.int .i64 t.1)]) (fun t=>t.2.2) (fun t=>t.1 ≤ p.fs.length ∧ CprI σ p t.1 t.2.1 t.2.2) (fun t=>p.fs.length - t.1) (0,.nils,_) (by simp [weaker,Go.PV.look]) rfl ⟨Nat.zero_le _,⟨by dsimp only; rw [gapp0]; rfl,by dsimp only; rw [gappk]; rfl,by dsimp only; rw [gappk]; rfl,fun j hj=>List.getElem?_append_left hj,.inl ⟨rfl,rfl⟩⟩⟩ ?_
 rintro ⟨k,OV,Y⟩ ⟨hk,hI⟩
 dsimp only at hk hI ⊢
 have b0:=hI.b0
 have b1:=hI.b1
 have b2:=hI.b2
 rw [er] at b0
 have hYl:=(List.getElem?_eq_some_iff.1 b2).1
 have yA:∀ (X:Store) (j:Nat),j < Y.length → (Y ++ X)[j]? = Y[j]?:=fun X j hj=>List.getElem?_append_left hj
 have y0:∀ X:Store,(Y ++ X)[σ.length]? = some (.rows 38 5 [[.int .i64 p.id.1,.int .i64 p.id.2.1,.int .i64 p.id.2.2,.int .u64 p.dig,.sl (encF p.fs)]] 0):=fun X=>by rw [yA _ _ (by omega),b0]
 have y2:∀ X:Store,(Y ++ X)[σ.length + 2]? = some (.rows 36 1 [[OV]] 0):=fun X=>by rw [yA _ _ (by omega),b2]
 by_cases hkl:k < p.fs.length
 ·have hrow:=encF_getD p.fs k hkl
  have hs:=hx _ (gtD (d:=default) hkl)
  have e1:=take_succD p.fs k hkl
  obtain ⟨x,hxe⟩:∃ x,x = p.fs.getD k default:=⟨_,rfl⟩
  rw [← hxe] at hrow hs e1
  have hcp:=copy25_raw x hs.1 hs.2.1 hs.2.2.1 hs.2.2.2
  have hxr:x.row = [.int .i64 x.ent,.sl (ints x.blocks),.sl (encT x.edges),.sl (encS x.sites)]:=rfl
  rw [hxr] at hcp
  have hn:∀ a b c d,newsOk Tryz.prog 46 [[.int .i64 a,.msl b 0,.msl c 0,.sl d]] = true:=fun a b c d=>by simp [newsOk,PV.cell,tyC]
  rcases hI.ov with ⟨rfl,rfl⟩ | ⟨hk0,g,oo,v,Rw,rfl,hT⟩
  ·simp -dsimp (maxSteps:=4000000) +contextual (disch:=first | omega | decide +kernel) only [↓vsD,vsE,↓Nat.reduceLT,simprocAttr,vcel,vgap,b0,b1,b2,eF,hrow,k0]
   refine v_draws _ _ _ _ _ _ [8,10,12] [] [(0,1),(0,1),(0,0),(0,0),(0,0),(0,0),(0,0),(0,0),(0,0),(1,1),(0,0),(2,2),(0,0)] (by decide +kernel) (by decide +kernel) (by decide +kernel) (by decide +kernel) ?_
   simp -dsimp (maxSteps:=4000000) +contextual (disch:=first | omega | decide +kernel) only [↓vsD,vsE,↓Nat.reduceLT,simprocAttr,vdA,↓vd_end,↓vdm_go,↓vd_op,↓guard_none,↓guard_some,vcel,vgap,b0,b1,b2,eF,hrow,k0]
   refine ⟨_,_,hcp _,by simp [rowsAt,outR,y2,b2],?_⟩
   simp -dsimp (maxSteps:=4000000) +contextual (disch:=first | omega | decide +kernel) only [↓vsD,vsE,↓Nat.reduceLT,simprocAttr,vdA,↓vd_end,↓vdm_go,↓vd_op,↓guard_none,↓guard_some,vcel,vgap,hn,bytesK,lenK,y0,y2,List.append_assoc,List.length_append]
   refine ⟨(1,.msl (Y.length + 4) 0,_),(by (try dsimp only); omega),(by simp [weaker,Go.PV.look]),rfl,hkl,?_⟩
   have zz:∀ (X:Store) (B:Go.PV.Obj) (j:Nat),j < Y.length → j ≠ σ.length + 2 → ((Y ++ X).set (σ.length + 2) B)[j]? = Y[j]?:=fun X B j h1 h2=>by rw [List.getElem?_set_ne (Ne.symm h2),yA _ _ h1]
   have zn:∀ (X:Store) (B:Go.PV.Obj) (j:Nat),((Y ++ X).set (σ.length + 2) B)[Y.length + j]? = X[j]?:=fun X B j=>by rw [List.getElem?_set_ne (by omega),gappk]
   refine ⟨?_,?_,?_,fun j hj=>?_,.inr ⟨by omega,fun j=>if j = Y.length + 2 then 1 else if j = Y.length + 3 then 2 else 0,Y.length + 4,0,[[.int .i64 x.ent,.msl (Y.length + 2) 0,.msl (Y.length + 3) 0,.sl (encS x.sites)]],rfl,?_⟩⟩
   ·dsimp only; rw [zz _ _ _ (by omega) (by omega),hI.b0]
   ·dsimp only; rw [zz _ _ _ (by omega) (by omega),hI.b1]
   ·dsimp only; rw [List.getElem?_set_self (by simp; omega)]
   ·dsimp only; rw [zz _ _ _ (by omega) (by omega),hI.lo j hj]
   ·rw [e1]
    dsimp only
    refine ⟨by rw [zn]; rfl,rfl,fun i hi=>?_,by rw [if_neg (by omega),if_neg (by omega)],fun j hj=>by rw [if_neg (by omega),if_neg (by omega)],by omega⟩
    obtain rfl:i = 0:=by simp at hi; exact hi
    exact ⟨Y.length + 2,Y.length + 3,.sl (encS x.sites),[],rfl,by rw [zn]; rfl,by rw [zn]; rfl,by dsimp only; rw [if_pos rfl],by dsimp only; rw [if_neg (by omega),if_pos rfl],fun h=>absurd h (Nat.not_lt_zero _),fun _=>rfl⟩
  ·have hoo:=hT.ob
   have hol:=hT.lt
   have hon:=hT.no
   have hrl:=hT.rl
   rw [List.length_take] at hrl
   have yo:∀ X:Store,(Y ++ X)[oo]? = some (.rows 46 4 Rw v):=fun X=>by rw [yA _ _ hol,hoo]
   simp -dsimp (maxSteps:=4000000) +contextual (disch:=first | omega | decide +kernel) only [↓vsD,vsE,↓Nat.reduceLT,simprocAttr,vcel,vgap,b0,b1,b2,eF,hrow,k0]
   refine v_draws _ _ _ _ _ _ [8,10,12] [] [(0,1),(0,1),(0,0),(0,0),(0,0),(0,0),(0,0),(0,0),(0,0),(1,1),(0,0),(2,2),(0,0)] (by decide +kernel) (by decide +kernel) (by decide +kernel) (by decide +kernel) ?_
   simp -dsimp (maxSteps:=4000000) +contextual (disch:=first | omega | decide +kernel) only [↓vsD,vsE,↓Nat.reduceLT,simprocAttr,vdA,↓vd_end,↓vdm_go,↓vd_op,↓guard_none,↓guard_some,vcel,vgap,b0,b1,b2,eF,hrow,k0]
   refine ⟨_,_,hcp _,by simp [rowsAt,outR,y2,b2],?_⟩
   have ys:∀ (X:Store) (B:Go.PV.Obj),((Y ++ X).set oo B)[σ.length + 2]? = some (.rows 36 1 [[.msl oo v]] 0):=fun X B=>by rw [List.getElem?_set_ne (by omega),y2]
   simp -dsimp (maxSteps:=4000000) +contextual (disch:=first | omega | decide +kernel) only [↓vsD,vsE,↓Nat.reduceLT,simprocAttr,vdA,↓vd_end,↓vdm_go,↓vd_op,↓guard_none,↓guard_some,vcel,vgap,hn,bytesK,lenK,y0,y2,yo,ys,List.append_assoc,List.length_append]
   refine ⟨(k + 1,.msl oo (v + 1),_),(by (try dsimp only); omega),(by simp [weaker,Go.PV.look]),rfl,hkl,?_⟩
   obtain ⟨B2,hB2⟩:∃ B2,B2 = Go.PV.Obj.rows 36 1 [[.msl oo (v + 1)]] 0:=⟨_,rfl⟩
   dsimp only
   rw [← hB2]
   have zz:∀ (X:Store) (B:Go.PV.Obj) (j:Nat),j < Y.length → j ≠ σ.length + 2 → j ≠ oo → (((Y ++ X).set oo B).set (σ.length + 2) B2)[j]? = Y[j]?:=fun X B j h1 h2 h3=>by rw [List.getElem?_set_ne (Ne.symm h2),List.getElem?_set_ne (Ne.symm h3),yA _ _ h1]
   have zn:∀ (X:Store) (B:Go.PV.Obj) (j:Nat),(((Y ++ X).set oo B).set (σ.length + 2) B2)[Y.length + j]? = X[j]?:=fun X B j=>by rw [List.getElem?_set_ne (by omega),List.getElem?_set_ne (by omega),gappk]
   refine ⟨?_,?_,?_,fun j hj=>?_,.inr ⟨by omega,fun j=>if j = Y.length + 2 then 3 * k + 1 else if j = Y.length + 3 then 3 * k + 2 else g j,oo,v + 1,Rw ++ [[.int .i64 x.ent,.msl (Y.length + 2) 0,.msl (Y.length + 3) 0,.sl (encS x.sites)]],rfl,?_⟩⟩
   ·rw [zz _ _ _ (by omega) (by omega) (by omega),hI.b0]
   ·rw [zz _ _ _ (by omega) (by omega) (by omega),hI.b1]
   ·rw [List.getElem?_set_self (by simp; omega),hB2]
   ·rw [zz _ _ _ (by omega) (by omega) (by omega),hI.lo j hj]
   ·rw [e1]
    have hkA:(p.fs.take k).length = k:=by rw [List.length_take]; omega
    refine hT.push (row:=[.int .i64 x.ent,.msl (Y.length + 2) 0,.msl (Y.length + 3) 0,.sl (encS x.sites)]) (by rw [List.getElem?_set_ne (by omega),List.getElem?_set_self (by simp; omega)]) ?_ (fun j hj hgj=>zz _ _ j hj (fun e=>hgj (by rw [e]; exact hT.lo _ (by omega))) (fun e=>hgj (by rw [e]; exact hT.go))) (fun j hj=>by rw [if_neg (by omega),if_neg (by omega)]) (by rw [List.length_set,List.length_set,List.length_append]; omega)
    rw [hkA]
    exact ⟨Y.length + 2,Y.length + 3,.sl (encS x.sites),[],rfl,by rw [zn]; rfl,by rw [zn]; rfl,by dsimp only; rw [if_pos rfl],by dsimp only; rw [if_neg (by omega),if_pos rfl],fun h=>absurd h (Nat.not_lt_zero _),fun _=>rfl⟩
 ·obtain rfl:k = p.fs.length:=by omega
  rcases hI.ov with ⟨h1,_⟩ | ⟨_,g,oo,v,Rw,rfl,hT⟩
  ·omega
  ·rw [List.take_length] at hT
   have hon:=hT.no
   have y1:∀ B:Go.PV.Obj,(Y.set σ.length B)[σ.length + 1]? = some (.rows 38 5 [[.int .i64 0,.int .i64 0,.int .i64 0,.int .u64 0,.nils]] 0):=fun B=>by rw [List.getElem?_set_ne (by omega),b1]
   have ys:∀ B:Go.PV.Obj,(Y.set σ.length B)[σ.length]? = some B:=fun B=>List.getElem?_set_self (by omega)
   have ys1:∀ B C:Go.PV.Obj,((Y.set σ.length B).set (σ.length + 1) C)[σ.length + 1]? = some C:=fun B C=>List.getElem?_set_self (by simp; omega)
   simp -dsimp (maxSteps:=4000000) +contextual (disch:=first | omega | decide +kernel) only [↓vsD,vsE,↓Nat.reduceLT,simprocAttr,vcel,vgap,b0,b1,b2,y1,ys,ys1,eF]
   refine ⟨g,oo,v,Rw,rfl,?_,fun j hj=>?_⟩
   ·refine TtI.low (hT.app (fun j hj hgj=>?_) (by simp)) (by omega)
    have hj3:σ.length + 3 ≤ j:=by
     rcases hgj with h | h
     ·exact Nat.le_of_not_lt (fun h2=>h (hT.lo j h2))
     ·omega
    rw [List.getElem?_set_ne (by omega),List.getElem?_set_ne (by omega)]
   ·rw [List.getElem?_set_ne (by omega),List.getElem?_set_ne (by omega),hI.lo j hj]
end Go.Proofs.YthjoehaglonjaaaGreat
