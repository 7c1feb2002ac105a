import Derived.Test.YthjoehaglonjaaaGreatSvC
set_option maxRecDepth 8000
set_option linter.unusedSimpArgs false
set_option linter.unusedVariables false
namespace Go.Proofs.YthjoehaglonjaaaGreat
open Go.PV
def plusP (p q:Int × Int):Int × Int:=(plusI p.1 q.1,plusI p.2 q.2)
def sumF (x y:FC):FC:=⟨plusI x.ent y.ent,List.zipWith plusI x.blocks y.blocks,List.zipWith plusP x.edges y.edges,addSs x.sites y.sites⟩
theorem ints_set1 (l:List Int) (i:Nat) (x:Int):(ints l).set i [.int .i64 x] = ints (l.set i x):=by simp [ints,PV.encI,List.map_set]
theorem encT_set1 (l:List (Int × Int)) (i:Nat) (a b:Int):(encT l).set i [.int .i64 a,.int .i64 b] = encT (l.set i (a,b)):=by simp [encT,List.map_set]
theorem ints_len (l:List Int):(ints l).length = l.length:=by simp [ints,PV.encI]
theorem ints_getD (l:List Int) (i:Nat) (h:i < l.length):(ints l).getD i [] = [.int .i64 (l.getD i 0)]:=by simp [ints,PV.encI,List.getD_eq_getElem?_getD,h]
theorem zip_getD {α β γ:Type} (f:α → β → γ) (a:List α) (b:List β) (da:α) (db:β) (dc:γ) (k:Nat) (h1:k < a.length) (h2:k < b.length):(List.zipWith f a b).getD k dc = f (a.getD k da) (b.getD k db):=by
 simp [List.getD_eq_getElem?_getD,List.getElem?_zipWith,List.getElem?_eq_getElem h1,List.getElem?_eq_getElem h2]
def HalfL {α:Type} (f:α → α → α) (d:α) (a b:List α) (k:Nat) (L:List α):Prop:=L.length = a.length ∧ ∀ j,j < a.length → L.getD j d = if j < k then f (a.getD j d) (b.getD j d) else a.getD j d
theorem HalfL.start {α:Type} (f:α → α → α) (d:α) (a b:List α):HalfL f d a b 0 a:=⟨rfl,fun j hj=>by rw [if_neg (by omega)]⟩
theorem HalfL.at' {α:Type} {f:α → α → α} {d:α} {a b L:List α} {k:Nat} (h:HalfL f d a b k L) (hk:k < a.length):L.getD k d = a.getD k d:=by
 rw [h.2 k hk,if_neg (by omega)]
theorem HalfL.step {α:Type} {f:α → α → α} {d:α} {a b L:List α} {k:Nat} (h:HalfL f d a b k L) (hk:k < a.length):HalfL f d a b (k + 1) (L.set k (f (a.getD k d) (b.getD k d))):=by
 refine ⟨by rw [List.length_set,h.1],fun j hj=>?_⟩
 rw [getD_set2 _ _ _ _ _ (by rw [h.1]; exact hk)]
 by_cases hkj:k = j
 ·subst hkj
  rw [if_pos rfl,if_pos (by omega)]
 ·rw [if_neg hkj,h.2 j hj]
  by_cases hj2:j < k
  ·rw [if_pos hj2,if_pos (by omega)]
  ·rw [if_neg hj2,if_neg (by omega)]
theorem HalfL.end' {α:Type} {f:α → α → α} {d:α} {a b L:List α} (h:HalfL f d a b a.length L) (hab:a.length = b.length):L = List.zipWith f a b:=by
 refine listExt (d:=d) (by rw [h.1]; simp; omega) (fun j hj=>?_)
 rw [List.length_zipWith] at hj
 rw [h.2 j (by omega),if_pos (by omega),zip_getD f a b d d d j (by omega) (by omega)]
structure CntF (n:Nat) (x:FC):Prop where
 b:x.blocks.length = n
 e:x.edges.length = n
 c:x.ent ≤ 1099511627776
 bc:∀ k,k < n → x.blocks.getD k 0 ≤ 1099511627776
 ec:∀ k,k < n → (x.edges.getD k (0,0)).1 ≤ 1099511627776 ∧ (x.edges.getD k (0,0)).2 ≤ 1099511627776
 s:One1 x.sites
 sl:x.sites.length ≤ 100
theorem plusI_le {a b:Int} (ha:a ≤ 1099511627776) (hb:b ≤ 1099511627776):plusI a b ≤ 1099511627776:=by
 unfold plusI
 split
 ·exact ha
 ·split
  ·exact hb
  ·omega
structure Own (σ:Store) (o bo eo:Nat) (x:FC):Prop where
 ob:σ[o]? = some (.rows 46 4 [[.int .i64 x.ent,.msl bo 0,.msl eo 0,sV x.sites]] 0)
 bb:σ[bo]? = some (.rows 3 1 (ints x.blocks) 0)
 eb:σ[eo]? = some (.rows 65 2 (encT x.edges) 0)
 ne:o ≠ bo ∧ o ≠ eo ∧ bo ≠ eo
theorem cells_sV (l:List Site):cellsV (sV l) = some [sV l]:=by
 unfold sV
 split <;> rfl
theorem cell_sV (l:List Site):PV.cell (sV l) = true:=by
 unfold sV
 split <;> rfl
set_option maxRecDepth 8000 in
set_option maxHeartbeats 16000000 in
theorem sum_ok {σ:Store} {o bo eo n:Nat} {x y:FC} (h:Own σ o bo eo x) (hx:CntF n x) (hy:CntF n y) (hn:n ≤ 1000) (hso:SoS x.sites) (hxs:x.sites.length ≤ 1000) :
  PCall Tryz.prog 25 [.ptr o 0 0 0,.agg y.row] σ (fun q τ=>q = .tup [] ∧ Own τ o bo eo (sumF x y) ∧ (∀ j,j < σ.length → j ≠ o → j ≠ bo → j ≠ eo → τ[j]? = σ[j]?) ∧ σ.length ≤ τ.length):=by
 have k8:∀ args σ,noE.f 48 args σ = none:=fun _ _=>rfl
 have k9:∀ args σ,noE.f 49 args σ = none:=fun _ _=>rfl
 have hob:=h.ob
 have hlo:=(List.getElem?_eq_some_iff.1 h.ob).1
 have hlb:=(List.getElem?_eq_some_iff.1 h.bb).1
 have hle:=(List.getElem?_eq_some_iff.1 h.eb).1
 have hobA:∀ Z:Store,(σ ++ Z)[o]? = some (.rows 46 4 [[.int .i64 x.ent,.msl bo 0,.msl eo 0,sV x.sites]] 0):=fun Z=>by rw [List.getElem?_append_left hlo,hob]
 rw [FC.row]
 refine PCall.vraw [] 246290612486399 81 [] (noE_ok _) mix Tryz.func25 rfl (by decide) rfl rfl (by simp) ?_
 simp -dsimp only [initFr,List.zipIdx_cons,List.zipIdx_nil,List.map_cons,List.map_nil,Nat.zero_add,Nat.reduceAdd]
 simp -dsimp (maxSteps:=4000000) +contextual (disch:=first | omega | decide +kernel) only [↓vsD,vsE,↓Nat.reduceLT,simprocAttr,vcel]
 refine v_draws _ _ _ _ _ _ [7,10] [] [(0,1),(0,0),(0,0),(0,0),(0,0),(0,0),(0,0),(0,0),(1,1),(1,1),(0,0)] (by decide +kernel) (by decide +kernel) (by decide +kernel) (by decide +kernel) ?_
 simp -dsimp (maxSteps:=4000000) +contextual (disch:=first | omega | decide +kernel) only [↓vsD,vsE,↓Nat.reduceLT,simprocAttr,vdA,↓vd_end,↓vdm_go,↓vd_op,↓guard_none,↓guard_some,vcel,vgap,hobA,k8]
 refine ⟨_,_,plusS_ok x.ent y.ent hx.c hy.c _,by simp [rowsAt,outR],?_⟩
 have hsx:∀ (X:Store) (B:Go.PV.Obj),(X.set o B)[σ.length]? = X[σ.length]?:=fun X B=>List.getElem?_set_ne (by omega)
 simp -dsimp (maxSteps:=4000000) +contextual (disch:=first | omega | decide +kernel) only [↓vsD,vsE,↓Nat.reduceLT,simprocAttr,vdA,↓vd_end,↓vdm_go,↓vd_op,↓guard_none,↓guard_some,vcel,vgap,hobA,k8,hsx,hy.b,ints_len]
 obtain ⟨r1,hr1⟩:∃ r1,r1 = Go.PV.Obj.rows 46 4 [[.int .i64 (plusI x.ent y.ent),.msl bo 0,.msl eo 0,sV x.sites]] 0:=⟨_,rfl⟩
 obtain ⟨bx,hbx⟩:∃ bx,bx = Go.PV.Obj.rows 46 4 [[.int .i64 y.ent,.sl (ints y.blocks),.sl (encT y.edges),.sl (encS y.sites)]] 0:=⟨_,rfl⟩
 rw [← hr1,← hbx]
 obtain ⟨Q,hQ⟩:∃ Q:List Int → List (Int × Int) → Store,Q = fun L E=>(((σ ++ [bx]).set o r1).set bo (.rows 3 1 (ints L) 0)).set eo (.rows 65 2 (encT E) 0):=⟨_,rfl⟩
 have hne:=h.ne
 have q0:(σ ++ [bx]).set o r1 = Q x.blocks x.edges:=by
  rw [hQ]
  refine List.ext_getElem? fun j=>?_
  have e1:((σ ++ [bx]).set o r1)[bo]? = some (.rows 3 1 (ints x.blocks) 0):=by rw [List.getElem?_set_ne hne.1,List.getElem?_append_left hlb,h.bb]
  have e2:((σ ++ [bx]).set o r1)[eo]? = some (.rows 65 2 (encT x.edges) 0):=by rw [List.getElem?_set_ne hne.2.1,List.getElem?_append_left hle,h.eb]
  by_cases hj:j = eo
  ·subst hj; rw [List.getElem?_set_self (by simp; omega),e2]
  ·rw [List.getElem?_set_ne (fun e=>hj e.symm)]
   by_cases hj2:j = bo
   ·subst hj2; rw [List.getElem?_set_self (by simp; omega),e1]
   ·rw [List.getElem?_set_ne (fun e=>hj2 e.symm)]
 have qo:∀ L E,(Q L E)[o]? = some r1:=fun L E=>by
  rw [hQ]; dsimp only
  rw [List.getElem?_set_ne (Ne.symm hne.2.1),List.getElem?_set_ne (Ne.symm hne.1),List.getElem?_set_self (by simp; omega)]
 have qb:∀ L E,(Q L E)[bo]? = some (.rows 3 1 (ints L) 0):=fun L E=>by
  rw [hQ]; dsimp only
  rw [List.getElem?_set_ne (Ne.symm hne.2.2),List.getElem?_set_self (by simp; omega)]
 have qe:∀ L E,(Q L E)[eo]? = some (.rows 65 2 (encT E) 0):=fun L E=>by
  rw [hQ]; dsimp only
  rw [List.getElem?_set_self (by simp; omega)]
 have qx:∀ L E,(Q L E)[σ.length]? = some bx:=fun L E=>by
  rw [hQ]; dsimp only
  rw [List.getElem?_set_ne (by omega),List.getElem?_set_ne (by omega),List.getElem?_set_ne (by omega)]; simp
 have sb:∀ L E L',(Q L E).set bo (.rows 3 1 (ints L') 0) = Q L' E:=fun L E L'=>by
  rw [hQ]; dsimp only
  rw [List.set_comm _ _ (Ne.symm hne.2.2),List.set_set]
 have se:∀ L E E',(Q L E).set eo (.rows 65 2 (encT E') 0) = Q L E':=fun L E E'=>by
  rw [hQ]; dsimp only
  rw [List.set_set]
 rw [q0]
 rw [hr1] at qo
 rw [hbx] at qx
 refine v_loopS (fun s:Nat × List Int × List (Int × Int)=>[(0,.ptr o 0 0 0),(3,.ptr σ.length 0 0 0),(19,.sl (ints y.blocks)),(20,.int .i64 n),(21,.int .i64 s.1)]) (fun s=>Q s.2.1 s.2.2) (fun s=>s.1 ≤ n ∧ HalfL plusI 0 x.blocks y.blocks s.1 s.2.1 ∧ HalfL plusP (0,0) x.edges y.edges s.1 s.2.2) (fun s=>n - s.1) (0,x.blocks,x.edges) (by simp [weaker,Go.PV.look]) rfl ⟨Nat.zero_le _,HalfL.start _ _ _ _,HalfL.start _ _ _ _⟩ ?_
 rintro ⟨k,L,E⟩ ⟨hk,hL,hE⟩
 dsimp only at hk hL hE ⊢
 have hxb:=hx.b
 have hxe:=hx.e
 have hyb:=hy.b
 have hye:=hy.e
 have hLl:=hL.1
 have hEl:=hE.1
 by_cases hkn:k < n
 ·have hLk:=hL.at' (k:=k) (by omega)
  have hEk:=hE.at' (k:=k) (by omega)
  have g1:=ints_getD y.blocks k (by omega)
  have g2:=ints_getD L k (by omega)
  have g3:=encT_getD y.edges k (by omega)
  have g4:=encT_getD E k (by omega)
  rw [hLk] at g2
  rw [hEk] at g4
  simp -dsimp (maxSteps:=4000000) +contextual (disch:=first | omega | decide +kernel) only [↓vsD,vsE,↓Nat.reduceLT,simprocAttr,vcel,vgap,ints_len,encT_length,g1]
  refine v_draws _ _ _ _ _ _ [13,15] [] [(0,1),(0,1),(0,1),(0,1),(0,1),(0,0),(0,0),(0,0),(0,0),(0,0),(0,0),(0,0),(0,0),(0,0),(1,1),(0,0)] (by decide +kernel) (by decide +kernel) (by decide +kernel) (by decide +kernel) ?_
  simp -dsimp (maxSteps:=4000000) +contextual (disch:=first | omega | decide +kernel) only [↓vsD,vsE,↓Nat.reduceLT,simprocAttr,vdA,↓vd_end,↓vdm_go,↓vd_op,↓guard_none,↓guard_some,vcel,vgap,qo,qb,qe,qx,ints_len,g1,g2,k8]
  refine ⟨_,_,plusS_ok _ _ (hx.bc k hkn) (hy.bc k hkn) _,by simp [rowsAt,outR,qo,qb,qe],?_⟩
  simp -dsimp (maxSteps:=4000000) +contextual (disch:=first | omega | decide +kernel) only [↓vsD,vsE,↓Nat.reduceLT,simprocAttr,vdA,↓vd_end,↓vdm_go,↓vd_op,↓guard_none,↓guard_some,vcel,vgap,qo,qb,qe,qx,ints_len,encT_length,g1,g2,g3,k8,ints_set1,sb]
  obtain ⟨L',hL'⟩:∃ L',L' = L.set k (plusI (x.blocks.getD k 0) (y.blocks.getD k 0)):=⟨_,rfl⟩
  have hLs:=hL.step (k:=k) (by omega)
  rw [← hL'] at hLs ⊢
  obtain ⟨p,hp⟩:∃ p,p = x.edges.getD k (0,0):=⟨_,rfl⟩
  obtain ⟨q,hq⟩:∃ q,q = y.edges.getD k (0,0):=⟨_,rfl⟩
  have hxec:=hx.ec k hkn
  have hyec:=hy.ec k hkn
  have hEs:=hE.step (k:=k) (by omega)
  rw [← hp] at hxec hEs g4
  rw [← hq] at hyec hEs ⊢
  have g5:(encT (E.set k (plusI p.1 q.1,p.2))).getD k [] = [.int .i64 (plusI p.1 q.1),.int .i64 p.2]:=by
   rw [encT_getD _ _ (by rw [List.length_set]; omega),getD_set2 _ _ _ _ _ (by omega),if_pos rfl]
  refine v_loopS (fun w:Nat=>[(0,.ptr o 0 0 0),(3,.ptr σ.length 0 0 0),(4,.int .i64 k),(19,.sl (ints y.blocks)),(20,.int .i64 n),(21,.int .i64 k),(45,.agg [.int .i64 q.1,.int .i64 q.2]),(46,.int .i64 w)]) (fun w=>Q L' (if w = 0 then E else if w = 1 then E.set k (plusI p.1 q.1,p.2) else E.set k (plusP p q))) (fun w=>w ≤ 2) (fun w=>2 - w) 0 (by simp [weaker,Go.PV.look]) rfl (Nat.zero_le _) ?_
  intro w hw
  rcases (show w = 0 ∨ w = 1 ∨ w = 2 by omega) with rfl | rfl | rfl
  ·rw [if_pos rfl]
   simp -dsimp (maxSteps:=4000000) +contextual (disch:=first | omega | decide +kernel) only [↓vsD,vsE,↓Nat.reduceLT,simprocAttr,vcel]
   refine v_draws _ _ _ _ _ _ [16,19] [] [(0,1),(0,1),(0,1),(0,1),(0,1),(0,1),(0,0),(0,0),(0,0),(0,0),(0,0),(0,0),(0,0),(0,0),(0,0),(0,0),(0,0),(0,1),(1,1),(0,0)] (by decide +kernel) (by decide +kernel) (by decide +kernel) (by decide +kernel) ?_
   simp -dsimp (maxSteps:=4000000) +contextual (disch:=first | omega | decide +kernel) only [↓vsD,vsE,↓Nat.reduceLT,simprocAttr,vdA,↓vd_end,↓vdm_go,↓vd_op,↓guard_none,↓guard_some,vcel,vgap,qo,qb,qe,qx,encT_length,g4,k8]
   refine ⟨_,_,plusS_ok _ _ hxec.1 hyec.1 _,by simp [rowsAt,outR,qo,qb,qe],?_⟩
   simp -dsimp (maxSteps:=4000000) +contextual (disch:=first | omega | decide +kernel) only [↓vsD,vsE,↓Nat.reduceLT,simprocAttr,vdA,↓vd_end,↓vdm_go,↓vd_op,↓guard_none,↓guard_some,vcel,vgap,qo,qb,qe,qx,encT_length,g4,k8,encT_set1,se]
   exact ⟨1,(by (try dsimp only); omega),(by simp [weaker,Go.PV.look]),rfl,by omega⟩
  ·rw [if_neg (by omega),if_pos rfl]
   simp -dsimp (maxSteps:=4000000) +contextual (disch:=first | omega | decide +kernel) only [↓vsD,vsE,↓Nat.reduceLT,simprocAttr,vcel]
   refine v_draws _ _ _ _ _ _ [16,19] [] [(0,1),(0,1),(0,1),(0,1),(0,1),(0,1),(0,0),(0,0),(0,0),(0,0),(0,0),(0,0),(0,0),(0,0),(0,0),(0,0),(0,0),(0,1),(1,1),(0,0)] (by decide +kernel) (by decide +kernel) (by decide +kernel) (by decide +kernel) ?_
   simp -dsimp (maxSteps:=4000000) +contextual (disch:=first | omega | decide +kernel) only [↓vsD,vsE,↓Nat.reduceLT,simprocAttr,vdA,↓vd_end,↓vdm_go,↓vd_op,↓guard_none,↓guard_some,vcel,vgap,qo,qb,qe,qx,encT_length,List.length_set,g5,k8]
   refine ⟨_,_,plusS_ok _ _ hxec.2 hyec.2 _,by simp [rowsAt,outR,qo,qb,qe],?_⟩
   simp -dsimp (maxSteps:=4000000) +contextual (disch:=first | omega | decide +kernel) only [↓vsD,vsE,↓Nat.reduceLT,simprocAttr,vdA,↓vd_end,↓vdm_go,↓vd_op,↓guard_none,↓guard_some,vcel,vgap,qo,qb,qe,qx,encT_length,List.length_set,g5,k8,encT_set1,se,List.set_set]
   exact ⟨2,(by (try dsimp only); omega),(by simp [weaker,Go.PV.look]),rfl,by omega⟩
  ·rw [if_neg (by omega),if_neg (by omega)]
   simp -dsimp (maxSteps:=4000000) +contextual (disch:=first | omega | decide +kernel) only [↓vsD,vsE,↓Nat.reduceLT,simprocAttr,vcel]
   exact ⟨(k + 1,L',E.set k (plusP p q)),(by (try dsimp only); omega),(by simp [weaker,Go.PV.look]),rfl,hkn,hLs,hEs⟩
 ·obtain rfl:k = n:=by omega
  simp -dsimp (maxSteps:=4000000) +contextual (disch:=first | omega | decide +kernel) only [↓vsD,vsE,↓Nat.reduceLT,simprocAttr,vcel,vgap]
  refine v_draws _ _ _ _ _ _ [7,10] [] [(0,1),(0,0),(0,0),(0,0),(0,0),(0,0),(0,0),(0,0),(1,1),(1,1),(0,0)] (by decide +kernel) (by decide +kernel) (by decide +kernel) (by decide +kernel) ?_
  simp -dsimp (maxSteps:=4000000) +contextual (disch:=first | omega | decide +kernel) only [↓vsD,vsE,↓Nat.reduceLT,simprocAttr,vdA,↓vd_end,↓vdm_go,↓vd_op,↓guard_none,↓guard_some,vcel,vgap,qo,qb,qe,qx,k9]
  refine ⟨_,_,sites_on x.sites y.sites hx.s hy.s hso (by omega) (by have:=hy.sl; omega) _,by simp [rowsAt,outR,qo,qx],?_⟩
  simp -dsimp (maxSteps:=4000000) +contextual (disch:=first | omega | decide +kernel) only [↓vsD,vsE,↓Nat.reduceLT,simprocAttr,vdA,↓vd_end,↓vdm_go,↓vd_op,↓guard_none,↓guard_some,vcel,vgap,qo,qb,qe,qx,k9,cells_sV,cell_sV]
  have hLz:L = List.zipWith plusI x.blocks y.blocks:=(show HalfL plusI 0 x.blocks y.blocks x.blocks.length L by rw [hxb]; exact hL).end' (by omega)
  have hEz:E = List.zipWith plusP x.edges y.edges:=(show HalfL plusP (0,0) x.edges y.edges x.edges.length E by rw [hxe]; exact hE).end' (by omega)
  have hql:(Q L E).length = σ.length + 1:=by rw [hQ]; simp
  refine ⟨⟨List.getElem?_set_self (by omega),?_,?_,hne⟩,fun j hj h1 h2 h3=>?_,by rw [List.length_set]; omega⟩
  ·rw [List.getElem?_set_ne hne.1,qb,hLz]; rfl
  ·rw [List.getElem?_set_ne hne.2.1,qe,hEz]; rfl
  ·rw [List.getElem?_set_ne (Ne.symm h1),hQ]
   dsimp only
   rw [List.getElem?_set_ne (Ne.symm h3),List.getElem?_set_ne (Ne.symm h2),List.getElem?_set_ne (Ne.symm h1),List.getElem?_append_left hj]
theorem sumF_cnt {n:Nat} {x y:FC} (hx:CntF n x) (hy:CntF n y) (hs:One1 (addSs x.sites y.sites)) (hl:(addSs x.sites y.sites).length ≤ 100):CntF n (sumF x y):=by
 have h1:=hx.b
 have h2:=hy.b
 have h3:=hx.e
 have h4:=hy.e
 refine ⟨by simp [sumF]; omega,by simp [sumF]; omega,plusI_le hx.c hy.c,fun k hk=>?_,fun k hk=>?_,hs,hl⟩
 ·show (List.zipWith plusI x.blocks y.blocks).getD k 0 ≤ _
  rw [zip_getD plusI _ _ 0 0 0 k (by omega) (by omega)]
  exact plusI_le (hx.bc k hk) (hy.bc k hk)
 ·show ((List.zipWith plusP x.edges y.edges).getD k (0,0)).1 ≤ _ ∧ ((List.zipWith plusP x.edges y.edges).getD k (0,0)).2 ≤ _
  rw [zip_getD plusP _ _ (0,0) (0,0) (0,0) k (by omega) (by omega)]
  exact ⟨plusI_le (hx.ec k hk).1 (hy.ec k hk).1,plusI_le (hx.ec k hk).2 (hy.ec k hk).2⟩
end Go.Proofs.YthjoehaglonjaaaGreat
namespace Go.Proofs.YthjoehaglonjaaaGreat
open Go.PV
def shp (l:List FC):List Nat:=l.map (·.blocks.length)
theorem shp_len (l:List FC):(shp l).length = l.length:=by simp [shp]
theorem shp_get (l:List FC) (k:Nat) (h:k < l.length):(shp l).getD k 0 = (l.getD k default).blocks.length:=by
 simp [shp,List.getD_eq_getElem?_getD,h]
theorem alk1_w (x y:FC) (hx:x.blocks.length < 2 ^ 63) (hy:y.blocks.length < 2 ^ 63):PCall Tryz.prog 47 [.agg x.row,.agg y.row] [] (fun q _=>q = .bool (decide (x.blocks.length = y.blocks.length))):=by
 rw [FC.row,FC.row]
 refine PCall.vfrz [] 31 12 [.tmp 4] (noE_ok _) mix Tryz.func47 rfl (by decide) rfl rfl (by simp) ?_
 simp -dsimp only [initFr,List.zipIdx_cons,List.zipIdx_nil,List.map_cons,List.map_nil,Nat.zero_add,Nat.reduceAdd]
 simp -dsimp (maxSteps:=4000000) +contextual (disch:=first | omega | decide +kernel) only [↓vsD,vsE,↓Nat.reduceLT,simprocAttr,ints_len,vcel]
 refine ⟨fun h=>fin0 (.keep _ (bel_bool _ _)) ?_,fun h=>fin0 (.keep _ (bel_bool _ _)) ?_⟩
 ·rw [decide_eq_true (by omega)]
 ·rw [decide_eq_false (by omega)]
theorem alk1_on (x y:FC) (hx:x.blocks.length < 2 ^ 63) (hy:y.blocks.length < 2 ^ 63) (σ:Store):PCall Tryz.prog 47 [.agg x.row,.agg y.row] σ (fun q τ=>q = .bool (decide (x.blocks.length = y.blocks.length)) ∧ τ = σ) :=
 PCall.lift (alk1_w x y hx hy) (bel2 (bel_fc _ _) (bel_fc _ _)) (fun q h=>⟨by rw [h]; exact bel_bool _ _,h,rfl⟩)
theorem alkE_w (a b:List FC) (ha:a.length < 2 ^ 63) (h1:∀ x ∈ a,x.blocks.length < 2 ^ 63) (h2:∀ x ∈ b,x.blocks.length < 2 ^ 63) :
  PCall Tryz.prog 46 [.sl (encF a),.sl (encF b),.func (.func 47) [] []] [] (fun p _=>p = .bool (decide (shp a = shp b))):=by
 have hFn:∀ args σ,noE.f 47 args σ = none:=fun _ _=>rfl
 refine PCall.vfrz [] 1074250751 32 [.tmp 6] (noE_ok _) mix Tryz.func46 rfl (by decide) rfl rfl (by simp) ?_
 simp -dsimp only [initFr,List.zipIdx_cons,List.zipIdx_nil,List.map_cons,List.map_nil,Nat.zero_add,Nat.reduceAdd]
 by_cases hl:a.length = b.length
 ·simp -dsimp (maxSteps:=4000000) +contextual (disch:=first | omega | decide +kernel) only [↓vsD,vsE,↓Nat.reduceLT,simprocAttr,encF_length,hl]
  refine v_loopS (fun s:Nat × Store=>[(0,.sl (encF a)),(1,.sl (encF b)),(2,.func (.func 47) [] []),(15,.sl (encF a)),(16,.int .i64 b.length),(17,.int .i64 s.1)]) (fun s=>s.2) (fun s=>s.1 ≤ b.length ∧ ∀ j,j < s.1 → (shp a).getD j 0 = (shp b).getD j 0) (fun s=>b.length - s.1) (0,[]) (by simp [weaker,Go.PV.look]) rfl ⟨by simp,fun j h=>by simp at h⟩ ?_
  rintro ⟨i,Q⟩ ⟨hi,hj⟩
  dsimp only at hi hj ⊢
  by_cases hib:i < b.length
  ·have hc:=alk1_on (a.getD i default) (b.getD i default) (h1 _ (gtD (show i < a.length by omega))) (h2 _ (gtD hib))
   have e1:=shp_get a i (by omega)
   have e2:=shp_get b i hib
   obtain ⟨x,hx⟩:∃ x,x = a.getD i default:=⟨_,rfl⟩
   obtain ⟨y,hy⟩:∃ y,y = b.getD i default:=⟨_,rfl⟩
   rw [← hx,← hy] at hc
   unfold FC.row at hc
   simp -dsimp (maxSteps:=4000000) +contextual (disch:=first | omega | decide +kernel) only [↓vsD,vsE,↓Nat.reduceLT,simprocAttr,encF_length,encF_getD,hl,vgap,← hx,← hy,hFn]
   refine PCall.mono (hc _) ?_
   rintro q τ ⟨rfl,rfl⟩
   by_cases hxy:x.blocks.length = y.blocks.length
   ·rw [decide_eq_true hxy]
    simp -dsimp (maxSteps:=4000000) +contextual (disch:=first | omega | decide +kernel) only [↓vsD,vsE,↓Nat.reduceLT,simprocAttr]
    exact ⟨(i + 1,_),(by (try dsimp only); omega),by simp [weaker,Go.PV.look],rfl,hib,nextJ hj (by rw [e1,e2,← hx,← hy]; exact hxy)⟩
   ·rw [decide_eq_false hxy]
    simp -dsimp (maxSteps:=4000000) +contextual (disch:=first | omega | decide +kernel) only [↓vsD,vsE,↓Nat.reduceLT,simprocAttr]
    refine fin0 (.keep _ (bel_bool _ _)) ?_
    rw [decide_eq_false (fun e=>hxy (by rw [hx,hy,← e1,← e2,e]))]
  ·simp -dsimp (maxSteps:=4000000) +contextual (disch:=first | omega | decide +kernel) only [↓vsD,vsE,↓Nat.reduceLT,simprocAttr,encF_length,hl]
   refine fin0 (.keep _ (bel_bool _ _)) ?_
   rw [decide_eq_true (listExt (d:=0) (by rw [shp_len,shp_len]; exact hl) (fun j h=>hj j (by rw [shp_len] at h; omega)))]
 ·simp -dsimp (maxSteps:=4000000) +contextual (disch:=first | omega | decide +kernel) only [↓vsD,vsE,↓Nat.reduceLT,simprocAttr,encF_length,hl]
  refine fin0 (.keep _ (bel_bool _ _)) ?_
  rw [decide_eq_false (fun e=>hl (by rw [← shp_len,← shp_len,e]))]
theorem alike_w (a b:List FC) (ha:a.length < 2 ^ 63) (h1:∀ x ∈ a,x.blocks.length < 2 ^ 63) (h2:∀ x ∈ b,x.blocks.length < 2 ^ 63) :
  PCall Tryz.prog 24 [cntV a,cntV b] [] (fun p _=>p = .bool (decide (shp a = shp b))):=by
 have k0:∀ args σ,noE.f 46 args σ = none:=fun _ _=>rfl
 unfold cntV
 refine PCall.vfrz [] 31 10 [.tmp 4] (noE_ok _) mix Tryz.func24 rfl (by decide) rfl rfl (by simp) ?_
 simp -dsimp only [initFr,List.zipIdx_cons,List.zipIdx_nil,List.map_cons,List.map_nil,Nat.zero_add,Nat.reduceAdd]
 simp -dsimp (maxSteps:=4000000) +contextual (disch:=first | omega | decide +kernel) only [↓vsD,vsE,↓Nat.reduceLT,simprocAttr,vcel,k0]
 refine PCall.lift (alkE_w a b ha h1 h2) (bel3 (bel_fcs 0 a) (bel_fcs 0 b) (bel_fn 0 _)) (fun q h=>⟨by rw [h]; exact bel_bool _ _,?_⟩)
 rw [h]
 simp -dsimp (maxSteps:=4000000) +contextual (disch:=first | omega | decide +kernel) only [↓vsD,vsE,↓Nat.reduceLT,simprocAttr]
 exact fin0 (.keep _ (bel_bool _ _)) rfl
theorem alike_on (a b:List FC) (ha:a.length < 2 ^ 63) (h1:∀ x ∈ a,x.blocks.length < 2 ^ 63) (h2:∀ x ∈ b,x.blocks.length < 2 ^ 63) (σ:Store) :
  PCall Tryz.prog 24 [cntV a,cntV b] σ (fun q τ=>q = .bool (decide (shp a = shp b)) ∧ τ = σ) :=
 PCall.lift (alike_w a b ha h1 h2) (bel2 (bel_cnt _ _) (bel_cnt _ _)) (fun q h=>⟨by rw [h]; exact bel_bool _ _,h,rfl⟩)
def encCn (l:List (List FC)):List (List PV):=l.map (fun f=>[.sl (encF f)])
theorem encCn_length (l:List (List FC)):(encCn l).length = l.length:=by simp [encCn]
theorem encCn_getD (l:List (List FC)) (k:Nat) (h:k < l.length):(encCn l).getD k [] = [.sl (encF (l.getD k []))]:=by simp [encCn,List.getD_eq_getElem?_getD,h]
theorem tot1_on (L:List (List FC)) (y:List FC) (o ol v:Nat) (σ:Store) (h0:0 < L.length) (hL:∀ f ∈ L,f.length < 2 ^ 63 ∧ ∀ x ∈ f,x.blocks.length < 2 ^ 63) (hy:y ∈ L)
  (ho:σ[o]? = some (.rows 62 1 [[.msl ol v]] 0)) (hol:σ[ol]? = some (.rows 36 1 (encCn L) v)) :
  PCall Tryz.prog 23 [cntV y,.ptr o 0 0 0] σ (fun q τ=>q = .bool (!decide (shp (L.getD 0 []) = shp y)) ∧ τ = σ):=by
 have k0:∀ args σ,noE.f 24 args σ = none:=fun _ _=>rfl
 have l1:=(List.getElem?_eq_some_iff.1 ho).1
 have l2:=(List.getElem?_eq_some_iff.1 hol).1
 have g1:∀ X,(σ ++ X)[o]? = some (.rows 62 1 [[.msl ol v]] 0):=fun X=>by rw [List.getElem?_append_left l1,ho]
 have g2:∀ X,(σ ++ X)[ol]? = some (.rows 36 1 (encCn L) v):=fun X=>by rw [List.getElem?_append_left l2,hol]
 have hm:L.getD 0 [] ∈ L:=gtD h0
 have hv:=alike_on (L.getD 0 []) y (hL _ hm).1 (hL _ hm).2 (hL _ hy).2
 have g3:=encCn_getD L 0 h0
 unfold cntV at hv ⊢
 refine PCall.vfrz [] 15 10 [.tmp 3] (noE_ok _) mix Tryz.func23 rfl (by decide) rfl rfl (by simp) ?_
 simp -dsimp only [initFr,List.zipIdx_cons,List.zipIdx_nil,List.map_cons,List.map_nil,Nat.zero_add,Nat.reduceAdd]
 simp -dsimp (maxSteps:=4000000) +contextual (disch:=first | omega | decide +kernel) only [↓vsD,vsE,↓Nat.reduceLT,simprocAttr,vgap,k0]
 refine v_draws _ _ _ _ _ _ [4] [] [(0,0),(0,0),(0,0),(0,0),(0,0),(1,1),(1,1)] (by decide +kernel) (by decide +kernel) (by decide +kernel) (by decide +kernel) ?_
 simp -dsimp (maxSteps:=4000000) +contextual (disch:=first | omega | decide +kernel) only [↓vsD,vsE,↓Nat.reduceLT,simprocAttr,vdA,↓vd_end,↓vdm_go,↓vd_op,↓guard_none,↓guard_some,vcel,vgap,g1,g2,g3,encCn_length,k0]
 refine ⟨_,_,hv _,by simp [rowsAt,outR,g1,g2],?_⟩
 cases decide (shp (L.getD 0 []) = shp y) <;>
 ·simp -dsimp (maxSteps:=4000000) +contextual (disch:=first | omega | decide +kernel) only [↓vsD,vsE,↓Nat.reduceLT,simprocAttr,vdA,↓vd_end,↓vdm_go,↓vd_op,↓guard_none,↓guard_some,vcel]
  exact fin_app (.keep _ (bel_bool _ _)) ⟨rfl,rfl⟩
theorem indexCn (L:List (List FC)) (hl:L.length < 2 ^ 63) (F:FuncId) (cap:List PV) (p:List FC → Bool) (ol v:Nat) (σ:Store) (hol:σ[ol]? = some (.rows 36 1 (encCn L) v)) (hFn:∀ args σ,noE.f F args σ = none) (hF:∀ x ∈ L,PCall Tryz.prog F (cntV x :: cap) σ (fun q τ=>q = .bool (p x) ∧ τ = σ)) :
  PCall Tryz.prog 45 [.msl ol v,.func (.func F) [] cap] σ (fun q τ=>(∃ r:Int,q = .int .i64 r ∧ (0 ≤ r ↔ L.any p = true)) ∧ τ = σ):=by
 refine PCall.vraw [] 66495 19 [.tmp 4] (noE_ok _) mix Tryz.func45 rfl (by decide) rfl rfl (by simp) ?_
 simp -dsimp only [initFr,List.zipIdx_cons,List.zipIdx_nil,List.map_cons,List.map_nil,Nat.zero_add,Nat.reduceAdd]
 simp -dsimp (maxSteps:=4000000) +contextual (disch:=first | omega | decide +kernel) only [↓vsD,vsE,↓Nat.reduceLT,simprocAttr,encCn_length,hol]
 refine v_loopS (fun k:Nat=>[(0,.msl ol v),(1,.func (.func F) [] cap),(7,.int .i64 L.length),(8,.int .i64 k)]) (fun _=>σ) (fun k=>k ≤ L.length ∧ ∀ j,j < k → p (L.getD j []) = false) (fun k=>L.length - k) 0 (by simp [weaker,Go.PV.look]) rfl ⟨Nat.zero_le _,fun j h=>absurd h (Nat.not_lt_zero _)⟩ ?_
 rintro k ⟨hk,hp⟩
 by_cases hkl:k < L.length
 ·have hc:=hF _ (gtD (d:=[]) hkl)
  unfold cntV at hc
  simp -dsimp (maxSteps:=4000000) +contextual (disch:=first | omega | decide +kernel) only [↓vsD,vsE,↓Nat.reduceLT,simprocAttr,encCn_length,encCn_getD,hol,hFn]
  refine PCall.mono hc ?_
  rintro q τ ⟨rfl,rfl⟩
  obtain ⟨b,hb⟩:∃ b,b = p (L.getD k []):=⟨_,rfl⟩
  rw [← hb]
  cases b with
  | true =>
   simp -dsimp (maxSteps:=4000000) +contextual (disch:=first | omega | decide +kernel) only [↓vsD,vsE,↓Nat.reduceLT,simprocAttr]
   exact ⟨_,rfl,fun _=>findSome hkl hb.symm,fun _=>by omega⟩
  | false =>
   have hk1:k + 1 ≤ L.length:=hkl
   simp -dsimp (maxSteps:=4000000) +contextual (disch:=first | omega | decide +kernel) only [↓vsD,vsE,↓Nat.reduceLT,simprocAttr]
   exact ⟨k + 1,(by (try dsimp only); omega),by simp [weaker,Go.PV.look],rfl,hk1,fun j hj=>by
    rcases Nat.lt_succ_iff_lt_or_eq.1 hj with h | rfl
    ·exact hp j h
    ·exact hb.symm⟩
 ·have:=findNone (d:=[]) (l:=L) (fun j hj=>hp j (by omega))
  simp -dsimp (maxSteps:=4000000) +contextual (disch:=first | omega | decide +kernel) only [↓vsD,vsE,↓Nat.reduceLT,simprocAttr,encCn_length,hol]
  exact ⟨_,rfl,fun h=>absurd h (by omega),fun h=>by rw [this] at h; cases h⟩
theorem contCn (L:List (List FC)) (hl:L.length < 2 ^ 63) (F:FuncId) (cap:List PV) (p:List FC → Bool) (ol v:Nat) (σ:Store) (hol:σ[ol]? = some (.rows 36 1 (encCn L) v)) (hFn:∀ args σ,noE.f F args σ = none) (hF:∀ x ∈ L,PCall Tryz.prog F (cntV x :: cap) σ (fun q τ=>q = .bool (p x) ∧ τ = σ)) :
  PCall Tryz.prog 22 [.msl ol v,.func (.func F) [] cap] σ (fun q τ=>q = .bool (L.any p) ∧ τ = σ):=by
 have k0:∀ args σ,noE.f 45 args σ = none:=fun _ _=>rfl
 refine PCall.vraw [] 31 9 [.tmp 4] (noE_ok _) mix Tryz.func22 rfl (by decide) rfl rfl (by simp) ?_
 simp -dsimp only [initFr,List.zipIdx_cons,List.zipIdx_nil,List.map_cons,List.map_nil,Nat.zero_add,Nat.reduceAdd]
 simp -dsimp (maxSteps:=4000000) +contextual (disch:=first | omega | decide +kernel) only [↓vsD,vsE,↓Nat.reduceLT,simprocAttr,k0]
 refine PCall.mono (indexCn L hl F cap p ol v σ hol hFn hF) ?_
 rintro q τ ⟨⟨r,rfl,hr⟩,rfl⟩
 simp -dsimp (maxSteps:=4000000) +contextual (disch:=first | omega | decide +kernel) only [↓vsD,vsE,↓Nat.reduceLT,simprocAttr]
 exact ⟨fun h=>(hr.1 h).symm,fun h=>by
  cases hb:L.any p with
  | false=>rfl
  | true=>exact absurd (hr.2 hb) h⟩
end Go.Proofs.YthjoehaglonjaaaGreat
