import Derived.Test.YthginmfobikdgaaCgB
set_option maxRecDepth 8000
set_option linter.unusedSimpArgs false
set_option linter.unusedVariables false
namespace Go.Proofs.Ythginmfobikdgaa
open Go.PV
structure GX (Z:Store) (rows:List (List PV)) (G:Nat → List Int) (n:Nat):Prop where
 len:rows.length = n
 row:∀ f,f < n → (rows.getD f [] = [.nils] ∧ G f = []) ∨ ∃ o v,rows.getD f [] = [.msl (o + 2) v] ∧ Z[o]? = some (.rows 3 1 (ints (G f)) v)
 apart:∀ f g o v w,f < n → g < n → rows.getD f [] = [.msl o v] → rows.getD g [] = [.msl o w] → f = g
def upG (G:Nat → List Int) (f:Nat) (y:List Int):Nat → List Int:=fun g=>if g = f then y else G g
theorem getD_setR (rows:List (List PV)) (f g:Nat) (r:List PV) (hf:f < rows.length):(rows.set f r).getD g [] = if g = f then r else rows.getD g []:=by
 by_cases e:g = f
 ·subst e
  rw [if_pos rfl,List.getD_eq_getElem?_getD,List.getElem?_set_self hf]; rfl
 ·rw [if_neg e,List.getD_eq_getElem?_getD,List.getElem?_set_ne (fun h=>e h.symm),← List.getD_eq_getElem?_getD]
theorem GX.app {Z:Store} {rows:List (List PV)} {G:Nat → List Int} {n:Nat} (h:GX Z rows G n) (X:Store):GX (Z ++ X) rows G n :=
 ⟨h.len,fun f hf=>(h.row f hf).imp id fun ⟨o,v,h1,h2⟩=>⟨o,v,h1,by rw [List.getElem?_append_left (List.getElem?_eq_some_iff.1 h2).1,h2]⟩,h.apart⟩
theorem GX.new {Z:Store} {rows:List (List PV)} {G:Nat → List Int} {n:Nat} (h:GX Z rows G n) {f:Nat} (hf:f < n) (h0:rows.getD f [] = [.nils]) (x:Int):GX (Z ++ [.rows 3 1 [[.int .i64 x]] 0]) (rows.set f [.msl (Z.length + 2) 0]) (upG G f (G f ++ [x])) n:=by
 have hfl:f < rows.length:=by rw [h.len]; exact hf
 have hG0:G f = []:=by
  rcases h.row f hf with q | ⟨o,v,q,_⟩
  ·exact q.2
  ·rw [h0] at q; simp at q
 have hlt:∀ g o v,g < n → rows.getD g [] = [.msl o v] → o < Z.length + 2:=fun g o v hg hr=>by
  rcases h.row g hg with q | ⟨o',v',q,q2⟩
  ·rw [q.1] at hr; simp at hr
  ·rw [q] at hr
   have:=(List.getElem?_eq_some_iff.1 q2).1
   simp at hr; omega
 refine ⟨by rw [List.length_set]; exact h.len,fun g hg=>?_,fun g g' o v w hg hg' h1 h2=>?_⟩
 ·rw [getD_setR _ _ _ _ hfl]
  by_cases e:g = f
  ·rw [if_pos e]
   exact .inr ⟨Z.length,0,rfl,by rw [List.getElem?_concat_length,upG,if_pos e,hG0]; rfl⟩
  ·rw [if_neg e,upG,if_neg e]
   exact ((h.app _).row g hg)
 ·rw [getD_setR _ _ _ _ hfl] at h1 h2
  by_cases e:g = f <;> by_cases e2:g' = f
  ·omega
  ·rw [if_pos e] at h1; rw [if_neg e2] at h2
   have:=hlt g' o w hg' h2
   simp at h1; omega
  ·rw [if_neg e] at h1; rw [if_pos e2] at h2
   have:=hlt g o v hg h1
   simp at h2; omega
  ·rw [if_neg e] at h1; rw [if_neg e2] at h2
   exact h.apart g g' o v w hg hg' h1 h2
theorem GX.ext {Z:Store} {rows:List (List PV)} {G:Nat → List Int} {n:Nat} (h:GX Z rows G n) {f o v:Nat} (hf:f < n) (h0:rows.getD f [] = [.msl (o + 2) v]) (hZ:Z[o]? = some (.rows 3 1 (ints (G f)) v)) (x:Int) :
  GX (Z.set o (.rows 3 1 (ints (G f) ++ [[.int .i64 x]]) (v + 1))) (rows.set f [.msl (o + 2) (v + 1)]) (upG G f (G f ++ [x])) n:=by
 have hfl:f < rows.length:=by rw [h.len]; exact hf
 have hol:=(List.getElem?_eq_some_iff.1 hZ).1
 refine ⟨by rw [List.length_set]; exact h.len,fun g hg=>?_,fun g g' u a w hg hg' h1 h2=>?_⟩
 ·rw [getD_setR _ _ _ _ hfl]
  by_cases e:g = f
  ·rw [if_pos e]
   refine .inr ⟨o,v + 1,rfl,?_⟩
   rw [List.getElem?_set_self hol,upG,if_pos e]
   have:ints (G f ++ [x]) = ints (G f) ++ [[.int .i64 x]]:=by simp [ints,PV.encI]
   rw [this]
  ·rw [if_neg e,upG,if_neg e]
   refine (h.row g hg).imp id fun ⟨o',v',q1,q2⟩=>⟨o',v',q1,?_⟩
   have hne:o ≠ o':=fun e3=>by
    subst e3
    exact e (h.apart g f _ _ _ hg hf q1 h0)
   rw [List.getElem?_set_ne hne,q2]
 ·rw [getD_setR _ _ _ _ hfl] at h1 h2
  by_cases e:g = f <;> by_cases e2:g' = f
  ·omega
  ·rw [if_pos e] at h1; rw [if_neg e2] at h2
   simp at h1
   rw [← h1.1] at h2
   exact absurd (h.apart g' f _ _ _ hg' hf h2 h0) e2
  ·rw [if_neg e] at h1; rw [if_pos e2] at h2
   simp at h2
   rw [← h2.1] at h1
   exact absurd (h.apart g f _ _ _ hg hf h1 h0) e
  ·rw [if_neg e] at h1; rw [if_neg e2] at h2
   exact h.apart g g' u a w hg hg' h1 h2
def tabG (G:Nat → List Int) (n:Nat):List (List Int):=(List.range n).map G
theorem tabG_length (G:Nat → List Int) (n:Nat):(tabG G n).length = n:=by simp [tabG]
theorem tabG_at (G:Nat → List Int) (n f:Nat) (hf:f < n):(tabG G n).getD f [] = G f:=by simp [tabG,List.getD_eq_getElem?_getD,hf]
theorem GX.fz {Z:Store} {rows:List (List PV)} {G:Nat → List Int} {n:Nat} (h:GX Z rows G n):FzRows (fun u=>2 ≤ u) (zz Z) rows (intss (tabG G n)):=by
 have hl:(intss (tabG G n)).length = n:=by rw [show (intss (tabG G n)).length = (tabG G n).length from encs_length _ _,tabG_length]
 refine ⟨by rw [hl,h.len],fun i row hi=>?_⟩
 have hin:i < n:=by rw [← h.len]; exact (List.getElem?_eq_some_iff.1 hi).1
 have hr:rows.getD i [] = row:=by rw [List.getD_eq_getElem?_getD,hi]; rfl
 rw [intss_at _ _ (by rw [tabG_length]; exact hin),tabG_at _ _ _ hin]
 rcases h.row i hin with ⟨q1,q2⟩ | ⟨o,v,q1,q2⟩
 ·rw [← hr,q1,q2]
  exact .cons .nils .nil
 ·rw [← hr,q1]
  exact .cons (Fz.of_rows (by omega) (show (zz Z)[o + 2]? = _ from q2) (FzRows.data (fun row hr p hp n=>enc_bel _ _ _ row hr p hp))) .nil
theorem GX.start (n:Nat) (Z:Store):GX Z (List.replicate n [.nils]) (fun _=>[]) n :=
 ⟨by simp,fun f hf=>.inl ⟨by simp [List.getD_eq_getElem?_getD,hf],rfl⟩,fun f g o v w hf hg h1 h2=>by simp [List.getD_eq_getElem?_getD,hf] at h1⟩
def pickF (D:List (Nat × Nat × Int)) (f:Nat):List Int:=(D.filter fun x=>x.1 == f).map (·.2.2)
theorem pickF_snoc (D:List (Nat × Nat × Int)) (x:Nat × Nat × Int):pickF (D ++ [x]) = upG (pickF D) x.1 (pickF D x.1 ++ [x.2.2]):=by
 funext g
 unfold pickF upG
 by_cases e:g = x.1
 ·subst e; simp
 ·rw [if_neg e]
  have:(x.1 == g) = false:=by simpa using fun h:x.1 = g=>e h.symm
  simp [this]
theorem newsI1 (x:Int):newsOk Try.prog 3 [[.int .i64 x]] = true:=by simp [newsOk,PV.cell,tyC]
theorem dRows_at (D:List (Nat × Nat × Int)) (k:Nat) (hk:k < D.length):(dRows D).getD k [] = [.int .i64 (D.getD k default).1,.int .i64 0,.int .i64 (D.getD k default).2.1,.int .i64 (D.getD k default).2.2,.int .i64 0]:=by
 simp [dRows,List.getD_eq_getElem?_getD,hk,dRow]
theorem dAll_lt (n:Nat) (L:List (List Int)):∀ x ∈ dAll n L,x.1 < L.length ∧ 0 ≤ x.2.2 ∧ x.2.2 < n:=fun x hx=>by
 obtain ⟨y,hy,hxy⟩:=List.mem_flatMap.1 hx
 obtain ⟨z,_,hz⟩:=List.mem_filterMap.1 hxy
 split at hz
 ·rename_i hc
  cases hz
  have:=List.snd_lt_of_mem_zipIdx hy
  exact ⟨by simpa using this,hc⟩
 ·cases hz
theorem intsR_snoc (l:List Int) (x:Int):ints l ++ [[PV.int .i64 x]] = ints (l ++ [x]):=by simp [ints,PV.encI]
set_option maxHeartbeats 8000000 in
theorem callees_w (L:List (List Int)) (hL:L.length ≤ 1000) (hl:∀ l ∈ L,l.length ≤ 1000):PCall Try.prog 81 [progV L] [] (fun q _=>q = .sl (intss (tabG (pickF (dAll L.length L)) L.length))):=by
 have eL:(fnsL L).length = L.length:=fnsL_length _
 have k0:∀ args σ,noE.f 115 args σ = none:=fun _ _=>rfl
 have hdir:=direct_on L hL hl
 have hlt:=dAll_lt L.length L
 have hdl:(dAll L.length L).length ≤ 1000000:=by
  rcases dAll_le L.length L L.length (Nat.le_refl _) with h | ⟨l,h1,h2⟩
  ·rw [List.take_length] at h; omega
  ·have:=hl l h1; omega
 obtain ⟨D,hD⟩:∃ D,D = dAll L.length L:=⟨_,rfl⟩
 rw [← hD] at hdir hlt hdl ⊢
 have eD:(dRows D).length = D.length:=dRows_length _
 unfold progV at hdir ⊢
 refine PCall.vfrz [] 30783 32 [.tmp 2] (noE_ok _) mix Try.func81 rfl (by decide) rfl rfl (by simp) ?_
 simp -dsimp only [initFr,List.zipIdx_cons,List.zipIdx_nil,List.map_cons,List.map_nil,Nat.zero_add,Nat.reduceAdd]
 simp -dsimp (maxSteps:=4000000) +contextual (disch:=first | omega | decide +kernel) only [↓vsD,vsE,↓Nat.reduceLT,simprocAttr,eL,k0,bytesC,lenC]
 refine PCall.mono (hdir _) ?_
 rintro p σ' ⟨rfl,rfl⟩
 simp -dsimp (maxSteps:=4000000) +contextual (disch:=first | omega | decide +kernel) only [↓vsD,vsE,↓Nat.reduceLT,simprocAttr,eL,eD,k0,bytesC,lenC]
 refine v_loopS (fun s:Nat × List (List PV) × Store=>[(3,.msl 1 0),(11,.sl (dRows D)),(12,.int .i64 D.length),(13,.int .i64 (s.1:Int))])
  (fun s=>.rows 35 4 [[.nils,.sl (fnsL L),.int .i64 0,.int .i64 0]] 0 :: .rows 40 1 s.2.1 0 :: s.2.2) (fun s=>s.1 ≤ D.length ∧ GX s.2.2 s.2.1 (pickF (D.take s.1)) L.length) (fun s=>D.length - s.1) (0,List.replicate L.length [.nils],[]) (by simp [weaker,Go.PV.look]) rfl ⟨Nat.zero_le _,GX.start _ _⟩ ?_
 rintro ⟨j,R,Z⟩ ⟨hj,hG⟩
 dsimp only at hj hG ⊢
 by_cases hjl:j < D.length
 ·have hr:=dRows_at D j hjl
  have hm:D.getD j default ∈ D:=by rw [List.getD_eq_getElem?_getD,List.getElem?_eq_getElem hjl]; exact List.getElem_mem _
  have hx:=hlt _ hm
  have hsn:pickF (D.take (j + 1)) = upG (pickF (D.take j)) (D.getD j default).1 (pickF (D.take j) (D.getD j default).1 ++ [(D.getD j default).2.2]):=by
   rw [← pickF_snoc,List.take_add_one,List.getElem?_eq_getElem hjl,List.getD_eq_getElem?_getD,List.getElem?_eq_getElem hjl]; rfl
  obtain ⟨x,hxx⟩:∃ x,x = D.getD j default:=⟨_,rfl⟩
  rw [← hxx] at hr hx hsn
  obtain ⟨f,i,g⟩:=x
  dsimp only at hr hx hsn
  have hRl:=hG.len
  have hn:=newsI1 g
  have hpl:(pickF (D.take j) f).length ≤ 1000000:=by
   unfold pickF
   rw [List.length_map]
   have:=List.length_filter_le (fun x:Nat × Nat × Int=>x.1 == f) (D.take j)
   rw [List.length_take] at this
   omega
  rcases hG.row f hx.1 with ⟨q1,q2⟩ | ⟨o,v,q1,q2⟩
  ·simp -dsimp (maxSteps:=4000000) +contextual (disch:=first | omega | decide +kernel) only [↓vsD,vsE,↓Nat.reduceLT,simprocAttr,eD,hr,hRl,vcel,vgap]
   refine v_draws _ _ _ _ _ _ [11,13] [] [(0,1),(0,1),(0,1),(0,0),(0,0),(0,0),(0,0),(0,0),(0,0),(0,0),(0,0),(0,0),(1,1),(0,0)] (by decide +kernel) (by decide +kernel) (by decide +kernel) (by decide +kernel) ?_
   simp -dsimp (maxSteps:=4000000) +contextual (disch:=first | omega | decide +kernel) only [↓vsD,vsE,↓Nat.reduceLT,simprocAttr,vdA,↓vd_end,↓vdm_go,↓vd_op,↓guard_none,↓guard_some,hr,hRl,q1,vcel,vgap,hn,List.length_append,List.length_singleton,List.append_assoc]
   refine ⟨(j + 1,R.set f [.msl (Z.length + 1 + 2) 0],_),(by (try dsimp only); omega),(by simp [weaker,Go.PV.look]),rfl,hjl,?_⟩
   dsimp only
   rw [hsn]
   have:=(hG.app [.rows 78 5 [[.int .i64 f,.int .i64 0,.int .i64 i,.int .i64 g,.int .i64 0]] 0]).new hx.1 q1 g
   rw [List.length_append,List.length_singleton,List.append_assoc] at this
   exact this
  ·simp -dsimp (maxSteps:=4000000) +contextual (disch:=first | omega | decide +kernel) only [↓vsD,vsE,↓Nat.reduceLT,simprocAttr,eD,hr,hRl,vcel,vgap]
   have hol:=(List.getElem?_eq_some_iff.1 q2).1
   have g1:∀ Y,(Z ++ Y)[o]? = some (.rows 3 1 (ints (pickF (D.take j) f)) v):=fun Y=>by rw [List.getElem?_append_left hol,q2]
   have g2:∀ Y y,(Z ++ Y).set o y = Z.set o y ++ Y:=fun Y y=>by rw [List.set_append_left _ _ hol]
   have g3:∀ y Y,(Z.set o y ++ Y)[Z.length]? = Y[0]?:=fun y Y=>by rw [List.getElem?_append_right (by rw [List.length_set]; exact Nat.le_refl _),List.length_set,Nat.sub_self]
   have el:(ints (pickF (D.take j) f)).length = (pickF (D.take j) f).length:=enc_length _ _
   refine v_draws _ _ _ _ _ _ [11,13] [] [(0,1),(0,1),(0,1),(0,0),(0,0),(0,0),(0,0),(0,0),(0,0),(0,0),(0,0),(0,0),(1,1),(0,0)] (by decide +kernel) (by decide +kernel) (by decide +kernel) (by decide +kernel) ?_
   simp -dsimp (maxSteps:=4000000) +contextual (disch:=first | omega | decide +kernel) only [↓vsD,vsE,↓Nat.reduceLT,simprocAttr,vdA,↓vd_end,↓vdm_go,↓vd_op,↓guard_none,↓guard_some,hr,hRl,q1,vcel,vgap,hn,g1,g2,g3,el,bytesC,lenC,List.length_append,List.length_singleton,List.append_assoc]
   refine ⟨(j + 1,R.set f [.msl (o + 2) (v + 1)],_),(by (try dsimp only); omega),(by simp [weaker,Go.PV.look]),rfl,hjl,?_⟩
   dsimp only
   rw [hsn]
   exact (hG.ext hx.1 q1 q2 g).app _
 ·obtain rfl:j = D.length:=by omega
  rw [List.take_length] at hG
  simp -dsimp (maxSteps:=4000000) +contextual (disch:=first | omega | decide +kernel) only [↓vsD,vsE,↓Nat.reduceLT,simprocAttr,eD,vcel]
  have hf:=hG.fz
  exact fin0 ((Fz.of_rows (A:=fun u=>1 ≤ u) (elem:=40) (sz:=1) (rows:=R) (by omega) rfl (hf.to (fun u h=>by omega) (zz_keep _ _ Z (fun u h=>h)))).frz 0 (fun _ _=>Nat.zero_le _)) rfl
def calL (L:List (List Int)):List (List Int):=tabG (pickF (dAll L.length L)) L.length
theorem callees_on (L:List (List Int)) (hL:L.length ≤ 1000) (hl:∀ l ∈ L,l.length ≤ 1000) (σ:Store):PCall Try.prog 81 [progV L] σ (fun q τ=>q = .sl (intss (calL L)) ∧ τ = σ) :=
 PCall.lift (callees_w L hL hl) (belA (bel_prog _ L)) (fun q h=>⟨by rw [h]; exact bel_intss _ _,h,rfl⟩)
theorem calL_length (L:List (List Int)):(calL L).length = L.length:=tabG_length _ _
theorem calL_nd (L:List (List Int)) (f:Nat):∀ g ∈ (calL L).getD f [],0 ≤ g ∧ g < L.length:=fun g hg=>by
 by_cases hf:f < L.length
 ·rw [calL,tabG_at _ _ _ hf] at hg
  obtain ⟨x,hx,rfl⟩:=List.mem_map.1 hg
  exact (dAll_lt L.length L x (List.mem_filter.1 hx).1).2
 ·rw [List.getD_eq_getElem?_getD,List.getElem?_eq_none (by rw [calL_length]; omega)] at hg
  simp at hg
theorem calL_at (L:List (List Int)) (f:Nat) (hf:f < L.length):(calL L).getD f [] = (L.getD f []).filter fun g=>decide (0 ≤ g ∧ g < (L.length:Int)):=by
 rw [calL,tabG_at _ _ _ hf]
 have key:∀ (n k:Nat),k ≤ L.length → f < k → pickF (dAll n (L.take k)) f = (L.getD f []).filter fun g=>decide (0 ≤ g ∧ g < (n:Int)):=by
  intro n k
  have hnone:∀ k,k ≤ L.length → k ≤ f → pickF (dAll n (L.take k)) f = []:=fun k hk hkf=>by
   unfold pickF
   rw [List.map_eq_nil_iff,List.filter_eq_nil_iff]
   intro x hx
   have:=(dAll_lt n (L.take k) x hx).1
   rw [List.length_take] at this
   simp; omega
  have hpa:∀ A B,pickF (A ++ B) f = pickF A f ++ pickF B f:=fun A B=>by simp [pickF]
  have hpd:∀ k l,pickF (dF n k l) f = if k = f then l.filter fun g=>decide (0 ≤ g ∧ g < (n:Int)) else []:=fun k l=>by
   have h:∀ i,i ≤ l.length → pickF (dF n k (l.take i)) f = if k = f then (l.take i).filter fun g=>decide (0 ≤ g ∧ g < (n:Int)) else []:=by
    intro i
    induction i with
    | zero=>intro _; simp [dF,pickF]
    | succ i ih =>
     intro hi
     have hi2:i < l.length:=by omega
     have et:l.take (i + 1) = l.take i ++ [l.getD i 0]:=by
      rw [List.take_add_one,List.getElem?_eq_getElem hi2,List.getD_eq_getElem?_getD,List.getElem?_eq_getElem hi2]; rfl
     by_cases hc:0 ≤ l.getD i 0 ∧ l.getD i 0 < (n:Int)
     ·rw [dF_t n k l i hi2 hc,hpa,ih (by omega),et]
      by_cases e:k = f
      ·rw [if_pos e,if_pos e,List.filter_append]
       simp only [List.getD_eq_getElem?_getD] at hc ⊢
       simp [pickF,e,hc]
      ·rw [if_neg e,if_neg e]
       simp [pickF,e]
     ·rw [dF_f n k l i hi2 hc,ih (by omega),et]
      by_cases e:k = f
      ·rw [if_pos e,if_pos e,List.filter_append]
       simp only [List.getD_eq_getElem?_getD] at hc ⊢
       simp [hc]
      ·rw [if_neg e,if_neg e]
   have:=h l.length (Nat.le_refl _)
   rwa [List.take_length] at this
  induction k with
  | zero=>intro _ h; omega
  | succ k ih =>
   intro hk hfk
   rw [dAll_s n L k (by omega),hpa,hpd]
   by_cases e:k = f
   ·subst e
    rw [if_pos rfl,hnone k (by omega) (Nat.le_refl _),List.nil_append]
   ·rw [if_neg e,List.append_nil]
    exact ih (by omega) (by omega)
 have:=key L.length L.length (Nat.le_refl _) hf
 rwa [List.take_length] at this
end Go.Proofs.Ythginmfobikdgaa
