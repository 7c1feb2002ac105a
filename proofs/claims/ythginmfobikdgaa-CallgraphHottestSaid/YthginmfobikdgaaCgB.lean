import Derived.Test.YthginmfobikdgaaCgA
set_option maxRecDepth 8000
set_option linter.unusedSimpArgs false
set_option linter.unusedVariables false
namespace Go.Proofs.Ythginmfobikdgaa
open Go.PV
def dF (n f:Nat) (l:List Int):List (Nat × Nat × Int):=l.zipIdx.filterMap fun (x:Int × Nat)=>if 0 ≤ x.1 ∧ x.1 < (n:Int) then some (f,x.2,x.1) else none
def dAll (n:Nat) (L:List (List Int)):List (Nat × Nat × Int):=L.zipIdx.flatMap fun x=>dF n x.2 x.1
def dRow (x:Nat × Nat × Int):List PV:=[.int .i64 x.1,.int .i64 0,.int .i64 x.2.1,.int .i64 x.2.2,.int .i64 0]
def dRows (D:List (Nat × Nat × Int)):List (List PV):=D.map dRow
theorem dRows_length (D:List (Nat × Nat × Int)):(dRows D).length = D.length:=by simp [dRows]
theorem dF_t (n f:Nat) (l:List Int) (i:Nat) (hi:i < l.length) (h:0 ≤ l.getD i 0 ∧ l.getD i 0 < n):dF n f (l.take (i + 1)) = dF n f (l.take i) ++ [(f,i,l.getD i 0)]:=by
 rw [List.getD_eq_getElem?_getD,List.getElem?_eq_getElem hi,Option.getD_some] at h ⊢
 have hl:(l.take i).length = i:=by rw [List.length_take]; omega
 rw [List.take_add_one,List.getElem?_eq_getElem hi,Option.toList_some,dF,List.zipIdx_append,List.filterMap_append,hl]
 simp [dF,h]
theorem dF_f (n f:Nat) (l:List Int) (i:Nat) (hi:i < l.length) (h:¬ (0 ≤ l.getD i 0 ∧ l.getD i 0 < n)):dF n f (l.take (i + 1)) = dF n f (l.take i):=by
 rw [List.getD_eq_getElem?_getD,List.getElem?_eq_getElem hi,Option.getD_some] at h
 have hl:(l.take i).length = i:=by rw [List.length_take]; omega
 rw [List.take_add_one,List.getElem?_eq_getElem hi,Option.toList_some,dF,List.zipIdx_append,List.filterMap_append,hl]
 simp [dF,h]
theorem dAll_s (n:Nat) (L:List (List Int)) (k:Nat) (hk:k < L.length):dAll n (L.take (k + 1)) = dAll n (L.take k) ++ dF n k (L.getD k []):=by
 have hl:(L.take k).length = k:=by rw [List.length_take]; omega
 rw [List.getD_eq_getElem?_getD,List.getElem?_eq_getElem hk,Option.getD_some,List.take_add_one,List.getElem?_eq_getElem hk,Option.toList_some,dAll,List.zipIdx_append,List.flatMap_append,hl]
 simp [dAll]
theorem dF_le (n f:Nat) (l:List Int):(dF n f l).length ≤ l.length:=by
 have:=List.length_filterMap_le (fun x:Int × Nat=>if 0 ≤ x.1 ∧ x.1 < (n:Int) then some (f,x.2,x.1) else none) l.zipIdx
 rw [List.length_zipIdx] at this
 exact this
def tot (L:List (List Int)):Nat:=(L.map List.length).sum
theorem dAll_le (n:Nat) (L:List (List Int)) (k:Nat) (hk:k ≤ L.length):(dAll n (L.take k)).length ≤ 1000 * k ∨ ∃ l ∈ L,1000 < l.length:=by
 induction k with
 | zero=>exact .inl (by simp [dAll])
 | succ k ih =>
  rcases ih (by omega) with h | h
  ·rw [dAll_s n L k (by omega),List.length_append]
   have h1:=dF_le n k (L.getD k [])
   have hm:L.getD k [] ∈ L:=by rw [List.getD_eq_getElem?_getD,List.getElem?_eq_getElem (by omega)]; exact List.getElem_mem _
   by_cases e:(L.getD k []).length ≤ 1000
   ·exact .inl (by omega)
   ·exact .inr ⟨_,hm,by omega⟩
  ·exact .inr h
theorem fnsL_at (L:List (List Int)) (k:Nat) (hk:k < L.length):(fnsL L).getD k [] = [.str ByteArray.empty,.int .i64 0,.int .i64 1,.sl [[.sl (insL (L.getD k [])),.int .i64 3,.int .i64 0,.int .i64 0,.int .i64 0,.int .i64 0,.int .i64 0,.int .i64 0]]]:=by
 simp [fnsL,List.getD_eq_getElem?_getD,hk,fnF,fnR,blkR]
theorem insL_at (l:List Int) (k:Nat) (hk:k < l.length):(insL l).getD k [] = [.int .i64 11,.int .i64 0,.int .i64 0,.int .i64 0,.int .i64 0,.int .i64 (l.getD k 0),.nils]:=by
 simp [insL,List.getD_eq_getElem?_getD,hk,insR]
def OutI (D:List (Nat × Nat × Int)) (o:Nat) (Z:Store):Prop:=∀ j,D.length = j + 1 → Z[o]? = some (.rows 78 5 (dRows D) j)
theorem OutI.app {D:List (Nat × Nat × Int)} {o:Nat} {Z:Store} (h:OutI D o Z) (X:Store):OutI D o (Z ++ X):=fun j hj=>by
 have:=h j hj
 rw [List.getElem?_append_left (List.getElem?_eq_some_iff.1 this).1,this]
theorem newsC (a b c d e:Int):newsOk Try.prog 78 [[.int .i64 a,.int .i64 b,.int .i64 c,.int .i64 d,.int .i64 e]] = true:=by simp [newsOk,PV.cell,tyC]
set_option maxHeartbeats 8000000 in
theorem direct_w (L:List (List Int)) (hL:L.length ≤ 1000) (hl:∀ l ∈ L,l.length ≤ 1000):PCall Try.prog 115 [progV L] [] (fun q _=>q = .sl (dRows (dAll L.length L))):=by
 have eL:(fnsL L).length = L.length:=fnsL_length _
 unfold progV
 refine PCall.vfrz [] 562951974583295 63 [.tmp 2] (noE_ok _) mix Try.func115 rfl (by decide) rfl rfl (by simp) ?_
 simp -dsimp only [initFr,List.zipIdx_cons,List.zipIdx_nil,List.map_cons,List.map_nil,Nat.zero_add,Nat.reduceAdd]
 simp -dsimp (maxSteps:=4000000) +contextual (disch:=first | omega | decide +kernel) only [↓vsD,vsE,↓Nat.reduceLT,simprocAttr,eL]
 refine v_loopS (fun s:Nat × Nat × Store=>[(1,.ptr 0 0 0 0),(3,lastV (dAll L.length (L.take s.1)).length (s.2.1 + 1)),(11,.sl (fnsL L)),(12,.int .i64 L.length),(13,.int .i64 (s.1:Int))])
  (fun s=>.rows 35 4 [[.nils,.sl (fnsL L),.int .i64 0,.int .i64 0]] 0 :: s.2.2) (fun s=>s.1 ≤ L.length ∧ OutI (dAll L.length (L.take s.1)) s.2.1 s.2.2) (fun s=>L.length - s.1) (0,0,[]) (by simp [weaker,Go.PV.look,dAll,lastV]) rfl ⟨Nat.zero_le _,fun j hj=>by simp [dAll] at hj⟩ ?_
 rintro ⟨k,o,Z⟩ ⟨hk,hZ⟩
 dsimp only at hk hZ ⊢
 by_cases hkl:k < L.length
 ·have hr:=fnsL_at L k hkl
  have hlm:(L.getD k []).length ≤ 1000:=hl _ (by rw [List.getD_eq_getElem?_getD,List.getElem?_eq_getElem hkl]; exact List.getElem_mem hkl)
  have hds:=dAll_s L.length L k hkl
  have hdl:(dAll L.length (L.take k)).length ≤ 1000000:=by
   rcases dAll_le L.length L k hk with h | ⟨l,h1,h2⟩
   ·omega
   ·have:=hl l h1; omega
  obtain ⟨l,hll⟩:∃ l,l = L.getD k []:=⟨_,rfl⟩
  obtain ⟨D,hD⟩:∃ D,D = dAll L.length (L.take k):=⟨_,rfl⟩
  rw [← hll] at hr hlm
  rw [← hll,← hD] at hds
  rw [← hD] at hZ hdl ⊢
  have el:(insL l).length = l.length:=insL_length _
  obtain ⟨BR,hBR⟩:∃ BR:List (List PV),BR = [[.sl (insL l),.int .i64 3,.int .i64 0,.int .i64 0,.int .i64 0,.int .i64 0,.int .i64 0,.int .i64 0]]:=⟨_,rfl⟩
  have hBl:BR.length = 1:=by rw [hBR]; rfl
  have hB0:BR.getD 0 [] = [.sl (insL l),.int .i64 3,.int .i64 0,.int .i64 0,.int .i64 0,.int .i64 0,.int .i64 0,.int .i64 0]:=by rw [hBR]; rfl
  rw [← hBR] at hr
  simp -dsimp (maxSteps:=4000000) +contextual (disch:=first | omega | decide +kernel) only [↓vsD,vsE,↓Nat.reduceLT,simprocAttr,eL,hr,el,vcel,vgap,hBl]
  refine v_loopS (fun s:Nat × Nat × Store=>[(1,.ptr 0 0 0 0),(3,lastV (D ++ if s.1 = 0 then [] else dF L.length k l).length (s.2.1 + 1)),(4,.int .i64 (k:Int)),(11,.sl (fnsL L)),(12,.int .i64 L.length),(13,.int .i64 (k:Int)),(19,.sl BR),(20,.int .i64 1),(21,.int .i64 (s.1:Int))])
   (fun s=>.rows 35 4 [[.nils,.sl (fnsL L),.int .i64 0,.int .i64 0]] 0 :: s.2.2) (fun s=>s.1 ≤ 1 ∧ OutI (D ++ if s.1 = 0 then [] else dF L.length k l) s.2.1 s.2.2) (fun s=>1 - s.1) (0,o,_) (by simp [weaker,Go.PV.look]) rfl ⟨Nat.zero_le _,by rw [if_pos rfl,List.append_nil]; exact hZ.app _⟩ ?_
  rintro ⟨b,o1,Z1⟩ ⟨hb,hZ1⟩
  dsimp only at hb hZ1 ⊢
  by_cases hb0:b = 0
  ·subst hb0
   rw [if_pos rfl,List.append_nil] at hZ1 ⊢
   simp -dsimp (maxSteps:=4000000) +contextual (disch:=first | omega | decide +kernel) only [↓vsD,vsE,↓Nat.reduceLT,simprocAttr,eL,hB0,hBl,el,vcel,vgap]
   refine v_loopS (fun s:Nat × Nat × Store=>[(1,.ptr 0 0 0 0),(3,lastV (D ++ dF L.length k (l.take s.1)).length (s.2.1 + 1)),(4,.int .i64 (k:Int)),(6,.int .i64 0),(11,.sl (fnsL L)),(12,.int .i64 L.length),(13,.int .i64 (k:Int)),(19,.sl BR),(20,.int .i64 1),(21,.int .i64 0),(27,.sl (insL l)),(28,.int .i64 l.length),(29,.int .i64 (s.1:Int))])
    (fun s=>.rows 35 4 [[.nils,.sl (fnsL L),.int .i64 0,.int .i64 0]] 0 :: s.2.2) (fun s=>s.1 ≤ l.length ∧ OutI (D ++ dF L.length k (l.take s.1)) s.2.1 s.2.2) (fun s=>l.length - s.1) (0,o1,_) (by simp [weaker,Go.PV.look,dF]) rfl ⟨Nat.zero_le _,by simp only [List.take_zero,dF,List.zipIdx_nil,List.filterMap_nil,List.append_nil]; exact hZ1.app _⟩ ?_
   rintro ⟨i,o2,Z2⟩ ⟨hi,hZ2⟩
   dsimp only at hi hZ2 ⊢
   by_cases hil:i < l.length
   ·have hg:=insL_at l i hil
    have hdt:=dF_t L.length k l i hil
    have hdf:=dF_f L.length k l i hil
    have hdfl:=dF_le L.length k (l.take i)
    obtain ⟨g,hgg⟩:∃ g,g = l.getD i 0:=⟨_,rfl⟩
    rw [← hgg] at hg hdt hdf
    obtain ⟨E,hE⟩:∃ E,E = D ++ dF L.length k (l.take i):=⟨_,rfl⟩
    have hEl:E.length ≤ 2000000:=by rw [hE,List.length_append]; rw [List.length_take] at hdfl; omega
    rw [← hE] at hZ2 ⊢
    have hn:=newsC k 0 i g 0
    have skip:¬ (0 ≤ g ∧ g < (L.length:Int)) → D ++ dF L.length k (l.take (i + 1)) = E:=fun h=>by rw [hdf h,hE]
    have take:0 ≤ g ∧ g < (L.length:Int) → D ++ dF L.length k (l.take (i + 1)) = E ++ [(k,i,g)]:=fun h=>by rw [hdt h,← List.append_assoc,hE]
    have eE:dRows (E ++ [(k,i,g)]) = dRows E ++ [[.int .i64 k,.int .i64 0,.int .i64 i,.int .i64 g,.int .i64 0]]:=by simp [dRows,dRow]
    cases hEc:E.length with
    | zero =>
     have hE0:E = []:=List.eq_nil_of_length_eq_zero hEc
     rw [lastV_0]
     simp -dsimp (maxSteps:=4000000) +contextual (disch:=first | omega | decide +kernel) only [↓vsD,vsE,↓Nat.reduceLT,simprocAttr,eL,hg,el,vcel,vgap,hn,List.length_append,List.length_singleton]
     refine ⟨fun h0=>⟨fun h1=>?_,fun h1=>?_⟩,fun h0=>?_⟩
     ·refine ⟨(i + 1,Z2.length + 1,_),(by (try dsimp only); omega),?_,rfl,hil,?_⟩
      ·dsimp only
       rw [take ⟨h0,h1⟩,hE0]
       simp [weaker,Go.PV.look,lastV]
      ·dsimp only
       rw [take ⟨h0,h1⟩,hE0]
       intro j hj
       obtain rfl:j = 0:=by simp at hj; omega
       rw [List.append_assoc,gappk]; rfl
     ·refine ⟨(i + 1,o2,_),(by (try dsimp only); omega),?_,rfl,hil,?_⟩
      ·dsimp only
       rw [skip (fun h=>h1 h.2),hE0]
       simp [weaker,Go.PV.look,lastV]
      ·dsimp only
       rw [skip (fun h=>h1 h.2)]
       exact hZ2.app _
     ·refine ⟨(i + 1,o2,_),(by (try dsimp only); omega),?_,rfl,hil,?_⟩
      ·dsimp only
       rw [skip (fun h=>h0 h.1),hE0]
       simp [weaker,Go.PV.look,lastV]
      ·dsimp only
       rw [skip (fun h=>h0 h.1)]
       exact hZ2.app _
    | succ j =>
     have hz:=hZ2 j hEc
     have hol:=(List.getElem?_eq_some_iff.1 hz).1
     have g1:∀ Y,(Z2 ++ Y)[o2]? = some (.rows 78 5 (dRows E) j):=fun Y=>by rw [List.getElem?_append_left hol,hz]
     have g2:∀ Y y,(Z2 ++ Y).set o2 y = Z2.set o2 y ++ Y:=fun Y y=>by rw [List.set_append_left _ _ hol]
     have hRl:(dRows E).length = j + 1:=by rw [dRows_length,hEc]
     rw [lastV_s]
     simp -dsimp (maxSteps:=4000000) +contextual (disch:=first | omega | decide +kernel) only [↓vsD,vsE,↓Nat.reduceLT,simprocAttr,eL,hg,el,vcel,vgap,hn,g1,g2,hRl,bytesC,lenC]
     refine ⟨fun h0=>⟨fun h1=>?_,fun h1=>?_⟩,fun h0=>?_⟩
     ·refine ⟨(i + 1,o2,_),(by (try dsimp only); omega),?_,rfl,hil,?_⟩
      ·dsimp only
       rw [take ⟨h0,h1⟩,List.length_append,hEc]
       simp [weaker,Go.PV.look,lastV]
      ·dsimp only
       rw [take ⟨h0,h1⟩]
       intro j2 hj
       obtain rfl:j2 = j + 1:=by rw [List.length_append,hEc] at hj; simp at hj; omega
       rw [List.getElem?_append_left (by rw [List.length_set]; exact hol),List.getElem?_set_self hol,eE]
     ·refine ⟨(i + 1,o2,_),(by (try dsimp only); omega),?_,rfl,hil,?_⟩
      ·dsimp only
       rw [skip (fun h=>h1 h.2),hEc]
       simp [weaker,Go.PV.look,lastV]
      ·dsimp only
       rw [skip (fun h=>h1 h.2)]
       exact hZ2.app _
     ·refine ⟨(i + 1,o2,_),(by (try dsimp only); omega),?_,rfl,hil,?_⟩
      ·dsimp only
       rw [skip (fun h=>h0 h.1),hEc]
       simp [weaker,Go.PV.look,lastV]
      ·dsimp only
       rw [skip (fun h=>h0 h.1)]
       exact hZ2.app _
   ·obtain rfl:i = l.length:=by omega
    rw [List.take_length] at hZ2 ⊢
    simp -dsimp (maxSteps:=4000000) +contextual (disch:=first | omega | decide +kernel) only [↓vsD,vsE,↓Nat.reduceLT,simprocAttr,el,hBl,vcel]
    exact ⟨(1,o2,Z2),(by (try dsimp only); omega),by simp [weaker,Go.PV.look],rfl,Nat.le_refl _,hZ2⟩
  ·obtain rfl:b = 1:=by omega
   rw [if_neg (by omega)] at hZ1 ⊢
   simp -dsimp (maxSteps:=4000000) +contextual (disch:=first | omega | decide +kernel) only [↓vsD,vsE,↓Nat.reduceLT,simprocAttr,el,hBl,vcel]
   exact ⟨(k + 1,o1,Z1),(by (try dsimp only); omega),by dsimp only; rw [hds]; simp [weaker,Go.PV.look],rfl,hkl,by dsimp only; rw [hds]; exact hZ1⟩
 ·obtain rfl:k = L.length:=by omega
  rw [List.take_length] at hZ ⊢
  cases hk0:(dAll L.length L).length with
  | zero =>
   have h0:dAll L.length L = []:=List.eq_nil_of_length_eq_zero hk0
   rw [lastV_0]
   simp -dsimp (maxSteps:=4000000) +contextual (disch:=first | omega | decide +kernel) only [↓vsD,vsE,↓Nat.reduceLT,simprocAttr,eL,vcel]
   exact fin0 .nils (by rw [h0]; rfl)
  | succ q =>
   rw [lastV_s]
   have hz:=hZ q hk0
   simp -dsimp (maxSteps:=4000000) +contextual (disch:=first | omega | decide +kernel) only [↓vsD,vsE,↓Nat.reduceLT,simprocAttr,eL,vcel]
   exact fin0 (Frz.msl0 (Nat.zero_le _) hz (fun row hr p hp=>by
    obtain ⟨x,_,rfl⟩:=List.mem_map.1 hr
    simp only [dRow,List.mem_cons,List.not_mem_nil,or_false] at hp
    rcases hp with rfl | rfl | rfl | rfl | rfl <;> exact bel_int _ _ _)) rfl
theorem bel_dRows (n:Nat) (D:List (Nat × Nat × Int)):Bel n (.sl (dRows D)):=bel_sl (fun row hr p hp=>by
 obtain ⟨x,_,rfl⟩:=List.mem_map.1 hr
 simp only [dRow,List.mem_cons,List.not_mem_nil,or_false] at hp
 rcases hp with rfl | rfl | rfl | rfl | rfl <;> exact bel_int _ _ _)
theorem direct_on (L:List (List Int)) (hL:L.length ≤ 1000) (hl:∀ l ∈ L,l.length ≤ 1000) (σ:Store):PCall Try.prog 115 [progV L] σ (fun q τ=>q = .sl (dRows (dAll L.length L)) ∧ τ = σ) :=
 PCall.lift (direct_w L hL hl) (belA (bel_prog _ L)) (fun q h=>⟨by rw [h]; exact bel_dRows _ _,h,rfl⟩)
end Go.Proofs.Ythginmfobikdgaa
