import Derived.Test.YthginmfobikdgaaFzA
import Derived.Test.YthginmfobikdgaaDrA
set_option maxRecDepth 8000
set_option linter.unusedSimpArgs false
set_option linter.unusedVariables false
namespace Go.Proofs.Ythginmfobikdgaa
open Go.PV
def insR (g:Int):List PV:=[.int .i64 11,.int .i64 0,.int .i64 0,.int .i64 0,.int .i64 0,.int .i64 g,.nils]
def insL (l:List Int):List (List PV):=l.map insR
def blkR (X:PV):List PV:=[X,.int .i64 3,.int .i64 0,.int .i64 0,.int .i64 0,.int .i64 0,.int .i64 0,.int .i64 0]
def fnR (X:PV):List PV:=[.str ByteArray.empty,.int .i64 0,.int .i64 1,X]
def fnF (l:List Int):List PV:=fnR (.sl [blkR (.sl (insL l))])
def fnsL (L:List (List Int)):List (List PV):=L.map fnF
def progV (L:List (List Int)):PV:=.agg [.nils,.sl (fnsL L),.int .i64 0,.int .i64 0]
theorem insL_length (l:List Int):(insL l).length = l.length:=by simp [insL]
theorem fnsL_length (l:List (List Int)):(fnsL l).length = l.length:=by simp [fnsL]
theorem insR_data (g:Int):∀ p ∈ insR g,∀ n,Bel n p:=fun p hp n=>by
 simp only [insR,List.mem_cons,List.not_mem_nil,or_false] at hp
 rcases hp with rfl | rfl | rfl | rfl | rfl | rfl | rfl <;> first | exact bel_int _ _ _ | exact bel_nils _
theorem insL_data (l:List Int):∀ row ∈ insL l,∀ p ∈ row,∀ n,Bel n p:=fun row hr=>by
 obtain ⟨g,_,rfl⟩:=List.mem_map.1 hr
 exact insR_data g
def lastV (n o:Nat):PV:=match n with | 0=>.nils | j + 1=>.msl o j
theorem lastV_0 (o:Nat):lastV 0 o = .nils:=rfl
theorem lastV_s (j o:Nat):lastV (j + 1) o = .msl o j:=rfl
theorem bytesC (a:Nat) (h:a ≤ 1099511627776):(a ≤ maxBytes) = True:=eq_true (by unfold maxBytes; omega)
theorem lenC (a:Nat) (h:a ≤ 1099511627776):(a ≤ maxLen) = True:=eq_true (by unfold maxLen; omega)
theorem intss_at (L:List (List Int)) (k:Nat) (hk:k < L.length):(intss L).getD k [] = [.sl (ints (L.getD k []))]:=by
 show (L.map fun x=>[PV.sl (ints x)]).getD k [] = _
 simp [List.getD_eq_getElem?_getD,hk]
def tailI (l:List Int) (i:Nat):Store:=match i with | 0=>[] | j + 1=>[.rows 110 7 (insL (l.take (j + 1))) j]
theorem tailI_0 (l:List Int):tailI l 0 = []:=rfl
theorem tailI_s (l:List Int) (j:Nat):tailI l (j + 1) = [.rows 110 7 (insL (l.take (j + 1))) j]:=rfl
theorem newsIn (g:Int):newsOk Try.prog 110 [[.int .i64 11,.int .i64 0,.int .i64 0,.int .i64 0,.int .i64 0,.int .i64 g,.nils]] = true:=by simp [newsOk,PV.cell,tyC]
theorem insL_snoc (l:List Int) (i:Nat) (hi:i < l.length):insL (l.take i) ++ [[.int .i64 11,.int .i64 0,.int .i64 0,.int .i64 0,.int .i64 0,.int .i64 (l.getD i 0),.nils]] = insL (l.take (i + 1)):=by
 rw [List.take_add_one,List.getElem?_eq_getElem hi,List.getD_eq_getElem?_getD,List.getElem?_eq_getElem hi]
 rw [insL,insL,List.map_append]; rfl
theorem ints_gD (l:List Int) (i:Nat) (h:i < l.length):(ints l).getD i [] = [.int .i64 (l.getD i 0)]:=by simp [ints,PV.encI,List.getD_eq_getElem?_getD,h]
theorem frow {A:Nat → Prop} {σ:Store} {X:PV} {l:List Int} (h:Fz A σ X (.sl (insL l))):FzRow A σ [.str ByteArray.empty,.int .i64 0,.int .i64 1,.sl [blkR X]] (fnF l) :=
 .cons (.str _) (.cons (.int _ _) (.cons (.int _ _) (.cons (.of_sl (FzRows.snoc (rows:=[]) (rows2:=[]) FzRows.nil (.cons h (.cons (.int _ _) (.cons (.int _ _) (.cons (.int _ _) (.cons (.int _ _) (.cons (.int _ _) (.cons (.int _ _) (.cons (.int _ _) .nil)))))))))) .nil)))
def zz (Z:Store):Store:=.dead :: .dead :: Z
theorem zz_at (Z:Store) (o:Nat):(zz Z)[o + 2]? = Z[o]?:=rfl
theorem zz_keep {A:Nat → Prop} (a b:Go.PV.Obj) (Z:Store) (hA:∀ o,A o → 2 ≤ o):∀ o:Nat,A o → ∀ x,(zz Z)[o]? = some x → (a :: b :: Z)[o]? = some x:=fun o ho x hx=>by
 have:=hA o ho
 obtain ⟨u,rfl⟩:∃ u,o = u + 2:=⟨o - 2,by omega⟩
 exact hx
set_option maxHeartbeats 4000000 in
theorem program_w (L:List (List Int)) (hL:L.length ≤ 1000) (hl:∀ l ∈ L,l.length ≤ 1000):PCall Try.prog 20 [.sl (intss L)] [] (fun q _=>q = progV L):=by
 have eL:(intss L).length = L.length:=encs_length _ _
 refine PCall.vfrz [] 7866623 42 [.cell 2 35] (noE_ok _) mix Try.func20 rfl (by decide) rfl rfl (by simp) ?_
 simp -dsimp only [initFr,List.zipIdx_cons,List.zipIdx_nil,List.map_cons,List.map_nil,Nat.zero_add,Nat.reduceAdd]
 simp -dsimp (maxSteps:=4000000) +contextual (disch:=first | omega | decide +kernel) only [↓vsD,vsE,↓Nat.reduceLT,simprocAttr,eL]
 refine v_loopS (fun s:Nat × Nat × List (List PV) × Store=>[(0,.sl (intss L)),(2,.ptr 0 0 0 0),(3,.ptr 1 0 0 0),(4,.int .i64 (s.1:Int))])
  (fun s=>.rows 35 4 [[.nils,.nils,.int .i64 0,.int .i64 0]] 0 :: .rows 35 4 [[.nils,lastV s.1 (s.2.1 + 2),.int .i64 0,.int .i64 0]] 0 :: s.2.2.2)
  (fun s=>s.1 ≤ L.length ∧ FzRows (fun u=>2 ≤ u ∧ u ≠ s.2.1 + 2) (zz s.2.2.2) s.2.2.1 (fnsL (L.take s.1)) ∧ ∀ j,s.1 = j + 1 → s.2.2.2[s.2.1]? = some (.rows 113 4 s.2.2.1 j)) (fun s=>L.length - s.1) (0,0,[],[]) (by simp [weaker,Go.PV.look]) rfl ⟨Nat.zero_le _,FzRows.nil,fun j h=>by simp at h⟩ ?_
 rintro ⟨k,o,R,Z⟩ ⟨hk,hR,hZ⟩
 dsimp only at hk hR hZ ⊢
 by_cases hkl:k < L.length
 ·have ht:=intss_at L k hkl
  have hlm:(L.getD k []).length ≤ 1000:=hl _ (by rw [List.getD_eq_getElem?_getD,List.getElem?_eq_getElem hkl]; exact List.getElem_mem hkl)
  obtain ⟨l,hll⟩:∃ l,l = L.getD k []:=⟨_,rfl⟩
  rw [← hll] at ht hlm
  have el:(ints l).length = l.length:=enc_length _ _
  have etk:fnsL (L.take (k + 1)) = fnsL (L.take k) ++ [fnF l]:=by
   rw [List.take_add_one,List.getElem?_eq_getElem hkl,hll,List.getD_eq_getElem?_getD,List.getElem?_eq_getElem hkl]
   rw [fnsL,List.map_append]; rfl
  simp -dsimp (maxSteps:=4000000) +contextual (disch:=first | omega | decide +kernel) only [↓vsD,vsE,↓Nat.reduceLT,simprocAttr,eL,ht,el]
  refine v_loopS (fun i:Nat=>[(21,.int .i64 (i:Int)),(20,.int .i64 l.length),(19,.sl (ints l)),(5,.ptr (Z.length + 1 + 1) 0 0 0),(0,.sl (intss L)),(2,.ptr 0 0 0 0),(3,.ptr 1 0 0 0),(4,.int .i64 (k:Int))])
   (fun i=>.rows 35 4 [[.nils,.nils,.int .i64 0,.int .i64 0]] 0 :: .rows 35 4 [[.nils,lastV k (o + 2),.int .i64 0,.int .i64 0]] 0 :: (Z ++ .rows 108 8 [blkR (lastV i (Z.length + 1 + 1 + 1))] 0 :: tailI l i)) (fun i=>i ≤ l.length) (fun i=>l.length - i) 0 (by simp [weaker,Go.PV.look]) rfl (Nat.zero_le _) ?_
  intro i hi
  by_cases hil:i < l.length
  ·have hg:=ints_gD l i hil
   have hs:=insL_snoc l i hil
   have hlk:(insL (l.take i)).length = i:=by rw [insL_length,List.length_take]; omega
   have hn:=newsIn (l.getD i 0)
   cases i with
   | zero =>
    simp -dsimp only [tailI_0,lastV_0,blkR]
    simp -dsimp (maxSteps:=4000000) +contextual (disch:=first | omega | decide +kernel) only [↓vsD,vsE,↓Nat.reduceLT,simprocAttr,hg,el,vcel,vgap,hn,List.length_append,List.length_singleton]
    refine ⟨1,(by (try dsimp only); omega),(by simp [weaker,Go.PV.look]),?_,hil⟩
    dsimp only
    rw [tailI_s,lastV_s,← hs]; rfl
   | succ j =>
    simp -dsimp only [tailI_s,lastV_s,blkR]
    simp -dsimp (maxSteps:=4000000) +contextual (disch:=first | omega | decide +kernel) only [↓vsD,vsE,↓Nat.reduceLT,simprocAttr,hg,el,vcel,vgap,hn,hlk,bytesC,lenC]
    refine ⟨j + 1 + 1,(by (try dsimp only); omega),by simp [weaker,Go.PV.look] <;> omega,?_,hil⟩
    dsimp only
    rw [tailI_s,lastV_s,← hs]; rfl
  ·obtain rfl:i = l.length:=by omega
   have hblk:∃ X T,lastV l.length (Z.length + 1 + 1 + 1) = X ∧ tailI l l.length = T ∧ X.cell = true ∧ ∀ (A:Nat → Prop) (Z':Store) Y W,Z'.length = Z.length → (T.length = 1 → A (Z.length + 1 + 1 + 1)) → Fz A (zz (Z' ++ (Y :: (T ++ W)))) X (.sl (insL l)):=by
    refine ⟨_,_,rfl,rfl,by cases l.length <;> rfl,fun A Z' Y W hZ' hA=>?_⟩
    cases e:l.length with
    | zero =>
     have:l = []:=List.eq_nil_of_length_eq_zero e
     rw [this]; exact .nils
    | succ j =>
     rw [tailI_s,lastV_s,show l.take (j + 1) = l by rw [← e,List.take_length]]
     exact Fz.of_rows (elem:=110) (sz:=7) (hA (by rw [e]; rfl)) (by show (Z' ++ _)[Z.length + 1]? = _; rw [← hZ',gappk]; rfl) (FzRows.data (insL_data l))
   obtain ⟨X,T,hX,hT,hXc,hF⟩:=hblk
   rw [hX,hT]
   cases k with
   | zero =>
    simp -dsimp only [lastV_0,blkR]
    simp -dsimp (maxSteps:=4000000) +contextual (disch:=first | omega | decide +kernel) only [↓vsD,vsE,↓Nat.reduceLT,simprocAttr,el,hXc,cond_true,vcel,vgap,List.length_append,List.length_singleton,List.length_cons,List.append_assoc]
    have hR0:R = []:=by
     have:=hR.1
     simp [fnsL] at this; exact List.eq_nil_of_length_eq_zero this.symm
    subst hR0
    refine ⟨(1,Z.length + (T.length + 1),[[.str ByteArray.empty,.int .i64 0,.int .i64 1,.sl [blkR X]]],_),(by (try dsimp only); omega),(by simp [weaker,Go.PV.look]),rfl,hkl,?_,fun j hj=>?_⟩
    ·dsimp only
     rw [etk,List.take_zero]
     refine FzRows.snoc FzRows.nil ?_
     exact frow (hF _ Z _ _ rfl fun h=>⟨by omega,by omega⟩)
    ·dsimp only at hj ⊢
     obtain rfl:j = 0:=by omega
     rw [gappk]
     simp [blkR]
   | succ q =>
    simp -dsimp only [lastV_s,blkR]
    have hz:=hZ q rfl
    have hol:=(List.getElem?_eq_some_iff.1 hz).1
    have g1:∀ Y,(Z ++ Y)[o]? = some (.rows 113 4 R q):=fun Y=>by rw [List.getElem?_append_left hol,hz]
    have g2:∀ Y y,(Z ++ Y).set o y = Z.set o y ++ Y:=fun Y y=>by rw [List.set_append_left _ _ hol]
    have hRl:R.length = q + 1:=by have:=hR.1; rw [fnsL_length,List.length_take] at this; omega
    simp -dsimp (maxSteps:=4000000) +contextual (disch:=first | omega | decide +kernel) only [↓vsD,vsE,↓Nat.reduceLT,simprocAttr,el,hXc,cond_true,vcel,vgap,List.length_append,List.length_singleton,List.length_cons,List.append_assoc,g1,g2,hRl,bytesC,lenC]
    refine ⟨(q + 1 + 1,o,R ++ [[.str ByteArray.empty,.int .i64 0,.int .i64 1,.sl [blkR X]]],_),(by (try dsimp only); omega),by simp [weaker,Go.PV.look] <;> omega,rfl,hkl,?_,fun j hj=>?_⟩
    ·dsimp only
     rw [etk]
     refine FzRows.snoc (hR.to (fun o h=>h) ?_) ?_
     ·intro u hu x hx
      obtain ⟨u,rfl⟩:∃ v,u = v + 2:=⟨u - 2,by omega⟩
      rw [zz_at] at hx ⊢
      have:=(List.getElem?_eq_some_iff.1 hx).1
      rw [List.getElem?_append_left (by rw [List.length_set]; exact this),List.getElem?_set_ne (by omega),hx]
     ·refine frow ?_
      have:=hF (fun u=>2 ≤ u ∧ u ≠ o + 2) (Z.set o (.rows 113 4 (R ++ [[.str ByteArray.empty,.int .i64 0,.int .i64 1,.sl [blkR X]]]) (q + 1))) (.rows 108 8 [blkR X] 0) [] (List.length_set ..) (fun _=>⟨by omega,by omega⟩)
      rw [List.append_nil] at this
      exact this
    ·dsimp only at hj ⊢
     obtain rfl:j = q + 1:=by omega
     rw [List.getElem?_append_left (by rw [List.length_set]; exact hol),List.getElem?_set_self hol]; rfl
 ·obtain rfl:k = L.length:=by omega
  rw [List.take_length] at hR
  cases hk0:L.length with
  | zero =>
   have h0:L = []:=List.eq_nil_of_length_eq_zero hk0
   subst h0
   simp -dsimp only [lastV_0,List.length_nil]
   simp -dsimp (maxSteps:=4000000) +contextual (disch:=first | omega | decide +kernel) only [↓vsD,vsE,↓Nat.reduceLT,simprocAttr,eL,vcel]
   exact fin0 (FzRow.frz (A:=fun _=>True) (.cons (.keep _ fun _=>bel_nils _) (.cons .nils (.cons (.int _ _) (.cons (.int _ _) .nil)))) 0 (fun _ _=>Nat.zero_le _)) rfl
  | succ q =>
   simp -dsimp only [lastV_s,hk0]
   have hz:=hZ q hk0
   simp -dsimp (maxSteps:=4000000) +contextual (disch:=first | omega | decide +kernel) only [↓vsD,vsE,↓Nat.reduceLT,simprocAttr,eL,vcel]
   have hF:∀ a b,Fz (fun u=>2 ≤ u) (a :: b :: Z) (.msl (o + 2) q) (.sl (fnsL L)):=fun a b =>
    Fz.of_rows (by omega) (show (a :: b :: Z)[o + 2]? = _ from hz) (hR.to (fun u h=>h.1) (zz_keep a b Z (fun u h=>h.1)))
   exact fin0 (FzRow.frz (.cons (.keep _ fun _=>bel_nils _) (.cons (hF _ _) (.cons (.int _ _) (.cons (.int _ _) .nil)))) 0 (fun _ _=>Nat.zero_le _)) rfl
theorem belA {n:Nat} {p:PV} (h:Bel n p):∀ x ∈ [p],Bel n x:=fun x hx=>by rw [List.mem_singleton.1 hx]; exact h
theorem bel_prog (n:Nat) (L:List (List Int)):Bel n (progV L):=by
 refine bel_agg (fun p hp=>?_)
 simp only [List.mem_cons,List.not_mem_nil,or_false] at hp
 rcases hp with rfl | rfl | rfl | rfl
 ·exact bel_nils _
 ·refine bel_sl (fun row hr p hp=>?_)
  obtain ⟨l,_,rfl⟩:=List.mem_map.1 hr
  simp only [fnF,fnR,List.mem_cons,List.not_mem_nil,or_false] at hp
  rcases hp with rfl | rfl | rfl | rfl
  ·exact bel_str _ _
  ·exact bel_int _ _ _
  ·exact bel_int _ _ _
  ·refine bel_sl (fun row hr p hp=>?_)
   rw [List.mem_singleton] at hr
   subst hr
   simp only [blkR,List.mem_cons,List.not_mem_nil,or_false] at hp
   rcases hp with rfl | rfl | rfl | rfl | rfl | rfl | rfl | rfl
   ·exact bel_sl (fun row hr p hp=>insL_data l row hr p hp n)
   all_goals exact bel_int _ _ _
 ·exact bel_int _ _ _
 ·exact bel_int _ _ _
theorem program_on (L:List (List Int)) (hL:L.length ≤ 1000) (hl:∀ l ∈ L,l.length ≤ 1000) (σ:Store):PCall Try.prog 20 [.sl (intss L)] σ (fun q τ=>q = progV L ∧ τ = σ) :=
 PCall.lift (program_w L hL hl) (belA (bel_intss _ L)) (fun q h=>⟨by rw [h]; exact bel_prog _ _,h,rfl⟩)
end Go.Proofs.Ythginmfobikdgaa
