import Derived.Test.YtangodmcbmeeaaaBoC
set_option maxRecDepth 8000
set_option linter.unusedSimpArgs false
set_option linter.unusedVariables false
namespace Go.Proofs.Ytangodmcbmeeaaa
open Go.PV
def updW (W:Nat → Nat → Int) (a b:Nat) (x:Int):Nat → Nat → Int:=fun c d=>if c = a ∧ d = b then x else W c d
theorem wCells_set (W:Nat → Nat → Int) (a b:Nat) (x:Int) (ha:a < 9) (hb:b < 9):(wCells W).set (a * 9 + b) x = wCells (updW W a b x):=by
 apply List.ext_getElem?
 intro i
 simp only [wCells,List.getElem?_set,List.getElem?_map,List.length_map,List.length_range]
 by_cases hi:i < 81
 ·rw [List.getElem?_range hi]
  by_cases e:a * 9 + b = i
  ·rw [if_pos e,if_pos (by omega)]
   show some x = some (updW W a b x (i / 9) (i % 9))
   rw [updW,if_pos ⟨by omega,by omega⟩]
  ·rw [if_neg e]
   show some (W (i / 9) (i % 9)) = some (updW W a b x (i / 9) (i % 9))
   rw [updW,if_neg (fun h=>e (by omega))]
 ·rw [List.getElem?_eq_none (by simpa using hi),if_neg (by omega)]; rfl
theorem tabR_set (W:Nat → Nat → Int) (n ob v a b:Nat) (x:Int) (ha:a < 9) (hb:b < 9):(tabR W n ob v).set (1 + a * 9 + b) (.int .i64 x) = tabR (updW W a b x) n ob v:=by
 have h:(cellsB (wCells W)).length = 81:=by rw [cellsB_length,wCells_length]
 rw [show 1 + a * 9 + b = (a * 9 + b) + 1 by omega]
 show PV.int .i64 n :: (cellsB (wCells W) ++ [PV.msl ob v]).set (a * 9 + b) _ = _
 rw [List.set_append_left _ _ (by omega),cellsB_set,wCells_set W a b x ha hb]; rfl
theorem wt_next (l:List Way) (k:Nat) (h:k < l.length):wt (l.take (k + 1)) = updW (wt (l.take k)) (l.getD k default).fr (l.getD k default).to (wt (l.take k) (l.getD k default).fr (l.getD k default).to + (l.getD k default).cnt):=by
 funext c d
 have e:∀ c d,wt (l.take (k + 1)) c d = wt (l.take k) c d + if (l.getD k default).fr = c ∧ (l.getD k default).to = d then (l.getD k default).cnt else 0:=fun c d=>by
  rw [wt,List.take_add_one,List.getElem?_eq_getElem h,Option.toList_some,List.map_append,List.sum_append,getDB h]
  simp [wt]
 rw [e,updW]
 by_cases hc:c = (l.getD k default).fr ∧ d = (l.getD k default).to
 ·rw [if_pos hc,if_pos ⟨hc.1.symm,hc.2.symm⟩,hc.1,hc.2]
 ·rw [if_neg hc,if_neg (fun h=>hc ⟨h.1.symm,h.2.symm⟩)]; omega
theorem wt_zero:wt [] = fun _ _=>0:=by funext a b; rfl
theorem wt_le:∀ {l:List Way} {A:Int},(∀ w ∈ l,w.cnt ≤ A) → 0 ≤ A → ∀ a b,wt l a b ≤ A * l.length
 | [],A,_,h0,a,b=>by simp [wt]
 | w :: l,A,h,h0,a,b=>by
  have ih:=wt_le (l:=l) (fun v hv=>h v (by simp [hv])) h0 a b
  have h1:=h w (by simp)
  have e:wt (w :: l) a b = (if w.fr = a ∧ w.to = b then w.cnt else 0) + wt l a b:=by simp [wt]
  rw [e,List.length_cons,Int.natCast_add,Int.mul_add]
  split <;> omega
def tab0:List PV:=.int .i64 0 :: (List.replicate 81 (.int .i64 0) ++ [.nils])
theorem z_tab:zeroCells Try.prog 127 = some tab0:=by kernel_rfl
theorem tab0_length:tab0.length = 83:=by simp [tab0]
theorem wCells_zero:cellsB (wCells fun _ _=>0) = List.replicate 81 (.int .i64 0):=by simp [cellsB,wCells,List.map_const']
theorem tab0_set (ob v:Nat):List.take 81 (List.drop 1 tab0) ++ [.msl ob v] ++ List.drop 82 (List.drop 1 tab0) = cellsB (wCells fun _ _=>0) ++ [.msl ob v]:=by
 rw [wCells_zero]; rfl
theorem tab0_all (ob v:Nat):(cellsB (wCells fun _ _=>0) ++ [PV.msl ob v]).all PV.cell = true:=by
 rw [wCells_zero]; rfl
theorem tab0_drop:List.drop 83 tab0 = []:=rfl
theorem wz_len:(cellsB (wCells fun _ _=>0)).length = 81:=by rw [wCells_zero]; rfl
theorem wz_get (ob v:Nat):(cellsB (wCells fun _ _=>0) ++ [PV.msl ob v]).getD 81 .unk = .msl ob v:=by
 rw [wCells_zero]; rfl
structure FilI (n i k:Nat) (M:List (List Int)):Prop where
 len:M.length = 2 ^ n
 row:∀ j,j < 2 ^ n → (M.getD j []).length = 9
 done:∀ j,j < i → M.getD j [] = List.replicate 9 (-1)
 part:∀ l,l < k → (M.getD i []).getD l 0 = -1
theorem FilI.step {n i k:Nat} {M:List (List Int)} (h:FilI n i k M) (hi:i < 2 ^ n) (hk:k < 9):FilI n i (k + 1) (M.set i ((M.getD i []).set k (-1))):=by
 have hl:i < M.length:=by rw [h.len]; exact hi
 refine ⟨by rw [List.length_set]; exact h.len,fun j hj=>?_,fun j hj=>?_,fun l hl2=>?_⟩
 ·rw [getD_setB _ _ _ _ _ hl]
  split
  ·rw [List.length_set]; exact h.row i hi
  ·exact h.row j hj
 ·rw [getD_setB _ _ _ _ _ hl,if_neg (by omega)]; exact h.done j hj
 ·rw [getD_setB _ _ _ _ _ hl,if_pos rfl,getD_setB _ _ _ _ _ (by rw [h.row i hi]; exact hk)]
  split
  ·rfl
  ·exact h.part l (by omega)
theorem FilI.next {n i:Nat} {M:List (List Int)} (h:FilI n i 9 M) (hi:i < 2 ^ n):FilI n (i + 1) 0 M:=by
 refine ⟨h.len,h.row,fun j hj=>?_,fun l hl=>absurd hl (Nat.not_lt_zero _)⟩
 by_cases e:j = i
 ·subst e
  apply List.ext_getElem (by rw [h.row j hi]; simp)
  intro l h1 h2
  have:=h.part l (by rw [h.row j hi] at h1; exact h1)
  rw [getDB h1] at this
  rw [this,List.getElem_replicate]
 ·exact h.done j (by omega)
theorem FilI.all {n:Nat} {M:List (List Int)} (h:FilI n (2 ^ n) 0 M):M = memo0 n:=by
 apply List.ext_getElem (by rw [h.len]; simp [memo0])
 intro j h1 h2
 have:=h.done j (by rw [← h.len]; exact h1)
 rw [getDB h1] at this
 rw [this]; simp [memo0]
structure ExI (W:Nat → Nat → Int) (n oo m s last:Nat) (M:List (List Int)) (O:List Nat) (vo:Nat) (R:Store):Prop where
 em:miss n s = m
 el:O.length + m = n
 ee:exactO W n = O ++ buildO W n m s last
 es:s < 2 ^ n
 eL:last < n
 eM:MOK W n M
 et:R[3]? = some (.rows 127 83 [tabR W n 2 0] 0)
 eo:R[oo]? = some (.rows 3 1 (ints (castL O)) vo)
set_option maxRecDepth 8000 in
set_option maxHeartbeats 32000000 in
theorem exact_w (nm:PV) (hnm:PV.cell nm = true) {T:List TermI} {B:List Int} {E:List (Int × Int)} (h:GoodB T B E) (hk:∀ t ∈ T,t.kind = 2 ∨ t.kind = 3) (hne:waysF T E T.length ≠ []) (hn9:T.length ≤ 9) :
  PCall Try.prog 34 [fnV nm T,cnV B E] [] (fun p _=>p = .sl (ints (castL (exactO (wt (waysF T E T.length)) T.length)))):=by
 have hways:=ways_raw nm hnm h hk hne
 have hn0:=h.n0
 have hpw:2 ^ T.length ≤ 512:=Nat.pow_le_pow_right (show 0 < 2 by decide) hn9
 obtain ⟨P,hP⟩:∃ P,P = 2 ^ T.length:=⟨_,rfl⟩
 have hshl:(IntKind.i64.wrap (1 * 2 ^ min T.length IntKind.i64.bits)) = (P:Int):=by
  have e:IntKind.i64.bits = 64:=rfl
  rw [e,Nat.min_eq_left (show T.length ≤ 64 by omega),Int.one_mul,hP]
  have e1:((2:Int) ^ T.length) = ((2 ^ T.length:Nat):Int):=by norm_cast
  rw [e1]
  generalize 2 ^ T.length = q at hpw
  exact wrap_i64 (q:Int) (by omega) (by omega)
 unfold fnV cnV at hways ⊢
 refine PCall.vfrz [63] 158456333587817991360863027199 109 [.tmp 4] (noE_ok _) mix Try.func34 rfl (by decide) rfl rfl (by simp) ?_
 simp -dsimp only [initFr,List.zipIdx_cons,List.zipIdx_nil,List.map_cons,List.map_nil,Nat.zero_add,Nat.reduceAdd]
 simp -dsimp (maxSteps:=4000000) +contextual (disch:=first | omega | decide +kernel) only [↓vsD,vsE,↓Nat.reduceLT,simprocAttr,vcel,hnm,encT_length,hshl,bytesB,lenB]
 refine v_draws _ _ _ _ _ _ [9,10] [7] [(0,1),(0,1),(0,1),(0,1),(0,1),(0,1),(0,1),(0,1),(0,1),(0,0),(1,0)] (by decide +kernel) (by decide +kernel) (by decide +kernel) (by decide +kernel) ?_
 simp -dsimp (maxSteps:=4000000) +contextual (disch:=first | omega | decide +kernel) only [↓vsD,vsE,↓Nat.reduceLT,simprocAttr,vdA,↓vd_end,↓vdm_go,↓vd_op,↓guard_none,↓guard_some,vcel,hnm,encT_length,hshl,bytesB,lenB,z_tab,tab0_length,tab0_set,tab0_all,tab0_drop,wz_len,wz_get,List.append_nil,List.length_replicate]
 obtain ⟨fb,hfb⟩:∃ fb,fb = Go.PV.Obj.rows 28 4 [[nm,.int .i64 0,.int .i64 1,.sl (encT T)]] 0:=⟨_,rfl⟩
 obtain ⟨cb,hcb⟩:∃ cb,cb = Go.PV.Obj.rows 33 4 [[.int .i64 0,.sl (ints B),.sl (encX E),.nils]] 0:=⟨_,rfl⟩
 rw [← hfb,← hcb]
 refine v_loopS (fun s:Nat × List (List Int)=>[(2,.ptr 0 0 0 0),(3,.ptr 1 0 0 0),(5,.ptr 3 0 0 0),(25,.int .i64 P),(26,.int .i64 (s.1:Int))]) (fun s=>[fb,cb,.rows 124 9 (encM s.2) 0,.rows 127 83 [tabR (fun _ _=>0) T.length 2 0] 0]) (fun s=>s.1 ≤ P ∧ FilI T.length s.1 0 s.2) (fun s=>P - s.1) (0,List.replicate P (List.replicate 9 0)) (by simp [weaker,Go.PV.look]) (by simp [encM,cellsB,tabR]) ⟨Nat.zero_le _,by rw [hP]; simp,fun j hj=>by rw [← hP] at hj; simp [List.getD_eq_getElem?_getD,hj],fun j hj=>absurd hj (Nat.not_lt_zero _),fun l hl=>absurd hl (Nat.not_lt_zero _)⟩ ?_
 rintro ⟨i,M⟩ ⟨hi,hM⟩
 dsimp only at hi hM ⊢
 by_cases hiP:i < P
 ·simp -dsimp (maxSteps:=4000000) +contextual (disch:=first | omega | decide +kernel) only [↓vsD,vsE,↓Nat.reduceLT,simprocAttr]
  refine v_loopS (fun s:Nat × List (List Int)=>[(2,.ptr 0 0 0 0),(3,.ptr 1 0 0 0),(5,.ptr 3 0 0 0),(6,.int .i64 (i:Int)),(25,.int .i64 P),(26,.int .i64 (i:Int)),(29,.int .i64 (s.1:Int))]) (fun s=>[fb,cb,.rows 124 9 (encM s.2) 0,.rows 127 83 [tabR (fun _ _=>0) T.length 2 0] 0]) (fun s=>s.1 ≤ 9 ∧ FilI T.length i s.1 s.2) (fun s=>9 - s.1) (0,M) (by simp [weaker,Go.PV.look]) rfl ⟨Nat.zero_le _,hM⟩ ?_
  rintro ⟨k,M2⟩ ⟨hk9,hM2⟩
  dsimp only at hk9 hM2 ⊢
  have hiM:i < M2.length:=by rw [hM2.len,← hP]; exact hiP
  by_cases hk:k < 9
  ·have q1:=encM_getD M2 i hiM
   have q2:(cellsB (M2.getD i [])).length = 9:=by rw [cellsB_length,hM2.row i (by rw [← hP]; exact hiP)]
   simp -dsimp (maxSteps:=4000000) +contextual (disch:=first | omega | decide +kernel) only [↓vsD,vsE,↓Nat.reduceLT,simprocAttr,tabR_length,tabR_b,encM_length,q1,q2]
   exact ⟨(k + 1,M2.set i ((M2.getD i []).set k (-1))),(by (try dsimp only); omega),(by simp [weaker,Go.PV.look]),by rw [take_drop_set _ _ (by rw [q2]; omega),cellsB_set,encM_set],hk,hM2.step (by rw [← hP]; exact hiP) hk⟩
  ·obtain rfl:k = 9:=by omega
   simp -dsimp (maxSteps:=4000000) +contextual (disch:=first | omega | decide +kernel) only [↓vsD,vsE,↓Nat.reduceLT,simprocAttr]
   exact ⟨(i + 1,M2),(by (try dsimp only); omega),(by simp [weaker,Go.PV.look]),rfl,hiP,hM2.next (by rw [← hP]; exact hiP)⟩
 ·obtain rfl:i = P:=by omega
  rw [hP] at hM
  have hM0:=hM.all
  rw [hM0]
  have e0:(wt []) = fun _ _=>0:=wt_zero
  rw [← e0]
  have k0:∀ args σ,noE.f 36 args σ = none:=fun _ _=>rfl
  have k1:∀ args σ,noE.f 67 args σ = none:=fun _ _=>rfl
  rw [hfb,hcb]
  simp -dsimp (maxSteps:=4000000) +contextual (disch:=first | omega | decide +kernel) only [↓vsD,vsE,↓Nat.reduceLT,simprocAttr,vcel,hnm,k0]
  obtain ⟨L,hL⟩:∃ L,L = waysF T E T.length:=⟨_,rfl⟩
  have hLw:∀ w ∈ L,w.fr < T.length ∧ w.to < T.length ∧ 0 ≤ w.cnt ∧ w.cnt ≤ 1000:=fun w hw=>h.way (by rw [← hL]; exact hw)
  have hLl:L.length ≤ 18:=by
   have:=waysF_len T E T.length
   rw [hL]; omega
  rw [← hL] at hways ⊢
  refine PCall.mono (hways _) ?_
  rintro p τ ⟨o,v,rfl,ho,⟨Z,rfl⟩,hto⟩
  obtain ⟨R,hR⟩:∃ R:Store,R = [Go.PV.Obj.rows 28 4 [[nm,.int .i64 0,.int .i64 1,.sl (encT T)]] 0,.rows 33 4 [[.int .i64 0,.sl (ints B),.sl (encX E),.nils]] 0,.rows 124 9 (encM (memo0 T.length)) 0,.rows 127 83 [tabR (wt []) T.length 2 0] 0] ++ Z:=⟨_,rfl⟩
  have hR2:R[2]? = some (.rows 124 9 (encM (memo0 T.length)) 0):=by rw [hR]; rfl
  have hR3:R[3]? = some (.rows 127 83 [tabR (wt []) T.length 2 0] 0):=by rw [hR]; rfl
  rw [← hR] at hto ⊢
  have ho4:4 ≤ o:=ho
  clear hR ho
  simp -dsimp (maxSteps:=4000000) +contextual (disch:=first | omega | decide +kernel) only [↓vsD,vsE,↓Nat.reduceLT,simprocAttr,vcel,hto,encW_length]
  refine v_loopS (fun s:Nat × Store=>[(5,.ptr 3 0 0 0),(42,.msl o v),(43,.int .i64 L.length),(44,.int .i64 (s.1:Int))]) (fun s=>s.2) (fun s=>s.1 ≤ L.length ∧ s.2[2]? = some (.rows 124 9 (encM (memo0 T.length)) 0) ∧ s.2[3]? = some (.rows 127 83 [tabR (wt (L.take s.1)) T.length 2 0] 0) ∧ s.2[o]? = some (.rows 88 3 (encW L) v)) (fun s=>L.length - s.1) (0,R) (by simp [weaker,Go.PV.look]) rfl ⟨Nat.zero_le _,hR2,hR3,hto⟩ ?_
  clear hR2 hR3 hto
  rintro ⟨k,R⟩ ⟨hk,h2,h3,ho⟩
  dsimp only at hk h2 h3 ho ⊢
  have l3:=(List.getElem?_eq_some_iff.1 h3).1
  have lo:=(List.getElem?_eq_some_iff.1 ho).1
  by_cases hkl:k < L.length
  ·have hw:=hLw _ (show L.getD k default ∈ L by rw [getDB hkl]; exact List.getElem_mem _)
   have x3:∀ X,(R ++ X)[3]? = some (.rows 127 83 [tabR (wt (L.take k)) T.length 2 0] 0):=fun X=>by rw [List.getElem?_append_left l3,h3]
   have hnx:=wt_next L k hkl
   have w1:=tabR_w (wt (L.take k)) T.length 2 0 (L.getD k default).fr (L.getD k default).to (by omega) (by omega)
   have b1:=wt_nn (ws:=L.take k) (fun w hw=>(hLw w (List.mem_of_mem_take hw)).2.2.1) (L.getD k default).fr (L.getD k default).to
   have b2:=wt_le (l:=L.take k) (A:=1000) (fun w hw=>(hLw w (List.mem_of_mem_take hw)).2.2.2) (by decide) (L.getD k default).fr (L.getD k default).to
   have b3:(L.take k).length ≤ 18:=by rw [List.length_take]; omega
   simp -dsimp (maxSteps:=4000000) +contextual (disch:=first | omega | decide +kernel) only [↓vsD,vsE,↓Nat.reduceLT,simprocAttr,vcel,vgap,ho,encW_length,encW_getD,x3,tabR_length,w1]
   have y3:∀ X y,(R ++ X).set 3 y = R.set 3 y ++ X:=fun X y=>List.set_append_left _ _ l3
   refine v_draws _ _ _ _ _ _ [14] [] [(0,0),(0,0),(0,0),(0,0),(0,0),(0,0),(0,0),(0,0),(0,0),(0,0),(0,0),(0,0),(0,0),(0,0),(0,0)] (by decide +kernel) (by decide +kernel) (by decide +kernel) (by decide +kernel) ?_
   simp -dsimp (maxSteps:=4000000) +contextual (disch:=first | omega | decide +kernel) only [↓vsD,vsE,↓Nat.reduceLT,simprocAttr,vdA,↓vd_end,↓vdm_go,↓vd_op,↓guard_none,↓guard_some,vcel,vgap,ho,encW_length,encW_getD,x3,y3,tabR_length,w1]
   rw [take_drop_set _ _ (by rw [tabR_length]; omega),tabR_set _ _ _ _ _ _ _ (by omega) (by omega),← hnx]
   refine ⟨(k + 1,_),(by (try dsimp only); omega),(by simp [weaker,Go.PV.look]),rfl,hkl,?_,?_,?_⟩
   ·dsimp only
    rw [List.getElem?_append_left (by rw [List.length_set]; omega),List.getElem?_set_ne (by omega)]; exact h2
   ·dsimp only
    rw [List.getElem?_append_left (by rw [List.length_set]; omega),List.getElem?_set_self l3]
   ·dsimp only
    rw [List.getElem?_append_left (by rw [List.length_set]; omega),List.getElem?_set_ne (by omega)]; exact ho
  ·obtain rfl:k = L.length:=by omega
   rw [List.take_length] at h3
   simp -dsimp (maxSteps:=4000000) +contextual (disch:=first | omega | decide +kernel) only [↓vsD,vsE,↓Nat.reduceLT,simprocAttr,vcel]
   obtain ⟨W,hWd⟩:∃ W,W = wt L:=⟨_,rfl⟩
   have hW:∀ a b,0 ≤ W a b ∧ W a b ≤ 1000000:=fun a b=>by
    have b1:=wt_nn (ws:=L) (fun w hw=>(hLw w hw).2.2.1) a b
    have b2:=wt_le (l:=L) (A:=1000) (fun w hw=>(hLw w hw).2.2.2) (by decide) a b
    rw [hWd]; omega
   rw [← hWd] at h3 ⊢
   obtain ⟨n,hnd⟩:∃ n,n = T.length:=⟨_,rfl⟩
   rw [← hnd] at hn9 hn0 h2 h3 ⊢
   obtain ⟨oo,hoo⟩:∃ oo,oo = R.length:=⟨_,rfl⟩
   rw [← hoo]
   have hoo4:4 ≤ oo:=by omega
   obtain ⟨R1,hR1⟩:∃ R1:Store,R1 = R ++ [.rows 3 1 [[.int .i64 0]] 0]:=⟨_,rfl⟩
   have i2:R1[2]? = some (.rows 124 9 (encM (memo0 n)) 0):=by rw [hR1,List.getElem?_append_left (by omega),h2]
   have i3:R1[3]? = some (.rows 127 83 [tabR W n 2 0] 0):=by rw [hR1,List.getElem?_append_left (by omega),h3]
   have i4:R1[oo]? = some (.rows 3 1 (ints (castL [0])) 0):=by rw [hR1,hoo,List.getElem?_concat_length]; rfl
   have i5:stM R1 2 0 (memo0 n) = R1:=by
    obtain ⟨q1,q2⟩:=List.getElem?_eq_some_iff.1 i2
    unfold stM
    rw [← q2,List.set_getElem_self q1]
   rw [← hR1]
   clear h2 h3 ho l3 lo hR1 hoo hways hLw hWd hM0 hM e0
   refine v_loopS (fun s:Nat × Nat × Nat × List (List Int) × List Nat × Nat × Store=>[(5,.ptr 3 0 0 0),(10,.msl oo s.2.2.2.2.2.1),(11,.int .i64 (s.2.1:Int)),(12,.int .i64 (s.2.2.1:Int))]) (fun s=>stM s.2.2.2.2.2.2 2 0 s.2.2.2.1) (fun s=>ExI W n oo s.1 s.2.1 s.2.2.1 s.2.2.2.1 s.2.2.2.2.1 s.2.2.2.2.2.1 s.2.2.2.2.2.2) (fun s=>s.1) (n - 1,1,0,memo0 n,[0],0,R1) (by simp [weaker,Go.PV.look]) i5.symm ⟨miss_one hn0,by simp; omega,rfl,Nat.one_lt_two_pow (by omega),hn0,memo0_ok W n hn9,i3,i4⟩ ?_
   rintro ⟨m,s,last,M,O,vo,R2⟩ hE
   have e1:=hE.em
   have e2:=hE.el
   have e3:=hE.ee
   have e4:=hE.es
   have e5:=hE.eL
   have e6:=hE.eM
   have e7:=hE.et
   have e8:=hE.eo
   clear hE
   dsimp only at e1 e2 e3 e4 e5 e6 e7 e8 ⊢
   have f3:=(List.getElem?_eq_some_iff.1 e7).1
   have fo:=(List.getElem?_eq_some_iff.1 e8).1
   have t1:∀ M,(stM R2 2 0 M)[3]? = some (.rows 127 83 [tabR W n 2 0] 0):=fun M=>by rw [stM,List.getElem?_set_ne (by decide)]; exact e7
   have t2:∀ M,(stM R2 2 0 M)[oo]? = some (.rows 3 1 (ints (castL O)) vo):=fun M=>by rw [stM,List.getElem?_set_ne (by omega)]; exact e8
   have hOl:(ints (castL O)).length = O.length:=by rw [intsB_len,castL,List.length_map]
   by_cases hm0:m = 0
   ·subst hm0
    simp -dsimp (maxSteps:=4000000) +contextual (disch:=first | omega | decide +kernel) only [↓vsD,vsE,↓Nat.reduceLT,simprocAttr,t1,t2,hOl,tabR_length,tabR_n]
    refine fin0 (Frz.msl0 (elem:=3) (sz:=1) (Nat.zero_le _) (t2 M) (enc_bel _ _ _)) ?_
    rw [e3,buildO,List.append_nil]
   ·simp -dsimp (maxSteps:=4000000) +contextual (disch:=first | omega | decide +kernel) only [↓vsD,vsE,↓Nat.reduceLT,simprocAttr,t1,t2,hOl,tabR_length,tabR_n]
    refine v_loopS (fun s2:Nat × List (List Int)=>[(5,.ptr 3 0 0 0),(10,.msl oo vo),(11,.int .i64 (s:Int)),(12,.int .i64 (last:Int)),(70,.int .i64 n),(71,.int .i64 (s2.1:Int))]) (fun s2=>stM R2 2 0 s2.2) (fun s2=>s2.1 ≤ n ∧ MOK W n s2.2 ∧ ∀ c,c < s2.1 → isPick W n s last c = false) (fun s2=>n - s2.1) (0,M) (by simp [weaker,Go.PV.look]) rfl ⟨Nat.zero_le _,e6,fun c hc=>absurd hc (Nat.not_lt_zero _)⟩ ?_
    rintro ⟨b,M2⟩ ⟨hb,hM2,hpk⟩
    dsimp only at hb hM2 hpk ⊢
    have hp9:2 ^ n ≤ 512:=Nat.pow_le_pow_right (show 0 < 2 by decide) hn9
    by_cases hbn:b < n
    ·have hq:=bitS s b (by omega) (by omega)
     by_cases hbit:s.testBit b = true
     ·rw [if_pos hbit] at hq
      simp -dsimp (maxSteps:=4000000) +contextual (disch:=first | omega | decide +kernel) only [↓vsD,vsE,↓Nat.reduceLT,simprocAttr,t1,tabR_length,tabR_n,hq]
      refine v_draws _ _ _ _ _ _ [17,21] [] [(0,0),(0,0),(0,0),(0,0),(0,0),(0,0),(0,2),(0,2),(0,2),(0,2),(0,2),(0,2),(0,0),(0,0),(0,0),(0,0),(0,0),(0,0),(1,2),(0,1),(0,1),(0,0),(2,2),(2,2)] (by decide +kernel) (by decide +kernel) (by decide +kernel) (by decide +kernel) ?_
      simp -dsimp (maxSteps:=4000000) +contextual (disch:=first | omega | decide +kernel) only [↓vsD,vsE,↓Nat.reduceLT,simprocAttr,vdA,↓vd_end,↓vdm_go,↓vd_op,↓guard_none,↓guard_some,t1,tabR_length,tabR_n,hq,k1]
      refine ⟨(b + 1,M2),(by (try dsimp only); omega),by simp [weaker,Go.PV.look],rfl,hbn,hM2,fun c hc=>?_⟩
      by_cases ec:c = b
      ·subst ec; simp [isPick,hbit]
      ·exact hpk c (by dsimp only at hc; omega)
     ·have hbit2:s.testBit b = false:=by simpa using hbit
      rw [if_neg hbit] at hq
      have hor:=orS s b (by omega) (by omega)
      have w1:=tabR_w W n 2 0 last b (by omega) (by omega)
      have hw1:=hW last b
      have g1:=GS_nn W n (addB s b) b
      have g2:=GS_le n (fun a b=>(hW a b).2) (addB s b) b hn9
      have sl:=addB_lt n e4 hbn
      have fl:=follow_ok hW hn9 R2 3 2 0 e7 (by decide) (by omega)
      have c1:=fl (miss n (addB s b)) (addB s b) b M2 rfl sl hbn hM2
      have hM3:=follM_ok W n hn9 (m:=miss n (addB s b)) sl hbn hM2
      obtain ⟨M3,hM3d⟩:∃ M3,M3 = follM W n (miss n (addB s b)) (addB s b) b M2:=⟨_,rfl⟩
      rw [← hM3d] at hM3
      have c2:=fl (miss n s) s last M3 rfl e4 e5 hM3
      have hM4:=follM_ok W n hn9 (m:=miss n s) e4 e5 hM3
      obtain ⟨M4,hM4d⟩:∃ M4,M4 = follM W n (miss n s) s last M3:=⟨_,rfl⟩
      rw [← hM4d] at hM4
      unfold FollK at c1 c2
      rw [← hM3d] at c1
      rw [← hM4d] at c2
      simp -dsimp (maxSteps:=4000000) +contextual (disch:=first | omega | decide +kernel) only [↓vsD,vsE,↓Nat.reduceLT,simprocAttr,t1,tabR_length,tabR_n,hq]
      refine v_draws _ _ _ _ _ _ [17,21] [] [(0,0),(0,0),(0,0),(0,0),(0,0),(0,0),(0,2),(0,2),(0,2),(0,2),(0,2),(0,2),(0,0),(0,0),(0,0),(0,0),(0,0),(0,0),(1,2),(0,1),(0,1),(0,0),(2,2),(2,2)] (by decide +kernel) (by decide +kernel) (by decide +kernel) (by decide +kernel) ?_
      simp -dsimp (maxSteps:=4000000) +contextual (disch:=first | omega | decide +kernel) only [↓vsD,vsE,↓Nat.reduceLT,simprocAttr,vdA,↓vd_end,↓vdm_go,↓vd_op,↓guard_none,↓guard_some,t1,tabR_length,tabR_n,hq,hor,w1,k1]
      refine ⟨_,_,c1,by simp -dsimp (maxSteps:=4000000) +contextual (disch:=first | omega | decide +kernel) only [↓vsD,vsE,↓Nat.reduceLT,simprocAttr,vdA,↓vd_end,↓vdm_go,↓vd_op,↓guard_none,↓guard_some,t1,tabR_length,w1],?_⟩
      simp -dsimp (maxSteps:=4000000) +contextual (disch:=first | omega | decide +kernel) only [↓vsD,vsE,↓Nat.reduceLT,simprocAttr,vdA,↓vd_end,↓vdm_go,↓vd_op,↓guard_none,↓guard_some,t1,tabR_length,tabR_n,hq,hor,w1,k1]
      refine ⟨_,_,c2,by simp -dsimp (maxSteps:=4000000) +contextual (disch:=first | omega | decide +kernel) only [↓vsD,vsE,↓Nat.reduceLT,simprocAttr,vdA,↓vd_end,↓vdm_go,↓vd_op,↓guard_none,↓guard_some,t1,tabR_length,w1],?_⟩
      simp -dsimp (maxSteps:=4000000) +contextual (disch:=first | omega | decide +kernel) only [↓vsD,vsE,↓Nat.reduceLT,simprocAttr,vdA,↓vd_end,↓vdm_go,↓vd_op,↓guard_none,↓guard_some,t1,tabR_length,tabR_n,hq,hor,w1,k1]
      refine ⟨fun heq=>?_,fun heq=>?_⟩
      ·have hcomm:∀ X,(stM R2 2 0 M4).set oo X = stM (R2.set oo X) 2 0 M4:=fun X=>by unfold stM; rw [List.set_comm _ _ (by omega)]
       refine v_draws _ _ _ _ _ _ [3] [] [(0,0),(0,0),(0,0),(0,0),(0,1),(0,1),(0,1),(0,1),(0,1),(1,1),(1,1),(1,1)] (by decide +kernel) (by decide +kernel) (by decide +kernel) (by decide +kernel) ?_
       simp -dsimp (maxSteps:=4000000) +contextual (disch:=first | omega | decide +kernel) only [↓vsD,vsE,↓Nat.reduceLT,simprocAttr,vdA,↓vd_end,↓vdm_go,↓vd_op,↓guard_none,↓guard_some,t1,t2,hOl,hor,hcomm,bytesB,lenB]
       have hpe:isPick W n s last b = true:=by simp [isPick,hbit2,heq]
       have hpu:=pickF_uniq W (fun a b=>(hW a b).1) (n:=n) (s:=s) (last:=last) (by omega) hpe hpk
       have hmb:=miss_add hbit2 hbn
       refine ⟨(m - 1,addB s b,b,M4,O ++ [b],vo + 1,R2.set oo (.rows 3 1 (ints (castL (O ++ [b]))) (vo + 1))),(by (try dsimp only); omega),by simp [weaker,Go.PV.look],by simp [castL,ints,PV.encI],by dsimp only; omega,by simp; omega,?_,sl,hbn,hM4,?_,List.getElem?_set_self fo⟩
       ·show exactO W n = (O ++ [b]) ++ buildO W n (m - 1) (addB s b) b
        rw [e3,show m = (m - 1) + 1 by omega,buildO,hpu,List.append_assoc]; rfl
       ·dsimp only
        rw [List.getElem?_set_ne (by omega)]; exact e7
      ·refine ⟨(b + 1,M4),(by (try dsimp only); omega),by simp [weaker,Go.PV.look],rfl,hbn,hM4,fun c hc=>?_⟩
       by_cases ec:c = b
       ·subst ec; simp [isPick,hbit2,heq]
       ·exact hpk c (by dsimp only at hc; omega)
    ·exfalso
     obtain ⟨p1,p2,_⟩:=pickF_ok W (fun a b=>(hW a b).1) (n:=n) (s:=s) (last:=last) (by omega)
     rw [hpk _ (by omega)] at p2
     cases p2
end Go.Proofs.Ytangodmcbmeeaaa
