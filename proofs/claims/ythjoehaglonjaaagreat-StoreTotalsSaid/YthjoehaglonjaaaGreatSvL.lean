import Derived.Test.YthjoehaglonjaaaGreatSvK
set_option maxRecDepth 8000
set_option linter.unusedSimpArgs false
set_option linter.unusedVariables false
namespace Go.Proofs.YthjoehaglonjaaaGreat
open Go.PV
set_option maxRecDepth 8000 in
set_option maxHeartbeats 16000000 in
theorem tgt_new (Y:Store) (l:List Site) (o v:Nat) (Rw:List (List PV)) (T:Nat → Nat × Nat) (h:RefR Y l o v Rw T) (hl:l.length ≤ 1000) (hl0:l ≠ []) (b i c:Int) (hn:¬ sHas l b i) :
  PCall Tryz.prog 54 [.msl o v,.int .i64 b,.int .i64 i,.agg [.int .i64 0,.int .i64 c]] Y (fun q τ=>q = .msl (Y.length + 1) (if sPos l b i = 0 then 1 else 2) ∧ τ = Y ++ [.rows 79 2 [[.int .i64 0,.int .i64 c]] 0,
   .rows 82 3 ((Rw.take (sPos l b i) ++ [.int .i64 b,.int .i64 i,.nils] :: Rw.drop (sPos l b i)).set (sPos l b i) [.int .i64 b,.int .i64 i,.msl (Y.length + 2) 1]) (if sPos l b i = 0 then 1 else 2),.rows 79 2 [[.int .i64 0,.int .i64 c]] 1]):=by
 have hol:=(List.getElem?_eq_some_iff.1 h.ob).1
 have yo:∀ X:Store,(Y ++ X)[o]? = some (.rows 82 3 Rw v):=fun X=>by rw [List.getElem?_append_left hol,h.ob]
 have hrl:=h.rl
 have hnw:∀ r ∈ Rw,(r.length == Tryz.prog.cellsOf 82 && r.all PV.cell) = true:=fun r hr=>by
  obtain ⟨j,hj,rfl⟩:=List.mem_iff_getElem.1 hr
  have h1:=h.rw j (by omega)
  rw [List.getD_eq_getElem?_getD,List.getElem?_eq_getElem hj,Option.getD_some] at h1
  rw [h1]
  simp [PV.cell,tyC]
 have hnd:∀ k,newsOk Tryz.prog 82 (Rw.drop k) = true:=fun k=>List.all_eq_true.2 (fun r hr=>hnw r (List.mem_of_mem_drop hr))
 have hnt:∀ k,newsOk Tryz.prog 82 (Rw.take k) = true:=fun k=>List.all_eq_true.2 (fun r hr=>hnw r (List.mem_of_mem_take hr))
 have htk:∀ k,0 < k → k ≤ l.length → ∃ r0 R',Rw.take k = r0 :: R':=fun k h1 h2=>by
  cases hc:Rw.take k with
  | nil =>
   have:=congrArg List.length hc
   rw [List.length_take,List.length_nil] at this
   omega
  | cons a b=>exact ⟨a,b,rfl⟩
 refine PCall.vraw [69,78,133,140] 20769504346789441358453052377403391 145 [.tmp 8] (noE_ok _) mix Tryz.func54 rfl (by decide) rfl rfl (by simp) ?_
 simp -dsimp only [initFr,List.zipIdx_cons,List.zipIdx_nil,List.map_cons,List.map_nil,Nat.zero_add,Nat.reduceAdd]
 simp -dsimp (maxSteps:=4000000) +contextual (disch:=first | omega | decide +kernel) only [↓vsD,vsE,↓Nat.reduceLT,simprocAttr,vcel]
 refine v_loopS (fun k:Nat=>[(0,.msl o v),(1,.int .i64 b),(2,.int .i64 i),(7,.ptr Y.length 0 0 0),(9,.int .i64 k)]) (fun _=>Y ++ [.rows 79 2 [[.int .i64 0,.int .i64 c]] 0]) (fun k=>k ≤ l.length ∧ ∀ j,j < k → bef b i (l.getD j default) = true) (fun k=>l.length - k) 0 (by simp [weaker,Go.PV.look]) rfl ⟨Nat.zero_le _,fun j h=>absurd h (Nat.not_lt_zero _)⟩ ?_
 rintro k ⟨hk,hb⟩
 by_cases hkl:k < l.length
 ·have r1:=h.rw k hkl
  have hbk:((l.getD k default).blk < b ∨ (l.getD k default).blk = b ∧ (l.getD k default).ins < i) ↔ bef b i (l.getD k default) = true:=by unfold bef; rw [decide_eq_true_eq]
  by_cases hbb:bef b i (l.getD k default) = true
  ·have hb2:=hbk.2 hbb
   simp -dsimp (maxSteps:=4000000) +contextual (disch:=first | omega | decide +kernel) only [↓vsD,vsE,↓Nat.reduceLT,simprocAttr,vcel,vgap,yo,r1]
   exact ⟨fun h1=>⟨k + 1,(by (try dsimp only); omega),(by simp [weaker,Go.PV.look]),rfl,hkl,nextJ hb hbb⟩,fun h1=>⟨k + 1,(by (try dsimp only); omega),(by simp [weaker,Go.PV.look]),rfl,hkl,nextJ hb hbb⟩⟩
  ·have hp:sPos l b i = k:=posL_uniq _ default hk hb (fun _=>by simpa using hbb)
   have hne:¬ ((l.getD k default).blk = b ∧ (l.getD k default).ins = i):=fun e=>hn ⟨by rw [hp]; exact hkl,by rw [hp]; exact e⟩
   have hb2:¬ ((l.getD k default).blk < b ∨ (l.getD k default).blk = b ∧ (l.getD k default).ins < i):=fun h=>hbb (hbk.1 h)
   rw [hp]
   have hnD:newsOk Tryz.prog 82 (Rw.drop k) = true:=hnd k
   have hdl:(Rw.drop k).length + k = l.length:=by rw [List.length_drop]; omega
   rcases Nat.eq_zero_or_pos k with hk0 | hk0
   ·subst hk0
    rw [List.drop_zero] at hnD hdl
    have g1:(([.int .i64 b,.int .i64 i,.nils]:List PV) :: Rw).getD 0 [] = [.int .i64 b,.int .i64 i,.nils]:=rfl
    have hbi:(l.getD 0 default).blk ≠ b ∨ ((l.getD 0 default).blk = b ∧ ¬ (l.getD 0 default).ins = i):=by
     by_cases h:(l.getD 0 default).blk = b
     ·exact .inr ⟨h,fun e=>hne ⟨h,e⟩⟩
     ·exact .inl h
    rcases hbi with hb3 | ⟨hb3,hi3⟩
    all_goals
     simp -dsimp (maxSteps:=4000000) +contextual (disch:=first | omega | decide +kernel) only [↓vsD,vsE,↓Nat.reduceLT,simprocAttr,vcel,vgap,yo,r1]
     refine v_draws _ _ _ _ _ _ [3,8,12] [] [(0,0),(0,0),(0,0),(0,0),(0,1),(0,1),(0,1),(0,1),(0,0),(0,2),(0,2),(0,2),(0,0),(3,3)] (by decide +kernel) (by decide +kernel) (by decide +kernel) (by decide +kernel) ?_
     simp -dsimp (maxSteps:=4000000) +contextual (disch:=first | omega | decide +kernel) only [↓vsD,vsE,↓Nat.reduceLT,simprocAttr,vdA,↓vd_end,↓vdm_go,↓vd_op,↓guard_none,↓guard_some,vcel,vgap,rows_mpre,rows_msuf,rwPre_some,rwSuf_some,newsSi,bytesK,lenK,yo,r1,hrl,hnD,hdl,g1,List.take_zero,List.drop_zero,List.append_assoc,List.length_append,List.length_cons]
     refine v_loopS (fun _:Nat=>[(0,.msl (Y.length + 1) 1),(7,.ptr Y.length 0 0 0),(9,.int .i64 (0:Nat)),(10,.nils),(11,.int .i64 0)]) (fun _=>Y ++ [.rows 79 2 [[.int .i64 0,.int .i64 c]] 0,.rows 82 3 ([.int .i64 b,.int .i64 i,.nils] :: Rw) 1]) (fun j=>j = 0) (fun j=>j) 0 (by simp [weaker,Go.PV.look]) rfl rfl ?_
     rintro j rfl
     simp -dsimp (maxSteps:=4000000) +contextual (disch:=first | omega | decide +kernel) only [↓vsD,vsE,↓Nat.reduceLT,simprocAttr,vcel]
     refine v_draws _ _ _ _ _ _ [5,8,12,15] [] [(0,3),(0,3),(0,0),(0,0),(0,0),(0,0),(0,1),(0,1),(0,0),(0,2),(0,2),(0,2),(0,0),(3,3),(3,3),(0,0)] (by decide +kernel) (by decide +kernel) (by decide +kernel) (by decide +kernel) ?_
     simp -dsimp (maxSteps:=4000000) +contextual (disch:=first | omega | decide +kernel) only [↓vsD,vsE,↓Nat.reduceLT,simprocAttr,vdA,↓vd_end,↓vdm_go,↓vd_op,↓guard_none,↓guard_some,vcel,vgap,newsT1,bytesK,lenK,g1,hdl,List.append_assoc,List.length_append,List.length_cons]
   ·obtain ⟨r0,R',hR'⟩:=htk k hk0 hk
    have hnT:=hnt k
    have hlT:(Rw.take k).length = k:=by rw [List.length_take]; omega
    rw [hR'] at hnT hlT
    rw [List.length_cons] at hlT
    have g1:(r0 :: (R' ++ [.int .i64 b,.int .i64 i,.nils] :: Rw.drop k)).getD k [] = [.int .i64 b,.int .i64 i,.nils]:=by
     have g1:=ins_getD Rw k [.int .i64 b,.int .i64 i,.nils] [] (by omega) k
     rw [if_neg (by omega),if_pos rfl,hR',List.cons_append] at g1
     exact g1
    have hbi:(l.getD k default).blk ≠ b ∨ ((l.getD k default).blk = b ∧ ¬ (l.getD k default).ins = i):=by
     by_cases h:(l.getD k default).blk = b
     ·exact .inr ⟨h,fun e=>hne ⟨h,e⟩⟩
     ·exact .inl h
    rcases hbi with hb3 | ⟨hb3,hi3⟩
    all_goals
     simp -dsimp (maxSteps:=4000000) +contextual (disch:=first | omega | decide +kernel) only [↓vsD,vsE,↓Nat.reduceLT,simprocAttr,vcel,vgap,yo,r1]
     refine v_draws _ _ _ _ _ _ [3,8,12] [] [(0,0),(0,0),(0,0),(0,0),(0,1),(0,1),(0,1),(0,1),(0,0),(0,2),(0,2),(0,2),(0,0),(3,3)] (by decide +kernel) (by decide +kernel) (by decide +kernel) (by decide +kernel) ?_
     simp -dsimp (maxSteps:=4000000) +contextual (disch:=first | omega | decide +kernel) only [↓vsD,vsE,↓Nat.reduceLT,simprocAttr,vdA,↓vd_end,↓vdm_go,↓vd_op,↓guard_none,↓guard_some,vcel,vgap,rows_mpre,rows_msuf,rwPre_some,rwSuf_some,newsSi,bytesK,lenK,yo,r1,hrl,hR',hnT,hlT,hnD,hdl,g1,List.append_assoc,List.length_append,List.length_cons]
     refine v_loopS (fun _:Nat=>[(0,.msl (Y.length + 1) 2),(7,.ptr Y.length 0 0 0),(9,.int .i64 k),(10,.nils),(11,.int .i64 0)]) (fun _=>Y ++ [.rows 79 2 [[.int .i64 0,.int .i64 c]] 0,.rows 82 3 (r0 :: (R' ++ [.int .i64 b,.int .i64 i,.nils] :: Rw.drop k)) 2]) (fun j=>j = 0) (fun j=>j) 0 (by simp [weaker,Go.PV.look]) rfl rfl ?_
     rintro j rfl
     simp -dsimp (maxSteps:=4000000) +contextual (disch:=first | omega | decide +kernel) only [↓vsD,vsE,↓Nat.reduceLT,simprocAttr,vcel]
     refine v_draws _ _ _ _ _ _ [5,8,12,15] [] [(0,3),(0,3),(0,0),(0,0),(0,0),(0,0),(0,1),(0,1),(0,0),(0,2),(0,2),(0,2),(0,0),(3,3),(3,3),(0,0)] (by decide +kernel) (by decide +kernel) (by decide +kernel) (by decide +kernel) ?_
     simp -dsimp (maxSteps:=4000000) +contextual (disch:=first | omega | decide +kernel) only [↓vsD,vsE,↓Nat.reduceLT,simprocAttr,vdA,↓vd_end,↓vdm_go,↓vd_op,↓guard_none,↓guard_some,vcel,vgap,newsT1,bytesK,lenK,g1,hlT,hdl,List.append_assoc,List.length_append,List.length_cons]
     rw [if_neg (show ¬ k = 0 by omega)]
     exact ⟨rfl,rfl⟩
 ·obtain rfl:k = l.length:=by omega
  have hp:sPos l b i = l.length:=posL_uniq _ default hk hb (fun h=>absurd h (by omega))
  rw [hp]
  have hl1:¬ l.length = 0:=fun e=>hl0 (List.eq_nil_of_length_eq_zero e)
  simp -dsimp (maxSteps:=4000000) +contextual (disch:=first | omega | decide +kernel) only [↓vsD,vsE,↓Nat.reduceLT,simprocAttr,vcel,vgap,yo]
  obtain ⟨r0,R',hR'⟩:=htk l.length (by omega) (Nat.le_refl _)
  have hnT:=hnt l.length
  have hlT:(Rw.take l.length).length = l.length:=by rw [List.length_take]; omega
  have hD0:Rw.drop l.length = []:=List.drop_eq_nil_of_le (by omega)
  rw [hR'] at hnT hlT
  rw [List.length_cons] at hlT
  have g1:(r0 :: (R' ++ [[.int .i64 b,.int .i64 i,.nils]])).getD l.length [] = [.int .i64 b,.int .i64 i,.nils]:=by
   have g1:=ins_getD Rw l.length [.int .i64 b,.int .i64 i,.nils] [] (by omega) l.length
   rw [if_neg (by omega),if_pos rfl,hR',hD0,List.cons_append] at g1
   exact g1
  have n0:newsOk Tryz.prog 82 [] = true:=rfl
  refine v_draws _ _ _ _ _ _ [3,8,12] [] [(0,0),(0,0),(0,0),(0,0),(0,1),(0,1),(0,1),(0,1),(0,0),(0,2),(0,2),(0,2),(0,0),(3,3)] (by decide +kernel) (by decide +kernel) (by decide +kernel) (by decide +kernel) ?_
  simp -dsimp (maxSteps:=4000000) +contextual (disch:=first | omega | decide +kernel) only [↓vsD,vsE,↓Nat.reduceLT,simprocAttr,vdA,↓vd_end,↓vdm_go,↓vd_op,↓guard_none,↓guard_some,vcel,vgap,rows_mpre,rows_msuf,rwPre_some,rwSuf_some,newsSi,bytesK,lenK,yo,hrl,hR',hnT,hlT,hD0,n0,g1,List.append_assoc,List.length_append,List.length_cons]
  refine v_loopS (fun _:Nat=>[(0,.msl (Y.length + 1) 2),(7,.ptr Y.length 0 0 0),(9,.int .i64 l.length),(10,.nils),(11,.int .i64 0)]) (fun _=>Y ++ [.rows 79 2 [[.int .i64 0,.int .i64 c]] 0,.rows 82 3 (r0 :: (R' ++ [[.int .i64 b,.int .i64 i,.nils]])) 2]) (fun j=>j = 0) (fun j=>j) 0 (by simp [weaker,Go.PV.look]) rfl rfl ?_
  rintro j rfl
  simp -dsimp (maxSteps:=4000000) +contextual (disch:=first | omega | decide +kernel) only [↓vsD,vsE,↓Nat.reduceLT,simprocAttr,vcel]
  refine v_draws _ _ _ _ _ _ [5,8,12,15] [] [(0,3),(0,3),(0,0),(0,0),(0,0),(0,0),(0,1),(0,1),(0,0),(0,2),(0,2),(0,2),(0,0),(3,3),(3,3),(0,0)] (by decide +kernel) (by decide +kernel) (by decide +kernel) (by decide +kernel) ?_
  simp -dsimp (maxSteps:=4000000) +contextual (disch:=first | omega | decide +kernel) only [↓vsD,vsE,↓Nat.reduceLT,simprocAttr,vdA,↓vd_end,↓vdm_go,↓vd_op,↓guard_none,↓guard_some,vcel,vgap,newsT1,bytesK,lenK,g1,hlT,List.append_assoc,List.length_append,List.length_cons]
  rw [if_neg hl1]
  exact ⟨rfl,rfl⟩
theorem addT1_addSi (l:List Site) (b i c:Int):addT1 l b i (0,c) = addSi l ⟨b,i,[(0,c)]⟩:=by
 unfold addSi
 rw [if_neg (by simp)]; rfl
structure TgtR (Y:Store) (W:List Nat) (l2:List Site) (q:PV) (τ:Store) (W2:List Nat):Prop where
 r:RefL τ l2 q W2
 old:∀ j,j < Y.length → j ∉ W → τ[j]? = Y[j]?
 w:∀ j ∈ W2,j ∈ W ∨ Y.length ≤ j
 len:Y.length ≤ τ.length
theorem tgt_any {Y:Store} {l:List Site} {O:PV} {W:List Nat} (h:RefL Y l O W) (h1:One1 l) (hl:l.length ≤ 1000) (b i c:Int) (hc:0 ≤ c ∧ c ≤ 1099511627776) :
  ∃ q τ W2,PCall Tryz.prog 54 [O,.int .i64 b,.int .i64 i,.agg [.int .i64 0,.int .i64 c]] Y (fun q' τ'=>q' = q ∧ τ' = τ) ∧ TgtR Y W (addT1 l b i (0,c)) q τ W2:=by
 rcases h with ⟨rfl,rfl⟩ | ⟨h0,o,v,Rw,T,rfl,hR,hW,hT⟩
 ·have e:addT1 [] b i (0,c) = [⟨b,i,[(0,c)]⟩]:=by
   unfold addT1 sBase
   rw [if_neg (by unfold sHas; simp)]
   simp [sPos,posL,insT]
  refine ⟨_,_,[Y.length + 1,Y.length + 2],tgt_w0 Y b i c,⟨.inr ⟨by rw [e]; simp,Y.length + 1,1,_,fun _=>(Y.length + 2,1),rfl,⟨by rw [gappk]; rfl,by rw [e]; rfl,fun k hk=>?_,fun k hk=>?_,fun k hk=>by dsimp only; omega,fun k k2 hk hk2 hne=>?_⟩,by simp,fun _ _=>by simp⟩,fun j hj _=>List.getElem?_append_left hj,fun j hj=>?_,by simp⟩⟩
  ·rw [e] at hk ⊢
   obtain rfl:k = 0:=by simpa using hk
   rfl
  ·rw [e] at hk ⊢
   obtain rfl:k = 0:=by simpa using hk
   rw [gappk]; rfl
  ·rw [e] at hk hk2
   simp at hk hk2
   omega
  ·simp at hj; omega
 ·by_cases hn:sHas l b i
  ·obtain ⟨c0,ht,hc1,hc2⟩:=one_get h1 hn.1
   have hpl:=hn.1
   have htg:=hR.tg _ hpl
   have htl:=(List.getElem?_eq_some_iff.1 htg).1
   have hol:=(List.getElem?_eq_some_iff.1 hR.ob).1
   have e:addT1 l b i (0,c) = l.set (sPos l b i) ⟨b,i,[(0,plusI c0 c)]⟩:=by
    unfold addT1 sBase
    rw [if_pos hn,ht,insT_one]
   refine ⟨_,_,W,tgt_old Y l o v Rw T hR hl b i c c0 hn hc ⟨hc1,hc2⟩ ht,⟨.inr ⟨by rw [e]; simpa using h0,o,v,Rw,T,rfl,⟨?_,by rw [e,List.length_set]; exact hR.rl,fun k hk=>?_,fun k hk=>?_,fun k hk=>?_,fun k k2 hk hk2 hne=>?_⟩,hW,fun k hk=>?_⟩,fun j hj hjw=>?_,fun j hj=>.inl hj,by simp⟩⟩
   ·rw [List.getElem?_set_ne (hR.no _ hpl),List.getElem?_append_left hol,hR.ob]
   ·rw [e,List.length_set] at hk
    rw [hR.rw k hk,e,getD_set2 _ _ _ _ _ hpl]
    by_cases hk2:sPos l b i = k
    ·rw [if_pos hk2,← hk2,hn.2.1,hn.2.2]
    ·rw [if_neg hk2]
   ·rw [e,List.length_set] at hk
    rw [e,getD_set2 _ _ _ _ _ hpl]
    by_cases hk2:sPos l b i = k
    ·rw [if_pos hk2,← hk2,List.getElem?_set_self (by simp; omega)]; rfl
    ·rw [if_neg hk2,List.getElem?_set_ne (hR.ap _ _ hpl hk hk2),List.getElem?_append_left (List.getElem?_eq_some_iff.1 (hR.tg k hk)).1]
     exact hR.tg k hk
   ·rw [e,List.length_set] at hk
    exact hR.no k hk
   ·rw [e,List.length_set] at hk hk2
    exact hR.ap k k2 hk hk2 hne
   ·rw [e,List.length_set] at hk
    exact hT k hk
   ·have:(T (sPos l b i)).1 ≠ j:=fun h=>hjw (h ▸ hT _ hpl)
    rw [List.getElem?_set_ne this,List.getElem?_append_left hj]
  ·have hp:=sPos_le l b i
   have hrl:=hR.rl
   have e:addT1 l b i (0,c) = (l.take (sPos l b i) ++ ⟨b,i,[]⟩ :: l.drop (sPos l b i)).set (sPos l b i) ⟨b,i,[(0,c)]⟩:=by
    unfold addT1
    have h2:(sBase l b i).getD (sPos l b i) default = ⟨b,i,[]⟩:=by
     unfold sBase
     rw [if_neg hn,ins_getD _ _ _ _ hp,if_neg (by omega),if_pos rfl]
    rw [h2,insT_nil1]
    unfold sBase
    rw [if_neg hn]
   have hel:(addT1 l b i (0,c)).length = l.length + 1:=by rw [e]; simp; omega
   have hil:sPos l b i < (l.take (sPos l b i) ++ ⟨b,i,[]⟩ :: l.drop (sPos l b i)).length:=by simp; omega
   have hir:sPos l b i < (Rw.take (sPos l b i) ++ [.int .i64 b,.int .i64 i,.nils] :: Rw.drop (sPos l b i)).length:=by simp; omega
   have hkey:∀ k,k < l.length + 1 → (addT1 l b i (0,c)).getD k default = if k = sPos l b i then ⟨b,i,[(0,c)]⟩ else if k < sPos l b i then l.getD k default else l.getD (k - 1) default:=fun k hk=>by
    rw [e,getD_set2 _ _ _ _ _ hil,ins_getD _ _ _ _ hp]
    by_cases h3:sPos l b i = k
    ·rw [if_pos h3,if_pos h3.symm]
    ·have h3':=Ne.symm h3
     by_cases h4:k < sPos l b i
     ·simp only [if_neg h3,if_pos h4,if_neg h3']
     ·simp only [if_neg h3,if_neg h4,if_neg h3']
   have htlt:∀ k,k < l.length → (T k).1 < Y.length:=fun k hk=>(List.getElem?_eq_some_iff.1 (hR.tg k hk)).1
   refine ⟨_,_,(Y.length + 1) :: (Y.length + 2) :: W,tgt_new Y l o v Rw T hR hl h0 b i c hn,⟨.inr ⟨fun e2=>by rw [e2] at hel; simp at hel,Y.length + 1,_,_,fun k=>if k = sPos l b i then (Y.length + 2,1) else if k < sPos l b i then T k else T (k - 1),rfl,⟨by rw [gappk]; rfl,by rw [hel]; simp; omega,fun k hk=>?_,fun k hk=>?_,fun k hk=>?_,fun k k2 hk hk2 hne=>?_⟩,by simp,fun k hk=>?_⟩,fun j hj _=>List.getElem?_append_left hj,fun j hj=>?_,by simp⟩⟩
   ·rw [hel] at hk
    rw [hkey k hk,getD_set2 _ _ _ _ _ hir,ins_getD _ _ _ _ (by omega)]
    by_cases h3:k = sPos l b i
    ·rw [if_pos h3.symm,if_pos h3,if_pos h3]
    ·have h3':=Ne.symm h3
     by_cases h4:k < sPos l b i
     ·simp only [if_neg h3,if_pos h4,if_neg h3']; exact hR.rw k (by omega)
     ·simp only [if_neg h3,if_neg h4,if_neg h3']; exact hR.rw (k - 1) (by omega)
   ·rw [hel] at hk
    rw [hkey k hk]
    by_cases h3:k = sPos l b i
    ·rw [if_pos h3,if_pos h3,gappk]; rfl
    ·rw [if_neg h3,if_neg h3]
     by_cases h4:k < sPos l b i
     ·rw [if_pos h4,if_pos h4,List.getElem?_append_left (htlt k (by omega))]; exact hR.tg k (by omega)
     ·rw [if_neg h4,if_neg h4,List.getElem?_append_left (htlt (k - 1) (by omega))]; exact hR.tg (k - 1) (by omega)
   ·rw [hel] at hk
    by_cases h3:k = sPos l b i
    ·rw [if_pos h3]; dsimp only; omega
    ·rw [if_neg h3]
     by_cases h4:k < sPos l b i
     ·rw [if_pos h4]; have:=htlt k (by omega); omega
     ·rw [if_neg h4]; have:=htlt (k - 1) (by omega); omega
   ·rw [hel] at hk hk2
    have q:∀ k,k < l.length + 1 → (if k = sPos l b i then (Y.length + 2,1) else if k < sPos l b i then T k else T (k - 1)) = if k = sPos l b i then (Y.length + 2,1) else T (if k < sPos l b i then k else k - 1):=fun k hk=>by
     by_cases h3:k = sPos l b i
     ·rw [if_pos h3,if_pos h3]
     ·rw [if_neg h3,if_neg h3]
      by_cases h4:k < sPos l b i
      ·rw [if_pos h4,if_pos h4]
      ·rw [if_neg h4,if_neg h4]
    rw [q k hk,q k2 hk2]
    have hb1:k ≠ sPos l b i → (if k < sPos l b i then k else k - 1) < l.length:=fun h=>by split <;> omega
    have hb2:k2 ≠ sPos l b i → (if k2 < sPos l b i then k2 else k2 - 1) < l.length:=fun h=>by split <;> omega
    by_cases h3:k = sPos l b i
    ·rw [if_pos h3,if_neg (by omega)]
     have:=htlt _ (hb2 (by omega))
     dsimp only; omega
    ·rw [if_neg h3]
     by_cases h5:k2 = sPos l b i
     ·rw [if_pos h5]
      have:=htlt _ (hb1 h3)
      dsimp only; omega
     ·rw [if_neg h5]
      refine hR.ap _ _ (hb1 h3) (hb2 h5) ?_
      split <;> split <;> omega
   ·rw [hel] at hk
    dsimp only
    by_cases h3:k = sPos l b i
    ·rw [if_pos h3]; simp
    ·rw [if_neg h3]
     by_cases h4:k < sPos l b i
     ·rw [if_pos h4]; simp [hT k (by omega)]
     ·rw [if_neg h4]; simp [hT (k - 1) (by omega)]
   ·simp only [List.mem_cons] at hj
    rcases hj with rfl | rfl | hj
    ·right; omega
    ·right; omega
    ·exact .inl hj
theorem seq_ex {Y:Store} {l:List Site} {O:PV} {W:List Nat} (h:RefL Y l O W) (h1:One1 l) (hs:SoS l) (m:List Site) (hm:One1 m) (hl:l.length + m.length ≤ 1000):∀ n,n ≤ m.length →
  ∃ f:Nat → PV × Store × List Nat,f 0 = (O,Y,W) ∧ (∀ k,k ≤ n → TgtR Y W (addSs l (m.take k)) (f k).1 (f k).2.1 (f k).2.2 ∧ One1 (addSs l (m.take k)) ∧ (addSs l (m.take k)).length ≤ l.length + k) ∧
   ∀ k,k < n → ∀ c:Int,(m.getD k default).tg = [(0,c)] → PCall Tryz.prog 54 [(f k).1,.int .i64 (m.getD k default).blk,.int .i64 (m.getD k default).ins,.agg [.int .i64 0,.int .i64 c]] (f k).2.1 (fun q' τ'=>q' = (f (k + 1)).1 ∧ τ' = (f (k + 1)).2.1)
 | 0,_=>⟨fun _=>(O,Y,W),rfl,fun k hk=>by
   obtain rfl:k = 0:=by omega
   exact ⟨⟨h,fun _ _ _=>rfl,fun j hj=>.inl hj,Nat.le_refl _⟩,h1,Nat.le_refl _⟩,fun k hk=>absurd hk (Nat.not_lt_zero _)⟩
 | n + 1,hn=>by
  obtain ⟨f,h2,h3,h4⟩:=seq_ex h h1 hs m hm hl n (by omega)
  obtain ⟨hr,ho,hle⟩:=h3 n (Nat.le_refl _)
  obtain ⟨c,hc,hcr⟩:=one_get hm (show n < m.length by omega)
  obtain ⟨q,τ,W2,hp,ht⟩:=tgt_any hr.r ho (by omega) (m.getD n default).blk (m.getD n default).ins c hcr
  have hadd:addSs l (m.take (n + 1)) = addT1 (addSs l (m.take n)) (m.getD n default).blk (m.getD n default).ins (0,c):=by
   unfold addSs
   rw [take_succD m n (by omega),List.foldl_append,addT1_addSi]
   show addSi _ (m.getD n default) = addSi _ _
   congr 1
   cases hx:m.getD n default
   rw [hx] at hc
   dsimp only at hc ⊢
   rw [hc]
  obtain ⟨g,hg⟩:∃ g:Nat → PV × Store × List Nat,g = fun j=>if j = n + 1 then (q,τ,W2) else f j:=⟨_,rfl⟩
  have g1:g (n + 1) = (q,τ,W2):=by rw [hg]; simp
  have g2:∀ j,j ≤ n → g j = f j:=fun j hj=>by rw [hg]; dsimp only; rw [if_neg (by omega)]
  refine ⟨g,by rw [g2 0 (by omega)]; exact h2,fun k hk=>?_,fun k hk c' hc'=>?_⟩
  ·by_cases hk2:k = n + 1
   ·subst hk2
    rw [g1,hadd]
    refine ⟨⟨ht.r,fun j hj hw=>?_,fun j hj=>?_,Nat.le_trans hr.len ht.len⟩,?_,?_⟩
    ·rw [ht.old j (Nat.lt_of_lt_of_le hj hr.len) (fun h=>by
      rcases hr.w j h with h | h
      ·exact hw h
      ·omega),hr.old j hj hw]
    ·rcases ht.w j hj with h | h
     ·exact hr.w j h
     ·exact .inr (Nat.le_trans hr.len h)
    ·rw [addT1_addSi]; exact addSi_one ho rfl hcr
    ·rw [addT1_addSi]
     have:=addSi_len (addSs l (m.take n)) ⟨(m.getD n default).blk,(m.getD n default).ins,[(0,c)]⟩
     omega
   ·rw [g2 k (by omega)]
    exact h3 k (by omega)
  ·by_cases hk2:k = n
   ·subst hk2
    rw [g2 k (by omega),g1]
    rw [hc] at hc'
    simp at hc'
    rw [← hc']
    exact hp
   ·rw [g2 k (by omega),g2 (k + 1) (by omega)]
    exact h4 k (by omega) c' hc'
set_option maxRecDepth 8000 in
set_option maxHeartbeats 16000000 in
theorem addS_any {Y:Store} {l:List Site} {O:PV} {W:List Nat} (h:RefL Y l O W) (h1:One1 l) (hs:SoS l) (m:List Site) (hm:One1 m) (hl:l.length + m.length ≤ 1000) :
  ∃ q τ W2,PCall Tryz.prog 31 [O,.sl (encS m)] Y (fun q' τ'=>q' = q ∧ τ' = τ) ∧ TgtR Y W (addSs l m) q τ W2:=by
 obtain ⟨f,h2,h3,h4⟩:=seq_ex h h1 hs m hm hl m.length (Nat.le_refl _)
 have hend:=(h3 m.length (Nat.le_refl _)).1
 rw [List.take_length] at hend
 refine ⟨(f m.length).1,(f m.length).2.1,(f m.length).2.2,?_,hend⟩
 have k0:∀ args σ,noE.f 54 args σ = none:=fun _ _=>rfl
 have e0:O = (f 0).1:=by rw [h2]
 have e1:Y = (f 0).2.1:=by rw [h2]
 rw [e0,e1]
 refine PCall.vraw [] 1049727 44 [.tmp 4] (noE_ok _) mix Tryz.func31 rfl (by decide) rfl rfl (by simp) ?_
 simp -dsimp only [initFr,List.zipIdx_cons,List.zipIdx_nil,List.map_cons,List.map_nil,Nat.zero_add,Nat.reduceAdd]
 simp -dsimp (maxSteps:=4000000) +contextual (disch:=first | omega | decide +kernel) only [↓vsD,vsE,↓Nat.reduceLT,simprocAttr,vcel]
 refine v_loopS (fun k:Nat=>[(0,(f k).1),(1,.sl (encS m)),(5,.int .i64 k)]) (fun k=>(f k).2.1) (fun k=>k ≤ m.length) (fun k=>m.length - k) 0 (by simp [weaker,Go.PV.look]) rfl (Nat.zero_le _) ?_
 intro k hk
 by_cases hkm:k < m.length
 ·obtain ⟨c,hc,hcr⟩:=one_get hm hkm
  have hp:=h4 k hkm c hc
  have hrow:=encS_getD m k hkm
  rw [hc] at hrow
  have t1:(encT [(0,c)]).length = 1:=rfl
  have t2:(encT [(0,c)]).getD 0 [] = [.int .i64 0,.int .i64 c]:=rfl
  simp -dsimp (maxSteps:=4000000) +contextual (disch:=first | omega | decide +kernel) only [↓vsD,vsE,↓Nat.reduceLT,simprocAttr,vcel,encS_length,hrow]
  refine v_loopS (fun j:Nat=>[(0,(f (k + j)).1),(1,.sl (encS m)),(5,.int .i64 k),(6,.int .i64 j)]) (fun j=>(f (k + j)).2.1) (fun j=>j ≤ 1) (fun j=>1 - j) 0 (by simp [weaker,Go.PV.look]) rfl (Nat.zero_le _) ?_
  intro j hj
  rcases (show j = 0 ∨ j = 1 by omega) with rfl | rfl
  ·rw [Nat.add_zero]
   simp -dsimp (maxSteps:=4000000) +contextual (disch:=first | omega | decide +kernel) only [↓vsD,vsE,↓Nat.reduceLT,simprocAttr,vcel,encS_length,hrow,t1,t2]
   refine v_draws _ _ _ _ _ _ [19] [] [(0,0),(0,0),(0,0),(0,0),(0,0),(0,0),(0,0),(0,0),(0,0),(0,0),(0,0),(0,0),(0,0),(0,0),(0,0),(0,0),(0,0),(0,0),(0,0),(0,0),(1,1)] (by decide +kernel) (by decide +kernel) (by decide +kernel) (by decide +kernel) ?_
   simp -dsimp (maxSteps:=4000000) +contextual (disch:=first | omega | decide +kernel) only [↓vsD,vsE,↓Nat.reduceLT,simprocAttr,vdA,↓vd_end,↓vdm_go,↓vd_op,↓guard_none,↓guard_some,vcel,encS_length,hrow,t1,t2,k0]
   refine ⟨_,_,hp,by simp [rowsAt,outR],?_⟩
   simp -dsimp (maxSteps:=4000000) +contextual (disch:=first | omega | decide +kernel) only [↓vsD,vsE,↓Nat.reduceLT,simprocAttr,vdA,↓vd_end,↓vdm_go,↓vd_op,↓guard_none,↓guard_some,vcel,encS_length,hrow,t1,t2,k0]
   exact ⟨1,(by (try dsimp only); omega),(by simp [weaker,Go.PV.look]),rfl,by omega⟩
  ·simp -dsimp (maxSteps:=4000000) +contextual (disch:=first | omega | decide +kernel) only [↓vsD,vsE,↓Nat.reduceLT,simprocAttr,vcel,encS_length,hrow,t1]
   exact ⟨k + 1,(by (try dsimp only); omega),(by simp [weaker,Go.PV.look]),rfl,hkm⟩
 ·obtain rfl:k = m.length:=by omega
  simp -dsimp (maxSteps:=4000000) +contextual (disch:=first | omega | decide +kernel) only [↓vsD,vsE,↓Nat.reduceLT,simprocAttr,vcel,encS_length]
end Go.Proofs.YthjoehaglonjaaaGreat
