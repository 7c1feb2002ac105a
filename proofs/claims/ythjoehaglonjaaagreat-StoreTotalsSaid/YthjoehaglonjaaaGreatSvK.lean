import Derived.Test.YthjoehaglonjaaaGreatSvC
set_option maxRecDepth 8000
set_option linter.unusedSimpArgs false
set_option linter.unusedVariables false
namespace Go.Proofs.YthjoehaglonjaaaGreat
open Go.PV
structure RefR (Y:Store) (l:List Site) (o v:Nat) (Rw:List (List PV)) (T:Nat → Nat × Nat):Prop where
 ob:Y[o]? = some (.rows 82 3 Rw v)
 rl:Rw.length = l.length
 rw:∀ i,i < l.length → Rw.getD i [] = [.int .i64 (l.getD i default).blk,.int .i64 (l.getD i default).ins,.msl (T i).1 (T i).2]
 tg:∀ i,i < l.length → Y[(T i).1]? = some (.rows 79 2 (encT (l.getD i default).tg) (T i).2)
 no:∀ i,i < l.length → (T i).1 ≠ o
 ap:∀ i j,i < l.length → j < l.length → i ≠ j → (T i).1 ≠ (T j).1
def RefL (Y:Store) (l:List Site) (O:PV) (W:List Nat):Prop:=(l = [] ∧ O = .nils) ∨ (l ≠ [] ∧ ∃ o v Rw T,O = .msl o v ∧ RefR Y l o v Rw T ∧ o ∈ W ∧ ∀ i,i < l.length → (T i).1 ∈ W)
theorem RefL.keep {Y Z:Store} {l:List Site} {O:PV} {W:List Nat} (h:RefL Y l O W) (hz:∀ j,j ∈ W → j < Y.length → Z[j]? = Y[j]?):RefL Z l O W:=by
 rcases h with h | ⟨h0,o,v,Rw,T,h1,h2,h3,h4⟩
 ·exact .inl h
 ·refine .inr ⟨h0,o,v,Rw,T,h1,⟨?_,h2.rl,h2.rw,fun i hi=>?_,h2.no,h2.ap⟩,h3,h4⟩
  ·rw [hz o h3 (List.getElem?_eq_some_iff.1 h2.ob).1,h2.ob]
  ·have:=h2.tg i hi
   rw [hz _ (h4 i hi) (List.getElem?_eq_some_iff.1 this).1,this]
theorem RefL.lt {Y:Store} {l:List Site} {O:PV} {W:List Nat} (h:RefL Y l O W) {o v:Nat} (e:O = .msl o v):o < Y.length ∧ o ∈ W:=by
 rcases h with ⟨_,h⟩ | ⟨h0,o',v',Rw,T,h1,h2,h3,h4⟩
 ·rw [h] at e; cases e
 ·rw [h1] at e; cases e
  exact ⟨(List.getElem?_eq_some_iff.1 h2.ob).1,h3⟩
theorem RefL.frz {Y:Store} {l:List Site} {O:PV} {W:List Nat} (h:RefL Y l O W) (h1:One1 l):Frz 0 Y O (.sl (encS l)):=by
 rcases h with ⟨rfl,rfl⟩ | ⟨h0,o,v,Rw,T,rfl,h2,_,_⟩
 ·exact .nils
 ·refine RowsR.frz (o:=o) ⟨h2.rl,fun i hi=>⟨_,h2.rw i hi,?_⟩⟩ h2.ob
  obtain ⟨c,hc,_⟩:=one_get h1 hi
  exact .inr ⟨by rw [hc]; simp,.inr ⟨_,_,rfl,h2.no i hi,h2.tg i hi⟩⟩
theorem newsT1 (a b:Int):newsOk Tryz.prog 79 [[.int .i64 a,.int .i64 b]] = true:=by simp [newsOk,PV.cell,tyC]
set_option maxRecDepth 8000 in
set_option maxHeartbeats 8000000 in
theorem tgt_w0 (Y:Store) (b i c:Int):PCall Tryz.prog 54 [.nils,.int .i64 b,.int .i64 i,.agg [.int .i64 0,.int .i64 c]] Y (fun q τ=>q = .msl (Y.length + 1) 1 ∧ τ = Y ++ [.rows 79 2 [[.int .i64 0,.int .i64 c]] 0,.rows 82 3 [[.int .i64 b,.int .i64 i,.msl (Y.length + 2) 1]] 1,.rows 79 2 [[.int .i64 0,.int .i64 c]] 1]):=by
 refine PCall.vraw [69,78,133,140] 20769504346789441358453052377403391 145 [.tmp 8] (noE_ok _) mix Tryz.func54 rfl (by decide) rfl rfl (by simp) ?_
 simp -dsimp only [initFr,List.zipIdx_cons,List.zipIdx_nil,List.map_cons,List.map_nil,Nat.zero_add,Nat.reduceAdd]
 simp -dsimp (maxSteps:=4000000) +contextual (disch:=first | omega | decide +kernel) only [↓vsD,vsE,↓Nat.reduceLT,simprocAttr,vcel]
 refine v_loopS (fun k:Nat=>[(0,.nils),(1,.int .i64 b),(2,.int .i64 i),(7,.ptr Y.length 0 0 0),(9,.int .i64 0)]) (fun _=>Y ++ [.rows 79 2 [[.int .i64 0,.int .i64 c]] 0]) (fun k=>k = 0) (fun k=>k) 0 (by simp [weaker,Go.PV.look]) rfl rfl ?_
 rintro k rfl
 simp -dsimp (maxSteps:=4000000) +contextual (disch:=first | omega | decide +kernel) only [↓vsD,vsE,↓Nat.reduceLT,simprocAttr,vcel]
 refine v_draws _ _ _ _ _ _ [3,8,12] [] [(0,0),(0,0),(0,0),(0,0),(0,1),(0,1),(0,1),(0,1),(0,0),(0,2),(0,2),(0,2),(0,0),(3,3)] (by decide +kernel) (by decide +kernel) (by decide +kernel) (by decide +kernel) ?_
 simp -dsimp (maxSteps:=4000000) +contextual (disch:=first | omega | decide +kernel) only [↓vsD,vsE,↓Nat.reduceLT,simprocAttr,vdA,↓vd_end,↓vdm_go,↓vd_op,↓guard_none,↓guard_some,vcel,vgap,newsSi,bytesK,lenK]
 refine v_loopS (fun k:Nat=>[(0,.msl (Y.length + 1) 1),(7,.ptr Y.length 0 0 0),(9,.int .i64 0),(10,.nils),(11,.int .i64 0)]) (fun _=>Y ++ [.rows 79 2 [[.int .i64 0,.int .i64 c]] 0,.rows 82 3 [[.int .i64 b,.int .i64 i,.nils]] 1]) (fun k=>k = 0) (fun k=>k) 0 (by simp [weaker,Go.PV.look]) rfl rfl ?_
 rintro k rfl
 simp -dsimp (maxSteps:=4000000) +contextual (disch:=first | omega | decide +kernel) only [↓vsD,vsE,↓Nat.reduceLT,simprocAttr,vcel]
 refine v_draws _ _ _ _ _ _ [5,8,12,15] [] [(0,3),(0,3),(0,0),(0,0),(0,0),(0,0),(0,1),(0,1),(0,0),(0,2),(0,2),(0,2),(0,0),(3,3),(3,3),(0,0)] (by decide +kernel) (by decide +kernel) (by decide +kernel) (by decide +kernel) ?_
 simp -dsimp (maxSteps:=4000000) +contextual (disch:=first | omega | decide +kernel) only [↓vsD,vsE,↓Nat.reduceLT,simprocAttr,vdA,↓vd_end,↓vdm_go,↓vd_op,↓guard_none,↓guard_some,vcel,vgap,newsT1,bytesK,lenK,List.append_assoc,List.length_append]
set_option maxRecDepth 8000 in
set_option maxHeartbeats 16000000 in
theorem tgt_old (Y:Store) (l:List Site) (o v:Nat) (Rw:List (List PV)) (T:Nat → Nat × Nat) (h:RefR Y l o v Rw T) (hl:l.length ≤ 1000) (b i c c0:Int) (hn:sHas l b i) (hc:0 ≤ c ∧ c ≤ 1099511627776) (h0:0 ≤ c0 ∧ c0 ≤ 1099511627776) (ht:(l.getD (sPos l b i) default).tg = [(0,c0)]) :
  PCall Tryz.prog 54 [.msl o v,.int .i64 b,.int .i64 i,.agg [.int .i64 0,.int .i64 c]] Y (fun q τ=>q = .msl o v ∧ τ = (Y ++ [Go.PV.Obj.rows 79 2 [[.int .i64 0,.int .i64 c]] 0]).set (T (sPos l b i)).1 (.rows 79 2 [[.int .i64 0,.int .i64 (plusI c0 c)]] (T (sPos l b i)).2)):=by
 have hol:=(List.getElem?_eq_some_iff.1 h.ob).1
 have yo:∀ X:Store,(Y ++ X)[o]? = some (.rows 82 3 Rw v):=fun X=>by rw [List.getElem?_append_left hol,h.ob]
 have hrl:=h.rl
 have hpl:=hn.1
 have hat:=hn.2
 obtain ⟨P,hP⟩:∃ P,P = sPos l b i:=⟨_,rfl⟩
 rw [← hP] at hpl hat ht ⊢
 obtain ⟨t,ht1⟩:∃ t,t = (T P).1:=⟨_,rfl⟩
 obtain ⟨u,hu1⟩:∃ u,u = (T P).2:=⟨_,rfl⟩
 have htg:=h.tg P hpl
 have hrP:=h.rw P hpl
 rw [ht,← ht1,← hu1] at htg
 rw [← ht1,← hu1,hat.1,hat.2] at hrP
 rw [← ht1,← hu1]
 have htl:=(List.getElem?_eq_some_iff.1 htg).1
 have yt:∀ X:Store,(Y ++ X)[t]? = some (.rows 79 2 (encT [(0,c0)]) u):=fun X=>by rw [List.getElem?_append_left htl,htg]
 have e1:(encT [(0,c0)]).length = 1:=rfl
 have e2:(encT [(0,c0)]).getD 0 [] = [.int .i64 0,.int .i64 c0]:=rfl
 have e3:plusI c0 c = min (c0 + c) 1099511627776:=plusI_ok h0.1 hc.1
 refine PCall.vraw [69,78,133,140] 20769504346789441358453052377403391 145 [.tmp 8] (noE_ok _) mix Tryz.func54 rfl (by decide) rfl rfl (by simp) ?_
 simp -dsimp only [initFr,List.zipIdx_cons,List.zipIdx_nil,List.map_cons,List.map_nil,Nat.zero_add,Nat.reduceAdd]
 simp -dsimp (maxSteps:=4000000) +contextual (disch:=first | omega | decide +kernel) only [↓vsD,vsE,↓Nat.reduceLT,simprocAttr,vcel]
 refine v_loopS (fun k:Nat=>[(0,.msl o v),(1,.int .i64 b),(2,.int .i64 i),(7,.ptr Y.length 0 0 0),(9,.int .i64 k)]) (fun _=>Y ++ [.rows 79 2 [[.int .i64 0,.int .i64 c]] 0]) (fun k=>k ≤ P) (fun k=>P - k) 0 (by simp [weaker,Go.PV.look]) rfl (Nat.zero_le _) ?_
 intro k hk
 by_cases hkP:k < P
 ·have r1:=h.rw k (by omega)
  have hb2:(l.getD k default).blk < b ∨ (l.getD k default).blk = b ∧ (l.getD k default).ins < i:=of_decide_eq_true (posL_lt (bef b i) default l k (by show k < sPos l b i; omega))
  simp -dsimp (maxSteps:=4000000) +contextual (disch:=first | omega | decide +kernel) only [↓vsD,vsE,↓Nat.reduceLT,simprocAttr,vcel,vgap,yo,r1]
  exact ⟨fun h1=>⟨k + 1,(by (try dsimp only); omega),(by simp [weaker,Go.PV.look]),rfl,hkP⟩,fun h1=>⟨k + 1,(by (try dsimp only); omega),(by simp [weaker,Go.PV.look]),rfl,hkP⟩⟩
 ·obtain rfl:k = P:=by omega
  simp -dsimp (maxSteps:=4000000) +contextual (disch:=first | omega | decide +kernel) only [↓vsD,vsE,↓Nat.reduceLT,simprocAttr,vcel,vgap,yo,hrP]
  refine v_loopS (fun j:Nat=>[(0,.msl o v),(7,.ptr Y.length 0 0 0),(9,.int .i64 k),(10,.msl t u),(11,.int .i64 0)]) (fun _=>Y ++ [.rows 79 2 [[.int .i64 0,.int .i64 c]] 0]) (fun j=>j = 0) (fun j=>j) 0 (by simp [weaker,Go.PV.look]) rfl rfl ?_
  rintro j rfl
  simp -dsimp (maxSteps:=4000000) +contextual (disch:=first | omega | decide +kernel) only [↓vsD,vsE,↓Nat.reduceLT,simprocAttr,vcel,vgap,yo,yt,e1,e2]
  refine v_draws _ _ _ _ _ _ [13] [] [(0,0),(0,0),(0,0),(0,0),(0,0),(0,0),(0,0),(0,0),(0,0),(0,0),(0,0),(0,0),(0,0),(0,0)] (by decide +kernel) (by decide +kernel) (by decide +kernel) (by decide +kernel) ?_
  simp -dsimp (maxSteps:=4000000) +contextual (disch:=first | omega | decide +kernel) only [↓vsD,vsE,↓Nat.reduceLT,simprocAttr,vdA,↓vd_end,↓vdm_go,↓vd_op,↓guard_none,↓guard_some,vcel,vgap,yo,yt,e1,e2]
  have e4:(if 1099511627776 < c0 + c then (1099511627776:Int) else c0 + c) = plusI c0 c:=by rw [e3]; split <;> omega
  rw [e4]; rfl
end Go.Proofs.YthjoehaglonjaaaGreat
