import Derived.Test.YtangodmcbmeeaaaBoH
set_option maxRecDepth 8000
set_option linter.unusedSimpArgs false
set_option linter.unusedVariables false
namespace Go.Proofs.Ytangodmcbmeeaaa
open Go.PV
theorem run_take (s:CS) (l:List Way) (k:Nat) (h:k < l.length):runC (l.take (k + 1)) s = stepC (runC (l.take k) s) (l.getD k default):=by
 rw [runC,List.take_add_one,List.getElem?_eq_getElem h,Option.toList_some,List.foldl_append,getDB h]; rfl
theorem mem_flat_len {l:List Int} {L:List (List Int)} (h:l ∈ L):l.length ≤ L.flatten.length:=by
 obtain ⟨a,b,rfl⟩:=List.append_of_mem h
 rw [List.flatten_append,List.flatten_cons,List.length_append,List.length_append]; omega
theorem CI.chainLen {n:Nat} {s:CS} (h:CI n s) {x:Nat} (hx:x < n):(chain s x).length ≤ n:=by
 have h1:=mem_flat_len (l:=chain s x) (L:=s.gs.map (·.1)) (List.mem_map.2 ⟨_,getDmB (d:=default) (by rw [h.gl]; exact hx),rfl⟩)
 rwa [h.all.length_eq,natB_length] at h1
def chF (T:List TermI) (E:List (Int × Int)):CS:=runC (stb wayLt (waysF T E T.length)) (initC T.length)
set_option maxRecDepth 8000 in
set_option maxHeartbeats 64000000 in
theorem chains_walk (nm:PV) (hnm:PV.cell nm = true) {T:List TermI} {B:List Int} {E:List (Int × Int)} (h:GoodB T B E) (hk:∀ t ∈ T,t.kind = 2 ∨ t.kind = 3) (hne:waysF T E T.length ≠ []) (hn2:2 ≤ T.length)
  (nB:Nat) (hnB:T.length = nB + 1) (RE:List (ChE nB)) (hRE:RE.map (·.1) = restC (chF T E)) :
  PCall Try.prog 33 [fnV nm T,cnV B E] [] (fun p _=>p = .sl (ints (chain (chF T E) 0 ++ ((stb (chLt B) RE).map (·.1)).flatten))):=by
 have hways:=ways_raw nm hnm h hk hne
 have hn:=h.n
 have hn0:=h.n0
 have hlb:=h.lb
 have hst:=stb_all way_weak (waysF T E T.length)
 have hci0:=CI.init hn0
 have hLw:∀ w ∈ stb wayLt (waysF T E T.length),w.fr < T.length ∧ w.to < T.length ∧ 0 ≤ w.cnt ∧ w.cnt ≤ 1000:=fun w hw=>h.way (hst.p.mem_iff.1 hw)
 obtain ⟨L,hL⟩:∃ L,L = waysF T E T.length:=⟨_,rfl⟩
 have hLl:L.length ≤ 80:=by
  have:=waysF_len T E T.length
  rw [hL]; omega
 have hcf:chF T E = runC (stb wayLt L) (initC T.length):=by rw [hL]; rfl
 rw [← hL] at hways hst hLw hne
 obtain ⟨n,hnd⟩:∃ n,n = T.length:=⟨_,rfl⟩
 have k0:∀ args σ,noE.f 36 args σ = none:=fun _ _=>rfl
 have k1:∀ args σ,noE.f 56 args σ = none:=fun _ _=>rfl
 have k2:∀ args σ,noE.f 61 args σ = none:=fun _ _=>rfl
 have k3:∀ args σ,noE.f 60 args σ = none:=fun _ _=>rfl
 have k4:∀ args σ,noE.f 63 args σ = none:=fun _ _=>rfl
 have k5:∀ args σ,noE.f 66 args σ = none:=fun _ _=>rfl
 unfold fnV cnV at hways ⊢
 refine PCall.vfrz [37,144] 1222015178620013144098353992302591 148 [.tmp 4] (noE_ok _) mix Try.func33 rfl (by decide) rfl rfl (by simp) ?_
 simp -dsimp only [initFr,List.zipIdx_cons,List.zipIdx_nil,List.map_cons,List.map_nil,Nat.zero_add,Nat.reduceAdd]
 simp -dsimp (maxSteps:=4000000) +contextual (disch:=first | omega | decide +kernel) only [↓vsD,vsE,↓Nat.reduceLT,simprocAttr,vcel,hnm,encT_length,bytesB,lenB]
 refine v_draws _ _ _ _ _ _ [7] [3] [(0,1),(0,1),(0,1),(0,1),(0,0),(0,0),(0,0),(0,0),(0,1),(1,1)] (by decide +kernel) (by decide +kernel) (by decide +kernel) (by decide +kernel) ?_
 simp -dsimp (maxSteps:=4000000) +contextual (disch:=first | omega | decide +kernel) only [↓vsD,vsE,↓Nat.reduceLT,simprocAttr,vdA,↓vd_end,↓vdm_go,↓vd_op,↓guard_none,↓guard_some,vcel,hnm,encT_length,bytesB,lenB]
 obtain ⟨fb,hfb⟩:∃ fb,fb = Go.PV.Obj.rows 28 4 [[nm,.int .i64 0,.int .i64 1,.sl (encT T)]] 0:=⟨_,rfl⟩
 obtain ⟨cb,hcb⟩:∃ cb,cb = cnRow B E:=⟨_,rfl⟩
 rw [gsA_none]
 refine v_loopS (fun k:Nat=>[(2,.ptr 0 0 0 0),(3,.ptr 1 0 0 0),(5,.msl 2 0),(6,.msl 3 0),(27,.int .i64 T.length),(28,.int .i64 (k:Int))]) (fun k=>chS fb cb ⟨gsA T.length k,natB k ++ List.replicate (T.length - k) 0⟩ (qA k)) (fun k=>k ≤ T.length) (fun k=>T.length - k) 0 (by simp [weaker,Go.PV.look]) (by rw [hfb,hcb]; simp [chS,cnRow,natB,qA,ints,PV.encI]) (Nat.zero_le _) ?_
 intro k hkn
 by_cases hkl:k < T.length
 ·have e1:=encG_set1 (gsA T.length k) k [(k:Int)] 0 (by simp)
  rw [gsA_set _ _ hkl] at e1
  have e2:=qA_succ k
  have e3:=qA_length k
  have e4:=gsA_length T.length k
  have e5:(natB k ++ List.replicate (T.length - k) (0:Int)).length = T.length:=by rw [List.length_append,natB_length,List.length_replicate]; omega
  have e6:(natB k ++ List.replicate (T.length - k) 0).set k (k:Int) = natB (k + 1) ++ List.replicate (T.length - (k + 1)) 0:=by
   rw [List.set_append_right _ _ (by rw [natB_length]; exact Nat.le_refl _),natB_length,Nat.sub_self,show T.length - k = (T.length - (k + 1)) + 1 by omega,List.replicate_succ,List.set_cons_zero,natB_succ,List.append_assoc]; rfl
  have isl:∀ (A:List Int) (f:Nat) (x:Int),(ints A).set f [.int .i64 x] = ints (A.set f x):=fun A f x=>by simp [ints,PV.encI,List.map_set]
  unfold chS
  simp -dsimp (maxSteps:=4000000) +contextual (disch:=first | omega | decide +kernel) only [↓vsD,vsE,↓Nat.reduceLT,simprocAttr,intsB_len,encG_length,e3,e4,e5,encG_getD,e6,isl]
  refine ⟨k + 1,(by (try dsimp only); omega),(by simp [weaker,Go.PV.look]),?_,hkl⟩
  dsimp only
  rw [e2,← e1]
  rfl
 obtain rfl:k = T.length:=by omega
 rw [Nat.sub_self,List.replicate_zero,List.append_nil,gsA_all]
 have hq0:=qA_QG T.length
 have hq1:QG (initC T.length).gs (qA T.length):=by rw [← gsA_all]; exact hq0
 clear hq0
 obtain ⟨Q0,hQ0⟩:∃ Q0,Q0 = qA T.length:=⟨_,rfl⟩
 have hQl:Q0.length = T.length:=by rw [hQ0,qA_length]
 rw [← hQ0] at hq1 ⊢
 clear hQ0
 unfold chS
 rw [hfb,hcb,cnRow]
 simp -dsimp (maxSteps:=4000000) +contextual (disch:=first | omega | decide +kernel) only [↓vsD,vsE,↓Nat.reduceLT,simprocAttr,vcel,hnm,k0]
 refine PCall.mono (hways _) ?_
 rintro p τ ⟨o,v,rfl,ho,⟨Z,rfl⟩,hto⟩
 obtain ⟨q,rfl⟩:∃ q,o = q + 4:=⟨o - 4,by simp only [List.length_cons] at ho; omega⟩
 simp only [List.length_cons] at ho
 rw [← cnRow,← hfb,← hcb] at hto
 rw [← cnRow,← hfb,← hcb]
 obtain ⟨Q1,hQ1⟩:∃ Q1,Q1 = Q0 ++ Z:=⟨_,rfl⟩
 have hq2:QG (initC T.length).gs Q1:=by rw [hQ1]; exact hq1.app Z
 have hqn:T.length ≤ q:=by omega
 simp only [List.cons_append] at hto ⊢
 rw [← hQ1] at hto ⊢
 clear hq1 hQ1 ho
 simp -dsimp (maxSteps:=4000000) +contextual (disch:=first | omega | decide +kernel) only [↓vsD,vsE,↓Nat.reduceLT,simprocAttr,k1]
 refine PCall.mono (sortStable_okW way_weak (q + 4) v L (by omega) _ (way_cmp _ _ _) hto) ?_
 rintro p τ ⟨rfl,S,hS,rfl⟩
 have hSe:S = stb wayLt L:=hS.uniq way_weak hst
 rw [← hSe] at hLw
 rw [← hSe] at hcf
 have hSl:S.length = L.length:=hS.len
 have hS0:0 < S.length:=by
  rw [hSl]; exact List.length_pos_iff.2 hne
 have hql:=(List.getElem?_eq_some_iff.1 hto).1
 simp only [List.length_cons] at hql
 obtain ⟨Q2,hQ2d⟩:∃ Q2,Q2 = Q1.set q (.rows 88 3 (encW S) v):=⟨_,rfl⟩
 have hQ2:QG (initC T.length).gs Q2:=by rw [hQ2d]; exact hq2.setO (by simp [initC]; exact hqn) _
 have hQo:Q2[q]? = some (.rows 88 3 (encW S) v):=by rw [hQ2d]; exact List.getElem?_set_self (by omega)
 have hQl2:T.length ≤ Q2.length:=by rw [hQ2d,List.length_set]; omega
 clear hto hS hSe hst hways hq2 hne
 simp -dsimp (maxSteps:=4000000) +contextual (disch:=first | omega | decide +kernel) only [↓vsD,vsE,↓Nat.reduceLT,simprocAttr,List.set_cons_succ,← hQ2d,hQo,encW_length]
 clear hQ2d hql
 rw [← hnd] at hQ2 hQl2 hqn hLw hcf hnB hn hn0 hn2 hci0 ⊢
 obtain ⟨N,hN⟩:∃ N,N = S.length:=⟨_,rfl⟩
 rw [← hN] at hS0 hSl ⊢
 obtain ⟨F,hF⟩:∃ F:Nat × Store → Fr,F = fun t=>[(3,.ptr 1 0 0 0),(5,.msl 2 0),(6,if t.1 < N then .msl 3 0 else .sl (encLL ((runC S (initC n)).gs.map (·.1)))),(46,.msl (q + 4) v),(47,.int .i64 N),(48,.int .i64 (t.1:Int))]:=⟨_,rfl⟩
 obtain ⟨I,hI⟩:∃ I:Nat × Store → Prop,I = fun t=>t.1 ≤ N ∧ (t.1 < N → ∃ Q,t.2 = chS fb cb (runC (S.take t.1) (initC n)) Q ∧ QG (runC (S.take t.1) (initC n)).gs Q ∧ Q[q]? = some (.rows 88 3 (encW S) v) ∧ n ≤ Q.length) ∧ (t.1 = N → t.2[1]? = some cb):=⟨_,rfl⟩
 have hCIk:∀ k,CI n (runC (S.take k) (initC n)):=fun k=>CI.run _ hci0 (fun w hw=>by have:=hLw w (List.mem_of_mem_take hw); exact ⟨this.1,this.2.1⟩)
 have leaf:∀ (k:Nat) (fr:Fr) (s2:CS) (Q3:Store),k < N → s2 = runC (S.take (k + 1)) (initC n) → QG s2.gs Q3 → Q3[q]? = some (.rows 88 3 (encW S) v) → n ≤ Q3.length →
   weaker [(3,.ptr 1 0 0 0),(5,.msl 2 0),(6,.msl 3 0),(46,.msl (q + 4) v),(47,.int .i64 N),(48,.int .i64 ((k:Int) + 1))] fr → backF F (fun t=>t.2) I (fun t=>N - t.1) (N - k) fr (chS fb cb s2 Q3):=by
  intro k fr s2 Q3 hkN hs2 hG hQ3 hQ3n hw
  have w3:=hw (3,.ptr 1 0 0 0) (by simp)
  have w5:=hw (5,.msl 2 0) (by simp)
  have w6:=hw (6,.msl 3 0) (by simp)
  have w46:=hw (46,.msl (q + 4) v) (by simp)
  have w47:=hw (47,.int .i64 N) (by simp)
  have w48:=hw (48,.int .i64 ((k:Int) + 1)) (by simp)
  dsimp only at w3 w5 w6 w46 w47 w48
  by_cases hk1:k + 1 < N
  ·refine ⟨(k + 1,chS fb cb s2 Q3),by dsimp only; omega,frzTo_weaker ?_,?_⟩
   ·rw [hF]
    dsimp only
    rw [if_pos hk1]
    intro tv htv
    simp only [List.mem_cons,List.not_mem_nil,or_false] at htv
    rcases htv with rfl | rfl | rfl | rfl | rfl | rfl <;> assumption
   ·rw [hI]
    exact ⟨by dsimp only; omega,fun _=>⟨Q3,by rw [hs2],by rw [← hs2]; exact hG,hQ3,hQ3n⟩,fun e=>by dsimp only at e; omega⟩
  ·have hkN1:k + 1 = N:=by omega
   refine ⟨(k + 1,killZ (zsC n) (chS fb cb s2 Q3)),by dsimp only; omega,⟨zsC n,rfl,fun tv htv=>?_⟩,?_⟩
   ·have e6:runC S (initC n) = s2:=by rw [hs2,List.take_of_length_le (by omega)]
    rw [hF] at htv
    dsimp only at htv
    rw [if_neg hk1,e6] at htv
    simp only [List.mem_cons,List.not_mem_nil,or_false] at htv
    rcases htv with rfl | rfl | rfl | rfl | rfl | rfl
    ·rw [w3]; exact .keep _
    ·rw [w5]; exact .keep _
    ·rw [w6]; exact heads_frz (by have:=(hCIk (k + 1)).gl; rwa [← hs2] at this) hG
    ·rw [w46]; exact .keep _
    ·rw [w47]; exact .keep _
    ·rw [w48]; exact .keep _
   ·rw [hI]
    refine ⟨by dsimp only; omega,fun e=>by dsimp only at e; omega,fun _=>?_⟩
    dsimp only
    rw [killZ_get,if_neg (by simp [zsC])]
    rfl
 refine v_loopF F (fun t=>t.2) I (fun t=>N - t.1) (0,chS fb cb (initC n) Q2) ?_ ?_ ?_
 ·refine frzTo_weaker ?_
  rw [hF]
  dsimp only
  rw [if_pos hS0]
  simp [weaker,Go.PV.look]
 ·rw [hI]
  exact ⟨Nat.zero_le _,fun _=>⟨Q2,rfl,hQ2,hQo,hQl2⟩,fun e=>by dsimp only at e; omega⟩
 rintro ⟨k,R⟩ hIk
 rw [hI] at hIk
 obtain ⟨hkN,hIk1,hIk2⟩:=hIk
 dsimp only at hkN hIk1 hIk2 ⊢
 by_cases hkl:k < N
 ·obtain ⟨Q,rfl,hG,hQo,hQn⟩:=hIk1 hkl
  have hC:=hCIk k
  have hnx:runC (S.take (k + 1)) (initC n) = stepC (runC (S.take k) (initC n)) (S.getD k default):=run_take _ _ _ (by omega)
  have hw:=hLw _ (getDmB (d:=default) (show k < S.length by omega))
  have hrow:=encW_getD S k (by omega)
  have lf:=leaf k
  generalize runC (S.take k) (initC n) = s at hG hC hnx ⊢
  obtain ⟨w,hwd⟩:∃ w,w = S.getD k default:=⟨_,rfl⟩
  rw [← hwd] at hw hnx hrow
  have eF:F (k,chS fb cb s Q) = [(3,.ptr 1 0 0 0),(5,.msl 2 0),(6,.msl 3 0),(46,.msl (q + 4) v),(47,.int .i64 N),(48,.int .i64 (k:Int))]:=by
   rw [hF]; dsimp only; rw [if_pos hkl]
  rw [eF]
  obtain ⟨hx,ex,hxm⟩:=hC.at hw.1
  obtain ⟨hy,ey,hym⟩:=hC.at hw.2.1
  obtain ⟨x,hxd⟩:∃ x,x = chOf s w.fr:=⟨_,rfl⟩
  obtain ⟨y,hyd⟩:∃ y,y = chOf s w.to:=⟨_,rfl⟩
  rw [← hxd] at hx ex hxm
  rw [← hyd] at hy ey hym
  have ol:=hC.ol
  have gl:=hC.gl
  have hxe:chain s x ≠ []:=fun e=>by rw [e] at hxm; cases hxm
  have hye:chain s y ≠ []:=fun e=>by rw [e] at hym; cases hym
  obtain ⟨vx,hvx⟩:∃ vx,vx = (s.gs.getD x default).2:=⟨_,rfl⟩
  obtain ⟨vy,hvy⟩:∃ vy,vy = (s.gs.getD y default).2:=⟨_,rfl⟩
  have dx:(encG s.gs).getD x [] = [.msl (x + 4) vx]:=by rw [encG_getD _ _ (by omega),hdG_ne hxe,hvx]
  have dy:(encG s.gs).getD y [] = [.msl (y + 4) vy]:=by rw [encG_getD _ _ (by omega),hdG_ne hye,hvy]
  have qx:Q[x]? = some (.rows 3 1 (ints (chain s x)) vx):=by rw [hvx]; exact hG x (by omega) hxe
  have qy:Q[y]? = some (.rows 3 1 (ints (chain s y)) vy):=by rw [hvy]; exact hG y (by omega) hye
  obtain ⟨wb,hwb⟩:∃ wb,wb = Go.PV.Obj.rows 88 3 [[.int .i64 (w.fr:Int),.int .i64 (w.to:Int),.int .i64 w.cnt]] 0:=⟨_,rfl⟩
  have gx:∀ X,(Q ++ X)[x]? = some (.rows 3 1 (ints (chain s x)) vx):=fun X=>by rw [List.getElem?_append_left (List.getElem?_eq_some_iff.1 qx).1,qx]
  have gy:∀ X,(Q ++ X)[y]? = some (.rows 3 1 (ints (chain s y)) vy):=fun X=>by rw [List.getElem?_append_left (List.getElem?_eq_some_iff.1 qy).1,qy]
  have q1:(ints s.of).getD w.fr [] = [.int .i64 (x:Int)]:=by rw [intsB_getD _ _ (by rw [ol]; exact hw.1),ex]
  have q2:(ints s.of).getD w.to [] = [.int .i64 (y:Int)]:=by rw [intsB_getD _ _ (by rw [ol]; exact hw.2.1),ey]
  have lx:=hC.chainLen hx
  have ly:=hC.chainLen hy
  have px:=List.length_pos_iff.2 hxe
  have py:=List.length_pos_iff.2 hye
  have q3:(ints (chain s x)).getD ((chain s x).length - 1) [] = [.int .i64 ((chain s x).getD ((chain s x).length - 1) 0)]:=intsB_getD _ _ (by omega)
  have q4:(ints (chain s y)).getD 0 [] = [.int .i64 ((chain s y).getD 0 0)]:=intsB_getD _ _ py
  have e1:(((chain s x).length:Int) - 1).toNat = (chain s x).length - 1:=by omega
  have hQ3:(Q ++ [wb])[q]? = some (.rows 88 3 (encW S) v):=by rw [List.getElem?_append_left (List.getElem?_eq_some_iff.1 hQo).1,hQo]
  have hQ3n:n ≤ (Q ++ [wb]).length:=by rw [List.length_append]; omega
  have skip:skipC s w → s = runC (S.take (k + 1)) (initC n):=fun hsk=>by rw [hnx,stepC,if_pos hsk]
  have gl2:(encG s.gs).length = n:=by rw [encG_length,gl]
  unfold chS at lf ⊢
  by_cases c1:w.cnt = 0
  ·simp -dsimp (maxSteps:=4000000) +contextual (disch:=first | omega | decide +kernel) only [↓vsD,vsE,↓Nat.reduceLT,simprocAttr,vcel,hrow,hQo,encW_length,q1,q2,intsB_len,ol,c1]
   rw [c1] at hwb
   rw [← hwb]
   exact lf _ s (Q ++ [wb]) hkl (skip (.inl c1)) (hG.app _) hQ3 hQ3n (by simp [weaker,Go.PV.look])
  by_cases c2:x = y
  ·simp -dsimp (maxSteps:=4000000) +contextual (disch:=first | omega | decide +kernel) only [↓vsD,vsE,↓Nat.reduceLT,simprocAttr,vcel,hrow,hQo,encW_length,q1,q2,intsB_len,ol,c1,c2]
   rw [← hwb]
   exact lf _ s (Q ++ [wb]) hkl (skip (.inr (.inl (by rw [← hxd,← hyd,c2])))) (hG.app _) hQ3 hQ3n (by simp [weaker,Go.PV.look])
  have c2i:¬ (x:Int) = (y:Int):=by omega
  by_cases c3:w.to = 0
  ·have c3i:(w.to:Int) = 0:=by omega
   simp -dsimp (maxSteps:=4000000) +contextual (disch:=first | omega | decide +kernel) only [↓vsD,vsE,↓Nat.reduceLT,simprocAttr,vcel,hrow,hQo,encW_length,q1,q2,intsB_len,ol,c1,c2i]
   rw [← hwb]
   exact lf _ s (Q ++ [wb]) hkl (skip (.inr (.inr (.inl c3)))) (hG.app _) hQ3 hQ3n (by simp [weaker,Go.PV.look])
  have c3i:¬ (w.to:Int) = 0:=by omega
  by_cases c4:(chain s x).getD ((chain s x).length - 1) 0 = w.fr
  ·by_cases c5:(chain s y).getD 0 0 = w.to
   ·have hns:¬ skipC s w:=by
     rintro (h1 | h1 | h1 | h1 | h1)
     ·exact c1 h1
     ·exact c2 (by rw [hxd,hyd]; exact h1)
     ·exact c3 h1
     ·exact h1 (by rw [← hxd]; exact c4)
     ·exact h1 (by rw [← hyd]; exact c5)
    rw [stepC,if_neg hns,← hxd,← hyd] at hnx
    simp -dsimp (maxSteps:=4000000) +contextual (disch:=first | omega | decide +kernel) only [↓vsD,vsE,↓Nat.reduceLT,simprocAttr,vcel,hrow,hQo,encW_length,q1,q2,intsB_len,ol,c1,c2i,c3i,gl2,dx,dy,gx,gy,e1,q3,q4,c4,c5]
    rw [← hwb]
    refine v_loopS (fun j:Nat=>[(3,.ptr 1 0 0 0),(5,.msl 2 0),(6,.msl 3 0),(11,.int .i64 (x:Int)),(12,.int .i64 (y:Int)),(46,.msl (q + 4) v),(47,.int .i64 N),(48,.int .i64 (k:Int)),(106,.msl (y + 4) vy),(107,.int .i64 (chain s y).length),(108,.int .i64 (j:Int))])
     (fun j=>fb :: cb :: .rows 3 1 (ints (mov s.of x ((chain s y).take j))) 0 :: .rows 29 1 (encG s.gs) 0 :: (Q ++ [wb])) (fun j=>j ≤ (chain s y).length) (fun j=>(chain s y).length - j) 0 (by simp [weaker,Go.PV.look]) rfl (Nat.zero_le _) ?_
    intro j hj
    have hml:=mov_length (x:Int) ((chain s y).take j) s.of
    have isl:∀ (A:List Int) (f:Nat) (x:Int),(ints A).set f [.int .i64 x] = ints (A.set f x):=fun A f x=>by simp [ints,PV.encI,List.map_set]
    by_cases hjl:j < (chain s y).length
    ·obtain ⟨b,hb,hbn,_⟩:=hC.own y hy _ (getDmB (d:=0) hjl)
     have q5:(ints (chain s y)).getD j [] = [.int .i64 (b:Int)]:=by rw [intsB_getD _ _ hjl,hb]
     have e5:(mov s.of x ((chain s y).take j)).set b x = mov s.of x ((chain s y).take (j + 1)):=by
      rw [mov,mov,List.take_add_one,List.getElem?_eq_getElem hjl,Option.toList_some,List.foldl_append,← getDB (d:=0) hjl,hb]; rfl
     generalize mov s.of x ((chain s y).take j) = of at hml e5 ⊢
     simp -dsimp (maxSteps:=4000000) +contextual (disch:=first | omega | decide +kernel) only [↓vsD,vsE,↓Nat.reduceLT,simprocAttr,gy,intsB_len,hml,ol,q5,isl]
     exact ⟨j + 1,(by (try dsimp only); omega),(by simp [weaker,Go.PV.look]),by dsimp only; rw [e5],hjl⟩
    ·obtain rfl:j = (chain s y).length:=by omega
     rw [List.take_length] at hml ⊢
     have hn:=newsB (chain s y)
     have l1:∀ X Y:List (List PV),(X.set x Y.head!).length = X.length:=fun X Y=>List.length_set ..
     simp -dsimp (maxSteps:=4000000) +contextual (disch:=first | omega | decide +kernel) only [↓vsD,vsE,↓Nat.reduceLT,simprocAttr,gy]
     refine v_draws _ _ _ _ _ _ [12,14,16] [] [(0,1),(0,1),(0,2),(0,2),(0,0),(0,0),(0,0),(0,0),(0,0),(0,0),(0,0),(0,0),(0,0),(1,1),(0,0),(2,2),(0,0)] (by decide +kernel) (by decide +kernel) (by decide +kernel) (by decide +kernel) ?_
     have xl:x < (Q ++ [wb]).length:=by omega
     have g2:∀ X,((Q ++ [wb]).set x X)[y]? = some (.rows 3 1 (ints (chain s y)) vy):=fun X=>by rw [List.getElem?_set_ne c2]; exact gy _
     have dy2:∀ r,((encG s.gs).set x r).getD y [] = [.msl (y + 4) vy]:=fun r=>by rw [getD_setB _ _ _ _ _ (by omega),if_neg c2]; exact dy
     simp -dsimp (maxSteps:=4000000) +contextual (disch:=first | omega | decide +kernel) only [↓vsD,vsE,↓Nat.reduceLT,simprocAttr,vdA,↓vd_end,↓vdm_go,↓vd_op,↓guard_none,↓guard_some,vcel,gl2,dx,dy,dy2,gx,gy,hn,intsB_len,bytesB,lenB,List.set_cons_succ,List.length_set]
     have eI:ints (chain s x) ++ ints (chain s y) = ints (chain s x ++ chain s y):=by simp [ints,PV.encI]
     have eg:((encG s.gs).set x [.msl (x + 4) (vx + 1)]).set y [.nils] = encG (joinC s x y).gs:=by
      rw [encG_set1 _ _ (chain s x ++ chain s y) _ (by simp [hxe]),encG_set0,hvx]; rfl
     have hj2:QG (joinC s x y).gs ((Q ++ [wb]).set x (.rows 3 1 (ints (chain s x ++ chain s y)) (vx + 1))):=by
      have:=(hG.app [wb]).join (x:=x) (y:=y) (by omega) (by omega) hxe (chain s x ++ chain s y) (vx + 1)
      rw [hvx] at this ⊢
      exact this
     rw [eg,eI]
     exact lf _ (joinC s x y) _ hkl hnx.symm hj2 (by rw [List.getElem?_set_ne (by omega)]; exact hQ3) (by rw [List.length_set]; exact hQ3n) (by simp [weaker,Go.PV.look])
   ·simp -dsimp (maxSteps:=4000000) +contextual (disch:=first | omega | decide +kernel) only [↓vsD,vsE,↓Nat.reduceLT,simprocAttr,vcel,hrow,hQo,encW_length,q1,q2,intsB_len,ol,c1,c2i,c3i,gl2,dx,dy,gx,gy,e1,q3,q4,c4,c5]
    rw [← hwb]
    exact lf _ s (Q ++ [wb]) hkl (skip (.inr (.inr (.inr (.inr (by rw [← hyd]; exact c5)))))) (hG.app _) hQ3 hQ3n (by simp [weaker,Go.PV.look])
  ·simp -dsimp (maxSteps:=4000000) +contextual (disch:=first | omega | decide +kernel) only [↓vsD,vsE,↓Nat.reduceLT,simprocAttr,vcel,hrow,hQo,encW_length,q1,q2,intsB_len,ol,c1,c2i,c3i,gl2,dx,dy,gx,gy,e1,q3,q4,c4]
   rw [← hwb]
   exact lf _ s (Q ++ [wb]) hkl (skip (.inr (.inr (.inr (.inl (by rw [← hxd]; exact c4)))))) (hG.app _) hQ3 hQ3n (by simp [weaker,Go.PV.look])
 ·have hkN2:k = N:=by omega
  have hR1:=hIk2 hkN2
  have eF:F (k,R) = [(3,.ptr 1 0 0 0),(5,.msl 2 0),(6,.sl (encLL ((runC S (initC n)).gs.map (·.1)))),(46,.msl (q + 4) v),(47,.int .i64 N),(48,.int .i64 (N:Int))]:=by
   rw [hF]; dsimp only; rw [if_neg (by omega),hkN2]
  rw [eF]
  clear eF leaf hIk1 hIk2 hF hQ2 hQo hQl2
  have hC:CI n (runC S (initC n)):=by have:=hCIk N; rwa [List.take_of_length_le (by omega)] at this
  rw [← hcf] at hC ⊢
  obtain ⟨c0,cr,hcc⟩:∃ c0 cr,(chF T E).gs.map (·.1) = c0 :: cr:=by
   have:=hC.gl
   cases hg:(chF T E).gs with
   | nil=>rw [hg] at this; simp at this; omega
   | cons a t=>exact ⟨_,_,rfl⟩
  have hcrl:cr.length + 1 = n:=by
   have:=congrArg List.length hcc
   rw [List.length_map,hC.gl,List.length_cons] at this; omega
  have hc0:chain (chF T E) 0 = c0:=by
   have:=congrArg (fun l:List (List Int)=>l.getD 0 []) hcc
   simp only [List.getD_cons_zero] at this
   rw [← this,getDB (by rw [List.length_map,hC.gl]; exact hn0),List.getElem_map,chain,getDB (by rw [hC.gl]; exact hn0)]
  have hrest:restC (chF T E) = cr.filter fun l=>decide (l ≠ []):=by
   unfold restC
   rw [List.map_drop,hcc]; rfl
  obtain ⟨l1,L1,hL1⟩:∃ l1 L1,cr = l1 :: L1:=by
   cases hg:cr with
   | nil=>rw [hg] at hcrl; simp at hcrl; omega
   | cons a t=>exact ⟨_,_,rfl⟩
  rw [hcc]
  have hdr:(encLL (c0 :: cr)).drop 1 = encLL (l1 :: L1):=by rw [hL1]; rfl
  have hl0:(encLL (c0 :: cr)).length = n:=by rw [encLL_length,List.length_cons,hcrl]
  have hL1l:(encLL (l1 :: L1)).length = cr.length:=by rw [encLL_length,hL1]
  have hall:((encLL (c0 :: cr)).all fun row=>row.length == 1) = true:=by simp [encLL]
  have hall2:((encLL (l1 :: L1)).all fun row=>row.length == 1) = true:=by simp [encLL]
  have htk:(encLL (c0 :: cr)).take n = encLL (c0 :: cr):=List.take_of_length_le (by omega)
  simp -dsimp (maxSteps:=4000000) +contextual (disch:=first | omega | decide +kernel) only [↓vsD,vsE,↓Nat.reduceLT,simprocAttr,vcel,aggF,zF,cF,undF,hl0,htk,hdr,hall,k2]
  refine PCall.mono (cloneLL_ok l1 L1 (by have:=congrArg List.length hL1; rw [List.length_cons] at this; omega) _) ?_
  rintro p τ ⟨rfl,rfl⟩
  obtain ⟨hb,hhb⟩:∃ hb,hb = Go.PV.Obj.rows 115 1 [[.func (.func 59) [] [.ptr 1 0 0 0]]] 0:=⟨_,rfl⟩
  rw [← hL1]
  rw [← hhb]
  have hR1l:=(List.getElem?_eq_some_iff.1 hR1).1
  have elen:(R ++ [hb]).length = R.length + 1:=by simp
  rw [elen]
  have hF3:∀ (x:List Int) (σ:Store),PCall Try.prog 62 (.sl (ints x) :: []) σ (fun q τ=>q = .bool (decide (x = [])) ∧ τ = σ):=fun x σ=>isEmpty_ok x σ
  have hd:=deleteLL_ok (R.length + 1) 1 cr (by omega) 62 [] (fun x=>decide (x = [])) (R ++ [hb] ++ [.rows 29 1 (encLL cr) 1]) (by rw [← elen,List.getElem?_concat_length]) hF3
  have hfl:(cr.filter fun x=>!decide (x = [])) = RE.map (·.1):=by
   rw [hRE,hrest]
   congr 1
   funext x
   simp
  rw [hfl] at hd
  have hre:encLL (RE.map (·.1)) = encE RE:=by simp [encLL,encE]
  rw [hre] at hd
  simp -dsimp (maxSteps:=4000000) +contextual (disch:=first | omega | decide +kernel) only [↓vsD,vsE,↓Nat.reduceLT,simprocAttr,k3]
  refine PCall.mono hd ?_
  rintro p τ ⟨v2,rfl,rfl⟩
  have est:(R ++ [hb] ++ [Go.PV.Obj.rows 29 1 (encLL cr) 1]).set (R.length + 1) (.rows 29 1 (encE RE) v2) = R ++ [hb] ++ [.rows 29 1 (encE RE) v2]:=by
   rw [← elen,List.set_append_right _ _ (Nat.le_refl _),Nat.sub_self]; rfl
  rw [est]
  obtain ⟨RS,hRS⟩:∃ RS,RS = R ++ [hb] ++ [Go.PV.Obj.rows 29 1 (encE RE) v2]:=⟨_,rfl⟩
  have r1:RS[1]? = some (cnRow B E):=by rw [hRS,List.append_assoc,List.getElem?_append_left hR1l,hR1,hcb]
  have r2:RS[R.length]? = some hb:=by rw [hRS,List.getElem?_append_left (by omega),List.getElem?_concat_length]
  have r3:RS[R.length + 1]? = some (.rows 29 1 (encE RE) v2):=by rw [hRS,← elen,List.getElem?_concat_length]
  have rl:RS.length = R.length + 1 + 1:=by rw [hRS,List.length_append,elen]; rfl
  rw [← hRS]
  have hREl:RE.length ≤ 40:=by
   have h1:=congrArg List.length hfl
   rw [List.length_map] at h1
   have h2:=List.length_filter_le (fun x=>!decide (x = [])) cr
   omega
  rw [hhb] at r2
  have hso:=sortStable_okC (ch_weak B) (R.length + 1) v2 RE (by omega) RS (ch_cmp B E nB (by rw [hlb,← hnd]; exact hnB) (by omega) (R.length + 1) v2 1 R.length RS (by omega) (by omega) r1 r2) r3
  simp -dsimp (maxSteps:=4000000) +contextual (disch:=first | omega | decide +kernel) only [↓vsD,vsE,↓Nat.reduceLT,simprocAttr,k4]
  refine PCall.mono hso ?_
  rintro p τ ⟨rfl,RR,hRR,rfl⟩
  obtain rfl:RR = stb (chLt B) RE:=hRR.uniq (ch_weak B) (stb_all (ch_weak B) RE)
  have hRRl:=hRR.len
  obtain ⟨RR,hRRd⟩:∃ RR,RR = stb (chLt B) RE:=⟨_,rfl⟩
  rw [← hRRd] at hRRl hRR ⊢
  obtain ⟨RT,hRT⟩:∃ RT,RT = RS.set (R.length + 1) (.rows 29 1 (encE RR) v2):=⟨_,rfl⟩
  have t3:∀ X,(RT ++ X)[R.length + 1]? = some (.rows 29 1 (encE RR) v2):=fun X=>by
   rw [hRT,List.getElem?_append_left (by rw [List.length_set]; omega),List.getElem?_set_self (by omega)]
  have tl:RT.length = R.length + 1 + 1:=by rw [hRT,List.length_set,rl]
  rw [← hRT]
  have hg0:(encLL (c0 :: cr)).getD 0 [] = [.sl (ints c0)]:=rfl
  have hn4:newsOk Try.prog 29 (encE RR) = true:=by
   show newsOk _ _ (List.map _ _) = true
   simp [newsOk,PV.cell,tyC]
  have hel:(encE RR).length = RR.length:=encE_length _
  simp -dsimp (maxSteps:=4000000) +contextual (disch:=first | omega | decide +kernel) only [↓vsD,vsE,↓Nat.reduceLT,simprocAttr,vcel,vgap,hl0,hg0,t3,hn4,hel,bytesB,lenB,k5,Bool.false_or,Bool.or_true]
  obtain ⟨RL,hRL⟩:∃ RL:List (List Int),RL = c0 :: RR.map (·.1):=⟨_,rfl⟩
  have eRL:[PV.sl (ints c0)] :: encE RR = encLL RL:=by rw [hRL]; simp [encLL,encE]
  have hpm:RL.flatten.Perm (natB n):=by
   rw [hRL,List.flatten_cons,← hc0]
   refine hC.out hn0 ?_
   rw [← hRE]
   exact hRR.p.map _
  have hfl2:RL.flatten.length = n:=by rw [hpm.length_eq,natB_length]
  have hRLl:RL.length ≤ 1000:=by rw [hRL,List.length_cons,List.length_map]; omega
  have goal:chain (chF T E) 0 ++ (RR.map (·.1)).flatten = RL.flatten:=by rw [hRL,List.flatten_cons,hc0]
  rw [eRL,goal]
  refine PCall.mono (K:=fun p _=>p = .sl (ints RL.flatten)) (PCall.frz [RT.length] (args2:=[.sl (encLL RL)]) (PCall.lift (concatB_w RL hRLl (by omega) (by omega)) (fun x hx=>?_) (fun p hp=>⟨?_,hp⟩)) rfl (fun j p p2 h1 h2=>?_)) ?_
  ·rw [List.mem_singleton] at hx; rw [hx]; exact bel_sl (encLL_bel _ _)
  ·rw [hp]; exact bel_intsB _ _
  ·match j,h1,h2 with
   | 0,h1,h2 =>
    cases h1; cases h2
    exact .msl0 (elem:=29) (sz:=1) (by simp) (by rw [List.getElem?_concat_length])
  rintro p τ rfl
  simp -dsimp (maxSteps:=4000000) +contextual (disch:=first | omega | decide +kernel) only [↓vsD,vsE,↓Nat.reduceLT,simprocAttr]
  exact fin0 (.keep _ (bel_intsB _ _)) rfl
end Go.Proofs.Ytangodmcbmeeaaa
