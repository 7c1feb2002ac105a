import Derived.Test.YtangodmcbmeeaaaBoJ
import Derived.Test.YtangodmcbmeeaaaDrA
set_option maxRecDepth 8000
set_option linter.unusedSimpArgs false
set_option linter.unusedVariables false
namespace Go.Proofs.Ytangodmcbmeeaaa
open Go.PV
theorem aggFn:aggT Try.prog 28 = true:=by kernel_rfl
theorem aggCn:aggT Try.prog 33 = true:=by kernel_rfl
theorem cFn:Try.prog.cellsOf 28 = 4:=by kernel_rfl
theorem cCn:Try.prog.cellsOf 33 = 4:=by kernel_rfl
def exT:List TermI:=[⟨2,1,2⟩,⟨3,0,0⟩,⟨3,0,0⟩]
def exB:List Int:=[10,1,9]
def exE:List (Int × Int):=[(1,9),(0,0),(0,0)]
def nmE:PV:=.str ByteArray.empty
theorem nmE_cell:PV.cell nmE = true:=rfl
theorem nmE_bel (n:Nat):Bel n nmE:=bel_str _ _
theorem exGood:GoodB exT exB exE:=⟨by decide,by decide,rfl,rfl,by decide,by decide,by decide⟩
theorem fc_bel (n:Nat) (T:List TermI) (B:List Int) (E:List (Int × Int)):Bel n (.tup [fnV nmE T,cnV B E]):=bel_tup (fun p hp=>by
 simp only [List.mem_cons,List.not_mem_nil,or_false] at hp
 rcases hp with rfl | rfl
 ·exact fnV_bel n (nmE_bel n) T
 ·exact cnV_bel n B E)
theorem example_w:PCall Try.prog 31 [] [] (fun p _=>p = .tup [fnV nmE exT,cnV exB exE]):=by
 refine PCall.vfrz [] 7 18 [.cell 0 28,.cell 1 33] (noE_ok _) mix Try.func31 rfl (by decide) rfl rfl (by simp) ?_
 simp -dsimp only [initFr,List.zipIdx_cons,List.zipIdx_nil,List.map_cons,List.map_nil,Nat.zero_add,Nat.reduceAdd]
 simp -dsimp (maxSteps:=4000000) +contextual (disch:=first | omega | decide +kernel) only [↓vsD,vsE,↓Nat.reduceLT,simprocAttr,vcel,vgap]
 show PV.Fin [] _ (.tup [fnV nmE exT,cnV exB exE]) _
 exact fin0 (.keep _ (fc_bel _ _ _ _)) rfl
theorem example_on (σ:Store):PCall Try.prog 31 [] σ (fun p τ=>p = .tup [fnV nmE exT,cnV exB exE] ∧ τ = σ) :=
 PCall.lift example_w (by simp) (fun p h=>⟨by rw [h]; exact fc_bel _ _ _ _,h,rfl⟩)
theorem exOrder:castL (exactO (wt (waysF exT exE exT.length)) exT.length) = [0,2,1]:=by decide +kernel
theorem exWeight:wsum (waysF exT exE exT.length) [0,2,1] = 9:=by decide +kernel
theorem awake37_w:PCall Try.prog 9 [] [] (fun p _=>p = .bool true):=by
 have hkk:∀ t ∈ exT,t.kind = 2 ∨ t.kind = 3:=by decide
 have hne:waysF exT exE exT.length ≠ []:=by decide
 have ho:=orderE_on nmE nmE_cell (nmE_bel 0) exGood (by decide) _ (exact_on nmE nmE_cell (nmE_bel 0) exGood hkk hne (by decide))
 rw [exOrder] at ho
 have hw:=weight_on nmE nmE_cell (nmE_bel 0) exGood hkk hne [2,1] (by decide)
 rw [exWeight] at hw
 have hi:=intsEq_ok [0,2,1] (by decide)
 have k0:∀ args σ,noE.f 31 args σ = none:=fun _ _=>rfl
 have k1:∀ args σ,noE.f 12 args σ = none:=fun _ _=>rfl
 have k2:∀ args σ,noE.f 16 args σ = none:=fun _ _=>rfl
 have k3:∀ args σ,noE.f 17 args σ = none:=fun _ _=>rfl
 have hex:=example_on
 unfold fnV cnV at ho hw hex
 have ei:ints [0,2,1] = [[.int .i64 0],[.int .i64 2],[.int .i64 1]]:=rfl
 rw [ei] at ho hi hw
 refine PCall.vfrz [] 31 29 [.tmp 0] (noE_ok _) mix Try.func9 rfl (by decide) rfl rfl (by simp) ?_
 simp -dsimp only [initFr,List.zipIdx_cons,List.zipIdx_nil,List.map_cons,List.map_nil,Nat.zero_add,Nat.reduceAdd]
 simp -dsimp (maxSteps:=4000000) +contextual (disch:=first | omega | decide +kernel) only [↓vsD,vsE,↓Nat.reduceLT,simprocAttr,k0]
 refine PCall.mono (hex _) ?_
 rintro p τ ⟨rfl,rfl⟩
 simp -dsimp (maxSteps:=4000000) +contextual (disch:=first | omega | decide +kernel) only [↓vsD,vsE,↓Nat.reduceLT,simprocAttr,vcel,nmE_cell,k1]
 refine PCall.mono (ho _) ?_
 rintro p τ ⟨rfl,rfl⟩
 simp -dsimp (maxSteps:=4000000) +contextual (disch:=first | omega | decide +kernel) only [↓vsD,vsE,↓Nat.reduceLT,simprocAttr,vcel,nmE_cell,k2]
 refine PCall.mono (hi _) ?_
 rintro p τ ⟨rfl,rfl⟩
 simp -dsimp (maxSteps:=4000000) +contextual (disch:=first | omega | decide +kernel) only [↓vsD,vsE,↓Nat.reduceLT,simprocAttr,vcel,nmE_cell,k3]
 refine PCall.mono (hw _) ?_
 rintro p τ ⟨rfl,rfl⟩
 simp -dsimp (maxSteps:=4000000) +contextual (disch:=first | omega | decide +kernel) only [↓vsD,vsE,↓Nat.reduceLT,simprocAttr]
 exact fin0 (.keep _ (bel_bool _ _)) rfl
theorem awake37_on (σ:Store):PCall Try.prog 9 [] σ (fun p τ=>p = .bool true ∧ τ = σ) :=
 PCall.lift awake37_w (by simp) (fun p h=>⟨by rw [h]; exact bel_bool _ _,h,rfl⟩)
structure WideI (n k:Nat) (T:List TermI) (B:List Int) (E:List (Int × Int)):Prop where
 lt:T.length = k
 lb:B.length = k
 le:E.length = k
 cb:∀ x ∈ B,0 ≤ x ∧ x < 9
 ce:∀ e ∈ E,(0 ≤ e.1 ∧ e.1 < 9) ∧ (0 ≤ e.2 ∧ e.2 < 9)
 tm:∀ j,j < k → ((j + 1 < n ∧ (T.getD j default).kind = 2 ∧ (T.getD j default).to = j + 1 ∧ (T.getD j default).els < n) ∨ (j + 1 = n ∧ T.getD j default = ⟨3,0,0⟩))
theorem WideI.next {n k:Nat} {T:List TermI} {B:List Int} {E:List (Int × Int)} (h:WideI n k T B E) (t:TermI) (b:Int) (e:Int × Int) (hb:0 ≤ b ∧ b < 9) (he:(0 ≤ e.1 ∧ e.1 < 9) ∧ (0 ≤ e.2 ∧ e.2 < 9))
  (ht:(k + 1 < n ∧ t.kind = 2 ∧ t.to = k + 1 ∧ t.els < n) ∨ (k + 1 = n ∧ t = ⟨3,0,0⟩)):WideI n (k + 1) (T ++ [t]) (B ++ [b]) (E ++ [e]):=by
 refine ⟨by simp [h.lt],by simp [h.lb],by simp [h.le],fun x hx=>?_,fun x hx=>?_,fun j hj=>?_⟩
 ·rcases List.mem_append.1 hx with hx | hx
  ·exact h.cb x hx
  ·rw [List.mem_singleton] at hx; rw [hx]; exact hb
 ·rcases List.mem_append.1 hx with hx | hx
  ·exact h.ce x hx
  ·rw [List.mem_singleton] at hx; rw [hx]; exact he
 ·by_cases hj2:j < k
  ·have:=h.tm j hj2
   rwa [show (T ++ [t]).getD j default = T.getD j default by
    rw [List.getD_eq_getElem?_getD,List.getElem?_append_left (by rw [h.lt]; exact hj2),← List.getD_eq_getElem?_getD]]
  ·obtain rfl:j = k:=by omega
   rwa [show (T ++ [t]).getD j default = t by
    rw [List.getD_eq_getElem?_getD,← h.lt,List.getElem?_concat_length]; rfl]
theorem WideI.good {n:Nat} {T:List TermI} {B:List Int} {E:List (Int × Int)} (h:WideI n n T B E) (hn0:2 ≤ n) (hn:n ≤ 40):GoodB T B E ∧ (∀ t ∈ T,t.kind = 2 ∨ t.kind = 3) ∧ waysF T E T.length ≠ []:=by
 have h1:=h.lt
 have at':∀ t ∈ T,∃ j,j < n ∧ t = T.getD j default:=fun t ht=>by
  obtain ⟨j,hj,rfl⟩:=List.mem_iff_getElem.1 ht
  exact ⟨j,by omega,(getDB hj).symm⟩
 refine ⟨⟨by omega,by omega,by rw [h.lb,h1],by rw [h.le,h1],fun x hx=>by have:=h.cb x hx; omega,fun e he=>by have:=h.ce e he; omega,fun t ht=>?_⟩,fun t ht=>?_,?_⟩
 ·obtain ⟨j,hj,rfl⟩:=at' t ht
  rcases h.tm j hj with h2 | h2
  ·omega
  ·rw [h2.2]; dsimp only; omega
 ·obtain ⟨j,hj,rfl⟩:=at' t ht
  rcases h.tm j hj with h2 | h2
  ·exact .inl h2.2.1
  ·rw [h2.2]; exact .inr rfl
 ·have hpre:∀ k,1 ≤ k → waysF T E k ≠ []:=by
   intro k hk
   induction k with
   | zero=>omega
   | succ k ih =>
    by_cases hk0:k = 0
    ·subst hk0
     rcases h.tm 0 (by omega) with h2 | h2
     ·rw [waysF,wayK,if_pos (.inr h2.2.1)]; simp [waysF]
     ·omega
    ·rw [waysF]
     have:=ih (by omega)
     simp [this]
  exact hpre _ (by omega)
def fRow (n:Nat) (V:PV):Go.PV.Obj:=.rows 28 4 [[nmE,.int .i64 0,.int .i64 n,V]] 0
def xRow (V V2:PV):Go.PV.Obj:=.rows 33 4 [[.int .i64 0,V,V2,.nils]] 0
def wideS (cs:List Int) (k:Nat) (T:List TermI) (B:List Int) (E:List (Int × Int)) (tb:Go.PV.Obj) (Z:Store):Nat → Store
 | 0=>[codes cs k,fRow 0 .nils,xRow .nils .nils,fRow 1 .nils,xRow .nils .nils]
 | j + 1=>codes cs k :: fRow 0 .nils :: xRow .nils .nils :: fRow 1 (.msl 6 j) :: xRow (.msl 7 j) (.msl 8 j) :: tb :: .rows 47 8 (encT T) j :: .rows 3 1 (ints B) j :: .rows 48 2 (encX E) j :: Z
set_option maxRecDepth 8000 in
set_option maxHeartbeats 32000000 in
theorem wide_w (cs:List Int) (n:Nat) (hn0:2 ≤ n) (hn:n ≤ 40) (hcl:okInts .u8 cs) (hcn:cs.length < 2 ^ 40) :
  PCall Try.prog 11 [.ptr 0 0 0 0,.int .i64 n] [codes cs 0] (fun p τ=>∃ T B E k,p = .tup [fnV nmE T,cnV B E] ∧ τ = [codes cs k] ∧ WideI n n T B E):=by
 refine PCall.vfrz [] 33563647 53 [.cell 4 28,.cell 5 33] nx_ok mix Try.func11 rfl (by decide) rfl rfl (by simp) ?_
 simp -dsimp only [initFr,List.zipIdx_cons,List.zipIdx_nil,List.map_cons,List.map_nil,Nat.zero_add,Nat.reduceAdd]
 simp -dsimp (maxSteps:=4000000) +contextual (disch:=first | omega | decide +kernel) only [↓vsD,vsE,↓Nat.reduceLT,simprocAttr,nx_next,exNextO_codes,vcel,nmE_cell,hcl]
 refine v_loopS (fun s:Nat × Nat × List TermI × List Int × List (Int × Int) × Go.PV.Obj × Store=>[(0,.ptr 0 0 0 0),(1,.int .i64 n),(4,.ptr 1 0 0 0),(5,.ptr 2 0 0 0),(6,.ptr 3 0 0 0),(7,.ptr 4 0 0 0),(8,.int .i64 (s.1:Int))])
  (fun s=>wideS cs s.2.1 s.2.2.1 s.2.2.2.1 s.2.2.2.2.1 s.2.2.2.2.2.1 s.2.2.2.2.2.2 s.1) (fun s=>s.1 ≤ n ∧ s.2.1 ≤ cs.length ∧ WideI n s.1 s.2.2.1 s.2.2.2.1 s.2.2.2.2.1) (fun s=>n - s.1) (0,0,[],[],[],.dead,[]) (by simp [weaker,Go.PV.look]) rfl ⟨Nat.zero_le _,Nat.zero_le _,⟨rfl,rfl,rfl,by simp,by simp,fun j hj=>absurd hj (Nat.not_lt_zero _)⟩⟩ ?_
 rintro ⟨b,k,T,B,E,tb,Z⟩ ⟨hb,hk,hI⟩
 dsimp only at hb hk hI ⊢
 by_cases hbn:b < n
 ·have d1:=nxt_lt hcl k n (by omega)
  have g1:=nxt_le hk n
  obtain ⟨k1,hk1⟩:∃ k1,k1 = (nxt cs k n).2:=⟨_,rfl⟩
  obtain ⟨f1,hf1⟩:∃ f1:Nat,(f1:Int) = (nxt cs k n).1:=⟨(nxt cs k n).1.toNat,by omega⟩
  rw [← hf1] at d1
  rw [← hk1] at g1
  have d2:=nxt_lt hcl k1 9 (by omega)
  have g2:=nxt_le g1 9
  obtain ⟨k2,hk2⟩:∃ k2,k2 = (nxt cs k1 9).2:=⟨_,rfl⟩
  obtain ⟨f2,hf2⟩:∃ f2,f2 = (nxt cs k1 9).1:=⟨_,rfl⟩
  rw [← hf2] at d2
  rw [← hk2] at g2
  have d3:=nxt_lt hcl k2 9 (by omega)
  have g3:=nxt_le g2 9
  obtain ⟨k3,hk3⟩:∃ k3,k3 = (nxt cs k2 9).2:=⟨_,rfl⟩
  obtain ⟨f3,hf3⟩:∃ f3,f3 = (nxt cs k2 9).1:=⟨_,rfl⟩
  rw [← hf3] at d3
  rw [← hk3] at g3
  have d4:=nxt_lt hcl k3 9 (by omega)
  have g4:=nxt_le g3 9
  obtain ⟨k4,hk4⟩:∃ k4,k4 = (nxt cs k3 9).2:=⟨_,rfl⟩
  obtain ⟨f4,hf4⟩:∃ f4,f4 = (nxt cs k3 9).1:=⟨_,rfl⟩
  rw [← hf4] at d4
  rw [← hk4] at g4
  have hnn:(n:Int) < 4611686018427387904:=by omega
  obtain ⟨t,ht1,ht2⟩:∃ t:TermI,((b + 1 < n ∧ t = ⟨2,b + 1,f1⟩) ∨ (b + 1 = n ∧ t = ⟨3,0,0⟩)) ∧ ((b + 1 < n ∧ t.kind = 2 ∧ t.to = b + 1 ∧ t.els < n) ∨ (b + 1 = n ∧ t = ⟨3,0,0⟩)):=by
   by_cases h1:b + 1 < n
   ·exact ⟨⟨2,b + 1,f1⟩,.inl ⟨h1,rfl⟩,.inl ⟨h1,rfl,rfl,by dsimp only; omega⟩⟩
   ·exact ⟨⟨3,0,0⟩,.inr ⟨by omega,rfl⟩,.inr ⟨by omega,rfl⟩⟩
  have hnx:=hI.next t f2 (f3,f4) d2 ⟨d3,d4⟩ ht2
  have lt':=hI.lt
  have lb':=hI.lb
  have le':=hI.le
  clear hI
  cases b with
  | zero =>
   obtain rfl:=List.length_eq_zero_iff.1 lt'
   obtain rfl:=List.length_eq_zero_iff.1 lb'
   obtain rfl:=List.length_eq_zero_iff.1 le'
   have ht:t = ⟨2,1,f1⟩:=by
    rcases ht1 with h | h
    ·exact h.2
    ·omega
   simp only [wideS,fRow,xRow]
   simp -dsimp (maxSteps:=4000000) +contextual (disch:=first | omega | decide +kernel) only [↓vsD,vsE,↓Nat.reduceLT,simprocAttr,nx_next,exNextO_codes,vcel,nmE_cell,hcl,hnn,← hk1,← hf1]
   refine v_draws _ _ _ _ _ _ [3,5,9,11,14,16,18] [] [(0,1),(0,1),(0,0),(0,0),(1,1),(0,0),(0,4),(0,4),(0,2),(0,0),(0,3),(0,0),(4,4),(4,4),(0,0),(2,5),(0,0),(6,6),(0,0)] (by decide +kernel) (by decide +kernel) (by decide +kernel) (by decide +kernel) ?_
   simp -dsimp (maxSteps:=4000000) +contextual (disch:=first | omega | decide +kernel) only [↓vsD,vsE,↓Nat.reduceLT,simprocAttr,nx_next,exNextO_codes,vdA,↓vd_end,↓vdm_go,↓vd_op,↓guard_none,↓guard_some,vcel,nmE_cell,hcl,← hk2,← hk3,← hk4,← hf2,← hf3,← hf4,bytesB,lenB]
   exact ⟨(1,k4,[t],[f2],[(f3,f4)],_,[]),(by (try dsimp only); omega),by simp [weaker,Go.PV.look],by rw [ht]; simp [wideS,fRow,xRow,encT,TermI.row,encX,ints,PV.encI]; rfl,by omega,g4,hnx⟩
  | succ j =>
   have eT:(encT T).length = j + 1:=by rw [encT_length,lt']
   have eB:(ints B).length = j + 1:=by rw [intsB_len,lb']
   have eE:(encX E).length = j + 1:=by rw [encX_length,le']
   simp only [wideS,fRow,xRow]
   rcases ht1 with ⟨hlt,ht⟩ | ⟨hlt,ht⟩
   ·simp -dsimp (maxSteps:=4000000) +contextual (disch:=first | omega | decide +kernel) only [↓vsD,vsE,↓Nat.reduceLT,simprocAttr,nx_next,exNextO_codes,vcel,vgap,nmE_cell,hcl,hnn,← hk1,← hf1,eT,bytesB,lenB]
    refine v_draws _ _ _ _ _ _ [3,5,9,11,14,16,18] [] [(0,1),(0,1),(0,0),(0,0),(1,1),(0,0),(0,4),(0,4),(0,2),(0,0),(0,3),(0,0),(4,4),(4,4),(0,0),(2,5),(0,0),(6,6),(0,0)] (by decide +kernel) (by decide +kernel) (by decide +kernel) (by decide +kernel) ?_
    simp -dsimp (maxSteps:=4000000) +contextual (disch:=first | omega | decide +kernel) only [↓vsD,vsE,↓Nat.reduceLT,simprocAttr,nx_next,exNextO_codes,vdA,↓vd_end,↓vdm_go,↓vd_op,↓guard_none,↓guard_some,vcel,vgap,nmE_cell,hcl,← hk2,← hk3,← hk4,← hf2,← hf3,← hf4,eB,eE,bytesB,lenB]
    exact ⟨(j + 1 + 1,k4,T ++ [t],B ++ [f2],E ++ [(f3,f4)],tb,_),(by (try dsimp only); omega),by simp [weaker,Go.PV.look],by rw [ht]; simp [wideS,fRow,xRow,encT,TermI.row,encX,ints,PV.encI]; rfl,by omega,g4,hnx⟩
   ·simp -dsimp (maxSteps:=4000000) +contextual (disch:=first | omega | decide +kernel) only [↓vsD,vsE,↓Nat.reduceLT,simprocAttr,nx_next,exNextO_codes,vcel,vgap,nmE_cell,hcl,hnn,← hk1,← hf1,eT,bytesB,lenB,List.set_cons_succ]
    refine v_draws _ _ _ _ _ _ [3,5,9,11,14,16,18] [] [(0,1),(0,1),(0,0),(0,0),(1,1),(0,0),(0,4),(0,4),(0,2),(0,0),(0,3),(0,0),(4,4),(4,4),(0,0),(2,5),(0,0),(6,6),(0,0)] (by decide +kernel) (by decide +kernel) (by decide +kernel) (by decide +kernel) ?_
    simp -dsimp (maxSteps:=4000000) +contextual (disch:=first | omega | decide +kernel) only [↓vsD,vsE,↓Nat.reduceLT,simprocAttr,nx_next,exNextO_codes,vdA,↓vd_end,↓vdm_go,↓vd_op,↓guard_none,↓guard_some,vcel,vgap,nmE_cell,hcl,← hk2,← hk3,← hk4,← hf2,← hf3,← hf4,eB,eE,bytesB,lenB]
    exact ⟨(j + 1 + 1,k4,T ++ [t],B ++ [f2],E ++ [(f3,f4)],tb,_),(by (try dsimp only); omega),by simp [weaker,Go.PV.look],by rw [ht]; simp [wideS,fRow,xRow,encT,TermI.row,encX,ints,PV.encI]; rfl,by omega,g4,hnx⟩
 ·obtain rfl:b = n:=by omega
  obtain ⟨j,rfl⟩:∃ j,b = j + 1:=⟨b - 1,by omega⟩
  simp only [wideS,fRow,xRow]
  simp -dsimp (maxSteps:=4000000) +contextual (disch:=first | omega | decide +kernel) only [↓vsD,vsE,↓Nat.reduceLT,simprocAttr,nx_next,exNextO_codes,vcel,nmE_cell]
  refine v_draws _ _ _ _ _ _ [2,3] [] [(0,0),(0,1),(0,0),(0,0)] (by decide +kernel) (by decide +kernel) (by decide +kernel) (by decide +kernel) ?_
  simp -dsimp (maxSteps:=4000000) +contextual (disch:=first | omega | decide +kernel) only [↓vsD,vsE,↓Nat.reduceLT,simprocAttr,nx_next,exNextO_codes,vdA,↓vd_end,↓vdm_go,↓vd_op,↓guard_none,↓guard_some,vcel,nmE_cell]
  refine fin1 (p2:=.tup [fnV nmE T,cnV B E]) (Frz.tup _ _ rfl (fun i p hi=>?_)) (codes_bel _ _ _) ⟨T,B,E,k,rfl,rfl,hI⟩
  match i,hi with
  | 0,hi =>
   cases hi
   refine Frz.agg _ _ rfl (fun i p hi=>?_)
   match i,hi with
   | 0,hi=>cases hi; exact .keep _ (nmE_bel _)
   | 1,hi=>cases hi; exact .keep _ (bel_int _ _ _)
   | 2,hi=>cases hi; exact .keep _ (bel_int _ _ _)
   | 3,hi=>cases hi; exact Frz.msl0 (elem:=47) (sz:=8) (by omega) rfl (encT_bel _ _)
   | i + 4,hi=>simp at hi
  | 1,hi =>
   cases hi
   refine Frz.agg _ _ rfl (fun i p hi=>?_)
   match i,hi with
   | 0,hi=>cases hi; exact .keep _ (bel_int _ _ _)
   | 1,hi=>cases hi; exact Frz.msl0 (elem:=3) (sz:=1) (by omega) rfl (enc_bel _ _ _)
   | 2,hi=>cases hi; exact Frz.msl0 (elem:=48) (sz:=2) (by omega) rfl (encX_bel _ _)
   | 3,hi=>cases hi; exact .keep _ (bel_nils _)
   | i + 4,hi=>simp at hi
  | i + 2,hi=>simp at hi
end Go.Proofs.Ytangodmcbmeeaaa
