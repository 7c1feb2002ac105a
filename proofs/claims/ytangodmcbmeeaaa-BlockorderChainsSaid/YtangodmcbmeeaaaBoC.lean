import Derived.Test.YtangodmcbmeeaaaBoA
set_option maxRecDepth 8000
set_option linter.unusedSimpArgs false
set_option linter.unusedVariables false
namespace Go.Proofs.Ytangodmcbmeeaaa
open Go.PV
def cellsB (l:List Int):List PV:=l.map (PV.int .i64)
def encM (M:List (List Int)):List (List PV):=M.map cellsB
theorem encM_length (M:List (List Int)):(encM M).length = M.length:=by simp [encM]
theorem encM_getD (M:List (List Int)) (s:Nat) (h:s < M.length):(encM M).getD s [] = cellsB (M.getD s []):=by
 simp [encM,List.getD_eq_getElem?_getD,h]
theorem cellsB_length (l:List Int):(cellsB l).length = l.length:=by simp [cellsB]
theorem cellsB_getD (l:List Int) (j:Nat) (h:j < l.length):(cellsB l).getD j .unk = .int .i64 (l.getD j 0):=by
 simp [cellsB,List.getD_eq_getElem?_getD,h]
theorem cellsB_set (l:List Int) (j:Nat) (x:Int):(cellsB l).set j (.int .i64 x) = cellsB (l.set j x):=by simp [cellsB,List.map_set]
theorem encM_set (M:List (List Int)) (s:Nat) (l:List Int):(encM M).set s (cellsB l) = encM (M.set s l):=by simp [encM,List.map_set]
def wCells (W:Nat → Nat → Int):List Int:=(List.range 81).map fun i=>W (i / 9) (i % 9)
def tabR (W:Nat → Nat → Int) (n ob v:Nat):List PV:=.int .i64 n :: (cellsB (wCells W) ++ [.msl ob v])
theorem wCells_length (W:Nat → Nat → Int):(wCells W).length = 81:=by simp [wCells]
theorem tabR_length (W:Nat → Nat → Int) (n ob v:Nat):(tabR W n ob v).length = 83:=by simp [tabR,cellsB_length,wCells_length]
theorem tabR_n (W:Nat → Nat → Int) (n ob v:Nat):(tabR W n ob v).getD 0 .unk = .int .i64 n:=rfl
theorem tabR_b (W:Nat → Nat → Int) (n ob v:Nat):(tabR W n ob v).getD 82 .unk = .msl ob v:=by
 have h:(cellsB (wCells W)).length = 81:=by rw [cellsB_length,wCells_length]
 show (cellsB (wCells W) ++ [PV.msl ob v]).getD 81 .unk = _
 rw [List.getD_eq_getElem?_getD,List.getElem?_append_right (by omega),h]; rfl
theorem tabR_w (W:Nat → Nat → Int) (n ob v a b:Nat) (ha:a < 9) (hb:b < 9):(tabR W n ob v).getD (1 + a * 9 + b) .unk = .int .i64 (W a b):=by
 have h:(cellsB (wCells W)).length = 81:=by rw [cellsB_length,wCells_length]
 rw [show 1 + a * 9 + b = (a * 9 + b) + 1 by omega]
 show (cellsB (wCells W) ++ [PV.msl ob v]).getD (a * 9 + b) .unk = _
 rw [List.getD_eq_getElem?_getD,List.getElem?_append_left (by omega),← List.getD_eq_getElem?_getD,cellsB_getD _ _ (by rw [wCells_length]; omega)]
 rw [wCells,List.getD_eq_getElem?_getD,List.getElem?_map,List.getElem?_range (by omega)]
 show PV.int .i64 (W ((a * 9 + b) / 9) ((a * 9 + b) % 9)) = _
 rw [show (a * 9 + b) / 9 = a by omega,show (a * 9 + b) % 9 = b by omega]
theorem bitS (s b:Nat) (hs:s < 2 ^ 62) (hb:b < 64):IntKind.i64.wrap ((BitVec.ofInt IntKind.i64.bits ((s:Int).fdiv (2 ^ min b IntKind.i64.bits)) &&& BitVec.ofInt IntKind.i64.bits 1).toNat:Int) = if s.testBit b = true then 1 else 0:=by
 have e:IntKind.i64.bits = 64:=rfl
 rw [e,Nat.min_eq_left (by omega)]
 have e1:(s:Int).fdiv (2 ^ b) = ((s / 2 ^ b:Nat):Int):=by
  rw [Int.fdiv_eq_ediv_of_nonneg _ (Int.pow_nonneg (by decide))]
  norm_cast
 have h1:s / 2 ^ b ≤ s:=Nat.div_le_self _ _
 rw [e1,BitVec.ofInt_natCast,show (1:Int) = ((1:Nat):Int) from rfl,BitVec.ofInt_natCast,BitVec.toNat_and,BitVec.toNat_ofNat,BitVec.toNat_ofNat,Nat.mod_eq_of_lt (by omega),Nat.mod_eq_of_lt (by decide),Nat.and_one_is_mod,Nat.testBit_eq_decide_div_mod_eq]
 rcases (show s / 2 ^ b % 2 = 0 ∨ s / 2 ^ b % 2 = 1 by omega) with h | h
 ·rw [h]; rfl
 ·rw [h]; rfl
theorem orS (s b:Nat) (hs:s < 2 ^ 9) (hb:b < 9):IntKind.i64.wrap ((BitVec.ofInt IntKind.i64.bits (s:Int) ||| BitVec.ofInt IntKind.i64.bits (IntKind.i64.wrap (1 * 2 ^ min b IntKind.i64.bits))).toNat:Int) = ((addB s b:Nat):Int):=by
 have e:IntKind.i64.bits = 64:=rfl
 have h2:s ||| 2 ^ b < 2 ^ 9:=addB_lt 9 hs hb
 have hp:(2:Nat) ^ b < 2 ^ 9:=Nat.pow_lt_pow_right (by decide) hb
 have e1:((2:Int) ^ b) = ((2 ^ b:Nat):Int):=by norm_cast
 have e2:IntKind.i64.wrap ((2 ^ b:Nat):Int) = ((2 ^ b:Nat):Int):=by
  generalize (2:Nat) ^ b = q at hp
  exact wrap_i64 (q:Int) (by omega) (by omega)
 rw [e,Nat.min_eq_left (show b ≤ 64 by omega),Int.one_mul,e1,e2,BitVec.ofInt_natCast,BitVec.ofInt_natCast,BitVec.toNat_or,BitVec.toNat_ofNat,BitVec.toNat_ofNat,Nat.mod_eq_of_lt (by omega),Nat.mod_eq_of_lt (by omega)]
 exact wrap_i64 ((s ||| 2 ^ b:Nat):Int) (by omega) (by omega)
theorem take_drop_set {α:Type} {l:List α} (k:Nat) (x:α) (h:k < l.length):l.take k ++ [x] ++ l.drop (k + 1) = l.set k x:=by
 rw [List.set_eq_take_append_cons_drop,if_pos h,List.append_assoc]; rfl
section
variable {W:Nat → Nat → Int} {n:Nat}
def stM (σ:Store) (ob v:Nat) (M:List (List Int)):Store:=σ.set ob (.rows 124 9 (encM M) v)
def FollK (W:Nat → Nat → Int) (n:Nat) (σ:Store) (ot ob v m s last:Nat) (M:List (List Int)):Prop:=PCall Try.prog 67 [.ptr ot 0 0 0,.int .i64 (s:Int),.int .i64 (last:Int)] (stM σ ob v M) (fun p τ=>p = .int .i64 (GS W n s last) ∧ τ = stM σ ob v (follM W n m s last M))
set_option maxHeartbeats 16000000 in
theorem follow_step (hW:∀ a b,0 ≤ W a b ∧ W a b ≤ 1000000) (hn:n ≤ 9) (σ:Store) (ot ob v:Nat) (hot:σ[ot]? = some (.rows 127 83 [tabR W n ob v] 0)) (hne:ot ≠ ob) (hob:ob < σ.length)
  (m s last:Nat) (M:List (List Int)) (hm:miss n s = m) (hs:s < 2 ^ n) (hl:last < n) (hM:MOK W n M) (ih:∀ b M,b < n → s.testBit b = false → MOK W n M → FollK W n σ ot ob v (m - 1) (addB s b) b M):FollK W n σ ot ob v m s last M:=by
 have t1:∀ M,(stM σ ob v M)[ot]? = some (.rows 127 83 [tabR W n ob v] 0):=fun M=>by rw [stM,List.getElem?_set_ne (fun e=>hne e.symm)]; exact hot
 have t2:∀ M,(stM σ ob v M)[ob]? = some (.rows 124 9 (encM M) v):=fun M=>List.getElem?_set_self hob
 have hsM:s < M.length:=by rw [hM.len]; exact hs
 have r1:=encM_getD M s hsM
 have r2:(cellsB (M.getD s [])).length = 9:=by rw [cellsB_length,hM.row s hs]
 have r3:(cellsB (M.getD s [])).getD last .unk = .int .i64 (mget M s last):=cellsB_getD _ _ (by rw [hM.row s hs]; omega)
 unfold FollK
 rw [follM_eq W n hm]
 have hMl:=hM.len
 refine PCall.vraw [] 564788462079 69 [.tmp 6] (noE_ok _) mix Try.func67 rfl (by decide) rfl rfl (by simp) ?_
 simp -dsimp only [initFr,List.zipIdx_cons,List.zipIdx_nil,List.map_cons,List.map_nil,Nat.zero_add,Nat.reduceAdd]
 by_cases h0:0 ≤ mget M s last
 ·rw [if_pos h0]
  have hk:=hM.known W n hs hl h0
  clear hM
  simp -dsimp (maxSteps:=4000000) +contextual (disch:=first | omega | decide +kernel) only [↓vsD,vsE,↓Nat.reduceLT,simprocAttr,t1,t2,tabR_length,tabR_n,tabR_b,r1,r2,r3,encM_length]
 ·rw [if_neg h0]
  simp -dsimp (maxSteps:=4000000) +contextual (disch:=first | omega | decide +kernel) only [↓vsD,vsE,↓Nat.reduceLT,simprocAttr,t1,t2,tabR_length,tabR_n,tabR_b,r1,r2,r3,encM_length]
  refine v_loopS (fun b:Nat=>[(0,.ptr ot 0 0 0),(1,.int .i64 (s:Int)),(2,.int .i64 (last:Int)),(7,.int .i64 (bestK W (GS W n) s last b)),(31,.int .i64 n),(32,.int .i64 (b:Int))]) (fun b=>stM σ ob v (foldM (follM W n (m - 1)) s b M)) (fun b=>b ≤ n) (fun b=>n - b) 0 (by simp [weaker,Go.PV.look,bestK]) rfl (Nat.zero_le _) ?_
  intro b hb
  have hMb:MOK W n (foldM (follM W n (m - 1)) s b M):=foldM_ok W n hs (fun b M hb _ hM=>follM_ok W n hn (addB_lt n hs hb) hb hM) hb hM
  by_cases hbn:b < n
  ·by_cases hbit:s.testBit b = true
   ·have hq:=bitS s b (by have:=Nat.pow_le_pow_right (show 0 < 2 by decide) hn; omega) (by omega)
    rw [if_pos hbit] at hq
    simp -dsimp (maxSteps:=4000000) +contextual (disch:=first | omega | decide +kernel) only [↓vsD,vsE,↓Nat.reduceLT,simprocAttr,t1,t2,tabR_length,tabR_n,tabR_b,hq]
    exact ⟨b + 1,(by (try dsimp only); omega),by simp [weaker,Go.PV.look,bestK,hbit],by show _ = stM σ ob v (foldM _ s (b + 1) M); rw [foldM,if_pos hbit],hbn⟩
   ·have hq:=bitS s b (by have:=Nat.pow_le_pow_right (show 0 < 2 by decide) hn; omega) (by omega)
    rw [if_neg hbit] at hq
    have k0:∀ args σ,noE.f 67 args σ = none:=fun _ _=>rfl
    simp -dsimp (maxSteps:=4000000) +contextual (disch:=first | omega | decide +kernel) only [↓vsD,vsE,↓Nat.reduceLT,simprocAttr,t1,t2,tabR_length,tabR_n,tabR_b,hq]
    refine v_draws _ _ _ _ _ _ [15] [] [(0,1),(0,1),(0,1),(0,1),(0,1),(0,1),(0,1),(0,1),(0,1),(0,0),(0,0),(0,0),(0,0),(0,0),(0,0),(0,0),(1,1),(1,1),(1,1)] (by decide +kernel) (by decide +kernel) (by decide +kernel) (by decide +kernel) ?_
    have hor:=orS s b (by have:=Nat.pow_le_pow_right (show 0 < 2 by decide) hn; omega) (by omega)
    have w1:=tabR_w W n ob v last b (by omega) (by omega)
    have hw1:=hW last b
    have hbit2:s.testBit b = false:=by simpa using hbit
    have g1:=GS_nn W n (addB s b) b
    have g2:=GS_le n (fun a b=>(hW a b).2) (addB s b) b hn
    have g3:=bestK_nn W (g:=GS W n) (s:=s) (last:=last) b
    simp -dsimp (maxSteps:=4000000) +contextual (disch:=first | omega | decide +kernel) only [↓vsD,vsE,↓Nat.reduceLT,simprocAttr,vdA,↓vd_end,↓vdm_go,↓vd_op,↓guard_none,↓guard_some,t1,t2,tabR_length,tabR_n,tabR_b,hq,k0,hor,w1]
    refine ⟨_,_,ih b _ hbn hbit2 hMb,by simp -dsimp (maxSteps:=4000000) +contextual (disch:=first | omega | decide +kernel) only [↓vsD,vsE,↓Nat.reduceLT,simprocAttr,vdA,↓vd_end,↓vdm_go,↓vd_op,↓guard_none,↓guard_some,t1,t2,tabR_length,w1],?_⟩
    simp -dsimp (maxSteps:=4000000) +contextual (disch:=first | omega | decide +kernel) only [↓vsD,vsE,↓Nat.reduceLT,simprocAttr,vdA,↓vd_end,↓vdm_go,↓vd_op,↓guard_none,↓guard_some,t1,t2,tabR_length,tabR_n,tabR_b,hq,k0,hor,w1]
    refine ⟨b + 1,(by (try dsimp only); omega),?_,by show _ = stM σ ob v (foldM _ s (b + 1) M); rw [foldM,if_neg hbit],hbn⟩
    simp [weaker,Go.PV.look,bestK,hbit2]
  ·obtain rfl:b = n:=by omega
   have hbl:=GS_eq W b s last
   rw [← hbl]
   have q1:=encM_getD _ s (show s < (foldM (follM W b (m - 1)) s b M).length by rw [hMb.len]; exact hs)
   have q2:(cellsB ((foldM (follM W b (m - 1)) s b M).getD s [])).length = 9:=by rw [cellsB_length,hMb.row s hs]
   have q3:=hMb.len
   have hst:∀ (M:List (List Int)) (X:List (List Int)),(stM σ ob v M).set ob (.rows 124 9 (encM X) v) = stM σ ob v X:=fun M X=>by unfold stM; rw [List.set_set]
   simp -dsimp (maxSteps:=4000000) +contextual (disch:=first | omega | decide +kernel) only [↓vsD,vsE,↓Nat.reduceLT,simprocAttr,t1,t2,tabR_length,tabR_n,tabR_b,q1,q2,encM_length]
   rw [take_drop_set _ _ (by rw [q2]; omega),cellsB_set,encM_set,hst]
   rfl
theorem follow_ok (hW:∀ a b,0 ≤ W a b ∧ W a b ≤ 1000000) (hn:n ≤ 9) (σ:Store) (ot ob v:Nat) (hot:σ[ot]? = some (.rows 127 83 [tabR W n ob v] 0)) (hne:ot ≠ ob) (hob:ob < σ.length) :
  ∀ (m s last:Nat) (M:List (List Int)),miss n s = m → s < 2 ^ n → last < n → MOK W n M → FollK W n σ ot ob v m s last M
 | 0,s,last,M,hm,hs,hl,hM=>follow_step hW hn σ ot ob v hot hne hob 0 s last M hm hs hl hM (fun b _ hb hbit _=>by rw [miss_zero hm b hb] at hbit; cases hbit)
 | m + 1,s,last,M,hm,hs,hl,hM=>follow_step hW hn σ ot ob v hot hne hob (m + 1) s last M hm hs hl hM (fun b M' hb hbit hM'=>follow_ok hW hn σ ot ob v hot hne hob m (addB s b) b M' (by have:=miss_add hbit hb; omega) (addB_lt n hs hb) hb hM')
end
end Go.Proofs.Ytangodmcbmeeaaa
