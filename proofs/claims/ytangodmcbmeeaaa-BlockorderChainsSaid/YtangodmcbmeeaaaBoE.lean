import Derived.Test.YtangodmcbmeeaaaBoA
import Derived.Test.YtangodmcbmeeaaaSoI
set_option maxRecDepth 8000
set_option linter.unusedSimpArgs false
set_option linter.unusedVariables false
namespace Go.Proofs.Ytangodmcbmeeaaa
open Go.PV
theorem natB_succ (n:Nat):natB (n + 1) = natB n ++ [(n:Int)]:=by simp [natB,List.range_succ]
theorem natB_pair (n:Nat):(natB n).Pairwise (fun a b=>a ≤ b):=by
 unfold natB
 rw [List.pairwise_map]
 exact List.pairwise_le_range.imp (fun h=>by omega)
theorem natB_mem {n:Nat} {f:Int} (h:f ∈ natB n):0 ≤ f ∧ f < n:=by
 obtain ⟨i,hi,rfl⟩:=List.mem_map.1 h
 have:=List.mem_range.1 hi
 omega
theorem natB_nodup (n:Nat):(natB n).Nodup:=List.pairwise_map.2 (List.nodup_range.imp fun hne e=>hne (by omega))
theorem sort_natB {l:List Int} {n:Nat} (h:l.Perm (natB n)):(l.mergeSort fun x y=>decide (x ≤ y)) = natB n:=by
 have hp:(l.mergeSort fun x y=>decide (x ≤ y)).Perm (natB n):=(List.mergeSort_perm l _).trans h
 have hs:(l.mergeSort fun x y=>decide (x ≤ y)).Pairwise (fun a b=>a ≤ b):=(List.pairwise_mergeSort (le:=fun x y:Int=>decide (x ≤ y)) (fun a b c h1 h2=>by simp at h1 h2 ⊢; omega) (fun a b=>by simp; omega) l).imp (fun h=>by simpa using h)
 exact hp.eq_of_pairwise (fun a b _ _ h1 h2=>by omega) hs (natB_pair n)
theorem slcB:isSlcT Try.prog 29 = true:=by kernel_rfl
theorem newsB (l:List Int):newsOk Try.prog 3 (ints l) = true:=by
 show newsOk _ _ (List.map _ _) = true
 simp [newsOk,PV.cell,tyC]
theorem cloneB (x:Int) (l:List Int) (hl:l.length ≤ 1000) (σ:Store):PCall Try.prog 68 [.sl (ints (x :: l))] σ (fun p σ'=>p = .msl σ.length 1 ∧ σ' = σ ++ [.rows 3 1 (ints (x :: l)) 1]):=by
 refine PCall.vraw [5] 23 8 [.tmp 2] (noE_ok _) mix Try.func68 rfl (by decide) rfl rfl (by simp) ?_
 simp -dsimp only [initFr,List.zipIdx_cons,List.zipIdx_nil,List.map_cons,List.map_nil,Nat.zero_add,Nat.reduceAdd]
 have hn:=newsB (x :: l)
 have hc:ints (x :: l) = [.int .i64 x] :: ints l:=rfl
 have hi:(ints l).length = l.length:=enc_length _ _
 rw [hc] at hn ⊢
 simp -dsimp (maxSteps:=4000000) +contextual (disch:=first | omega | decide +kernel) only [↓vsD,vsE,↓Nat.reduceLT,simprocAttr,slcB,vgap,bytesB,lenB,Bool.or_false,Bool.true_or,hn,hi]
theorem equalB (o v:Nat) (a:List Int) (ha:a.length ≤ 1000) (σ:Store) (ho:σ[o]? = some (.rows 3 1 (ints a) v)):PCall Try.prog 70 [.msl o v,.sl (ints a)] σ (fun p σ'=>p = .bool true ∧ σ' = σ):=by
 refine PCall.vraw [] 16806975 26 [.tmp 4] (noE_ok _) mix Try.func70 rfl (by decide) rfl rfl (by simp) ?_
 simp -dsimp only [initFr,List.zipIdx_cons,List.zipIdx_nil,List.map_cons,List.map_nil,Nat.zero_add,Nat.reduceAdd]
 simp -dsimp (maxSteps:=4000000) +contextual (disch:=first | omega | decide +kernel) only [↓vsD,vsE,↓Nat.reduceLT,simprocAttr,ho,intsB_len]
 refine v_loopS (fun i:Nat=>[(0,.msl o v),(1,.sl (ints a)),(12,.int .i64 a.length),(13,.int .i64 i)]) (fun _=>σ) (fun i=>i ≤ a.length) (fun i=>a.length - i) 0 (by simp [weaker,Go.PV.look]) rfl (by omega) ?_
 intro i hi
 by_cases hil:i < a.length
 ·simp -dsimp (maxSteps:=4000000) +contextual (disch:=first | omega | decide +kernel) only [↓vsD,vsE,↓Nat.reduceLT,simprocAttr,ho,intsB_len,intsB_getD]
  exact ⟨i + 1,(by (try dsimp only); omega),(by simp [weaker,Go.PV.look]),rfl,by omega⟩
 ·simp -dsimp (maxSteps:=4000000) +contextual (disch:=first | omega | decide +kernel) only [↓vsD,vsE,↓Nat.reduceLT,simprocAttr,ho,intsB_len]
theorem intsEq_ok (a:List Int) (ha:a.length ≤ 1000) (σ:Store):PCall Try.prog 16 [.sl (ints a),.sl (ints a)] σ (fun p σ'=>p = .bool true ∧ σ' = σ):=by
 refine PCall.vraw [] 33571903 26 [.tmp 4] (noE_ok _) mix Try.func16 rfl (by decide) rfl rfl (by simp) ?_
 simp -dsimp only [initFr,List.zipIdx_cons,List.zipIdx_nil,List.map_cons,List.map_nil,Nat.zero_add,Nat.reduceAdd]
 simp -dsimp (maxSteps:=4000000) +contextual (disch:=first | omega | decide +kernel) only [↓vsD,vsE,↓Nat.reduceLT,simprocAttr,intsB_len]
 refine v_loopS (fun i:Nat=>[(0,.sl (ints a)),(1,.sl (ints a)),(5,.int .i64 i)]) (fun _=>σ) (fun i=>i ≤ a.length) (fun i=>a.length - i) 0 (by simp [weaker,Go.PV.look]) rfl (by omega) ?_
 intro i hi
 by_cases hil:i < a.length
 ·simp -dsimp (maxSteps:=4000000) +contextual (disch:=first | omega | decide +kernel) only [↓vsD,vsE,↓Nat.reduceLT,simprocAttr,intsB_len,intsB_getD]
  exact ⟨i + 1,(by (try dsimp only); omega),(by simp [weaker,Go.PV.look]),rfl,by omega⟩
 ·simp -dsimp (maxSteps:=4000000) +contextual (disch:=first | omega | decide +kernel) only [↓vsD,vsE,↓Nat.reduceLT,simprocAttr,intsB_len]
set_option maxHeartbeats 8000000 in
theorem natural_w (nm:PV) (hnm:PV.cell nm = true) (T:List TermI) (hn0:0 < T.length) (hn:T.length ≤ 40):PCall Try.prog 71 [fnV nm T] [] (fun p _=>p = .sl (ints (natB T.length))):=by
 unfold fnV
 refine PCall.vfrz [] 927 17 [.tmp 2] (noE_ok _) mix Try.func71 rfl (by decide) rfl rfl (by simp) ?_
 simp -dsimp only [initFr,List.zipIdx_cons,List.zipIdx_nil,List.map_cons,List.map_nil,Nat.zero_add,Nat.reduceAdd]
 simp -dsimp (maxSteps:=4000000) +contextual (disch:=first | omega | decide +kernel) only [↓vsD,vsE,↓Nat.reduceLT,simprocAttr,vcel,hnm,encT_length]
 refine v_loopS (fun k:Nat=>[(3,match k with | 0=>.nils | j + 1=>.msl 1 j),(7,.int .i64 T.length),(8,.int .i64 (k:Int))]) (fun k=>match k with | 0=>[.rows 28 4 [[nm,.int .i64 0,.int .i64 1,.sl (encT T)]] 0] | j + 1=>[.rows 28 4 [[nm,.int .i64 0,.int .i64 1,.sl (encT T)]] 0,.rows 3 1 (ints (natB (j + 1))) j]) (fun k=>k ≤ T.length) (fun k=>T.length - k) 0 (by simp [weaker,Go.PV.look]) rfl (Nat.zero_le _) ?_
 intro k hk
 by_cases hkl:k < T.length
 ·cases k with
  | zero =>
   simp -dsimp (maxSteps:=4000000) +contextual (disch:=first | omega | decide +kernel) only [↓vsD,vsE,↓Nat.reduceLT,simprocAttr,bytesB,lenB]
   exact ⟨1,(by (try dsimp only); omega),by simp [weaker,Go.PV.look],rfl,hkl⟩
  | succ j =>
   have hl:(ints (natB (j + 1))).length = j + 1:=by rw [intsB_len,natB_length]
   simp -dsimp (maxSteps:=4000000) +contextual (disch:=first | omega | decide +kernel) only [↓vsD,vsE,↓Nat.reduceLT,simprocAttr,hl,bytesB,lenB]
   exact ⟨j + 1 + 1,(by (try dsimp only); omega),by simp [weaker,Go.PV.look],by simp [natB_succ (j + 1),ints,PV.encI],hkl⟩
 ·obtain ⟨j,rfl⟩:∃ j,k = j + 1:=⟨k - 1,by omega⟩
  have hkn:j + 1 = T.length:=by omega
  simp -dsimp (maxSteps:=4000000) +contextual (disch:=first | omega | decide +kernel) only [↓vsD,vsE,↓Nat.reduceLT,simprocAttr]
  rw [← hkn]
  exact fin0 (Frz.msl0 (elem:=3) (sz:=1) (Nat.zero_le _) rfl (enc_bel _ _ _)) rfl
theorem natural_on (nm:PV) (hnm:PV.cell nm = true) (hB:Bel 0 nm) (T:List TermI) (hn0:0 < T.length) (hn:T.length ≤ 40) (σ:Store):PCall Try.prog 71 [fnV nm T] σ (fun p τ=>p = .sl (ints (natB T.length)) ∧ τ = σ) :=
 PCall.lift (natural_w nm hnm T hn0 hn) (fun x hx=>by rw [List.mem_singleton.1 hx]; exact fnV_bel 0 hB T) (fun p h=>⟨by rw [h]; exact bel_intsB _ _,h,rfl⟩)
theorem fo_bel {nm:PV} (hB:Bel 0 nm) (T:List TermI) (l:List Int):∀ x ∈ [fnV nm T,.sl (ints l)],Bel 0 x:=fun x hx=>by
 simp only [List.mem_cons,List.not_mem_nil,or_false] at hx
 rcases hx with rfl | rfl
 ·exact fnV_bel 0 hB T
 ·exact bel_intsB _ _
theorem ordered_w (nm:PV) (hnm:PV.cell nm = true) (hB:Bel 0 nm) (T:List TermI) (hn0:0 < T.length) (hn:T.length ≤ 40) (l:List Int) (hp:(0 :: l).Perm (natB T.length)):PCall Try.prog 35 [fnV nm T,.sl (ints (0 :: l))] [] (fun p _=>p = .bool true):=by
 have k0:∀ args σ,noE.f 68 args σ = none:=fun _ _=>rfl
 have k1:∀ args σ,noE.f 69 args σ = none:=fun _ _=>rfl
 have k2:∀ args σ,noE.f 71 args σ = none:=fun _ _=>rfl
 have k3:∀ args σ,noE.f 70 args σ = none:=fun _ _=>rfl
 have hll:l.length + 1 = T.length:=by
  have:=hp.length_eq
  rwa [List.length_cons,natB_length] at this
 have hnat:=natural_on nm hnm hB T hn0 hn
 have e1:(ints (0 :: l)).length = l.length + 1:=intsB_len _
 have e2:(ints (0 :: l)).getD 0 [] = [.int .i64 0]:=rfl
 unfold fnV at hnat ⊢
 refine PCall.vfrz [] 16447 23 [.tmp 4] (noE_ok _) mix Try.func35 rfl (by decide) rfl rfl (by simp) ?_
 simp -dsimp only [initFr,List.zipIdx_cons,List.zipIdx_nil,List.map_cons,List.map_nil,Nat.zero_add,Nat.reduceAdd]
 simp -dsimp (maxSteps:=4000000) +contextual (disch:=first | omega | decide +kernel) only [↓vsD,vsE,↓Nat.reduceLT,simprocAttr,vcel,hnm,e1,e2,k0]
 refine PCall.mono (cloneB 0 l (by omega) _) ?_
 rintro p τ ⟨rfl,rfl⟩
 simp -dsimp (maxSteps:=4000000) +contextual (disch:=first | omega | decide +kernel) only [↓vsD,vsE,↓Nat.reduceLT,simprocAttr,vcel,hnm,k1]
 refine PCall.mono (sortInts_ok 1 1 (0 :: l) _ rfl (by rw [List.length_cons]; omega)) ?_
 rintro p τ ⟨rfl,rfl⟩
 rw [sort_natB hp]
 simp -dsimp (maxSteps:=4000000) +contextual (disch:=first | omega | decide +kernel) only [↓vsD,vsE,↓Nat.reduceLT,simprocAttr,vcel,hnm,k2]
 refine PCall.mono (hnat _) ?_
 rintro p τ ⟨rfl,rfl⟩
 simp -dsimp (maxSteps:=4000000) +contextual (disch:=first | omega | decide +kernel) only [↓vsD,vsE,↓Nat.reduceLT,simprocAttr,vcel,hnm,k3]
 refine PCall.mono (equalB 1 1 (natB T.length) (by rw [natB_length]; omega) _ rfl) ?_
 rintro p τ ⟨rfl,rfl⟩
 simp -dsimp (maxSteps:=4000000) +contextual (disch:=first | omega | decide +kernel) only [↓vsD,vsE,↓Nat.reduceLT,simprocAttr]
 exact fin0 (.keep _ (bel_bool _ _)) rfl
theorem ordered_on (nm:PV) (hnm:PV.cell nm = true) (hB:Bel 0 nm) (T:List TermI) (hn0:0 < T.length) (hn:T.length ≤ 40) (l:List Int) (hp:(0 :: l).Perm (natB T.length)) (σ:Store):PCall Try.prog 35 [fnV nm T,.sl (ints (0 :: l))] σ (fun p τ=>p = .bool true ∧ τ = σ) :=
 PCall.lift (ordered_w nm hnm hB T hn0 hn l hp) (fo_bel hB T _) (fun p h=>⟨by rw [h]; exact bel_bool _ _,h,rfl⟩)
def encBo (S:List Bool):List (List PV):=S.map fun b=>[.bool b]
theorem encBo_length (S:List Bool):(encBo S).length = S.length:=by simp [encBo]
theorem encBo_getD (S:List Bool) (i:Nat) (h:i < S.length):(encBo S).getD i [] = [.bool (S.getD i false)]:=by
 simp [encBo,List.getD_eq_getElem?_getD,h]
theorem encBo_set (S:List Bool) (i:Nat):(encBo S).set i [.bool true] = encBo (S.set i true):=by simp [encBo,List.map_set]
structure SeenI (n:Nat) (o:List Int) (i:Nat) (S:List Bool):Prop where
 len:S.length = n
 no:∀ c:Nat,c < n → (c:Int) ∉ o.take i → S.getD c false = false
theorem SeenI.next {n:Nat} {o:List Int} {i c:Nat} {S:List Bool} (h:SeenI n o i S) (hi:i < o.length) (hc:o.getD i 0 = (c:Int)) (hcn:c < n):SeenI n o (i + 1) (S.set c true):=by
 refine ⟨by rw [List.length_set]; exact h.len,fun d hd hm=>?_⟩
 rw [List.take_add_one,List.getElem?_eq_getElem hi,Option.toList_some,List.mem_append,not_or,List.mem_singleton,← getDB (d:=0) hi,hc] at hm
 rw [getD_setB _ _ _ _ _ (by rw [h.len]; exact hcn),if_neg (fun e=>hm.2 (by rw [e]))]
 exact h.no d hd hm.1
theorem perm_at {n:Nat} {o:List Int} (hp:o.Perm (natB n)) {i:Nat} (hi:i < o.length):∃ c:Nat,c < n ∧ o.getD i 0 = (c:Int) ∧ (c:Int) ∉ o.take i:=by
 have hm:o.getD i 0 ∈ natB n:=hp.mem_iff.1 (by rw [getDB hi]; exact List.getElem_mem _)
 obtain ⟨c,hc,e⟩:=List.mem_map.1 hm
 refine ⟨c,List.mem_range.1 hc,e.symm,fun hmm=>?_⟩
 have hnd:o.Nodup:=hp.nodup_iff.2 (natB_nodup n)
 obtain ⟨j,hj,ej⟩:=List.mem_iff_getElem.1 hmm
 rw [List.length_take] at hj
 rw [List.getElem_take] at ej
 rw [getDB hi] at e
 have:=(List.getElem_inj (h₀:=by omega) (h₁:=hi) hnd).1 (ej.trans e)
 omega
set_option maxHeartbeats 8000000 in
theorem rordered_w (nm:PV) (hnm:PV.cell nm = true) (T:List TermI) (hn0:0 < T.length) (hn:T.length ≤ 40) (l:List Int) (hp:(0 :: l).Perm (natB T.length)):PCall Try.prog 15 [fnV nm T,.sl (ints (0 :: l))] [] (fun p _=>p = .bool true):=by
 have hll:(0 :: l).length = T.length:=by
  have:=hp.length_eq
  rwa [natB_length] at this
 have e2:(ints (0 :: l)).getD 0 [] = [.int .i64 0]:=rfl
 obtain ⟨o,ho⟩:∃ o,o = 0 :: l:=⟨_,rfl⟩
 rw [← ho] at hp hll e2 ⊢
 have e1:(ints o).length = T.length:=(intsB_len _).trans hll
 unfold fnV
 refine PCall.vfrz [] 36028798101094527 62 [.tmp 4] (noE_ok _) mix Try.func15 rfl (by decide) rfl rfl (by simp) ?_
 simp -dsimp only [initFr,List.zipIdx_cons,List.zipIdx_nil,List.map_cons,List.map_nil,Nat.zero_add,Nat.reduceAdd]
 simp -dsimp (maxSteps:=4000000) +contextual (disch:=first | omega | decide +kernel) only [↓vsD,vsE,↓Nat.reduceLT,simprocAttr,vcel,hnm,encT_length,e1,e2,bytesB,lenB]
 refine v_loopS (fun s:Nat × List Bool=>[(1,.sl (ints o)),(5,.msl 1 0),(6,.int .i64 (s.1:Int))]) (fun s=>[.rows 28 4 [[nm,.int .i64 0,.int .i64 1,.sl (encT T)]] 0,.rows 4 1 (encBo s.2) 0]) (fun s=>s.1 ≤ T.length ∧ SeenI T.length o s.1 s.2) (fun s=>T.length - s.1) (0,List.replicate T.length false) (by simp [weaker,Go.PV.look]) (by simp [encBo]) ⟨Nat.zero_le _,by simp,fun c hc _=>by simp [List.getD_eq_getElem?_getD,hc]⟩ ?_
 rintro ⟨i,S⟩ ⟨hi,hS⟩
 dsimp only at hi hS ⊢
 by_cases hil:i < T.length
 ·obtain ⟨c,hcn,hc,hcm⟩:=perm_at hp (i:=i) (by rw [hll]; exact hil)
  have q1:(ints o).getD i [] = [.int .i64 (c:Int)]:=by rw [intsB_getD _ _ (by rw [hll]; exact hil),hc]
  have q2:(encBo S).getD c [] = [.bool false]:=by rw [encBo_getD _ _ (by rw [hS.len]; exact hcn),hS.no c hcn hcm]
  have q3:=hS.len
  simp -dsimp (maxSteps:=4000000) +contextual (disch:=first | omega | decide +kernel) only [↓vsD,vsE,↓Nat.reduceLT,simprocAttr,e1,q1,q2,q3,encBo_length,encBo_set]
  exact ⟨(i + 1,S.set c true),(by (try dsimp only); omega),(by simp [weaker,Go.PV.look]),rfl,hil,hS.next (by rw [hll]; exact hil) hc hcn⟩
 ·simp -dsimp (maxSteps:=4000000) +contextual (disch:=first | omega | decide +kernel) only [↓vsD,vsE,↓Nat.reduceLT,simprocAttr,e1]
  exact fin0 (.keep _ (bel_bool _ _)) rfl
theorem rordered_on (nm:PV) (hnm:PV.cell nm = true) (hB:Bel 0 nm) (T:List TermI) (hn0:0 < T.length) (hn:T.length ≤ 40) (l:List Int) (hp:(0 :: l).Perm (natB T.length)) (σ:Store):PCall Try.prog 15 [fnV nm T,.sl (ints (0 :: l))] σ (fun p τ=>p = .bool true ∧ τ = σ) :=
 PCall.lift (rordered_w nm hnm T hn0 hn l hp) (fo_bel hB T _) (fun p h=>⟨by rw [h]; exact bel_bool _ _,h,rfl⟩)
theorem nextOf_last:∀ (l:List Int) (a:Int),(l ++ [a]).Nodup → nextOf (l ++ [a]) a = -1
 | [],_,_=>rfl
 | [b],a,h=>by
  show (if b = a then a else -1) = -1
  rw [if_neg (fun e=>by subst e; simp at h)]
 | b :: c :: l,a,h=>by
  show (if b = a then c else nextOf (c :: (l ++ [a])) a) = -1
  rw [if_neg (fun e=>by subst e; simp at h)]
  exact nextOf_last (c :: l) a (List.nodup_cons.1 h).2
theorem nextOf_at {o:List Int} (hn:o.Nodup) {j:Nat} (hj:j < o.length):nextOf o (o.getD j 0) = if j + 1 < o.length then o.getD (j + 1) 0 else -1:=by
 by_cases h:j + 1 < o.length
 ·rw [if_pos h,getDB hj,getDB h]
  refine nextOf_adj hn ⟨o.take j,o.drop (j + 2),?_⟩
  conv=>lhs; rw [← List.take_append_drop j o,List.drop_eq_getElem_cons hj,List.drop_eq_getElem_cons h]
 ·rw [if_neg h,getDB hj]
  have e:o = o.take j ++ [o[j]]:=by
   conv=>lhs; rw [← List.take_append_drop j o,List.drop_eq_getElem_cons hj,List.drop_eq_nil_of_le (by omega)]
  have:=nextOf_last (o.take j) o[j] (by rw [← e]; exact hn)
  rwa [← e] at this
structure NxI (n:Nat) (o:List Int) (k:Nat) (N:List Int):Prop where
 len:N.length = n
 is:∀ j,j < k → N.getD (o.getD j 0).toNat 0 = if j + 1 < n then o.getD (j + 1) 0 else -1
theorem NxI.next {n:Nat} {o:List Int} {k c:Nat} {N:List Int} (h:NxI n o k N) (hp:o.Perm (natB n)) (hk:k < n) (hc:o.getD k 0 = (c:Int)) (hcn:c < n) (hcm:(c:Int) ∉ o.take k):NxI n o (k + 1) (N.set c (if k + 1 < n then o.getD (k + 1) 0 else -1)):=by
 have hl:o.length = n:=by have:=hp.length_eq; rwa [natB_length] at this
 refine ⟨by rw [List.length_set]; exact h.len,fun j hj=>?_⟩
 rw [getD_setB _ _ _ _ _ (by rw [h.len]; exact hcn)]
 by_cases e:j = k
 ·subst e
  rw [hc,Int.toNat_natCast,if_pos rfl]
 ·obtain ⟨d,hd,hd2,_⟩:=perm_at hp (i:=j) (by rw [hl]; omega)
  have hne:c ≠ d:=fun ecd=>hcm (by
   rw [ecd,← hd2,getDB (show j < o.length by omega)]
   exact List.mem_take_iff_getElem.2 ⟨j,by omega,rfl⟩)
  rw [if_neg (by rw [hd2,Int.toNat_natCast]; exact hne)]
  exact h.is j (by omega)
theorem NxI.all {n:Nat} {o:List Int} {N:List Int} (h:NxI n o n N) (hp:o.Perm (natB n)) {b:Nat} (hb:b < n):N.getD b 0 = nextOf o b:=by
 have hl:o.length = n:=by have:=hp.length_eq; rwa [natB_length] at this
 have hm:(b:Int) ∈ o:=hp.mem_iff.2 (List.mem_map.2 ⟨b,List.mem_range.2 hb,rfl⟩)
 obtain ⟨j,hj,e⟩:=List.mem_iff_getElem.1 hm
 have h1:=h.is j (by omega)
 have h2:=nextOf_at (hp.nodup_iff.2 (natB_nodup n)) hj
 rw [getDB hj,e] at h1 h2
 rw [Int.toNat_natCast] at h1
 rw [h1,h2,hl]
theorem wsum_next (ws:List Way) (o:List Int) (k:Nat) (h:k < ws.length):wsum (ws.take (k + 1)) o = wsum (ws.take k) o + if nextOf o (ws.getD k default).fr = (ws.getD k default).to then (ws.getD k default).cnt else 0:=by
 rw [wsum,List.take_add_one,List.getElem?_eq_getElem h,Option.toList_some,List.map_append,List.sum_append,getDB h]
 simp [wsum]
theorem wsum_le:∀ {ws:List Way} {o:List Int},(∀ w ∈ ws,0 ≤ w.cnt ∧ w.cnt ≤ 1000) → wsum ws o ≤ 1000 * ws.length
 | [],_,_=>by simp [wsum]
 | w :: ws,o,h=>by
  have ih:=wsum_le (ws:=ws) (o:=o) (fun v hv=>h v (by simp [hv]))
  have h1:=h w (by simp)
  have e:wsum (w :: ws) o = (if nextOf o w.fr = w.to then w.cnt else 0) + wsum ws o:=by simp [wsum]
  rw [e,List.length_cons,Int.natCast_add,Int.mul_add]
  split <;> omega
set_option maxHeartbeats 16000000 in
theorem weight_w (nm:PV) (hnm:PV.cell nm = true) (hB:Bel 0 nm) {T:List TermI} {B:List Int} {E:List (Int × Int)} (h:GoodB T B E) (hk:∀ t ∈ T,t.kind = 2 ∨ t.kind = 3) (hne:waysF T E T.length ≠ []) (l:List Int) (hp:(0 :: l).Perm (natB T.length)) :
  PCall Try.prog 17 [fnV nm T,cnV B E,.sl (ints (0 :: l))] [] (fun p _=>p = .int .i64 (wsum (waysF T E T.length) (0 :: l))):=by
 have hn:=h.n
 have hn0:=h.n0
 have hord:=ordered_on nm hnm hB T hn0 hn l hp
 have hfit:=fits_on nm hnm hB h
 have hways:=ways_raw nm hnm h hk hne
 have hll:(0 :: l).length = T.length:=by
  have:=hp.length_eq
  rwa [natB_length] at this
 obtain ⟨o,ho⟩:∃ o,o = 0 :: l:=⟨_,rfl⟩
 rw [← ho] at hp hll hord ⊢
 have e1:(ints o).length = T.length:=(intsB_len _).trans hll
 obtain ⟨L,hL⟩:∃ L,L = waysF T E T.length:=⟨_,rfl⟩
 have hLw:∀ w ∈ L,w.fr < T.length ∧ w.to < T.length ∧ 0 ≤ w.cnt ∧ w.cnt ≤ 1000:=fun w hw=>h.way (by rw [← hL]; exact hw)
 have hLl:L.length ≤ 80:=by
  have:=waysF_len T E T.length
  rw [hL]; omega
 rw [← hL] at hways ⊢
 obtain ⟨n,hnd⟩:∃ n,n = T.length:=⟨_,rfl⟩
 have k0:∀ args σ,noE.f 35 args σ = none:=fun _ _=>rfl
 have k1:∀ args σ,noE.f 32 args σ = none:=fun _ _=>rfl
 have k2:∀ args σ,noE.f 36 args σ = none:=fun _ _=>rfl
 unfold fnV at hord hfit hways ⊢
 unfold cnV at hfit hways ⊢
 refine PCall.vfrz [] 36961043242352123903 72 [.tmp 6] (noE_ok _) mix Try.func17 rfl (by decide) rfl rfl (by simp) ?_
 simp -dsimp only [initFr,List.zipIdx_cons,List.zipIdx_nil,List.map_cons,List.map_nil,Nat.zero_add,Nat.reduceAdd]
 simp -dsimp (maxSteps:=4000000) +contextual (disch:=first | omega | decide +kernel) only [↓vsD,vsE,↓Nat.reduceLT,simprocAttr,vcel,hnm,k0]
 refine PCall.mono (hord _) ?_
 rintro p τ ⟨rfl,rfl⟩
 simp -dsimp (maxSteps:=4000000) +contextual (disch:=first | omega | decide +kernel) only [↓vsD,vsE,↓Nat.reduceLT,simprocAttr,vcel,hnm,k0,k1]
 refine PCall.mono (hfit _) ?_
 rintro p τ ⟨rfl,rfl⟩
 rw [← hnd] at e1 hll hLw hn hn0 hp
 simp -dsimp (maxSteps:=4000000) +contextual (disch:=first | omega | decide +kernel) only [↓vsD,vsE,↓Nat.reduceLT,simprocAttr,vcel,hnm,k0,k1,e1,bytesB,lenB]
 obtain ⟨fb,hfb⟩:∃ fb,fb = Go.PV.Obj.rows 28 4 [[nm,.int .i64 0,.int .i64 1,.sl (encT T)]] 0:=⟨_,rfl⟩
 obtain ⟨cb,hcb⟩:∃ cb,cb = Go.PV.Obj.rows 33 4 [[.int .i64 0,.sl (ints B),.sl (encX E),.nils]] 0:=⟨_,rfl⟩
 rw [← hfb,← hcb]
 refine v_loopS (fun s:Nat × List Int=>[(2,.sl (ints o)),(3,.ptr 0 0 0 0),(4,.ptr 1 0 0 0),(7,.msl 2 0),(26,.sl (ints o)),(27,.int .i64 n),(28,.int .i64 (s.1:Int))]) (fun s=>[fb,cb,.rows 3 1 (ints s.2) 0]) (fun s=>s.1 ≤ n ∧ NxI n o s.1 s.2) (fun s=>n - s.1) (0,List.replicate n 0) (by simp [weaker,Go.PV.look]) (by simp [ints,PV.encI]) ⟨Nat.zero_le _,by simp,fun j hj=>absurd hj (Nat.not_lt_zero _)⟩ ?_
 rintro ⟨k,N⟩ ⟨hk1,hN⟩
 dsimp only at hk1 hN ⊢
 have isl:∀ (A:List Int) (f:Nat) (x:Int),(ints A).set f [.int .i64 x] = ints (A.set f x):=fun A f x=>by simp [ints,PV.encI,List.map_set]
 have hNl:=hN.len
 by_cases hkn:k < n
 ·obtain ⟨c,hcn,hc,hcm⟩:=perm_at hp (i:=k) (by rw [hll]; exact hkn)
  have q1:(ints o).getD k [] = [.int .i64 (c:Int)]:=by rw [intsB_getD _ _ (by rw [hll]; exact hkn),hc]
  have hnx:=hN.next hp hkn hc hcn hcm
  by_cases hk2:k + 1 < n
  ·have q2:(ints o).getD (k + 1) [] = [.int .i64 (o.getD (k + 1) 0)]:=intsB_getD _ _ (by rw [hll]; exact hk2)
   have e3:((k:Int) + 1).toNat = k + 1:=by omega
   have q4:(ints (N.set c (-1))).getD c [] = [.int .i64 (-1)]:=by
    rw [intsB_getD _ _ (by rw [List.length_set,hNl]; exact hcn),getD_setB _ _ _ _ _ (by rw [hNl]; exact hcn),if_pos rfl]
   rw [if_pos hk2] at hnx
   simp -dsimp (maxSteps:=4000000) +contextual (disch:=first | omega | decide +kernel) only [↓vsD,vsE,↓Nat.reduceLT,simprocAttr,e1,q1,q2,e3,intsB_len,hNl,isl,List.length_set,List.set_set,q4]
   exact ⟨(k + 1,_),(by (try dsimp only); omega),(by simp [weaker,Go.PV.look]),rfl,hkn,hnx⟩
  ·rw [if_neg hk2] at hnx
   simp -dsimp (maxSteps:=4000000) +contextual (disch:=first | omega | decide +kernel) only [↓vsD,vsE,↓Nat.reduceLT,simprocAttr,e1,q1,intsB_len,hNl,isl,List.length_set,List.set_set]
   exact ⟨(k + 1,_),(by (try dsimp only); omega),(by simp [weaker,Go.PV.look]),rfl,hkn,hnx⟩
 ·obtain rfl:k = n:=by omega
  rw [hfb,hcb]
  simp -dsimp (maxSteps:=4000000) +contextual (disch:=first | omega | decide +kernel) only [↓vsD,vsE,↓Nat.reduceLT,simprocAttr,vcel,hnm,k2]
  refine PCall.mono (hways _) ?_
  rintro p τ ⟨o2,v,rfl,ho2,⟨Z,rfl⟩,hto⟩
  obtain ⟨R,hR⟩:∃ R:Store,R = [Go.PV.Obj.rows 28 4 [[nm,.int .i64 0,.int .i64 1,.sl (encT T)]] 0,.rows 33 4 [[.int .i64 0,.sl (ints B),.sl (encX E),.nils]] 0,.rows 3 1 (ints N) 0] ++ Z:=⟨_,rfl⟩
  have hR2:R[2]? = some (.rows 3 1 (ints N) 0):=by rw [hR]; rfl
  rw [← hR] at hto ⊢
  clear hR ho2
  simp -dsimp (maxSteps:=4000000) +contextual (disch:=first | omega | decide +kernel) only [↓vsD,vsE,↓Nat.reduceLT,simprocAttr,vcel,hto,encW_length]
  refine v_loopS (fun s:Nat × Store=>[(7,.msl 2 0),(10,.int .i64 (wsum (L.take s.1) o)),(52,.msl o2 v),(53,.int .i64 L.length),(54,.int .i64 (s.1:Int))]) (fun s=>s.2) (fun s=>s.1 ≤ L.length ∧ s.2[2]? = some (.rows 3 1 (ints N) 0) ∧ s.2[o2]? = some (.rows 88 3 (encW L) v)) (fun s=>L.length - s.1) (0,R) (by simp [weaker,Go.PV.look,wsum]) rfl ⟨Nat.zero_le _,hR2,hto⟩ ?_
  clear hR2 hto
  rintro ⟨j,R⟩ ⟨hj,h2,ho2⟩
  dsimp only at hj h2 ho2 ⊢
  have l2:=(List.getElem?_eq_some_iff.1 h2).1
  have lo:=(List.getElem?_eq_some_iff.1 ho2).1
  by_cases hjl:j < L.length
  ·have hw:=hLw _ (show L.getD j default ∈ L by rw [getDB hjl]; exact List.getElem_mem _)
   have x2:∀ X,(R ++ X)[2]? = some (.rows 3 1 (ints N) 0):=fun X=>by rw [List.getElem?_append_left l2,h2]
   have q5:(ints N).getD (L.getD j default).fr [] = [.int .i64 (nextOf o (L.getD j default).fr)]:=by
    rw [intsB_getD _ _ (by rw [hNl]; exact hw.1),hN.all hp hw.1]
   have b1:=wsum_nn (ws:=L.take j) (fun w hw=>(hLw w (List.mem_of_mem_take hw)).2.2.1) o
   have b2:=wsum_le (ws:=L.take j) (o:=o) (fun w hw=>(hLw w (List.mem_of_mem_take hw)).2.2)
   have b3:(L.take j).length ≤ 80:=by rw [List.length_take]; omega
   have hnx:=wsum_next L o j hjl
   have fin:∀ X,(R ++ X)[o2]? = some (.rows 88 3 (encW L) v):=fun X=>by rw [List.getElem?_append_left lo,ho2]
   by_cases hq:nextOf o (L.getD j default).fr = (L.getD j default).to
   ·rw [if_pos hq] at hnx
    simp -dsimp (maxSteps:=4000000) +contextual (disch:=first | omega | decide +kernel) only [↓vsD,vsE,↓Nat.reduceLT,simprocAttr,vcel,vgap,ho2,encW_length,encW_getD,x2,q5,intsB_len,hNl,hq]
    exact ⟨(j + 1,_),(by (try dsimp only); omega),by simp [weaker,Go.PV.look,hnx],rfl,hjl,x2 _,fin _⟩
   ·rw [if_neg hq] at hnx
    simp -dsimp (maxSteps:=4000000) +contextual (disch:=first | omega | decide +kernel) only [↓vsD,vsE,↓Nat.reduceLT,simprocAttr,vcel,vgap,ho2,encW_length,encW_getD,x2,q5,intsB_len,hNl,hq]
    exact ⟨(j + 1,_),(by (try dsimp only); omega),by simp [weaker,Go.PV.look,hnx],rfl,hjl,x2 _,fin _⟩
  ·obtain rfl:j = L.length:=by omega
   simp -dsimp (maxSteps:=4000000) +contextual (disch:=first | omega | decide +kernel) only [↓vsD,vsE,↓Nat.reduceLT,simprocAttr]
   rw [List.take_length]
   exact fin0 (.keep _ (bel_int _ _ _)) rfl
theorem weight_on (nm:PV) (hnm:PV.cell nm = true) (hB:Bel 0 nm) {T:List TermI} {B:List Int} {E:List (Int × Int)} (h:GoodB T B E) (hk:∀ t ∈ T,t.kind = 2 ∨ t.kind = 3) (hne:waysF T E T.length ≠ []) (l:List Int) (hp:(0 :: l).Perm (natB T.length)) (σ:Store) :
  PCall Try.prog 17 [fnV nm T,cnV B E,.sl (ints (0 :: l))] σ (fun p τ=>p = .int .i64 (wsum (waysF T E T.length) (0 :: l)) ∧ τ = σ) :=
 PCall.lift (weight_w nm hnm hB h hk hne l hp) (fun x hx=>by
  simp only [List.mem_cons,List.not_mem_nil,or_false] at hx
  rcases hx with rfl | rfl | rfl
  ·exact fnV_bel 0 hB T
  ·exact cnV_bel 0 B E
  ·exact bel_intsB _ _) (fun p h=>⟨by rw [h]; exact bel_int _ _ _,h,rfl⟩)
end Go.Proofs.Ytangodmcbmeeaaa
