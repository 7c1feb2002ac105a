import Derived.Test.YthjoehaglonjaaaGreatStW
import Derived.Test.YthjoehaglonjaaaGreatSvA
set_option maxRecDepth 8000
set_option linter.unusedSimpArgs false
set_option linter.unusedVariables false
namespace Go.Proofs.YthjoehaglonjaaaGreat
open Go.PV
theorem plusS_ok (a b:Int) (ha:a ≤ 1099511627776) (hb:b ≤ 1099511627776) (σ:Store):PCall Tryz.prog 48 [.int .i64 a,.int .i64 b] σ (fun p σ'=>p = .int .i64 (plusI a b) ∧ σ' = σ):=by
 refine PCall.vraw [] 575 17 [.tmp 4] (noE_ok _) mix Tryz.func48 rfl (by decide) rfl rfl (by simp) ?_
 simp -dsimp only [initFr,List.zipIdx_cons,List.zipIdx_nil,List.map_cons,List.map_nil,Nat.zero_add,Nat.reduceAdd]
 simp -dsimp (maxSteps:=4000000) +contextual (disch:=first | omega | decide +kernel) only [↓vsD,vsE,↓Nat.reduceLT,simprocAttr]
 unfold plusI
 refine ⟨fun h=>by rw [if_pos h],fun h=>⟨fun h2=>by rw [if_neg h,if_pos h2],fun h2=>by rw [if_neg h,if_neg h2]; split <;> omega⟩⟩
theorem sumR_ok (a b:Int) (ha:a ≤ 1099511627776) (hb:b ≤ 1099511627776) (σ:Store):PCall Tryz.prog 10 [.int .i64 a,.int .i64 b] σ (fun p σ'=>p = .int .i64 (if a < 0 then b else if b < 0 then a else min (a + b) 1099511627776) ∧ σ' = σ):=by
 refine PCall.vraw [] 607 15 [.tmp 4] (noE_ok _) mix Tryz.func10 rfl (by decide) rfl rfl (by simp) ?_
 simp -dsimp only [initFr,List.zipIdx_cons,List.zipIdx_nil,List.map_cons,List.map_nil,Nat.zero_add,Nat.reduceAdd]
 simp -dsimp (maxSteps:=4000000) +contextual (disch:=first | omega | decide +kernel) only [↓vsD,vsE,↓Nat.reduceLT,simprocAttr]
 exact ⟨fun h=>trivial,fun h=>⟨fun h2=>trivial,fun h2=>trivial⟩⟩
theorem sS1_w (a b:Site):PCall Tryz.prog 75 [.agg a.row,.agg b.row] [] (fun p _=>p = .int .i64 (cmpS a b)):=by
 unfold Site.row
 refine PCall.vfrz [] 31 17 [.tmp 4] sc1_ok mix Tryz.func75 rfl (by decide) rfl rfl (by simp) ?_
 simp -dsimp only [initFr,List.zipIdx_cons,List.zipIdx_nil,List.map_cons,List.map_nil,Nat.zero_add,Nat.reduceAdd]
 simp -dsimp (maxSteps:=4000000) +contextual (disch:=first | omega | decide +kernel) only [↓vsD,vsE,↓Nat.reduceLT,simprocAttr,sc1_cmp,sc1_or2,sc1_or3,sc1_cntd,sc1_numd,sc1_known,sc1_number]
 refine v_draws _ _ _ _ _ _ [4,9,11] [] [(0,0),(0,0),(0,0),(0,0),(0,0),(0,1),(0,1),(0,1),(0,1),(0,0),(2,2),(0,0),(3,3)] (by decide +kernel) (by decide +kernel) (by decide +kernel) (by decide +kernel) ?_
 simp -dsimp (maxSteps:=4000000) +contextual (disch:=first | omega | decide +kernel) only [↓vsD,vsE,↓Nat.reduceLT,simprocAttr,sc1_cmp,sc1_or2,sc1_or3,sc1_cntd,sc1_numd,sc1_known,sc1_number,vdA,↓vdD]
 exact fin0 (.keep _ (bel_int _ _ _)) rfl
theorem sS1_on (a b:Site) (σ:Store):PCall Tryz.prog 75 [.agg a.row,.agg b.row] σ (fun p σ'=>p = .int .i64 (cmpS a b) ∧ σ' = σ) :=
 PCall.lift (sS1_w a b) (bel2 (bel_site _ a) (bel_site _ b)) (fun p h=>⟨by rw [h]; exact bel_int _ _ _,h,rfl⟩)
theorem bel_tg (k:Nat) (a:Int × Int):Bel k (.agg [.int .i64 a.1,.int .i64 a.2]):=bel_agg (fun p hp=>encT_bel k [a] [.int .i64 a.1,.int .i64 a.2] (by simp [encT]) p hp)
theorem sT1_w (a b:Int × Int):PCall Tryz.prog 82 [.agg [.int .i64 a.1,.int .i64 a.2],.agg [.int .i64 b.1,.int .i64 b.2]] [] (fun p _=>p = .int .i64 (cmpI a.1 b.1)):=by
 refine PCall.vfrz [] 31 10 [.tmp 4] sc1_ok mix Tryz.func82 rfl (by decide) rfl rfl (by simp) ?_
 simp -dsimp only [initFr,List.zipIdx_cons,List.zipIdx_nil,List.map_cons,List.map_nil,Nat.zero_add,Nat.reduceAdd]
 simp -dsimp (maxSteps:=4000000) +contextual (disch:=first | omega | decide +kernel) only [↓vsD,vsE,↓Nat.reduceLT,simprocAttr,sc1_cmp,sc1_or2,sc1_or3,sc1_cntd,sc1_numd,sc1_known,sc1_number]
 exact fin0 (.keep _ (bel_int _ _ _)) rfl
theorem sT1_on (a b:Int × Int) (σ:Store):PCall Tryz.prog 82 [.agg [.int .i64 a.1,.int .i64 a.2],.agg [.int .i64 b.1,.int .i64 b.2]] σ (fun p σ'=>p = .int .i64 (cmpI a.1 b.1) ∧ σ' = σ) :=
 PCall.lift (sT1_w a b) (bel2 (bel_tg _ a) (bel_tg _ b)) (fun p h=>⟨by rw [h]; exact bel_int _ _ _,h,rfl⟩)
theorem mid_w (i j:Nat) (h:i + j < 2 ^ 60):(IntKind.i64.wrap ((IntKind.u64.wrap ((i:Int) + (j:Int))).fdiv (2 ^ (min 1 IntKind.u64.bits)))) = (((i + j) / 2:Nat):Int):=by
 have h1:IntKind.u64.wrap ((i:Int) + (j:Int)) = ((i + j:Nat):Int):=by
  simp only [IntKind.wrap,IntKind.bits,IntKind.signed]
  simp
  omega
 rw [h1]
 have e2:(2:Int) ^ (min 1 IntKind.u64.bits) = 2:=by decide
 rw [e2,Int.fdiv_eq_ediv_of_nonneg _ (by omega),IntKind.wrap_i64]
 omega
structure BsI {α:Type} (p:α → Bool) (d:α) (l:List α) (i j:Nat):Prop where
 ij:i ≤ j
 jl:j ≤ l.length
 a:∀ t,t < i → p (l.getD t d) = true
 b:∀ t,j ≤ t → t < l.length → p (l.getD t d) = false
theorem bef_cmp (x s:Site):bef s.blk s.ins x = decide (cmpS x s < 0):=by
 unfold bef
 rw [decide_eq_decide,cmpS_lt]; rfl
theorem sHas_cmp (x s:Site):(x.blk = s.blk ∧ x.ins = s.ins) ↔ cmpS x s = 0:=by
 unfold cmpS or2 cmpI
 repeat' split
 all_goals omega
set_option maxRecDepth 8000 in
set_option maxHeartbeats 8000000 in
theorem bsS_w (l:List Site) (s:Site) (hs:SoS l) (hl:l.length < 1000000):PCall Tryz.prog 78 [.sl (encS l),.agg s.row,.func (.func 75) [] []] []
  (fun p _=>p = .tup [.int .i64 (sPos l s.blk s.ins),.bool (decide (sHas l s.blk s.ins))]):=by
 have hF:∀ args σ,noE.f 75 args σ = none:=fun _ _=>rfl
 have hmono:∀ t u,t ≤ u → u < l.length → bef s.blk s.ins (l.getD u default) = true → bef s.blk s.ins (l.getD t default) = true:=fun t u htu hu h=>by
  rcases Nat.lt_or_eq_of_le htu with h1 | rfl
  ·have hR:=List.pairwise_iff_getElem.1 hs t u (by omega) hu h1
   rw [List.getD_eq_getElem?_getD,List.getElem?_eq_getElem hu,Option.getD_some] at h
   rw [List.getD_eq_getElem?_getD,List.getElem?_eq_getElem (show t < l.length by omega),Option.getD_some]
   unfold bef at h ⊢
   unfold siteLt at hR
   rw [decide_eq_true_eq] at h ⊢
   omega
  ·exact h
 have hfn:∀ p:PV,p = .tup [.int .i64 (sPos l s.blk s.ins),.bool (decide (sHas l s.blk s.ins))] → ∀ σ',Go.PV.Fin [] (fun p _=>p = .tup [.int .i64 (sPos l s.blk s.ins),.bool (decide (sHas l s.blk s.ins))]) p σ':=fun p h σ'=>by
  rw [h]
  exact fin0 (.keep _ (bel_tup (fun q hq=>by
   simp only [List.mem_cons,List.not_mem_nil,or_false] at hq
   rcases hq with rfl | rfl
   ·exact bel_int _ _ _
   ·exact bel_bool _ _))) rfl
 have hc:∀ (x:Site) (σ:Store),PCall Tryz.prog 75 [.agg [.int .i64 x.blk,.int .i64 x.ins,.sl (encT x.tg)],.agg [.int .i64 s.blk,.int .i64 s.ins,.sl (encT s.tg)]] σ (fun p σ'=>p = .int .i64 (cmpS x s) ∧ σ' = σ):=fun x σ=>sS1_on x s σ
 rw [Site.row]
 refine PCall.vfrz [] 2147618815 49 [.tmp 6,.tmp 7] (noE_ok _) mix Tryz.func78 rfl (by decide) rfl rfl (by simp) ?_
 simp -dsimp only [initFr,List.zipIdx_cons,List.zipIdx_nil,List.map_cons,List.map_nil,Nat.zero_add,Nat.reduceAdd]
 simp -dsimp (maxSteps:=4000000) +contextual (disch:=first | omega | decide +kernel) only [↓vsD,vsE,↓Nat.reduceLT,simprocAttr,encS_length]
 refine v_loopS (fun s1:Nat × Nat=>[(0,.sl (encS l)),(2,.func (.func 75) [] []),(4,.ptr 0 0 0 0),(8,.int .i64 l.length),(9,.int .i64 s1.1),(10,.int .i64 s1.2)]) (fun _=>[.rows 82 3 [[.int .i64 s.blk,.int .i64 s.ins,.sl (encT s.tg)]] 0])
  (fun s1=>BsI (bef s.blk s.ins) default l s1.1 s1.2) (fun s1=>s1.2 - s1.1) (0,l.length) (by simp [weaker,Go.PV.look]) rfl ⟨Nat.zero_le _,Nat.le_refl _,fun t h=>absurd h (Nat.not_lt_zero _),fun t h1 h2=>by omega⟩ ?_
 rintro ⟨i,j⟩ hI
 have h1:=hI.ij
 have h2:=hI.jl
 dsimp only at h1 h2 ⊢
 by_cases hij:i < j
 ·have hm:=mid_w i j (by omega)
  have hml:(i + j) / 2 < l.length:=by omega
  simp -dsimp (maxSteps:=4000000) +contextual (disch:=first | omega | decide +kernel) only [↓vsD,vsE,↓Nat.reduceLT,simprocAttr,encS_length,vcel]
  rw [hm]
  refine v_draws _ _ _ _ _ _ [6] [] [(0,0),(0,0),(0,0),(0,0),(0,0),(0,0),(0,0),(1,1)] (by decide +kernel) (by decide +kernel) (by decide +kernel) (by decide +kernel) ?_
  simp -dsimp (maxSteps:=4000000) +contextual (disch:=first | omega | decide +kernel) only [↓vsD,vsE,↓Nat.reduceLT,simprocAttr,vdA,↓vd_end,↓vdm_go,↓vd_op,↓guard_none,↓guard_some,vcel,encS_length,encS_getD,hF]
  refine ⟨_,_,hc _ _,by simp [rowsAt,outR],?_⟩
  simp -dsimp (maxSteps:=4000000) +contextual (disch:=first | omega | decide +kernel) only [↓vsD,vsE,↓Nat.reduceLT,simprocAttr,vdA,↓vd_end,↓vdm_go,↓vd_op,↓guard_none,↓guard_some,vcel,encS_length,encS_getD,hF]
  refine ⟨fun h=>?_,fun h=>?_⟩
  ·exact ⟨((i + j) / 2 + 1,j),(by (try dsimp only); omega),(by simp [weaker,Go.PV.look]),rfl,by dsimp only; omega,h2,fun t ht=>hmono t ((i + j) / 2) (by dsimp only at ht; omega) hml (by rw [bef_cmp]; exact decide_eq_true h),hI.b⟩
  ·refine ⟨(i,(i + j) / 2),(by (try dsimp only); omega),(by simp [weaker,Go.PV.look]),rfl,by dsimp only; omega,by dsimp only; omega,hI.a,fun t ht htl=>?_⟩
   cases hb:bef s.blk s.ins (l.getD t default) with
   | false=>rfl
   | true =>
    have:=hmono ((i + j) / 2) t ht htl hb
    rw [bef_cmp] at this
    exact absurd (of_decide_eq_true this) h
 ·obtain rfl:i = j:=by omega
  have hp:sPos l s.blk s.ins = i:=posL_uniq _ default h2 hI.a (fun h=>hI.b i (Nat.le_refl _) h)
  simp -dsimp (maxSteps:=4000000) +contextual (disch:=first | omega | decide +kernel) only [↓vsD,vsE,↓Nat.reduceLT,simprocAttr,encS_length,vcel]
  refine v_draws _ _ _ _ _ _ [11] [] [(0,1),(0,0),(0,0),(0,0),(0,0),(0,0),(0,0),(0,0),(0,0),(0,0),(0,0),(0,0),(1,1),(1,1),(1,1),(1,1)] (by decide +kernel) (by decide +kernel) (by decide +kernel) (by decide +kernel) ?_
  by_cases hil:i < l.length
  ·simp -dsimp (maxSteps:=4000000) +contextual (disch:=first | omega | decide +kernel) only [↓vsD,vsE,↓Nat.reduceLT,simprocAttr,vdA,↓vd_end,↓vdm_go,↓vd_op,↓guard_none,↓guard_some,vcel,encS_length,encS_getD,hF]
   refine ⟨_,_,hc _ _,by simp [rowsAt,outR],?_⟩
   simp -dsimp (maxSteps:=4000000) +contextual (disch:=first | omega | decide +kernel) only [↓vsD,vsE,↓Nat.reduceLT,simprocAttr,vdA,↓vd_end,↓vdm_go,↓vd_op,↓guard_none,↓guard_some,vcel,encS_length,encS_getD,hF]
   have he:=sHas_cmp (l.getD i default) s
   refine ⟨fun h=>hfn _ ?_ _,fun h=>hfn _ ?_ _⟩
   ·rw [hp,decide_eq_true (show sHas l s.blk s.ins from ⟨by rw [hp]; exact hil,by rw [hp]; exact he.2 h⟩)]
   ·rw [hp,decide_eq_false (fun h2:sHas l s.blk s.ins=>h (he.1 (by have:=h2.2; rw [hp] at this; exact this)))]
  ·simp -dsimp (maxSteps:=4000000) +contextual (disch:=first | omega | decide +kernel) only [↓vsD,vsE,↓Nat.reduceLT,simprocAttr,vdA,↓vd_end,↓vdm_go,↓vd_op,↓guard_none,↓guard_some,vcel,encS_length,encS_getD,hF]
   exact hfn _ (by rw [hp,decide_eq_false (fun h:sHas l s.blk s.ins=>hil (by have:=h.1; rw [hp] at this; exact this))]) _
def tHas (l:List (Int × Int)) (t:Int × Int):Prop:=posL (fun x=>decide (x.1 < t.1)) l < l.length ∧ (l.getD (posL (fun x=>decide (x.1 < t.1)) l) (0,0)).1 = t.1
instance (l:List (Int × Int)) (t:Int × Int):Decidable (tHas l t):=by unfold tHas; infer_instance
theorem befT_cmp (x s:Int × Int):decide (x.1 < s.1) = decide (cmpI x.1 s.1 < 0):=by
 rw [decide_eq_decide]; unfold cmpI
 repeat' split
 all_goals omega
theorem tHas_cmp (x s:Int × Int):x.1 = s.1 ↔ cmpI x.1 s.1 = 0:=by
 unfold cmpI
 repeat' split
 all_goals omega
set_option maxRecDepth 8000 in
set_option maxHeartbeats 8000000 in
theorem bsT_w (l:List (Int × Int)) (s:Int × Int) (hs:SoT l) (hl:l.length < 1000000):PCall Tryz.prog 81 [.sl (encT l),.agg [.int .i64 s.1,.int .i64 s.2],.func (.func 82) [] []] []
  (fun p _=>p = .tup [.int .i64 (posL (fun x=>decide (x.1 < s.1)) l),.bool (decide (tHas l s))]):=by
 have hF:∀ args σ,noE.f 82 args σ = none:=fun _ _=>rfl
 have hmono:∀ t u,t ≤ u → u < l.length → (decide ((l.getD u (0,0)).1 < s.1)) = true → (decide ((l.getD t (0,0)).1 < s.1)) = true:=fun t u htu hu h=>by
  rcases Nat.lt_or_eq_of_le htu with h1 | rfl
  ·have hR:=List.pairwise_iff_getElem.1 hs t u (by omega) hu h1
   rw [List.getD_eq_getElem?_getD,List.getElem?_eq_getElem hu,Option.getD_some] at h
   rw [List.getD_eq_getElem?_getD,List.getElem?_eq_getElem (show t < l.length by omega),Option.getD_some]
   rw [decide_eq_true_eq] at h ⊢
   omega
  ·exact h
 have hfn:∀ p:PV,p = .tup [.int .i64 (posL (fun x=>decide (x.1 < s.1)) l),.bool (decide (tHas l s))] → ∀ σ',Go.PV.Fin [] (fun p _=>p = .tup [.int .i64 (posL (fun x=>decide (x.1 < s.1)) l),.bool (decide (tHas l s))]) p σ':=fun p h σ'=>by
  rw [h]
  exact fin0 (.keep _ (bel_tup (fun q hq=>by
   simp only [List.mem_cons,List.not_mem_nil,or_false] at hq
   rcases hq with rfl | rfl
   ·exact bel_int _ _ _
   ·exact bel_bool _ _))) rfl
 have hc:∀ (x:Int × Int) (σ:Store),PCall Tryz.prog 82 [.agg [.int .i64 x.1,.int .i64 x.2],.agg [.int .i64 s.1,.int .i64 s.2]] σ (fun p σ'=>p = .int .i64 (cmpI x.1 s.1) ∧ σ' = σ):=fun x σ=>sT1_on x s σ
 refine PCall.vfrz [] 2147618815 49 [.tmp 6,.tmp 7] (noE_ok _) mix Tryz.func81 rfl (by decide) rfl rfl (by simp) ?_
 simp -dsimp only [initFr,List.zipIdx_cons,List.zipIdx_nil,List.map_cons,List.map_nil,Nat.zero_add,Nat.reduceAdd]
 simp -dsimp (maxSteps:=4000000) +contextual (disch:=first | omega | decide +kernel) only [↓vsD,vsE,↓Nat.reduceLT,simprocAttr,encT_length]
 refine v_loopS (fun s1:Nat × Nat=>[(0,.sl (encT l)),(2,.func (.func 82) [] []),(4,.ptr 0 0 0 0),(8,.int .i64 l.length),(9,.int .i64 s1.1),(10,.int .i64 s1.2)]) (fun _=>[.rows 79 2 [[.int .i64 s.1,.int .i64 s.2]] 0])
  (fun s1=>BsI (fun x:Int × Int=>decide (x.1 < s.1)) (0,0) l s1.1 s1.2) (fun s1=>s1.2 - s1.1) (0,l.length) (by simp [weaker,Go.PV.look]) rfl ⟨Nat.zero_le _,Nat.le_refl _,fun t h=>absurd h (Nat.not_lt_zero _),fun t h1 h2=>by omega⟩ ?_
 rintro ⟨i,j⟩ hI
 have h1:=hI.ij
 have h2:=hI.jl
 dsimp only at h1 h2 ⊢
 by_cases hij:i < j
 ·have hm:=mid_w i j (by omega)
  have hml:(i + j) / 2 < l.length:=by omega
  simp -dsimp (maxSteps:=4000000) +contextual (disch:=first | omega | decide +kernel) only [↓vsD,vsE,↓Nat.reduceLT,simprocAttr,encT_length,vcel]
  rw [hm]
  refine v_draws _ _ _ _ _ _ [6] [] [(0,0),(0,0),(0,0),(0,0),(0,0),(0,0),(0,0),(1,1)] (by decide +kernel) (by decide +kernel) (by decide +kernel) (by decide +kernel) ?_
  simp -dsimp (maxSteps:=4000000) +contextual (disch:=first | omega | decide +kernel) only [↓vsD,vsE,↓Nat.reduceLT,simprocAttr,vdA,↓vd_end,↓vdm_go,↓vd_op,↓guard_none,↓guard_some,vcel,encT_length,encT_getD,hF]
  refine ⟨_,_,hc _ _,by simp [rowsAt,outR],?_⟩
  simp -dsimp (maxSteps:=4000000) +contextual (disch:=first | omega | decide +kernel) only [↓vsD,vsE,↓Nat.reduceLT,simprocAttr,vdA,↓vd_end,↓vdm_go,↓vd_op,↓guard_none,↓guard_some,vcel,encT_length,encT_getD,hF]
  refine ⟨fun h=>?_,fun h=>?_⟩
  ·exact ⟨((i + j) / 2 + 1,j),(by (try dsimp only); omega),(by simp [weaker,Go.PV.look]),rfl,by dsimp only; omega,h2,fun t ht=>hmono t ((i + j) / 2) (by dsimp only at ht; omega) hml (by rw [befT_cmp]; exact decide_eq_true h),hI.b⟩
  ·refine ⟨(i,(i + j) / 2),(by (try dsimp only); omega),(by simp [weaker,Go.PV.look]),rfl,by dsimp only; omega,by dsimp only; omega,hI.a,fun t ht htl=>?_⟩
   cases hb:decide ((l.getD t (0,0)).1 < s.1) with
   | false=>rfl
   | true =>
    have:=hmono ((i + j) / 2) t ht htl hb
    rw [befT_cmp] at this
    exact absurd (of_decide_eq_true this) h
 ·obtain rfl:i = j:=by omega
  have hp:posL (fun x=>decide (x.1 < s.1)) l = i:=posL_uniq _ (0,0) h2 hI.a (fun h=>hI.b i (Nat.le_refl _) h)
  simp -dsimp (maxSteps:=4000000) +contextual (disch:=first | omega | decide +kernel) only [↓vsD,vsE,↓Nat.reduceLT,simprocAttr,encT_length,vcel]
  refine v_draws _ _ _ _ _ _ [11] [] [(0,1),(0,0),(0,0),(0,0),(0,0),(0,0),(0,0),(0,0),(0,0),(0,0),(0,0),(0,0),(1,1),(1,1),(1,1),(1,1)] (by decide +kernel) (by decide +kernel) (by decide +kernel) (by decide +kernel) ?_
  by_cases hil:i < l.length
  ·simp -dsimp (maxSteps:=4000000) +contextual (disch:=first | omega | decide +kernel) only [↓vsD,vsE,↓Nat.reduceLT,simprocAttr,vdA,↓vd_end,↓vdm_go,↓vd_op,↓guard_none,↓guard_some,vcel,encT_length,encT_getD,hF]
   refine ⟨_,_,hc _ _,by simp [rowsAt,outR],?_⟩
   simp -dsimp (maxSteps:=4000000) +contextual (disch:=first | omega | decide +kernel) only [↓vsD,vsE,↓Nat.reduceLT,simprocAttr,vdA,↓vd_end,↓vdm_go,↓vd_op,↓guard_none,↓guard_some,vcel,encT_length,encT_getD,hF]
   have he:=tHas_cmp (l.getD i (0,0)) s
   refine ⟨fun h=>hfn _ ?_ _,fun h=>hfn _ ?_ _⟩
   ·rw [hp,decide_eq_true (show tHas l s from ⟨by rw [hp]; exact hil,by rw [hp]; exact he.2 h⟩)]
   ·rw [hp,decide_eq_false (fun h2:tHas l s=>h (he.1 (by have:=h2.2; rw [hp] at this; exact this)))]
  ·simp -dsimp (maxSteps:=4000000) +contextual (disch:=first | omega | decide +kernel) only [↓vsD,vsE,↓Nat.reduceLT,simprocAttr,vdA,↓vd_end,↓vdm_go,↓vd_op,↓guard_none,↓guard_some,vcel,encT_length,encT_getD,hF]
   exact hfn _ (by rw [hp,decide_eq_false (fun h:tHas l s=>hil (by have:=h.1; rw [hp] at this; exact this))]) _
theorem insS_nil (σ:Store) (p vp:Nat) (row:List PV) (hp:σ[p]? = some (.rows 82 3 [row] vp)) (hn:newsOk Tryz.prog 82 [row] = true) :
  PCall Tryz.prog 79 [.nils,.int .i64 0,.msl p vp] σ (fun q τ=>q = .msl σ.length 0 ∧ τ = σ ++ [.rows 82 3 [row] 0]):=by
 refine PCall.vraw [12] 295147905181504570367 95 [.tmp 6] (noE_ok _) mix Tryz.func79 rfl (by decide) rfl rfl (by simp) ?_
 simp -dsimp only [initFr,List.zipIdx_cons,List.zipIdx_nil,List.map_cons,List.map_nil,Nat.zero_add,Nat.reduceAdd]
 simp -dsimp (maxSteps:=4000000) +contextual (disch:=first | omega | decide +kernel) only [↓vsD,vsE,↓Nat.reduceLT,simprocAttr,hp,hn,bytesK,lenK,vgap]
theorem insS_end (σ:Store) (oo v p vp:Nat) (Rw:List (List PV)) (row:List PV) (ho:σ[oo]? = some (.rows 82 3 Rw v)) (hp:σ[p]? = some (.rows 82 3 [row] vp)) (hne:oo ≠ p) (hl:Rw.length ≤ 1000000) (hn:newsOk Tryz.prog 82 [row] = true) :
  PCall Tryz.prog 79 [.msl oo v,.int .i64 Rw.length,.msl p vp] σ (fun q τ=>q = .msl oo (v + 1) ∧ τ = σ.set oo (.rows 82 3 (Rw ++ [row]) (v + 1))):=by
 refine PCall.vraw [12] 295147905181504570367 95 [.tmp 6] (noE_ok _) mix Tryz.func79 rfl (by decide) rfl rfl (by simp) ?_
 simp -dsimp only [initFr,List.zipIdx_cons,List.zipIdx_nil,List.map_cons,List.map_nil,Nat.zero_add,Nat.reduceAdd]
 simp -dsimp (maxSteps:=4000000) +contextual (disch:=first | omega | decide +kernel) only [↓vsD,vsE,↓Nat.reduceLT,simprocAttr,ho,hp,hn,bytesK,lenK,vgap]
theorem insT_nil (σ:Store) (p vp:Nat) (row:List PV) (hp:σ[p]? = some (.rows 79 2 [row] vp)) (hn:newsOk Tryz.prog 79 [row] = true) :
  PCall Tryz.prog 83 [.nils,.int .i64 0,.msl p vp] σ (fun q τ=>q = .msl σ.length 0 ∧ τ = σ ++ [.rows 79 2 [row] 0]):=by
 refine PCall.vraw [12] 295147905181504570367 95 [.tmp 6] (noE_ok _) mix Tryz.func83 rfl (by decide) rfl rfl (by simp) ?_
 simp -dsimp only [initFr,List.zipIdx_cons,List.zipIdx_nil,List.map_cons,List.map_nil,Nat.zero_add,Nat.reduceAdd]
 simp -dsimp (maxSteps:=4000000) +contextual (disch:=first | omega | decide +kernel) only [↓vsD,vsE,↓Nat.reduceLT,simprocAttr,hp,hn,bytesK,lenK,vgap]
theorem cloneSi_nil (σ:Store):PCall Tryz.prog 74 [.nils] σ (fun p σ'=>p = .nils ∧ σ' = σ):=by
 refine PCall.vraw [5] 23 8 [.tmp 2] (noE_ok _) mix Tryz.func74 rfl (by decide) rfl rfl (by simp) ?_
 simp -dsimp only [initFr,List.zipIdx_cons,List.zipIdx_nil,List.map_cons,List.map_nil,Nat.zero_add,Nat.reduceAdd]
 simp -dsimp (maxSteps:=4000000) +contextual (disch:=first | omega | decide +kernel) only [↓vsD,vsE,↓Nat.reduceLT,simprocAttr,slcSi,vgap]
theorem cloneTg_nil (σ:Store):PCall Tryz.prog 80 [.nils] σ (fun p σ'=>p = .nils ∧ σ' = σ):=by
 refine PCall.vraw [5] 23 8 [.tmp 2] (noE_ok _) mix Tryz.func80 rfl (by decide) rfl rfl (by simp) ?_
 simp -dsimp only [initFr,List.zipIdx_cons,List.zipIdx_nil,List.map_cons,List.map_nil,Nat.zero_add,Nat.reduceAdd]
 simp -dsimp (maxSteps:=4000000) +contextual (disch:=first | omega | decide +kernel) only [↓vsD,vsE,↓Nat.reduceLT,simprocAttr,slcTg,vgap]
theorem cloneTg_m (σ:Store) (t v:Nat) (rows:List (List PV)) (ht:σ[t]? = some (.rows 79 2 rows v)) (h0:0 < rows.length) (hl:rows.length ≤ 3000000) (hn:newsOk Tryz.prog 79 rows = true) :
  PCall Tryz.prog 80 [.msl t v] σ (fun p σ'=>p = .msl σ.length 1 ∧ σ' = σ ++ [.rows 79 2 rows 1]):=by
 refine PCall.vraw [5] 23 8 [.tmp 2] (noE_ok _) mix Tryz.func80 rfl (by decide) rfl rfl (by simp) ?_
 simp -dsimp only [initFr,List.zipIdx_cons,List.zipIdx_nil,List.map_cons,List.map_nil,Nat.zero_add,Nat.reduceAdd]
 have htl:=(List.getElem?_eq_some_iff.1 ht).1
 have ht2:∀ X:Store,(σ ++ X)[t]? = some (.rows 79 2 rows v):=fun X=>by rw [List.getElem?_append_left htl,ht]
 simp -dsimp (maxSteps:=4000000) +contextual (disch:=first | omega | decide +kernel) only [↓vsD,vsE,↓Nat.reduceLT,simprocAttr,slcTg,vgap,bytesK,lenK,Bool.or_false,Bool.true_or,hn,ht,ht2]
end Go.Proofs.YthjoehaglonjaaaGreat
