import Derived.Test.YtangodmcbmeeaaaPvH
set_option maxRecDepth 8000
namespace Go.PV
theorem sorted_pairwise:∀ {l:List Nat},sortedB l = true → l.Pairwise (· < ·)
 | [],_=>.nil
 | [_],_=>by simp
 | x :: y :: l,h=>by
  simp only [sortedB,Bool.and_eq_true,decide_eq_true_eq] at h
  have ih:=sorted_pairwise h.2
  refine List.Pairwise.cons (fun z hz=>?_) ih
  rcases List.mem_cons.1 hz with rfl | hz
  ·exact h.1
  ·exact Nat.lt_trans h.1 ((List.pairwise_cons.1 ih).1 z hz)
theorem filter_lt_len:∀ {l:List Nat} (_:l.Pairwise (· < ·)) (k i:Nat),l[k]? = some i → (l.filter (fun e=>decide (e < i))).length = k
 | [],_,k,i,h=>by simp at h
 | x :: l,hp,0,i,h=>by
  simp at h
  subst h
  obtain ⟨h1,h2⟩:=List.pairwise_cons.1 hp
  rw [List.filter_cons_of_neg (by simp),List.filter_eq_nil_iff.2 (fun e he=>by have:=h1 e he; simp; omega)]
  rfl
 | x :: l,hp,k + 1,i,h=>by
  obtain ⟨h1,h2⟩:=List.pairwise_cons.1 hp
  rw [List.getElem?_cons_succ] at h
  have:=h1 i (List.mem_of_getElem? h)
  rw [List.filter_cons_of_pos (by simpa using this),List.length_cons,filter_lt_len h2 k i h]
theorem getD_set (listed:Array Bool) (i:Nat) (hi:i < listed.size) (j:Nat):(listed.setIfInBounds i true).getD j false = if j = i then true else listed.getD j false:=by
 rw [Array.getD_eq_getD_getElem?,Array.getD_eq_getD_getElem?]
 by_cases h:j = i
 ·subst h
  rw [Array.getElem?_setIfInBounds_self_of_lt hi,if_pos rfl]; rfl
 ·rw [Array.getElem?_setIfInBounds_ne (Ne.symm h),if_neg h]
theorem cnt_add {listed:Array Bool} {i:Nat} (hi:i < listed.size) (hn:¬ isIn listed i):∀ {effs:List Nat},effs.Pairwise (· < ·) → cnt effs (listed.setIfInBounds i true) = cnt effs listed + (if i ∈ effs then 1 else 0)
 | [],_=>rfl
 | e :: effs,hp=>by
  obtain ⟨h1,h2⟩:=List.pairwise_cons.1 hp
  have ih:=cnt_add hi hn h2
  unfold cnt at ih ⊢
  by_cases he:e = i
  ·subst he
   have hne:e ∉ effs:=fun h=>Nat.lt_irrefl _ (h1 e h)
   rw [List.filter_cons_of_pos (by rw [getD_set _ _ hi]; simp),List.filter_cons_of_neg (by simpa [isIn] using hn),List.length_cons,ih]
   simp [hne]
  ·have hm:(i ∈ e :: effs) ↔ i ∈ effs:=by simp [Ne.symm he]
   by_cases hl:listed.getD e false = true
   ·rw [List.filter_cons_of_pos (by rw [getD_set _ _ hi,if_neg he]; exact hl),List.filter_cons_of_pos (by exact hl),List.length_cons,List.length_cons,ih]
    simp only [hm]
    omega
   ·rw [List.filter_cons_of_neg (by rw [getD_set _ _ hi,if_neg he]; exact hl),List.filter_cons_of_neg (by exact hl),ih]
    simp only [hm]
theorem slotF_inj {N:Nat} {fls:List Nat} (hp:fls.Pairwise (· < ·)) {i j:Nat} (hi:i ∈ fls) (hj:j ∈ fls) (h:slotF N fls i = slotF N fls j):i = j:=by
 obtain ⟨a,ha⟩:=List.mem_iff_getElem?.1 hi
 obtain ⟨b,hb⟩:=List.mem_iff_getElem?.1 hj
 unfold slotF at h
 rw [filter_lt_len hp a i ha,filter_lt_len hp b j hb] at h
 have:a = b:=by omega
 subst this
 exact Option.some.inj (ha.symm.trans hb)
theorem Real.step {fls:List Nat} {N:Nat} {fobj:Nat → Obj} {come:Nat → Prop} {I I':Imm} {ρ ρ':Rho} {σd σr σd':Store} {w w':World} (h:Real fls N fobj come ρ σd σr) (hinv:Inv I ρ σr w) (hinv':Inv I' ρ' σd' w') (hg:Grow I ρ σd w I' ρ' σd' w') :
  Real fls N fobj come ρ' σd' (backS σd σr σd') ∧ Inv I' ρ' (backS σd σr σd') w' ∧ Grow I ρ σr w I' ρ' (backS σd σr σd') w':=by
 have hk:=h.killed
 have hD:=backS_dead hk hg.deadS
 refine ⟨⟨backS_len _ _ _,fun o ho=>?_,fun i hi=>hg.deadS _ (h.dead i hi),fun i hi hc=>?_,fun i hi hc=>?_⟩,hinv.revive hk hinv' hg (backS_len _ _ _) hD (fun o ho=>backS_other o ho)⟩
 ·by_cases hd:σd[o]? = some .dead
  ·rw [hD o hd,h.out o ho,hd,hg.deadS o hd]
  ·exact backS_other o hd
 ·rw [hD _ (h.dead i hi)]; exact h.inn i hi hc
 ·rw [hD _ (h.dead i hi)]
  exact ⟨(h.yet i hi hc).1,fun ver=>by rw [hg.deadR _ ver (h.dead i hi)]; exact (h.yet i hi hc).2 ver⟩
section
variable {P:Program} {M:List Nat} {n:Nat} {ops:Array Oper} {effs fls:List Nat} {N:Nat} {vals:Nat → PV} {sts:Nat → Store} {fobj:Nat → Obj} {fr:Fr}
theorem all_in (hok:DrawOk ops effs) {listed:Array Bool} (hs:listed.size = ops.size) (hr:Region.ready .any ops listed = []):∀ i,i < ops.size → isIn listed i:=by
 intro i
 induction i using Nat.strongRecOn with
 | _ i ih =>
  intro hi
  apply Classical.byContradiction
  intro hn
  have:i ∈ Region.ready .any ops listed:=by
   refine mem_ready.2 ⟨?_,ops[i],Array.getElem?_eq_getElem hi,fun e he hb=>?_⟩
   ·have:i < listed.size:=by omega
    simp only [isIn,Array.getD_eq_getD_getElem?,Array.getElem?_eq_getElem this,Option.getD_some] at hn ⊢
    simpa using hn
   ·have hlt:=hok.back i _ (Array.getElem?_eq_getElem hi) e (by simpa using he) hb
    exact ih e.on hlt (by omega)
  rw [hr] at this
  cases this
theorem draw_any (hok:DrawOk ops effs) (hfs:sortedB fls = true) (hfi:∀ i ∈ fls,i < ops.size) (hops:∀ (i:Nat) (o:Oper),ops[i]? = some o → OpOk P M n ops effs fls N vals sts fobj fr i o) {Q':Exit → Act → World → Prop} {I0:Imm} {ρ0:Rho} {σ0:Store} {w0:World} {ds:List Deferred} (hN:σ0.length ≤ N)
  (hQ:∀ a' w' I' ρ' σr,Real fls N fobj (fun _=>True) ρ' (sts effs.length) σr → Inv I' ρ' σr w' → Frel I' ρ' n (frT ops vals fr ops.size) a'.tmps → Grow I0 ρ0 σ0 w0 I' ρ' σr w' → a'.defers = ds → Q' .normal a' w') :
  ∀ (fuel:Nat) (listed:Array Bool) (a:Act) (w:World) (I:Imm) (ρ:Rho) (σr:Store),listed.size = ops.size → Closed ops listed → listed.toList.countP (fun b=>!b) ≤ fuel → Real fls N fobj (isIn listed) ρ (sts (cnt effs listed)) σr → Inv I ρ σr w → a.tmps.size = n →
   (∀ t,R I ρ (gT ops vals fr listed t ops.size) (a.tmps.getD t Go.undef)) → Grow I0 ρ0 σ0 w0 I ρ σr w → a.defers = ds → wpAny P .any ops Q' fuel listed a w:=by
 have hpw:=sorted_pairwise hok.sorted
 have hpf:=sorted_pairwise hfs
 have fin:∀ (listed:Array Bool) (a:Act) (w:World) (I:Imm) (ρ:Rho) (σr:Store),listed.size = ops.size → Real fls N fobj (isIn listed) ρ (sts (cnt effs listed)) σr → Inv I ρ σr w → a.tmps.size = n →
   (∀ t,R I ρ (gT ops vals fr listed t ops.size) (a.tmps.getD t Go.undef)) → Grow I0 ρ0 σ0 w0 I ρ σr w → a.defers = ds → Region.ready .any ops listed = [] → Q' .normal a w:=by
  intro listed a w I ρ σr hs hreal hinv hsz hR hg hd hr
  have hall:=all_in hok hs hr
  have hc:cnt effs listed = effs.length:=by
   unfold cnt
   rw [List.filter_eq_self.2 (fun e he=>hall e (hok.inside e he))]
  rw [hc] at hreal
  refine hQ a w I ρ σr ⟨hreal.len,hreal.out,hreal.dead,fun i hi _=>hreal.inn i hi (hall i (hfi i hi)),fun _ _ h=>absurd trivial h⟩ hinv ⟨hsz,fun t=>?_⟩ hg hd
  have:=gT_eq (vals:=vals) (fr:=fr) (ops:=ops) listed t ops.size (fun j hj _=>hall j hj) (fun j hj hdst=>by
   have:ops[j]? = none:=Array.getElem?_eq_none hj
   rw [this] at hdst; cases hdst) ops.size
  rw [Nat.min_self] at this
  rw [← this]
  exact hR t
 intro fuel
 induction fuel with
 | zero =>
  intro listed a w I ρ σr hs _ hf hreal hinv hsz hR hg hd
  have hr:Region.ready .any ops listed = []:=by
   apply Classical.byContradiction
   intro hne
   obtain ⟨i,hi⟩:=List.exists_mem_of_ne_nil _ hne
   have h0:=(mem_ready.1 hi).1
   have hlt:i < listed.size:=by
    rcases Nat.lt_or_ge i listed.size with h | h
    ·exact h
    ·rw [Array.getD_eq_getD_getElem?,Array.getElem?_eq_none h] at h0; cases h0
   have:0 < listed.toList.countP (fun b=>!b):=List.countP_pos_iff.2 ⟨listed[i],by simp,by
    rw [Array.getD_eq_getD_getElem?,Array.getElem?_eq_getElem hlt] at h0
    simpa using h0⟩
   omega
  exact ⟨hr,fin listed a w I ρ σr hs hreal hinv hsz hR hg hd hr⟩
 | succ fuel ih =>
  intro listed a w I ρ σr hs hc hf hreal hinv hsz hR hg hd
  refine ⟨fin listed a w I ρ σr hs hreal hinv hsz hR hg hd,fun i hi=>?_⟩
  obtain ⟨hun,o,ho,hedges⟩:=mem_ready.1 hi
  have hio:i < ops.size:=(Array.getElem?_eq_some_iff.1 ho).1
  have hil:i < listed.size:=by omega
  have hnin:¬ isIn listed i:=by
   rw [Array.getD_eq_getD_getElem?,Array.getElem?_eq_getElem hil] at hun
   unfold isIn
   rw [Array.getD_eq_getD_getElem?,Array.getElem?_eq_getElem hil]
   simpa using hun
  have hed:∀ e ∈ o.after.toList,Region.binds .any e = true → isIn listed e.on:=fun e he hb=>hedges e (by simpa using he) hb
  have hbef:=before_in hok hc i o ho hed
  have hlater:∀ j,i < j → j < ops.size → forced (beforeL ops) i j = true → ¬ isIn listed j:=fun j hij hj hfo hlj=>by
   simp only [forced,Bool.or_eq_true,beq_iff_eq] at hfo
   rcases hfo with hfo | hfo
   ·omega
   ·rw [if_neg (by omega)] at hfo
    have hoj:=Array.getElem?_eq_getElem hj
    exact hnin (before_in hok hc j _ hoj (hc j _ hlj hoj) i hfo)
  have hearlier:∀ j,j < i → forced (beforeL ops) i j = true → isIn listed j:=fun j hji hfo=>by
   simp only [forced,Bool.or_eq_true,beq_iff_eq] at hfo
   rcases hfo with hfo | hfo
   ·omega
   ·rw [if_pos hji] at hfo
    exact hbef j hfo
  have hdst:∀ j t,(ops[j]?).bind (·.dst) = some t → t ∈ looksL ops o → forced (beforeL ops) i j = true ∧ j < ops.size:=fun j t hj ht=>by
   cases hoj:ops[j]? with
   | none=>rw [hoj] at hj; cases hj
   | some oj=>rw [hoj] at hj; exact ⟨hok.slots i j o oj t ho hoj hj ht,(Array.getElem?_eq_some_iff.1 hoj).1⟩
  have hslot:∀ t,t ∈ looksL ops o → gT ops vals fr listed t ops.size = look (frT ops vals fr i) t:=fun t ht=>by
   have:=gT_eq (vals:=vals) (fr:=fr) (ops:=ops) listed t i (fun j hj hd=>hearlier j hj (hdst j t hd ht).1) (fun j hj hd=>by
    rcases Nat.eq_or_lt_of_le hj with h | h
    ·rw [← h]; exact hnin
    ·exact hlater j h (hdst j t hd ht).2 (hdst j t hd ht).1) ops.size
   rwa [Nat.min_eq_right (by omega)] at this
  have hRs:∀ t,t ∈ o.looksAt ops → R I ρ (look (frT ops vals fr i) t) (a.tmps.getD t Go.undef):=fun t ht=>by
   rw [← hslot t (by simp [looksL,ht])]; exact hR t
  obtain ⟨hfit,hcase⟩:=hops i o ho
  have hin':∀ j,isIn (listed.setIfInBounds i true) j ↔ j = i ∨ isIn listed j:=fun j=>by
   unfold isIn
   rw [getD_set _ _ hil]
   by_cases hji:j = i
   ·simp [hji]
   ·simp [hji]
  have next:∀ (p:PV) (v:Value) (w':World) (I':Imm) (ρ':Rho) (σ':Store),p = vals i → Real fls N fobj (isIn (listed.setIfInBounds i true)) ρ' (sts (cnt effs (listed.setIfInBounds i true))) σ' → R I' ρ' p v → Inv I' ρ' σ' w' →
    (∀ b off v,I b off = some v → I' b off = some v) → (∀ x ver L,ρ x ver = some L → ρ' x ver = some L) → Grow I0 ρ0 σ0 w0 I' ρ' σ' w' →
    wpAny P .any ops Q' fuel (listed.setIfInBounds i true) (a.put o.dst v) w':=by
   intro p v w' I' ρ' σ' hp hreal' hRp hinv' himm hrho hgrow
   subst hp
   refine ih _ _ _ I' ρ' σ' (by simpa using hs) ?_ ?_ hreal' hinv' ?_ ?_ hgrow ?_
   ·intro j oj hj hoj e he hb
    unfold isIn at hj ⊢
    rw [getD_set _ _ hil] at hj ⊢
    by_cases hji:j = i
    ·subst hji
     cases ho.symm.trans hoj
     split
     ·rfl
     ·exact hed e he hb
    ·rw [if_neg hji] at hj
     split
     ·rfl
     ·exact hc j oj hj hoj e he hb
   ·have hfalse:listed.toList[i]'(by simpa using hil) = false:=by
     unfold isIn at hnin
     rw [Array.getD_eq_getD_getElem?,Array.getElem?_eq_getElem hil] at hnin
     simpa using hnin
    have hpos:0 < listed.toList.countP (fun b=>!b):=List.countP_pos_iff.2 ⟨_,List.getElem_mem (by simpa using hil),by rw [hfalse]; rfl⟩
    rw [Array.toList_setIfInBounds,List.countP_set (by simpa using hil),hfalse]
    simp only [Bool.not_false,if_true,Bool.not_true,Bool.false_eq_true,if_false,Nat.add_zero]
    omega
   ·cases hdd:o.dst <;> simp [Act.put,hsz]
   ·intro t
    rw [gT_add (vals:=vals) (fr:=fr) hil t (fun hd j hij hj=>by
     have:=hdst j t hj (by
      rw [ho] at hd
      simp only [Option.bind_some] at hd
      simp [looksL,hd])
     exact hlater j hij this.2 this.1) ops.size hio]
    have hold:=(hR t).mono himm hrho
    rw [ho]
    simp only [Option.bind_some]
    rcases (show o.dst = none ∨ ∃ d,o.dst = some d from by cases o.dst <;> simp) with hdd | ⟨d,hdd⟩
    ·simp only [hdd,Act.put,reduceCtorEq,if_false]
     exact hold
    ·have hdn:d < a.tmps.size:=by rw [hdd] at hfit; rw [hsz]; exact hfit
     simp only [hdd,Act.put,Option.some.injEq]
     rw [Array.getD_eq_getD_getElem?]
     by_cases hdt:d = t
     ·subst hdt
      rw [if_pos rfl,Array.getElem?_setIfInBounds_self_of_lt hdn]
      exact hRp
     ·rw [if_neg hdt,Array.getElem?_setIfInBounds_ne hdt,← Array.getD_eq_getD_getElem?]
      exact hold
   ·cases hdd:o.dst <;> simpa [Act.put] using hd
  have hcnt:∀ k,effs[k]? = some i → cnt effs listed = k:=fun k hk=>by
   rw [← filter_lt_len hpw k i hk]
   unfold cnt
   congr 1
   refine List.filter_congr (fun e he=>?_)
   have hfe:=hok.effs i (List.mem_of_getElem? hk) e he
   rcases Nat.lt_trichotomy e i with h | h | h
   ·have:=hearlier e h hfe
    unfold isIn at this
    simp [this,h]
   ·subst h
    unfold isIn at hnin
    simpa using hnin
   ·have:=hlater e h (hok.inside e he) hfe
    unfold isIn at this
    simp only [Bool.not_eq_true] at this
    simp [this]; omega
  have hadd:=cnt_add hil hnin hpw
  unfold wpOp
  simp only [ho]
  have hstay:i ∉ fls → ∀ {ρ':Rho} {σd' σr':Store},Real fls N fobj (isIn listed) ρ' σd' σr' → Real fls N fobj (isIn (listed.setIfInBounds i true)) ρ' σd' σr':=fun hnf {ρ' σd' σr'} h=>by
   have hii:∀ j ∈ fls,isIn (listed.setIfInBounds i true) j ↔ isIn listed j:=fun j hj=>by
    rw [hin']
    exact ⟨fun h=>h.elim (fun e=>absurd (e ▸ hj) hnf) id,.inr⟩
   exact ⟨h.len,h.out,h.dead,fun j hj hc=>h.inn j hj ((hii j hj).1 hc),fun j hj hc=>h.yet j hj (fun h'=>hc ((hii j hj).2 h'))⟩
  rcases hcase with ⟨hgf,hv,hst,hfd⟩ | ⟨hgt,hcase⟩
  ·have hw:=wanted_of hRs hgf
   rw [if_neg (by rw [hw]; simp)]
   have hsts:sts (cnt effs (listed.setIfInBounds i true)) = sts (cnt effs listed):=by
    rw [hadd]
    by_cases hm:i ∈ effs
    ·rw [if_pos hm]
     obtain ⟨k,hk⟩:=List.mem_iff_getElem?.1 hm
     rw [hcnt k hk,hst k hk]
    ·rw [if_neg hm]; rfl
   refine next .undef Go.undef w I ρ σr hv.symm ?_ .undef hinv (fun _ _ _ h=>h) (fun _ _ _ h=>h) hg
   rw [hsts]
   refine ⟨hreal.len,hreal.out,hreal.dead,fun j hj hc=>?_,fun j hj hc=>hreal.yet j hj (fun h=>hc ((hin' j).2 (.inr h)))⟩
   rcases (hin' j).1 hc with rfl | h
   ·rw [hfd hj]; exact (hreal.yet j hj hnin).1
   ·exact hreal.inn j hj h
  ·have hw:=wanted_of hRs hgt
   rw [if_pos hw]
   have he:∀ x,R I ρ (evR (o.looksAt ops) (frT ops vals fr i) x) (a.eval x):=fun x=>by
    cases x with
    | tmp t =>
     simp only [evR]
     split
     ·rename_i hm
      exact hRs t (by simpa using hm)
     ·exact .unk _
    | const v=>exact .ofVal _ _ v
    | global g=>exact .unk _
    | func f=>exact .func _ _ _ _ _ rfl rfl (by simp) (by simp)
   left
   have hkill:=hinv.kill hreal.killed
   rcases hcase with ⟨hm,hnf,hout⟩ | ⟨hnf,k,hk,hout⟩ | ⟨hm,hmf,hob,mk,hmk,hvi,hout⟩
   ·have hlo:loE ops effs i ≤ cnt effs listed:=by
     unfold loE cnt
     rw [← List.countP_eq_length_filter,← List.countP_eq_length_filter]
     exact List.countP_mono_left (fun e _ he=>hbef e he)
    have hhi:cnt effs listed ≤ hiE ops effs i:=by
     unfold hiE cnt
     rw [← List.countP_eq_length_filter,← List.countP_eq_length_filter]
     refine List.countP_mono_left (fun e hme hle=>?_)
     simp only [Bool.not_eq_true',← Bool.not_eq_true]
     intro hb
     have hes:=Array.getElem?_eq_getElem (hok.inside e hme)
     exact hnin (before_in hok hc e _ hes (hc e _ hle hes) i hb)
    refine stepW_sound hkill he (stepC_stepW (hout _ hlo hhi)) (fun p σ' I' ρ' v w' hk hR' hinv' hgrow=>?_)
    obtain ⟨hp,hσ⟩:=hk
    subst hσ
    obtain ⟨r1,r2,r3⟩:=hreal.step hinv hinv' hgrow
    refine next p v w' I' ρ' _ hp ?_ hR' r2 r3.imm r3.rho (hg.trans r3)
    rw [hadd,if_neg hm]
    exact hstay hnf r1
   ·have hck:=hcnt k hk
    rw [hck] at hreal hkill
    refine stepW_sound hkill he (stepC_stepW hout) (fun p σ' I' ρ' v w' hk' hR' hinv' hgrow=>?_)
    obtain ⟨hp,hσ⟩:=hk'
    subst hσ
    obtain ⟨r1,r2,r3⟩:=hreal.step hinv hinv' hgrow
    refine next p v w' I' ρ' _ hp ?_ hR' r2 r3.imm r3.rho (hg.trans r3)
    rw [hadd,if_pos (List.mem_of_getElem? hk),hck]
    exact hstay hnf r1
   ·refine stepW_sound hinv he (stepC_stepW (hout σr)) (fun p σ' I' ρ' v w' hk' hR' hinv' hgrow=>?_)
    obtain ⟨hp,hσ⟩:=hk'
    subst hσ
    obtain ⟨hyd,hyr⟩:=hreal.yet i hmf hnin
    have hNs:σ0.length ≤ slotF N fls i:=Nat.le_trans hN (Nat.le_add_right _ _)
    obtain ⟨f1,f2,f3,f4⟩:=hinv.float hyd hyr hinv' hgrow hob hg hNs
    refine next (vals i) v w' I' _ _ rfl ?_ ?_ f1 hgrow.imm f3 f2
    ·rw [hadd,if_neg hm]
     have hslt:=(List.getElem?_eq_some_iff.1 hyd).1
     refine ⟨by rw [List.length_set]; exact hreal.len,fun x hx=>?_,hreal.dead,fun j hj hc=>?_,fun j hj hc=>?_⟩
     ·rw [List.getElem?_set_ne (hx i hmf)]
      exact hreal.out x hx
     ·by_cases hji:j = i
      ·rw [hji,List.getElem?_set_self hslt]
      ·rw [List.getElem?_set_ne (fun h=>hji (slotF_inj hpf hj hmf h.symm))]
       exact hreal.inn j hj (((hin' j).1 hc).resolve_left hji)
     ·have hji:j ≠ i:=fun h=>hc ((hin' j).2 (.inl h))
      have hnj:¬ isIn listed j:=fun h=>hc ((hin' j).2 (.inr h))
      rw [List.getElem?_set_ne (fun h=>hji (slotF_inj hpf hj hmf h.symm))]
      refine ⟨(hreal.yet j hj hnj).1,fun ver=>?_⟩
      have hsj:=(List.getElem?_eq_some_iff.1 (hreal.yet j hj hnj).1).1
      have hne:slotF N fls j ≠ slotF N fls i:=fun h=>hji (slotF_inj hpf hj hmf h)
      simp only [moveR,hne,if_false,hsj,if_true]
      rw [hgrow.deadR _ ver (hreal.yet j hj hnj).1]
      exact (hreal.yet j hj hnj).2 ver
    ·rw [hvi]
     subst hp
     rcases hmk with rfl | rfl
     ·cases hR' with
      | msl _ _ L hL=>exact .msl _ _ L (by rw [f4]; exact hL)
     ·cases hR' with
      | ptr _ _ _ _ L hL=>exact .ptr _ _ _ _ L (by rw [f4]; exact hL)
end
def lhOf (ops:Array Oper) (effs:List Nat):List (Nat × Nat):=(List.range ops.size).map fun i=>(loE ops effs i,hiE ops effs i)
def place (σ:Store):Nat → List Obj → Store
 | _,[]=>σ
 | N,X :: Xs=>place (σ.set N X) (N + 1) Xs
def pdr (P:Program) (M:List Nat) (n:Nat) (ops:Array Oper) (effs fls:List Nat) (N:Nat) (Q:Fr → Store → Prop):Nat → List (Oper × Nat × Nat) → List (Nat × (Store → Prop)) → List Store → List Obj → Fr → Prop
 | _,[],_,past,acc,fr=>∃ σ,past.getLast? = some σ ∧ Q fr (place σ N acc)
 | i,(o,lo,hi) :: rest,pend,past,acc,fr=>fits n o.dst ∧ (match guardP ops fr o with
  | some true=>if effs.contains i then ∃ σ p σ',past.getLast? = some σ ∧ Out P M ops σ fr o p σ' ∧ (∀ c ∈ pend,past.length ≤ c.1 → c.2 σ') ∧ pdr P M n ops effs fls N Q (i + 1) rest pend (past ++ [σ']) acc (putF fr o.dst p)
    else if fls.contains i then ∃ mk obj,isMk mk ∧ ObjBel 0 obj ∧ (∀ σ,stepC P (mutOf M o.dst) σ (evR (o.looksAt ops) fr) (fun q σ''=>q = mk σ.length ∧ σ'' = σ ++ [obj]) o.op) ∧
     pdr P M n ops effs fls N Q (i + 1) rest pend past (acc ++ [obj]) (putF fr o.dst (mk (N + acc.length)))
    else ∃ p,(∀ σ ∈ past.drop lo,Out P M ops σ fr o p σ) ∧ pdr P M n ops effs fls N Q (i + 1) rest (pend ++ [(hi,fun σ=>Out P M ops σ fr o p σ)]) past acc (putF fr o.dst p)
  | some false=>if effs.contains i then ∃ σ,past.getLast? = some σ ∧ (∀ c ∈ pend,past.length ≤ c.1 → c.2 σ) ∧ pdr P M n ops effs fls N Q (i + 1) rest pend (past ++ [σ]) acc (putF fr o.dst .undef)
    else if fls.contains i then pdr P M n ops effs fls N Q (i + 1) rest pend past (acc ++ [.dead]) (putF fr o.dst .undef)
    else pdr P M n ops effs fls N Q (i + 1) rest pend past acc (putF fr o.dst .undef)
  | none=>False)
theorem place_len:∀ (acc:List Obj) (σ:Store) (N:Nat),(place σ N acc).length = σ.length
 | [],_,_=>rfl
 | X :: acc,σ,N=>by rw [place,place_len acc]; simp
theorem place_get:∀ (acc:List Obj) (σ:Store) (N o:Nat),N + acc.length ≤ σ.length → (place σ N acc)[o]? = if N ≤ o ∧ o < N + acc.length then acc[o - N]? else σ[o]?
 | [],σ,N,o,_=>by rw [place,if_neg (fun h=>by have:=h.1; have:=h.2; simp at this; omega)]
 | X :: acc,σ,N,o,h=>by
  simp only [List.length_cons] at h ⊢
  rw [place,place_get acc _ _ _ (by simp; omega)]
  by_cases h1:o = N
  ·subst h1
   rw [if_neg (by omega),if_pos (by omega),Nat.sub_self,List.getElem?_set_self (by omega)]
   rfl
  ·rw [List.getElem?_set_ne (Ne.symm h1)]
   by_cases h2:N + 1 ≤ o ∧ o < N + 1 + acc.length
   ·rw [if_pos h2,if_pos (by omega),show o - N = (o - (N + 1)) + 1 from by omega]
    rfl
   ·rw [if_neg h2,if_neg (by omega)]
section
variable {P:Program} {M:List Nat} {n:Nat} {ops:Array Oper} {effs fls:List Nat} {N:Nat}
theorem frT_congr {vals vals':Nat → PV} {fr:Fr}:∀ i,(∀ j,j < i → vals j = vals' j) → frT ops vals fr i = frT ops vals' fr i
 | 0,_=>rfl
 | i + 1,h=>by
  simp only [frT]
  rw [frT_congr i (fun j hj=>h j (by omega)),h i (by omega)]
theorem filter_step {l:List Nat} (hsort:l.Pairwise (· < ·)) {i k:Nat} (hk:l[k]? = some i):(l.filter (fun e=>decide (e < i + 1))).length = k + 1:=by
 by_cases hkl:k + 1 < l.length
 ·have h2:=filter_lt_len hsort (k + 1) l[k + 1] (List.getElem?_eq_getElem hkl)
  refine Eq.trans (congrArg List.length (List.filter_congr (q:=fun e=>decide (e < l[k + 1])) (fun e he=>?_))) h2
  obtain ⟨m,hm1,hm2⟩:=List.getElem_of_mem he
  have hik:l[k]'(by omega) = i:=by have:=List.getElem?_eq_getElem (l:=l) (i:=k) (by omega); rw [hk] at this; exact (Option.some.inj this).symm
  rcases Nat.lt_trichotomy m k with h3 | h3 | h3
  ·have a1:=List.pairwise_iff_getElem.1 hsort m k (by omega) (by omega) h3
   have a2:=List.pairwise_iff_getElem.1 hsort m (k + 1) (by omega) (by omega) (by omega)
   have b1:e < i + 1:=by omega
   have b2:e < l[k + 1]:=by omega
   simp [b1,b2]
  ·have a2:=List.pairwise_iff_getElem.1 hsort m (k + 1) (by omega) (by omega) (by omega)
   subst h3
   have b1:e < i + 1:=by omega
   have b2:e < l[m + 1]:=by omega
   simp [b1,b2]
  ·have a1:=List.pairwise_iff_getElem.1 hsort k m (by omega) (by omega) h3
   have b1:¬ e < i + 1:=by omega
   have b2:¬ e < l[k + 1]:=by
    rcases Nat.eq_or_lt_of_le (show k + 1 ≤ m from h3) with h4 | h4
    ·subst h4; omega
    ·have:=List.pairwise_iff_getElem.1 hsort (k + 1) m (by omega) (by omega) h4; omega
   simp [b1,b2]
 ·rw [List.filter_eq_self.2 (fun e he=>?_)]
  ·have:=(List.getElem?_eq_some_iff.1 hk).1
   omega
  ·obtain ⟨m,hm1,hm2⟩:=List.getElem_of_mem he
   have hkk:=(List.getElem?_eq_some_iff.1 hk)
   obtain ⟨hk1,hk2⟩:=hkk
   rcases Nat.lt_or_ge m k with h3 | h3
   ·have a1:=List.pairwise_iff_getElem.1 hsort m k (by omega) (by omega) h3
    simp; omega
   ·have:m = k:=by omega
    subst this
    simp; omega
theorem filter_skip {l:List Nat} {i:Nat} (hm:i ∉ l):l.filter (fun e=>decide (e < i + 1)) = l.filter (fun e=>decide (e < i)):=by
 refine List.filter_congr (fun e he=>?_)
 have:e ≠ i:=fun h=>hm (h ▸ he)
 by_cases h1:e < i
 ·simp [h1,show e < i + 1 by omega]
 ·simp [h1]; omega
theorem pdr_spec (hsort:effs.Pairwise (· < ·)) (hin:∀ i ∈ effs,i < ops.size) (hsortf:fls.Pairwise (· < ·)) (hinf:∀ i ∈ fls,i < ops.size) (hdis:∀ i ∈ fls,i ∉ effs) {Q:Fr → Store → Prop} {fr0:Fr} :
  ∀ (l:List (Oper × Nat × Nat)) (i:Nat) (pend:List (Nat × (Store → Prop))) (past:List Store) (acc:List Obj) (vals:Nat → PV) (sts:Nat → Store) (fobj:Nat → Obj),
  i + l.length = ops.size → (∀ (m:Nat) (q:Oper × Nat × Nat),l[m]? = some q → ops[i + m]? = some q.1 ∧ q.2 = (loE ops effs (i + m),hiE ops effs (i + m))) →
  past.length = 1 + (effs.filter (fun e=>decide (e < i))).length → (∀ k σ,past[k]? = some σ → sts k = σ) →
  acc.length = (fls.filter (fun e=>decide (e < i))).length → (∀ (m j:Nat),fls[m]? = some j → m < acc.length → acc[m]? = some (fobj j)) →
  pdr P M n ops effs fls N Q i l pend past acc (frT ops vals fr0 i) →
  ∃ vals' sts' fobj' acc',(∀ j,j < i → vals' j = vals j) ∧ (∀ k,k < past.length → sts' k = sts k) ∧ (∀ j,j < i → fobj' j = fobj j) ∧ acc'.length = fls.length ∧ (∀ (m j:Nat),fls[m]? = some j → acc'[m]? = some (fobj' j)) ∧ Q (frT ops vals' fr0 ops.size) (place (sts' effs.length) N acc') ∧
   (∀ (j:Nat) (o:Oper),i ≤ j → ops[j]? = some o → OpOk P M n ops effs fls N vals' sts' fobj' fr0 j o) ∧ (∀ c ∈ pend,∀ k,past.length ≤ k → k ≤ c.1 → k ≤ effs.length → c.2 (sts' k))
 | [],i,pend,past,acc,vals,sts,fobj,hl,_,hp,hs,hal,hao,h=>by
  obtain ⟨σ,h1,h2⟩:=h
  simp at hl
  have hall:effs.filter (fun e=>decide (e < i)) = effs:=List.filter_eq_self.2 (fun e he=>by have:=hin e he; simp; omega)
  have hallf:fls.filter (fun e=>decide (e < i)) = fls:=List.filter_eq_self.2 (fun e he=>by have:=hinf e he; simp; omega)
  rw [hall] at hp
  rw [hallf] at hal
  have hσ:sts effs.length = σ:=hs _ _ (by rw [List.getLast?_eq_getElem?,hp] at h1; simpa using h1)
  refine ⟨vals,sts,fobj,acc,fun _ _=>rfl,fun _ _=>rfl,fun _ _=>rfl,hal,fun m j hj=>hao m j hj (by rw [hal]; exact (List.getElem?_eq_some_iff.1 hj).1),by rw [hσ,← hl]; exact h2,fun j o hj ho=>?_,fun c _ k hk _ hk'=>by omega⟩
  have:=(Array.getElem?_eq_some_iff.1 ho).1
  omega
 | (o,lo,hi) :: rest,i,pend,past,acc,vals,sts,fobj,hl,hlist,hp,hs,hal,hao,h=>by
  obtain ⟨ho,hlh⟩:=hlist 0 _ rfl
  simp only [Nat.add_zero,Prod.mk.injEq] at ho hlh
  obtain ⟨rfl,rfl⟩:=hlh
  have hrest:∀ (m:Nat) (q:Oper × Nat × Nat),rest[m]? = some q → ops[i + 1 + m]? = some q.1 ∧ q.2 = (loE ops effs (i + 1 + m),hiE ops effs (i + 1 + m)):=fun m q hq=>by
   have:=hlist (m + 1) q (by simpa using hq)
   rwa [show i + (m + 1) = i + 1 + m from by omega] at this
  simp only [List.length_cons] at hl
  obtain ⟨hfit,h⟩:=h
  have hne:0 < past.length:=by omega
  have hcount:∀ hm:i ∈ effs,effs[past.length - 1]? = some i ∧ (effs.filter (fun e=>decide (e < i + 1))).length = past.length:=fun hm=>by
   obtain ⟨k,hk⟩:=List.mem_iff_getElem?.1 hm
   have h1:=filter_lt_len hsort k i hk
   have h2:=filter_step hsort hk
   rw [h1] at hp
   exact ⟨by rw [hp]; simpa using hk,by omega⟩
  have hcount':i ∉ effs → effs.filter (fun e=>decide (e < i + 1)) = effs.filter (fun e=>decide (e < i)):=filter_skip
  have hfloat:∀ (hm:i ∈ fls) (obj:Obj),fls[acc.length]? = some i ∧ (acc ++ [obj]).length = (fls.filter (fun e=>decide (e < i + 1))).length ∧
    (∀ (m j:Nat),fls[m]? = some j → m < (acc ++ [obj]).length → (acc ++ [obj])[m]? = some (if j = i then obj else fobj j)):=fun hm obj=>by
   obtain ⟨k,hk⟩:=List.mem_iff_getElem?.1 hm
   have h1:=filter_lt_len hsortf k i hk
   have h2:=filter_step hsortf hk
   have hak:acc.length = k:=by omega
   refine ⟨by rw [hak]; exact hk,by simp; omega,fun m j hj hm=>?_⟩
   simp at hm
   by_cases hmk:m = k
   ·subst hmk
    cases hj.symm.trans hk
    rw [if_pos rfl,← hak,List.getElem?_concat_length]
   ·have hmlt:m < acc.length:=by omega
    rw [List.getElem?_append_left hmlt,hao m j hj hmlt]
    have hne:j ≠ i:=fun e=>by
     subst e
     have hmf:=(List.getElem?_eq_some_iff.1 hj)
     have hkf:=(List.getElem?_eq_some_iff.1 hk)
     obtain ⟨a1,a2⟩:=hmf
     obtain ⟨b1,b2⟩:=hkf
     have:=List.pairwise_iff_getElem.1 hsortf m k a1 b1 (by omega)
     omega
    rw [if_neg hne]
  have hal':i ∉ fls → acc.length = (fls.filter (fun e=>decide (e < i + 1))).length:=fun hm=>by rw [filter_skip hm]; exact hal
  have hslot:∀ hm:i ∈ fls,slotF N fls i = N + acc.length:=fun hm=>by
   obtain ⟨k,hk⟩:=List.mem_iff_getElem?.1 hm
   have h1:=filter_lt_len hsortf k i hk
   unfold slotF
   omega
  have hfr:∀ p,putF (frT ops vals fr0 i) o.dst p = frT ops (fun j=>if j = i then p else vals j) fr0 (i + 1):=fun p=>by
   simp only [frT,ho,Option.bind_some,if_true]
   rw [frT_congr i (fun j hj=>(if_neg (show ¬ j = i by omega)).symm)]
  have hlast:∀ σ,past.getLast? = some σ → sts (past.length - 1) = σ:=fun σ h1=>hs _ _ (by rw [List.getLast?_eq_getElem?] at h1; exact h1)
  split at h
  ·rename_i hg
   split at h
   ·
    rename_i hc
    have hm:i ∈ effs:=by simpa using hc
    obtain ⟨σ,p,σ',h1,h2,h3,h4⟩:=h
    obtain ⟨hek,hck⟩:=hcount hm
    rw [hfr] at h4
    have hnf:i ∉ fls:=fun h=>hdis i h hm
    obtain ⟨vals',sts',fobj',acc',g1,g2,gf,ga,gb,g3,g4,g5⟩:=pdr_spec hsort hin hsortf hinf hdis rest (i + 1) pend (past ++ [σ']) acc (fun j=>if j = i then p else vals j) (fun k=>if k = past.length then σ' else sts k) fobj (by omega) hrest
     (by rw [List.length_append,List.length_singleton,hck]; omega)
     (fun k τ hk=>by
      rw [List.getElem?_append] at hk
      by_cases hkl:k < past.length
      ·rw [if_pos hkl] at hk
       rw [if_neg (by omega)]
       exact hs k τ hk
      ·rw [if_neg hkl] at hk
       have hk0:k - past.length = 0:=by
        have:=(List.getElem?_eq_some_iff.1 hk).1
        simp at this; omega
       rw [hk0] at hk
       simp at hk
       rw [if_pos (by omega)]
       exact hk) (hal' hnf) hao h4
    have hstl:sts' past.length = σ':=by rw [g2 _ (by simp),if_pos rfl]
    have hst0:∀ k,k < past.length → sts' k = sts k:=fun k hk=>by rw [g2 k (by simp; omega),if_neg (by omega)]
    refine ⟨vals',sts',fobj',acc',fun j hj=>by rw [g1 j (by omega),if_neg (by omega)],hst0,fun j hj=>gf j (by omega),ga,gb,g3,fun j oj hj hoj=>?_,fun c hcm k hk hk1 hk2=>?_⟩
    ·rcases Nat.eq_or_lt_of_le hj with rfl | hj
     ·cases ho.symm.trans hoj
      have hfe:frT ops vals' fr0 i = frT ops vals fr0 i:=frT_congr i (fun j hj=>by rw [g1 j (by omega),if_neg (by omega)])
      refine ⟨hfit,.inr ⟨by rw [hfe]; exact hg,.inr (.inl ⟨hnf,past.length - 1,hek,?_⟩)⟩⟩
      rw [hfe,hst0 _ (by omega),hlast σ h1,show past.length - 1 + 1 = past.length from by omega,hstl,g1 i (by omega),if_pos rfl]
      exact h2
     ·exact g4 j oj hj hoj
    ·rcases Nat.eq_or_lt_of_le hk with rfl | hk
     ·rw [hstl]; exact h3 c hcm hk1
     ·exact g5 c hcm k (by simp; omega) hk1 hk2
   ·rename_i hc
    have hm:i ∉ effs:=by simpa using hc
    split at h
    ·
     rename_i hcf
     have hmf:i ∈ fls:=by simpa using hcf
     obtain ⟨mk,obj,hmk,hob,h2,h4⟩:=h
     obtain ⟨b1,b2,b3⟩:=hfloat hmf obj
     rw [hfr] at h4
     obtain ⟨vals',sts',fobj',acc',g1,g2,gf,ga,gb,g3,g4,g5⟩:=pdr_spec hsort hin hsortf hinf hdis rest (i + 1) pend past (acc ++ [obj]) (fun j=>if j = i then mk (N + acc.length) else vals j) sts (fun j=>if j = i then obj else fobj j) (by omega) hrest
      (by rw [hcount' hm]; exact hp) hs b2 b3 h4
     have hfi:fobj' i = obj:=by rw [gf i (by omega),if_pos rfl]
     refine ⟨vals',sts',fobj',acc',fun j hj=>by rw [g1 j (by omega),if_neg (by omega)],g2,fun j hj=>by rw [gf j (by omega),if_neg (by omega)],ga,gb,g3,fun j oj hj hoj=>?_,g5⟩
     rcases Nat.eq_or_lt_of_le hj with rfl | hj
     ·cases ho.symm.trans hoj
      have hfe:frT ops vals' fr0 i = frT ops vals fr0 i:=frT_congr i (fun j hj=>by rw [g1 j (by omega),if_neg (by omega)])
      refine ⟨hfit,.inr ⟨by rw [hfe]; exact hg,.inr (.inr ⟨hm,hmf,by rw [hfi]; exact hob,mk,hmk,?_,fun σ=>?_⟩)⟩⟩
      ·rw [g1 i (by omega),if_pos rfl,hslot hmf]
      ·rw [hfe,hfi]; exact h2 σ
     ·exact g4 j oj hj hoj
    rename_i hcf
    have hmf:i ∉ fls:=by simpa using hcf
    obtain ⟨p,h2,h4⟩:=h
    rw [hfr] at h4
    obtain ⟨vals',sts',fobj',acc',g1,g2,gf,ga,gb,g3,g4,g5⟩:=pdr_spec hsort hin hsortf hinf hdis rest (i + 1) _ past acc (fun j=>if j = i then p else vals j) sts fobj (by omega) hrest (by rw [hcount' hm]; exact hp) hs (hal' hmf) hao h4
    refine ⟨vals',sts',fobj',acc',fun j hj=>by rw [g1 j (by omega),if_neg (by omega)],g2,fun j hj=>gf j (by omega),ga,gb,g3,fun j oj hj hoj=>?_,fun c hcm k hk hk1 hk2=>g5 c (by simp [hcm]) k hk hk1 hk2⟩
    rcases Nat.eq_or_lt_of_le hj with rfl | hj
    ·cases ho.symm.trans hoj
     have hfe:frT ops vals' fr0 i = frT ops vals fr0 i:=frT_congr i (fun j hj=>by rw [g1 j (by omega),if_neg (by omega)])
     refine ⟨hfit,.inr ⟨by rw [hfe]; exact hg,.inl ⟨hm,hmf,fun k hk1 hk2=>?_⟩⟩⟩
     rw [hfe,g1 i (by omega),if_pos rfl]
     by_cases hkl:k < past.length
     ·rw [g2 k hkl]
      obtain ⟨τ,hτ⟩:∃ τ,past[k]? = some τ:=⟨past[k],List.getElem?_eq_getElem hkl⟩
      rw [hs k τ hτ]
      refine h2 τ (List.mem_of_getElem? (i:=k - loE ops effs i) ?_)
      rw [List.getElem?_drop,show loE ops effs i + (k - loE ops effs i) = k from by omega]
      exact hτ
     ·refine g5 (hiE ops effs i,fun σ=>Out P M ops σ (frT ops vals fr0 i) o p σ) (by simp) k (by omega) hk2 ?_
      have:hiE ops effs i ≤ effs.length:=List.length_filter_le _ _
      omega
    ·exact g4 j oj hj hoj
  ·rename_i hg
   split at h
   ·rename_i hc
    have hm:i ∈ effs:=by simpa using hc
    obtain ⟨σ,h1,h3,h4⟩:=h
    obtain ⟨hek,hck⟩:=hcount hm
    rw [hfr] at h4
    have hnf:i ∉ fls:=fun h=>hdis i h hm
    obtain ⟨vals',sts',fobj',acc',g1,g2,gf,ga,gb,g3,g4,g5⟩:=pdr_spec hsort hin hsortf hinf hdis rest (i + 1) pend (past ++ [σ]) acc (fun j=>if j = i then .undef else vals j) (fun k=>if k = past.length then σ else sts k) fobj (by omega) hrest
     (by rw [List.length_append,List.length_singleton,hck]; omega)
     (fun k τ hk=>by
      rw [List.getElem?_append] at hk
      by_cases hkl:k < past.length
      ·rw [if_pos hkl] at hk
       rw [if_neg (by omega)]
       exact hs k τ hk
      ·rw [if_neg hkl] at hk
       have hk0:k - past.length = 0:=by
        have:=(List.getElem?_eq_some_iff.1 hk).1
        simp at this; omega
       rw [hk0] at hk
       simp at hk
       rw [if_pos (by omega)]
       exact hk) (hal' hnf) hao h4
    have hstl:sts' past.length = σ:=by rw [g2 _ (by simp),if_pos rfl]
    have hst0:∀ k,k < past.length → sts' k = sts k:=fun k hk=>by rw [g2 k (by simp; omega),if_neg (by omega)]
    refine ⟨vals',sts',fobj',acc',fun j hj=>by rw [g1 j (by omega),if_neg (by omega)],hst0,fun j hj=>gf j (by omega),ga,gb,g3,fun j oj hj hoj=>?_,fun c hcm k hk hk1 hk2=>?_⟩
    ·rcases Nat.eq_or_lt_of_le hj with rfl | hj
     ·cases ho.symm.trans hoj
      have hfe:frT ops vals' fr0 i = frT ops vals fr0 i:=frT_congr i (fun j hj=>by rw [g1 j (by omega),if_neg (by omega)])
      refine ⟨hfit,.inl ⟨by rw [hfe]; exact hg,by rw [g1 i (by omega),if_pos rfl],fun k hk=>?_,fun h=>absurd h hnf⟩⟩
      have hkk:k = past.length - 1:=by
       have a1:=filter_lt_len hsort k i hk
       have a2:=filter_lt_len hsort _ i hek
       omega
      rw [hkk,show past.length - 1 + 1 = past.length from by omega,hstl,hst0 _ (by omega),hlast σ h1]
     ·exact g4 j oj hj hoj
    ·rcases Nat.eq_or_lt_of_le hk with rfl | hk
     ·rw [hstl]; exact h3 c hcm hk1
     ·exact g5 c hcm k (by simp; omega) hk1 hk2
   ·rename_i hc
    have hm:i ∉ effs:=by simpa using hc
    split at h
    ·rename_i hcf
     have hmf:i ∈ fls:=by simpa using hcf
     obtain ⟨b1,b2,b3⟩:=hfloat hmf .dead
     rw [hfr] at h
     obtain ⟨vals',sts',fobj',acc',g1,g2,gf,ga,gb,g3,g4,g5⟩:=pdr_spec hsort hin hsortf hinf hdis rest (i + 1) pend past (acc ++ [.dead]) (fun j=>if j = i then .undef else vals j) sts (fun j=>if j = i then .dead else fobj j) (by omega) hrest
      (by rw [hcount' hm]; exact hp) hs b2 b3 h
     refine ⟨vals',sts',fobj',acc',fun j hj=>by rw [g1 j (by omega),if_neg (by omega)],g2,fun j hj=>by rw [gf j (by omega),if_neg (by omega)],ga,gb,g3,fun j oj hj hoj=>?_,g5⟩
     rcases Nat.eq_or_lt_of_le hj with rfl | hj
     ·cases ho.symm.trans hoj
      have hfe:frT ops vals' fr0 i = frT ops vals fr0 i:=frT_congr i (fun j hj=>by rw [g1 j (by omega),if_neg (by omega)])
      exact ⟨hfit,.inl ⟨by rw [hfe]; exact hg,by rw [g1 i (by omega),if_pos rfl],fun k hk=>absurd (List.mem_of_getElem? hk) hm,fun _=>by rw [gf i (by omega),if_pos rfl]⟩⟩
     ·exact g4 j oj hj hoj
    rename_i hcf
    have hmf:i ∉ fls:=by simpa using hcf
    rw [hfr] at h
    obtain ⟨vals',sts',fobj',acc',g1,g2,gf,ga,gb,g3,g4,g5⟩:=pdr_spec hsort hin hsortf hinf hdis rest (i + 1) pend past acc (fun j=>if j = i then .undef else vals j) sts fobj (by omega) hrest (by rw [hcount' hm]; exact hp) hs (hal' hmf) hao h
    refine ⟨vals',sts',fobj',acc',fun j hj=>by rw [g1 j (by omega),if_neg (by omega)],g2,fun j hj=>gf j (by omega),ga,gb,g3,fun j oj hj hoj=>?_,g5⟩
    rcases Nat.eq_or_lt_of_le hj with rfl | hj
    ·cases ho.symm.trans hoj
     have hfe:frT ops vals' fr0 i = frT ops vals fr0 i:=frT_congr i (fun j hj=>by rw [g1 j (by omega),if_neg (by omega)])
     exact ⟨hfit,.inl ⟨by rw [hfe]; exact hg,by rw [g1 i (by omega),if_pos rfl],fun k hk=>absurd (List.mem_of_getElem? hk) hm,fun h=>absurd h hmf⟩⟩
    ·exact g4 j oj hj hoj
  ·exact h.elim
end
end Go.PV
