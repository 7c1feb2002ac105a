import Derived.Test.YtangodmcbmeeaaaPvP
set_option maxRecDepth 8000
set_option linter.unusedSimpArgs false
set_option linter.unusedVariables false
namespace Go.PV
def idxF (fls:List Nat) (i:Nat):Nat:=(fls.filter fun e=>decide (e < i)).length
def OpOkA (P:Program) (M:List Nat) (n:Nat) (ops:Array Oper) (effs fls:List Nat) (N:Nat) (vals:Nat → PV) (sts pre:Nat → Store) (fobj:Nat → Obj) (fr:Fr) (i:Nat) (o:Oper):Prop :=
 fits n o.dst ∧
 ((guardP ops (frT ops vals fr i) o = some false ∧ vals i = .undef ∧ (∀ k,effs[k]? = some i → sts (k + 1) = pre k) ∧ (i ∈ fls → fobj i = .dead)) ∨
  (guardP ops (frT ops vals fr i) o = some true ∧
   ((i ∉ effs ∧ i ∉ fls ∧ ∀ k,loE ops effs i ≤ k → k ≤ hiE ops effs i → Out P M ops (sts k) (frT ops vals fr i) o (vals i) (sts k)) ∨
   (i ∉ fls ∧ ∃ k,effs[k]? = some i ∧ Out P M ops (pre k) (frT ops vals fr i) o (vals i) (sts (k + 1))) ∨
   (i ∉ effs ∧ i ∈ fls ∧ ObjBel 0 (fobj i) ∧ ∃ mk,isMk mk ∧ vals i = mk (slotF N fls i) ∧
    ∀ σ,stepC P (mutOf M o.dst) σ (evR (o.looksAt ops) (frT ops vals fr i)) (fun q σ''=>q = mk σ.length ∧ σ'' = σ ++ [fobj i]) o.op))))
structure RealA (fls:List Nat) (N s:Nat) (fobj:Nat → Obj) (come:Nat → Prop) (ρ:Rho) (σd σr:Store):Prop where
 len:σr.length = σd.length
 out:∀ o:Nat,(∀ i ∈ fls,s ≤ idxF fls i → slotF N fls i ≠ o) → σr[o]? = σd[o]?
 dead:∀ i ∈ fls,s ≤ idxF fls i → σd[slotF N fls i]? = some .dead
 inn:∀ i ∈ fls,s ≤ idxF fls i → come i → σr[slotF N fls i]? = some (fobj i)
 yet:∀ i ∈ fls,s ≤ idxF fls i → ¬ come i → σr[slotF N fls i]? = some .dead ∧ ∀ ver,ρ (slotF N fls i) ver = none
theorem RealA.killed {fls:List Nat} {N s:Nat} {fobj:Nat → Obj} {come:Nat → Prop} {ρ:Rho} {σd σr:Store} (h:RealA fls N s fobj come ρ σd σr):Killed σd σr:=by
 refine ⟨h.len.symm,fun o=>?_⟩
 by_cases hx:∃ i ∈ fls,s ≤ idxF fls i ∧ slotF N fls i = o
 ·obtain ⟨i,hi,hs,rfl⟩:=hx
  exact .inl (h.dead i hi hs)
 ·exact .inr (h.out o (fun i hi hs he=>hx ⟨i,hi,hs,he⟩)).symm
theorem RealA.adopt {fls:List Nat} {N s s':Nat} {fobj:Nat → Obj} {come:Nat → Prop} {ρ:Rho} {σd σr σp:Store} (h:RealA fls N s fobj come ρ σd σr) (hs:s ≤ s') (hlen:σp.length = σd.length)
  (hout:∀ o:Nat,(∀ j ∈ fls,s ≤ idxF fls j → idxF fls j < s' → slotF N fls j ≠ o) → σp[o]? = σd[o]?) (hin:∀ j ∈ fls,s ≤ idxF fls j → idxF fls j < s' → σp[slotF N fls j]? = some (fobj j) ∧ come j):RealA fls N s' fobj come ρ σp σr:=by
 refine ⟨by rw [h.len,hlen],fun o ho=>?_,fun i hi hi2=>?_,fun i hi hi2 hc=>h.inn i hi (Nat.le_trans hs hi2) hc,fun i hi hi2 hc=>h.yet i hi (Nat.le_trans hs hi2) hc⟩
 ·by_cases hx:∃ j ∈ fls,s ≤ idxF fls j ∧ idxF fls j < s' ∧ slotF N fls j = o
  ·obtain ⟨j,hj,h1,h2,rfl⟩:=hx
   rw [(hin j hj h1 h2).1,h.inn j hj h1 (hin j hj h1 h2).2]
  ·rw [hout o (fun j hj h1 h2 he=>hx ⟨j,hj,h1,h2,he⟩)]
   refine h.out o (fun i hi hi2 he=>?_)
   rcases Nat.lt_or_ge (idxF fls i) s' with h3 | h3
   ·exact hx ⟨i,hi,hi2,h3,he⟩
   ·exact ho i hi h3 he
 ·rw [hout _ (fun j hj h1 h2 he=>?_)]
  ·exact h.dead i hi (Nat.le_trans hs hi2)
  ·unfold slotF at he
   unfold idxF at h2 hi2
   omega
theorem RealA.step {fls:List Nat} {N s:Nat} {fobj:Nat → Obj} {come:Nat → Prop} {I I':Imm} {ρ ρ':Rho} {σd σr σd':Store} {w w':World} (h:RealA fls N s fobj come ρ σd σr) (hinv:Inv I ρ σr w) (hinv':Inv I' ρ' σd' w') (hg:Grow I ρ σd w I' ρ' σd' w') :
  RealA fls N s fobj come ρ' σd' (backS σd σr σd') ∧ Inv I' ρ' (backS σd σr σd') w' ∧ Grow I ρ σr w I' ρ' (backS σd σr σd') w':=by
 have hk:=h.killed
 have hD:=backS_dead hk hg.deadS
 refine ⟨⟨backS_len _ _ _,fun o ho=>?_,fun i hi hs=>hg.deadS _ (h.dead i hi hs),fun i hi hs hc=>?_,fun i hi hs hc=>?_⟩,hinv.revive hk hinv' hg (backS_len _ _ _) hD (fun o ho=>backS_other o ho)⟩
 ·by_cases hd:σd[o]? = some .dead
  ·rw [hD o hd,h.out o ho,hd,hg.deadS o hd]
  ·exact backS_other o hd
 ·rw [hD _ (h.dead i hi hs)]; exact h.inn i hi hs hc
 ·rw [hD _ (h.dead i hi hs)]
  exact ⟨(h.yet i hi hs hc).1,fun ver=>by rw [hg.deadR _ ver (h.dead i hi hs)]; exact (h.yet i hi hs hc).2 ver⟩
section
variable {P:Program} {M:List Nat} {n:Nat} {ops:Array Oper} {effs fls:List Nat} {N:Nat} {vals:Nat → PV} {sts pre:Nat → Store} {S:Nat → Nat} {fobj:Nat → Obj} {fr:Fr}
theorem draw_anyA (hok:DrawOk ops effs) (hfs:sortedB fls = true) (hfi:∀ i ∈ fls,i < ops.size) (hdis:∀ i ∈ effs,i ∉ fls) (hops:∀ (i:Nat) (o:Oper),ops[i]? = some o → OpOkA P M n ops effs fls N vals sts pre fobj fr i o) (hS:∀ k,S k ≤ S (k + 1))
  (hpre:∀ k i,effs[k]? = some i → (pre k).length = (sts k).length ∧ (∀ o:Nat,(∀ j ∈ fls,S k ≤ idxF fls j → idxF fls j < S (k + 1) → slotF N fls j ≠ o) → (pre k)[o]? = (sts k)[o]?) ∧
   ∀ j ∈ fls,S k ≤ idxF fls j → idxF fls j < S (k + 1) → (slotF N fls j < (sts k).length → (pre k)[slotF N fls j]? = some (fobj j)) ∧ ((beforeL ops).getD i 0).testBit j = true) {Q':Exit → Act → World → Prop} {I0:Imm} {ρ0:Rho} {σ0:Store} {w0:World} {ds:List Deferred} (hN:σ0.length ≤ N)
  (hQ:∀ a' w' I' ρ' σr,RealA fls N (S effs.length) fobj (fun _=>True) ρ' (sts effs.length) σr → Inv I' ρ' σr w' → Frel I' ρ' n (frT ops vals fr ops.size) a'.tmps → Grow I0 ρ0 σ0 w0 I' ρ' σr w' → a'.defers = ds → Q' .normal a' w') :
  ∀ (fuel:Nat) (listed:Array Bool) (a:Act) (w:World) (I:Imm) (ρ:Rho) (σr:Store),listed.size = ops.size → Closed ops listed → listed.toList.countP (fun b=>!b) ≤ fuel → RealA fls N (S (cnt effs listed)) fobj (isIn listed) ρ (sts (cnt effs listed)) σr → (∀ j ∈ fls,idxF fls j < S (cnt effs listed) → isIn listed j) → Inv I ρ σr w → a.tmps.size = n →
   (∀ t,R I ρ (gT ops vals fr listed t ops.size) (a.tmps.getD t Go.undef)) → Grow I0 ρ0 σ0 w0 I ρ σr w → a.defers = ds → wpAny P .any ops Q' fuel listed a w:=by
 have hpw:=sorted_pairwise hok.sorted
 have hpf:=sorted_pairwise hfs
 have fin:∀ (listed:Array Bool) (a:Act) (w:World) (I:Imm) (ρ:Rho) (σr:Store),listed.size = ops.size → RealA fls N (S (cnt effs listed)) fobj (isIn listed) ρ (sts (cnt effs listed)) σr → Inv I ρ σr w → a.tmps.size = n →
   (∀ t,R I ρ (gT ops vals fr listed t ops.size) (a.tmps.getD t Go.undef)) → Grow I0 ρ0 σ0 w0 I ρ σr w → a.defers = ds → Region.ready .any ops listed = [] → Q' .normal a w:=by
  intro listed a w I ρ σr hs hreal hinv hsz hR hg hd hr
  have hall:=all_in hok hs hr
  have hc:cnt effs listed = effs.length:=by
   unfold cnt
   rw [List.filter_eq_self.2 (fun e he=>hall e (hok.inside e he))]
  rw [hc] at hreal
  refine hQ a w I ρ σr ⟨hreal.len,hreal.out,hreal.dead,fun i hi hs _=>hreal.inn i hi hs (hall i (hfi i hi)),fun _ _ _ h=>absurd trivial h⟩ hinv ⟨hsz,fun t=>?_⟩ hg hd
  have:=gT_eq (vals:=vals) (fr:=fr) (ops:=ops) listed t ops.size (fun j hj _=>hall j hj) (fun j hj hdst=>by
   have:ops[j]? = none:=Array.getElem?_eq_none hj
   rw [this] at hdst; cases hdst) ops.size
  rw [Nat.min_self] at this
  rw [← this]
  exact hR t
 intro fuel
 induction fuel with
 | zero =>
  intro listed a w I ρ σr hs _ hf hreal hAd hinv hsz hR hg hd
  have hr:Region.ready .any ops listed = []:=by
   apply Classical.byContradiction
   intro hne
   obtain ⟨i,hi⟩:=List.exists_mem_of_ne_nil _ hne
   have h0:=(mem_ready.1 hi).1
   have hlt:i < listed.size:=by
    rcases Nat.lt_or_ge i listed.size with h | h
    ·exact h
    ·rw [Array.getD_eq_getD_getElem?,Array.getElem?_eq_none h] at h0; cases h0
   have:0 < listed.toList.countP (fun b=>!b):=List.countP_pos_iff.2 ⟨listed[i],by simp,by
    rw [Array.getD_eq_getD_getElem?,Array.getElem?_eq_getElem hlt] at h0
    simpa using h0⟩
   omega
  exact ⟨hr,fin listed a w I ρ σr hs hreal hinv hsz hR hg hd hr⟩
 | succ fuel ih =>
  intro listed a w I ρ σr hs hc hf hreal hAd hinv hsz hR hg hd
  refine ⟨fin listed a w I ρ σr hs hreal hinv hsz hR hg hd,fun i hi=>?_⟩
  obtain ⟨hun,o,ho,hedges⟩:=mem_ready.1 hi
  have hio:i < ops.size:=(Array.getElem?_eq_some_iff.1 ho).1
  have hil:i < listed.size:=by omega
  have hnin:¬ isIn listed i:=by
   rw [Array.getD_eq_getD_getElem?,Array.getElem?_eq_getElem hil] at hun
   unfold isIn
   rw [Array.getD_eq_getD_getElem?,Array.getElem?_eq_getElem hil]
   simpa using hun
  have hed:∀ e ∈ o.after.toList,Region.binds .any e = true → isIn listed e.on:=fun e he hb=>hedges e (by simpa using he) hb
  have hbef:=before_in hok hc i o ho hed
  have hlater:∀ j,i < j → j < ops.size → forced (beforeL ops) i j = true → ¬ isIn listed j:=fun j hij hj hfo hlj=>by
   simp only [forced,Bool.or_eq_true,beq_iff_eq] at hfo
   rcases hfo with hfo | hfo
   ·omega
   ·rw [if_neg (by omega)] at hfo
    have hoj:=Array.getElem?_eq_getElem hj
    exact hnin (before_in hok hc j _ hoj (hc j _ hlj hoj) i hfo)
  have hearlier:∀ j,j < i → forced (beforeL ops) i j = true → isIn listed j:=fun j hji hfo=>by
   simp only [forced,Bool.or_eq_true,beq_iff_eq] at hfo
   rcases hfo with hfo | hfo
   ·omega
   ·rw [if_pos hji] at hfo
    exact hbef j hfo
  have hdst:∀ j t,(ops[j]?).bind (·.dst) = some t → t ∈ looksL ops o → forced (beforeL ops) i j = true ∧ j < ops.size:=fun j t hj ht=>by
   cases hoj:ops[j]? with
   | none=>rw [hoj] at hj; cases hj
   | some oj=>rw [hoj] at hj; exact ⟨hok.slots i j o oj t ho hoj hj ht,(Array.getElem?_eq_some_iff.1 hoj).1⟩
  have hslot:∀ t,t ∈ looksL ops o → gT ops vals fr listed t ops.size = look (frT ops vals fr i) t:=fun t ht=>by
   have:=gT_eq (vals:=vals) (fr:=fr) (ops:=ops) listed t i (fun j hj hd=>hearlier j hj (hdst j t hd ht).1) (fun j hj hd=>by
    rcases Nat.eq_or_lt_of_le hj with h | h
    ·rw [← h]; exact hnin
    ·exact hlater j h (hdst j t hd ht).2 (hdst j t hd ht).1) ops.size
   rwa [Nat.min_eq_right (by omega)] at this
  have hRs:∀ t,t ∈ o.looksAt ops → R I ρ (look (frT ops vals fr i) t) (a.tmps.getD t Go.undef):=fun t ht=>by
   rw [← hslot t (by simp [looksL,ht])]; exact hR t
  obtain ⟨hfit,hcase⟩:=hops i o ho
  have hin':∀ j,isIn (listed.setIfInBounds i true) j ↔ j = i ∨ isIn listed j:=fun j=>by
   unfold isIn
   rw [getD_set _ _ hil]
   by_cases hji:j = i
   ·simp [hji]
   ·simp [hji]
  have next:∀ (p:PV) (v:Value) (w':World) (I':Imm) (ρ':Rho) (σ':Store),p = vals i → RealA fls N (S (cnt effs (listed.setIfInBounds i true))) fobj (isIn (listed.setIfInBounds i true)) ρ' (sts (cnt effs (listed.setIfInBounds i true))) σ' → (∀ j ∈ fls,idxF fls j < S (cnt effs (listed.setIfInBounds i true)) → isIn (listed.setIfInBounds i true) j) → R I' ρ' p v → Inv I' ρ' σ' w' →
    (∀ b off v,I b off = some v → I' b off = some v) → (∀ x ver L,ρ x ver = some L → ρ' x ver = some L) → Grow I0 ρ0 σ0 w0 I' ρ' σ' w' →
    wpAny P .any ops Q' fuel (listed.setIfInBounds i true) (a.put o.dst v) w':=by
   intro p v w' I' ρ' σ' hp hreal' hAd' hRp hinv' himm hrho hgrow
   subst hp
   refine ih _ _ _ I' ρ' σ' (by simpa using hs) ?_ ?_ hreal' hAd' hinv' ?_ ?_ hgrow ?_
   ·intro j oj hj hoj e he hb
    unfold isIn at hj ⊢
    rw [getD_set _ _ hil] at hj ⊢
    by_cases hji:j = i
    ·subst hji
     cases ho.symm.trans hoj
     split
     ·rfl
     ·exact hed e he hb
    ·rw [if_neg hji] at hj
     split
     ·rfl
     ·exact hc j oj hj hoj e he hb
   ·have hfalse:listed.toList[i]'(by simpa using hil) = false:=by
     unfold isIn at hnin
     rw [Array.getD_eq_getD_getElem?,Array.getElem?_eq_getElem hil] at hnin
     simpa using hnin
    have hpos:0 < listed.toList.countP (fun b=>!b):=List.countP_pos_iff.2 ⟨_,List.getElem_mem (by simpa using hil),by rw [hfalse]; rfl⟩
    rw [Array.toList_setIfInBounds,List.countP_set (by simpa using hil),hfalse]
    simp only [Bool.not_false,if_true,Bool.not_true,Bool.false_eq_true,if_false,Nat.add_zero]
    omega
   ·cases hdd:o.dst <;> simp [Act.put,hsz]
   ·intro t
    rw [gT_add (vals:=vals) (fr:=fr) hil t (fun hd j hij hj=>by
     have:=hdst j t hj (by
      rw [ho] at hd
      simp only [Option.bind_some] at hd
      simp [looksL,hd])
     exact hlater j hij this.2 this.1) ops.size hio]
    have hold:=(hR t).mono himm hrho
    rw [ho]
    simp only [Option.bind_some]
    rcases (show o.dst = none ∨ ∃ d,o.dst = some d from by cases o.dst <;> simp) with hdd | ⟨d,hdd⟩
    ·simp only [hdd,Act.put,reduceCtorEq,if_false]
     exact hold
    ·have hdn:d < a.tmps.size:=by rw [hdd] at hfit; rw [hsz]; exact hfit
     simp only [hdd,Act.put,Option.some.injEq]
     rw [Array.getD_eq_getD_getElem?]
     by_cases hdt:d = t
     ·subst hdt
      rw [if_pos rfl,Array.getElem?_setIfInBounds_self_of_lt hdn]
      exact hRp
     ·rw [if_neg hdt,Array.getElem?_setIfInBounds_ne hdt,← Array.getD_eq_getD_getElem?]
      exact hold
   ·cases hdd:o.dst <;> simpa [Act.put] using hd
  have hcnt:∀ k,effs[k]? = some i → cnt effs listed = k:=fun k hk=>by
   rw [← filter_lt_len hpw k i hk]
   unfold cnt
   congr 1
   refine List.filter_congr (fun e he=>?_)
   have hfe:=hok.effs i (List.mem_of_getElem? hk) e he
   rcases Nat.lt_trichotomy e i with h | h | h
   ·have:=hearlier e h hfe
    unfold isIn at this
    simp [this,h]
   ·subst h
    unfold isIn at hnin
    simpa using hnin
   ·have:=hlater e h (hok.inside e he) hfe
    unfold isIn at this
    simp only [Bool.not_eq_true] at this
    simp [this]; omega
  have hadd:=cnt_add hil hnin hpw
  unfold wpOp
  simp only [ho]
  have hstay:i ∉ fls → ∀ {s:Nat} {ρ':Rho} {σd' σr':Store},RealA fls N s fobj (isIn listed) ρ' σd' σr' → RealA fls N s fobj (isIn (listed.setIfInBounds i true)) ρ' σd' σr':=fun hnf {s ρ' σd' σr'} h=>by
   have hii:∀ j ∈ fls,isIn (listed.setIfInBounds i true) j ↔ isIn listed j:=fun j hj=>by
    rw [hin']
    exact ⟨fun h=>h.elim (fun e=>absurd (e ▸ hj) hnf) id,.inr⟩
   exact ⟨h.len,h.out,h.dead,fun j hj hs hc=>h.inn j hj hs ((hii j hj).1 hc),fun j hj hs hc=>h.yet j hj hs (fun h'=>hc ((hii j hj).2 h'))⟩
  have hAdd:cnt effs (listed.setIfInBounds i true) = cnt effs listed → ∀ j ∈ fls,idxF fls j < S (cnt effs (listed.setIfInBounds i true)) → isIn (listed.setIfInBounds i true) j:=fun he j hj h=>(hin' j).2 (.inr (hAd j hj (by rw [he] at h; exact h)))
  have hAdE:∀ k,effs[k]? = some i → cnt effs listed = k → cnt effs (listed.setIfInBounds i true) = k + 1 → ∀ j ∈ fls,idxF fls j < S (cnt effs (listed.setIfInBounds i true)) → isIn (listed.setIfInBounds i true) j:=fun k hk h1 h2 j hj h=>by
   rw [h2] at h
   refine (hin' j).2 (.inr ?_)
   rcases Nat.lt_or_ge (idxF fls j) (S k) with h3 | h3
   ·exact hAd j hj (by rw [h1]; exact h3)
   ·exact hbef j ((hpre k i hk).2.2 j hj h3 h).2
  have hadopt:∀ k,effs[k]? = some i → cnt effs listed = k → RealA fls N (S (k + 1)) fobj (isIn listed) ρ (pre k) σr:=fun k hk h1=>by
   obtain ⟨p1,p2,p3⟩:=hpre k i hk
   rw [h1] at hreal
   exact hreal.adopt (hS k) p1 p2 (fun j hj q1 q2=>⟨(p3 j hj q1 q2).1 (List.getElem?_eq_some_iff.1 (hreal.dead j hj q1)).1,hbef j (p3 j hj q1 q2).2⟩)
  rcases hcase with ⟨hgf,hv,hst,hfd⟩ | ⟨hgt,hcase⟩
  ·have hw:=wanted_of hRs hgf
   rw [if_neg (by rw [hw]; simp)]
   by_cases hm:i ∈ effs
   ·obtain ⟨k,hk⟩:=List.mem_iff_getElem?.1 hm
    have hck:=hcnt k hk
    have hck2:cnt effs (listed.setIfInBounds i true) = k + 1:=by rw [hadd,if_pos hm,hck]
    have hnf:i ∉ fls:=hdis i hm
    refine next .undef Go.undef w I ρ σr hv.symm ?_ (hAdE k hk hck hck2) .undef hinv (fun _ _ _ h=>h) (fun _ _ _ h=>h) hg
    rw [hck2,hst k hk]
    exact hstay hnf (hadopt k hk hck)
   ·have hc0:cnt effs (listed.setIfInBounds i true) = cnt effs listed:=by rw [hadd,if_neg hm]; rfl
    refine next .undef Go.undef w I ρ σr hv.symm ?_ (hAdd hc0) .undef hinv (fun _ _ _ h=>h) (fun _ _ _ h=>h) hg
    rw [hc0]
    refine ⟨hreal.len,hreal.out,hreal.dead,fun j hj hs hc=>?_,fun j hj hs hc=>hreal.yet j hj hs (fun h=>hc ((hin' j).2 (.inr h)))⟩
    rcases (hin' j).1 hc with rfl | h
    ·rw [hfd hj]; exact (hreal.yet j hj hs hnin).1
    ·exact hreal.inn j hj hs h
  ·have hw:=wanted_of hRs hgt
   rw [if_pos hw]
   have he:∀ x,R I ρ (evR (o.looksAt ops) (frT ops vals fr i) x) (a.eval x):=fun x=>by
    cases x with
    | tmp t =>
     simp only [evR]
     split
     ·rename_i hm
      exact hRs t (by simpa using hm)
     ·exact .unk _
    | const v=>exact .ofVal _ _ v
    | global g=>exact .unk _
    | func f=>exact .func _ _ _ _ _ rfl rfl (by simp) (by simp)
   left
   have hkill:=hinv.kill hreal.killed
   rcases hcase with ⟨hm,hnf,hout⟩ | ⟨hnf,k,hk,hout⟩ | ⟨hm,hmf,hob,mk,hmk,hvi,hout⟩
   ·have hlo:loE ops effs i ≤ cnt effs listed:=by
     unfold loE cnt
     rw [← List.countP_eq_length_filter,← List.countP_eq_length_filter]
     exact List.countP_mono_left (fun e _ he=>hbef e he)
    have hhi:cnt effs listed ≤ hiE ops effs i:=by
     unfold hiE cnt
     rw [← List.countP_eq_length_filter,← List.countP_eq_length_filter]
     refine List.countP_mono_left (fun e hme hle=>?_)
     simp only [Bool.not_eq_true',← Bool.not_eq_true]
     intro hb
     have hes:=Array.getElem?_eq_getElem (hok.inside e hme)
     exact hnin (before_in hok hc e _ hes (hc e _ hle hes) i hb)
    refine stepW_sound hkill he (stepC_stepW (hout _ hlo hhi)) (fun p σ' I' ρ' v w' hk hR' hinv' hgrow=>?_)
    obtain ⟨hp,hσ⟩:=hk
    subst hσ
    obtain ⟨r1,r2,r3⟩:=hreal.step hinv hinv' hgrow
    refine next p v w' I' ρ' _ hp ?_ (hAdd (by rw [hadd,if_neg hm]; rfl)) hR' r2 r3.imm r3.rho (hg.trans r3)
    rw [hadd,if_neg hm]
    exact hstay hnf r1
   ·have hck:=hcnt k hk
    have hreal2:=hadopt k hk hck
    have hkill2:=hinv.kill hreal2.killed
    refine stepW_sound hkill2 he (stepC_stepW hout) (fun p σ' I' ρ' v w' hk' hR' hinv' hgrow=>?_)
    obtain ⟨hp,hσ⟩:=hk'
    subst hσ
    obtain ⟨r1,r2,r3⟩:=hreal2.step hinv hinv' hgrow
    refine next p v w' I' ρ' _ hp ?_ (hAdE k hk hck (by rw [hadd,if_pos (List.mem_of_getElem? hk),hck])) hR' r2 r3.imm r3.rho (hg.trans r3)
    rw [hadd,if_pos (List.mem_of_getElem? hk),hck]
    exact hstay hnf r1
   ·refine stepW_sound hinv he (stepC_stepW (hout σr)) (fun p σ' I' ρ' v w' hk' hR' hinv' hgrow=>?_)
    obtain ⟨hp,hσ⟩:=hk'
    subst hσ
    have hact:S (cnt effs listed) ≤ idxF fls i:=by
     rcases Nat.lt_or_ge (idxF fls i) (S (cnt effs listed)) with h | h
     ·exact absurd (hAd i hmf h) hnin
     ·exact h
    obtain ⟨hyd,hyr⟩:=hreal.yet i hmf hact hnin
    have hNs:σ0.length ≤ slotF N fls i:=Nat.le_trans hN (Nat.le_add_right _ _)
    obtain ⟨f1,f2,f3,f4⟩:=hinv.float hyd hyr hinv' hgrow hob hg hNs
    refine next (vals i) v w' I' _ _ rfl ?_ (hAdd (by rw [hadd,if_neg hm]; rfl)) ?_ f1 hgrow.imm f3 f2
    ·rw [hadd,if_neg hm]
     have hslt:=(List.getElem?_eq_some_iff.1 hyd).1
     refine ⟨by rw [List.length_set]; exact hreal.len,fun x hx=>?_,hreal.dead,fun j hj hs hc=>?_,fun j hj hs hc=>?_⟩
     ·rw [List.getElem?_set_ne (hx i hmf hact)]
      exact hreal.out x hx
     ·by_cases hji:j = i
      ·rw [hji,List.getElem?_set_self hslt]
      ·rw [List.getElem?_set_ne (fun h=>hji (slotF_inj hpf hj hmf h.symm))]
       exact hreal.inn j hj hs (((hin' j).1 hc).resolve_left hji)
     ·have hji:j ≠ i:=fun h=>hc ((hin' j).2 (.inl h))
      have hnj:¬ isIn listed j:=fun h=>hc ((hin' j).2 (.inr h))
      rw [List.getElem?_set_ne (fun h=>hji (slotF_inj hpf hj hmf h.symm))]
      refine ⟨(hreal.yet j hj hs hnj).1,fun ver=>?_⟩
      have hsj:=(List.getElem?_eq_some_iff.1 (hreal.yet j hj hs hnj).1).1
      have hne:slotF N fls j ≠ slotF N fls i:=fun h=>hji (slotF_inj hpf hj hmf h)
      simp only [moveR,hne,if_false,hsj,if_true]
      rw [hgrow.deadR _ ver (hreal.yet j hj hs hnj).1]
      exact (hreal.yet j hj hs hnj).2 ver
    ·rw [hvi]
     subst hp
     rcases hmk with rfl | rfl
     ·cases hR' with
      | msl _ _ L hL=>exact .msl _ _ L (by rw [f4]; exact hL)
     ·cases hR' with
      | ptr _ _ _ _ L hL=>exact .ptr _ _ _ _ L (by rw [f4]; exact hL)
end
end Go.PV
