import Derived.Test.YtangodmcbmeeaaaPvI
set_option maxRecDepth 8000
namespace Go.PV
def floatB (ops:Array Oper) (effs fls:List Nat):Bool:=sortedB fls && fls.all fun i=>decide (i < ops.size) && !effs.contains i
def pwp (P:Program) (M:List Nat) (n:Nat):Code → (Exit → Fr → Store → Prop) → Fr → Store → Prop
 | .skip,Q,fr,σ=>Q .normal fr σ
 | .region _ ops d,Q,fr,σ=>if d then ∃ effs fls lh,drawB ops effs = true ∧ floatB ops effs fls = true ∧ lhOf ops effs = lh ∧ pdr P M n ops effs fls σ.length (Q .normal) 0 (ops.toList.zip lh) [] [σ ++ List.replicate fls.length .dead] [] fr else pops P M n ops (Q .normal) ops.toList fr σ
 | .seq a b,Q,fr,σ=>pwp P M n a (fun e fr σ=>match e with | .normal=>pwp P M n b Q fr σ | e=>Q e fr σ) fr σ
 | .cond c a b,Q,fr,σ=>(match evO fr c with | .bool t=>if t then pwp P M n a Q fr σ else pwp P M n b Q fr σ | _=>False)
 | .block id c,Q,fr,σ=>pwp P M n c (fun e fr σ=>match e with | .exit id'=>if id' = id then Q .normal fr σ else Q (.exit id') fr σ | e=>Q e fr σ) fr σ
 | .loop c,Q,fr,σ=>∃ (J:Nat → Fr → Store → Prop) (k:Nat) (fr0:Fr),weaker fr0 fr ∧ J k fr0 σ ∧
   ∀ k fr σ,J k fr σ → pwp P M n c (fun e fr' σ'=>match e with | .normal=>∃ k' fr0,k' < k ∧ weaker fr0 fr' ∧ J k' fr0 σ' | e=>Q e fr' σ') fr σ
 | .exit id,Q,fr,σ=>Q (.exit id) fr σ
 | .ret,Q,fr,σ=>Q .ret fr σ
 | _,_,_,_=>False
def Lift (n:Nat) (Q:Exit → Fr → Store → Prop) (I:Imm) (ρ:Rho) (σ:Store) (w:World) (ds:List Deferred):Exit → Act → World → Prop :=
 fun e a' w'=>∃ I' ρ' fr' σ',Q e fr' σ' ∧ Inv I' ρ' σ' w' ∧ Frel I' ρ' n fr' a'.tmps ∧ Grow I ρ σ w I' ρ' σ' w' ∧ a'.defers = ds
section
variable {P:Program} {M:List Nat} {n:Nat}
theorem wp_loop_nat {c:Code} {Q:Exit → Act → World → Prop} (J:Nat → Act → World → Prop) (round:∀ k a w,J k a w → c.wp P (Exit.then (fun a' w'=>∃ k',k' < k ∧ J k' a' w') Q) a w) :
  ∀ k a w,J k a w → (Code.loop c).wp P Q a w:=by
 intro k a w h0 b todo cs
 have key:∀ k a w,J k a w → ∃ e a' w',Q e a' w' ∧ Arrives P (lone (b.at a (.code c :: .inLoop c :: todo)) cs w) b todo cs e a' w':=by
  intro k
  induction k using Nat.strongRecOn with
  | _ k ih =>
   intro a w hJ
   obtain ⟨e,a₁,w₁,hq,harr⟩:=round k a w hJ b (.inLoop c :: todo) cs
   cases e with
   | normal =>
    obtain ⟨k',hlt,hJ'⟩:=hq
    obtain ⟨e₂,a₂,w₂,hq₂,harr₂⟩:=ih k' hlt a₁ w₁ hJ'
    exact ⟨e₂,a₂,w₂,hq₂,.of_steps (Steps.trans harr (.one step_inLoop)) harr₂⟩
   | exit id=>exact ⟨_,a₁,w₁,hq,.pass (x:=.inLoop c) rfl (fun _ _=>.inl (by simp)) harr⟩
   | goto l=>exact ⟨_,a₁,w₁,hq,.pass (x:=.inLoop c) rfl (fun _ _=>.inl (by simp)) harr⟩
   | ret=>exact ⟨_,a₁,w₁,hq,.pass (x:=.inLoop c) rfl (fun _ _=>.inl (by simp)) harr⟩
   | panic ch=>exact ⟨_,a₁,w₁,hq,.pass (x:=.inLoop c) rfl (fun _ _=>.inl (by simp)) harr⟩
   | outgrown=>exact ⟨_,a₁,w₁,hq,.pass (x:=.inLoop c) rfl (fun _ _=>.inl (by simp)) harr⟩
 obtain ⟨e,a',w',hq,harr⟩:=key k a w h0
 exact ⟨e,a',w',hq,.of_steps (.one step_loop) harr⟩
theorem inv_dead {I:Imm} {ρ:Rho} {σ:Store} {w:World} (hinv:Inv I ρ σ w) (k:Nat):Inv I ρ (σ ++ List.replicate k .dead) w ∧ Grow I ρ σ w I ρ (σ ++ List.replicate k .dead) w:=by
 have hget:∀ (o:Nat) (obj:Obj),(σ ++ List.replicate k Obj.dead)[o]? = some obj → obj ≠ .dead → σ[o]? = some obj:=fun o obj h hne=>by
  rw [List.getElem?_append] at h
  split at h
  ·exact h
  ·rw [List.getElem?_replicate] at h
   split at h
   ·exact absurd (Option.some.inj h).symm hne
   ·cases h
 have hblk:∀ o b,BlockIs ρ (σ ++ List.replicate k .dead) o b → BlockIs ρ σ o b:=fun o b ⟨obj,L,h1,h2,h3,h4⟩=>⟨obj,L,hget o obj h1 h2,h2,h3,h4⟩
 refine ⟨⟨fun o obj ho=>?_,fun o o' b h h'=>hinv.apart o o' b (hblk o b h) (hblk o' b h'),hinv.imm,fun o ver ho=>hinv.free o ver (by simp at ho; omega)⟩,
  ⟨fun _ _ _ h=>h,fun _ _ _ h=>h,rfl,rfl,rfl,Nat.le_refl _,fun _ _ _=>rfl,fun _ _ h h'=>absurd h h',fun b ⟨o,ho⟩=>.inl ⟨o,hblk o b ho⟩,fun _ _ _=>rfl,fun o ho=>by rw [List.getElem?_append_left (List.getElem?_eq_some_iff.1 ho).1]; exact ho⟩⟩
 cases hd:obj.isDead with
 | true=>rw [Obj.isDead_iff.1 hd]; trivial
 | false=>exact hinv.objs o obj (hget o obj ho (fun e=>by rw [e] at hd; cases hd))
theorem pdraw_sound (hmix:P.follows .mixedOrders = true) {id:Nat} {ops:Array Oper} {effs fls:List Nat} {Q:Exit → Fr → Store → Prop} {fr:Fr} {σ:Store} (hd:drawB ops effs = true) (hfb:floatB ops effs fls = true)
  (h:pdr P M n ops effs fls σ.length (Q .normal) 0 (ops.toList.zip (lhOf ops effs)) [] [σ ++ List.replicate fls.length .dead] [] fr) {I:Imm} {ρ:Rho} {a:Act} {w:World} (hinv:Inv I ρ σ w) (hf:Frel I ρ n fr a.tmps):(Code.region id ops true).wp P (Lift n Q I ρ σ w a.defers) a w:=by
 have hok:=DrawOk.of hd
 simp only [floatB,Bool.and_eq_true,List.all_eq_true,decide_eq_true_eq,Bool.not_eq_true'] at hfb
 obtain ⟨hfs,hfa⟩:=hfb
 have hpf:=sorted_pairwise hfs
 have hfi:∀ i ∈ fls,i < ops.size:=fun i hi=>(hfa i hi).1
 have hfd:∀ i ∈ fls,i ∉ effs:=fun i hi=>by simpa using (hfa i hi).2
 have hlen:(lhOf ops effs).length = ops.size:=by simp [lhOf]
 obtain ⟨vals,sts,fobj,acc,_,g2,_,ga,gb,g3,g4,_⟩:=pdr_spec (M:=M) (n:=n) (fr0:=fr) (sorted_pairwise hok.sorted) hok.inside hpf hfi hfd (ops.toList.zip (lhOf ops effs)) 0 [] [σ ++ List.replicate fls.length .dead] [] (fun _=>.unk) (fun _=>σ ++ List.replicate fls.length .dead) (fun _=>.dead) (by simp [hlen])
  (fun m q hq=>by
   rw [List.zip,List.getElem?_zipWith] at hq
   rw [Nat.zero_add]
   cases ho:ops.toList[m]? with
   | none=>simp [ho] at hq
   | some o =>
    cases hl:(lhOf ops effs)[m]? with
    | none=>simp [ho,hl] at hq
    | some lh =>
     simp [ho,hl] at hq
     subst hq
     refine ⟨by simpa using ho,?_⟩
     simp only [lhOf,List.getElem?_map,Option.map_eq_some_iff] at hl
     obtain ⟨x,hx,rfl⟩:=hl
     obtain ⟨hx1,hx2⟩:=List.getElem?_eq_some_iff.1 hx
     simp at hx2
     subst hx2
     rfl) (by simp) (fun k τ hk=>by
   cases k with
   | zero=>simpa using hk
   | succ k=>simp at hk) (by rw [List.filter_eq_nil_iff.2 (fun e _=>by simp)]; rfl) (fun m j _ hm=>by simp at hm) h
 have hs0:sts 0 = σ ++ List.replicate fls.length .dead:=g2 0 (by simp)
 refine wp_region_any hmix ?_
 have hcnt:cnt effs (Array.replicate ops.size false) = 0:=by
  unfold cnt
  rw [List.filter_eq_nil_iff.2 (fun e _=>by simp [Array.getD_eq_getD_getElem?,Array.getElem?_replicate]; split <;> rfl)]
  rfl
 have hnone:∀ i,¬ isIn (Array.replicate ops.size false) i:=fun i=>by
  simp [isIn,Array.getD_eq_getD_getElem?,Array.getElem?_replicate]; split <;> rfl
 have hg:∀ t m,gT ops vals fr (Array.replicate ops.size false) t m = look fr t:=fun t m=>by
  induction m with
  | zero=>rfl
  | succ m ih=>simp only [gT,ih]; rw [if_neg (fun h=>hnone m h.1)]
 obtain ⟨i1,i2⟩:=inv_dead hinv fls.length
 have hslot:∀ i ∈ fls,∃ k,fls[k]? = some i ∧ slotF σ.length fls i = σ.length + k:=fun i hi=>by
  obtain ⟨k,hk⟩:=List.mem_iff_getElem?.1 hi
  exact ⟨k,hk,by unfold slotF; rw [filter_lt_len hpf k i hk]⟩
 refine draw_any hok hfs hfi (fun i o ho=>g4 i o (Nat.zero_le _) ho) (I0:=I) (ρ0:=ρ) (σ0:=σ) (w0:=w) (ds:=a.defers) (Nat.le_refl _) ?_ ops.size _ a _ I ρ (σ ++ List.replicate fls.length .dead) (by simp) (fun i o hi=>absurd hi (hnone i)) (by
   rw [Array.toList_replicate,List.countP_replicate]; split <;> omega) ?_ (i1.of_heap (w':=w.drew) rfl) hf.1 (fun t=>by rw [hg]; exact hf.2 t) (i2.trans (Grow.of_heap I ρ _ (w:=w) (w':=w.drew) rfl rfl rfl rfl)) rfl
 ·intro a' w' I' ρ' σr hreal h2 h3 h4 h5
  have hσr:σr = place (sts effs.length) σ.length acc:=by
   apply List.ext_getElem?
   intro o
   cases hfl:fls with
   | nil =>
    rw [hfl] at ga hreal
    rw [List.eq_nil_of_length_eq_zero ga]
    exact hreal.out o (by simp)
   | cons x l =>
    have hne:fls ≠ []:=by rw [hfl]; simp
    have hlast:=List.getElem?_eq_getElem (l:=fls) (i:=fls.length - 1) (by have:=List.length_pos_iff.2 hne; omega)
    have hb:σ.length + acc.length ≤ (sts effs.length).length:=by
     have hm:=List.mem_of_getElem? hlast
     have hd:=hreal.dead _ hm
     have:=(List.getElem?_eq_some_iff.1 hd).1
     unfold slotF at this
     rw [filter_lt_len hpf _ _ hlast] at this
     have:=List.length_pos_iff.2 hne
     omega
    rw [place_get acc _ _ _ hb]
    split
    ·rename_i hc
     have hlt:o - σ.length < fls.length:=by omega
     have hj:=List.getElem?_eq_getElem hlt
     have hmem:=List.mem_of_getElem? hj
     have hso:slotF σ.length fls fls[o - σ.length] = o:=by
      unfold slotF
      rw [filter_lt_len hpf _ _ hj]; omega
     have:=hreal.inn _ hmem trivial
     rw [hso] at this
     rw [this,gb _ _ hj]
    ·rename_i hc
     refine hreal.out o (fun i hi he=>hc ?_)
     obtain ⟨k,hk,hks⟩:=hslot i hi
     have:=(List.getElem?_eq_some_iff.1 hk).1
     omega
  subst hσr
  exact ⟨I',ρ',_,_,g3,h2,h3,h4,h5⟩
 ·rw [hcnt,hs0]
  have hdead:∀ i ∈ fls,(σ ++ List.replicate fls.length Obj.dead)[slotF σ.length fls i]? = some .dead:=fun i hi=>by
   obtain ⟨k,hk,hks⟩:=hslot i hi
   have:=(List.getElem?_eq_some_iff.1 hk).1
   rw [hks,List.getElem?_append_right (by omega),List.getElem?_replicate,if_pos (by omega)]
  exact ⟨rfl,fun _ _=>rfl,hdead,fun i _ hc=>absurd hc (hnone i),fun i hi _=>⟨hdead i hi,fun ver=>by
   obtain ⟨k,hk,hks⟩:=hslot i hi
   exact hinv.free _ ver (by omega)⟩⟩
theorem pwp_sound (hmix:P.follows .mixedOrders = true):∀ (c:Code) (Q:Exit → Fr → Store → Prop) (fr:Fr) (σ:Store),pwp P M n c Q fr σ → ∀ (I:Imm) (ρ:Rho) (a:Act) (w:World),Inv I ρ σ w → Frel I ρ n fr a.tmps →
  c.wp P (Lift n Q I ρ σ w a.defers) a w
 | .skip,Q,fr,σ,h,I,ρ,a,w,hinv,hf=>wp_skip ⟨I,ρ,fr,σ,h,hinv,hf,.refl _ _ _ _,rfl⟩
 | .exit id,Q,fr,σ,h,I,ρ,a,w,hinv,hf=>wp_exit ⟨I,ρ,fr,σ,h,hinv,hf,.refl _ _ _ _,rfl⟩
 | .ret,Q,fr,σ,h,I,ρ,a,w,hinv,hf=>wp_ret ⟨I,ρ,fr,σ,h,hinv,hf,.refl _ _ _ _,rfl⟩
 | .region id ops d,Q,fr,σ,h,I,ρ,a,w,hinv,hf=>by
  unfold pwp at h
  cases d with
  | true =>
   obtain ⟨effs,fls,lh,h1,h2,rfl,h3⟩:=h
   exact pdraw_sound hmix h1 h2 h3 hinv hf
  | false =>
   rw [if_neg (by simp)] at h
   exact wp_region_list (pops_sound ops.toList fr σ I ρ a w h hinv hf (fun fr' σ' I' ρ' a' w' q1 q2 q3 q4 q5=>⟨I',ρ',fr',σ',q1,q2,q3,q4,q5⟩))
 | .seq x y,Q,fr,σ,h,I,ρ,a,w,hinv,hf=>by
  refine wp_seq (wp_mono (pwp_sound hmix x _ fr σ h I ρ a w hinv hf) ?_)
  rintro e a' w' ⟨I',ρ',fr',σ',q,hinv',hf',hg,hd⟩
  cases e with
  | normal =>
   refine wp_mono (pwp_sound hmix y Q fr' σ' q I' ρ' a' w' hinv' hf') ?_
   rintro e a2 w2 ⟨I2,ρ2,fr2,σ2,q2,hinv2,hf2,hg2,hd2⟩
   exact ⟨I2,ρ2,fr2,σ2,q2,hinv2,hf2,hg.trans hg2,hd2.trans hd⟩
  | _=>exact ⟨I',ρ',fr',σ',q,hinv',hf',hg,hd⟩
 | .cond c x y,Q,fr,σ,h,I,ρ,a,w,hinv,hf=>by
  simp only [pwp] at h
  split at h
  ·rename_i t hc
   have hr:=hf.evO c
   rw [hc] at hr
   generalize hv:a.eval c = v at hr
   cases hr
   refine wp_cond hv ?_
   cases t with
   | true=>exact pwp_sound hmix x Q fr σ h I ρ a w hinv hf
   | false=>exact pwp_sound hmix y Q fr σ h I ρ a w hinv hf
  ·exact h.elim
 | .block id c,Q,fr,σ,h,I,ρ,a,w,hinv,hf=>by
  refine wp_block (wp_mono (pwp_sound hmix c _ fr σ h I ρ a w hinv hf) ?_)
  rintro e a' w' ⟨I',ρ',fr',σ',q,hinv',hf',hg,hd⟩
  cases e with
  | exit id' =>
   simp only [Exit.inBlock]
   simp only at q
   split at q
   ·rename_i hid
    rw [if_pos hid]
    exact ⟨I',ρ',fr',σ',q,hinv',hf',hg,hd⟩
   ·rename_i hid
    rw [if_neg hid]
    exact ⟨I',ρ',fr',σ',q,hinv',hf',hg,hd⟩
  | _=>exact ⟨I',ρ',fr',σ',q,hinv',hf',hg,hd⟩
 | .loop c,Q,fr,σ,h,I,ρ,a,w,hinv,hf=>by
  obtain ⟨J,k,fr0,hw,hJ,hround⟩:=h
  refine wp_loop_nat (fun k a' w'=>∃ I' ρ' fr' σ',J k fr' σ' ∧ Inv I' ρ' σ' w' ∧ Frel I' ρ' n fr' a'.tmps ∧ Grow I ρ σ w I' ρ' σ' w' ∧ a'.defers = a.defers) ?_ k a w ⟨I,ρ,fr0,σ,hJ,hinv,hf.weaken (look_weaker hw),.refl _ _ _ _,rfl⟩
  rintro k a' w' ⟨I',ρ',fr',σ',hJ',hinv',hf',hg,hd⟩
  refine wp_mono (pwp_sound hmix c _ fr' σ' (hround k fr' σ' hJ') I' ρ' a' w' hinv' hf') ?_
  rintro e a2 w2 ⟨I2,ρ2,fr2,σ2,q2,hinv2,hf2,hg2,hd2⟩
  cases e with
  | normal =>
   obtain ⟨k',fr0',hlt,hw',hJ2⟩:=q2
   exact ⟨k',hlt,I2,ρ2,fr0',σ2,hJ2,hinv2,hf2.weaken (look_weaker hw'),hg.trans hg2,hd2.trans hd⟩
  | _=>exact ⟨I2,ρ2,fr2,σ2,q2,hinv2,hf2,hg.trans hg2,hd2.trans hd⟩
 | .rangeFunc ..,_,_,_,h,_,_,_,_,_,_=>h.elim
 | .scope _,_,_,_,h,_,_,_,_,_,_=>h.elim
 | .label _,_,_,_,h,_,_,_,_,_,_=>h.elim
 | .goto _,_,_,_,h,_,_,_,_,_,_=>h.elim
 | .refuse _,_,_,_,h,_,_,_,_,_,_=>h.elim
def resW (P:Program) (σ:Store) (fr:Fr) (K:List PV → Prop):List ResultVar → Prop
 | []=>K []
 | .tmp t :: r=>resW P σ fr (fun l=>K (look fr t :: l)) r
 | .cell a t :: r=>rowAt σ (fun row off=>loadP P t row off (fun p=>resW P σ fr (fun l=>K (p :: l)) r)) (look fr a)
def fnRet:List PV → PV
 | [p]=>p
 | l=>.tup l
def initFr (args:List PV):Fr:=args.zipIdx.map fun (p,i)=>(i,p)
theorem look_init (args:List PV):∀ (k t:Nat),look ((args.zipIdx k).map fun (p,i)=>(i,p)) t = if k ≤ t then args.getD (t - k) .unk else .unk:=by
 induction args with
 | nil=>intro k t; simp [look]
 | cons p args ih =>
  intro k t
  simp only [List.zipIdx_cons,List.map_cons,look,ih]
  by_cases h:k = t
  ·subst h; simp
  ·rw [if_neg h]
   by_cases h2:k ≤ t
   ·rw [if_pos h2,if_pos (by omega)]
    rw [show t - k = (t - (k + 1)) + 1 from by omega,List.getD_cons_succ]
   ·rw [if_neg h2,if_neg (by omega)]
def resOne (tmps:Array Value):ResultVar → Sem Value
 | .tmp t=>pure (tmps.getD t Go.undef)
 | .cell a t=>do loadVar t (← asAddr (tmps.getD a Go.undef))
theorem results_eq (fn:Func) (tmps:Array Value):results fn tmps = (do let vs ← fn.results.mapM (resOne tmps); pure (if h:vs.size = 1 then vs[0] else .tuple vs)):=by
 unfold results
 refine congrArg (· >>= _) (congrArg (fun f=>Array.mapM f fn.results) (funext fun x=>?_))
 cases x <;> rfl
theorem resW_sound {I:Imm} {ρ:Rho} {σ:Store} {w:World} {fr:Fr} {tmps:Array Value} (hinv:Inv I ρ σ w) (hf:∀ t,R I ρ (look fr t) (tmps.getD t Go.undef)):∀ (l:List ResultVar) (K:List PV → Prop),resW P σ fr K l →
  ∃ ps vs,K ps ∧ vs.length = ps.length ∧ (∀ (j:Nat) (p:PV) (v:Value),ps[j]? = some p → vs[j]? = some v → R I ρ p v) ∧
   (l.mapM (resOne tmps)).run P w = .ok vs w
 | [],K,h=>⟨[],[],h,rfl,by simp,rfl⟩
 | .tmp t :: r,K,h=>by
  obtain ⟨ps,vs,h1,h2,h3,h4⟩:=resW_sound hinv hf r _ h
  refine ⟨_,tmps.getD t Go.undef :: vs,h1,by simp [h2],?_,?_⟩
  ·intro j p v hp hv
   cases j with
   | zero=>rw [List.getElem?_cons_zero] at hp hv; cases hp; cases hv; exact hf t
   | succ j=>exact h3 j p v (by simpa using hp) (by simpa using hv)
  ·rw [List.mapM_cons]
   simp only [resOne,Sem.run_bind,Sem.run_pure,Result.andThen_ok,h4]
 | .cell a t :: r,K,h=>by
  obtain ⟨p,v,g1,g2,g3⟩:=rowAt_load hinv (hf a) h
  obtain ⟨ps,vs,h1,h2,h3,h4⟩:=resW_sound hinv hf r _ g1
  refine ⟨_,v :: vs,h1,by simp [h2],?_,?_⟩
  ·intro j q u hp hv
   cases j with
   | zero=>simp at hp hv; subst hp hv; exact g2
   | succ j=>exact h3 j q u (by simpa using hp) (by simpa using hv)
  ·rw [List.mapM_cons]
   have hl:(do loadVar t (← asAddr (tmps.getD a Go.undef)):Sem Value).run P w = .ok v w:=by
    generalize hva:tmps.getD a Go.undef = va at g3
    cases va with
    | pointer ad =>
     cases ad with
     | none=>simp [Instr.loadAt,Instr.sureAddr] at g3
     | some ad=>simpa [Instr.loadAt,Instr.sureAddr,asAddr] using g3
    | _=>simp [Instr.loadAt,Instr.sureAddr] at g3
   rw [show resOne tmps (.cell a t) = (do loadVar t (← asAddr (tmps.getD a Go.undef))) from rfl,Sem.run_bind,hl]
   simp only [Result.andThen_ok,Sem.run_bind,h4,Sem.run_pure]
theorem PCall.of_body_with (hmix:P.follows .mixedOrders = true) {F:FuncId} {fn:Func} {c:Code} {args:List PV} {σ:Store} {K:PV → Store → Prop} (hfn:P.funcs[F]? = some fn) (hb:fn.body = some c) (hname:(fn.name != "runtime.NumGoroutine") = true)
  (hargs:args.length ≤ fn.ntmps) (E:PV → Store → Prop) (h:pwp P M fn.ntmps c (fun e fr σ'=>(e = .ret ∨ e = .normal) ∧ resW P σ' fr (fun l=>E (fnRet l) σ') fn.results.toList) (initFr args) σ)
  (hend:∀ (I:Imm) (ρ:Rho) (w:World) (p:PV) (v:Value) (σ':Store) (I':Imm) (ρ':Rho) (w':World),Inv I ρ σ w → E p σ' → R I' ρ' p v → Inv I' ρ' σ' w' → Grow I ρ σ w I' ρ' σ' w' →
   ∃ p2 I2 ρ2 σ2,R I2 ρ2 p2 v ∧ Inv I2 ρ2 σ2 w' ∧ Grow I ρ σ w I2 ρ2 σ2 w' ∧ K p2 σ2):PCall P F args σ K:=by
 refine ⟨?_,fun I ρ w vs hinv ha=>?_⟩
 ·simp only [hasBody,hfn,hb,hname,Option.isSome_some,Bool.and_self]
 ·refine calls_of_wp hfn hb ?_
  have hsz:(vs ++ Array.replicate (fn.ntmps - vs.size) Go.undef).size = fn.ntmps:=by
   have:=ha.1
   simp; omega
  have hf:Frel I ρ fn.ntmps (initFr args) (vs ++ Array.replicate (fn.ntmps - vs.size) Go.undef):=by
   refine ⟨hsz,fun t=>?_⟩
   have hl:=look_init args 0 t
   simp only [Nat.zero_le,if_true,Nat.sub_zero] at hl
   unfold initFr
   rw [hl]
   by_cases ht:t < args.length
   ·have:=ha.2 t args[t] (List.getElem?_eq_getElem ht)
    rw [List.getD_eq_getElem?_getD,List.getElem?_eq_getElem ht,Option.getD_some]
    rw [Array.getD_eq_getD_getElem?] at this ⊢
    rw [Array.getElem?_append_left (by rw [ha.1]; exact ht)]
    exact this
   ·rw [List.getD_eq_getElem?_getD,List.getElem?_eq_none (by omega)]
    exact .unk _
  refine wp_mono (pwp_sound hmix c _ _ σ h I ρ { tmps:=vs ++ Array.replicate (fn.ntmps - vs.size) Go.undef,defers:=[] } w hinv hf) ?_
  rintro e a' w' ⟨I',ρ',fr',σ',⟨he,hres⟩,hinv',hf',hg,hd⟩
  obtain ⟨ps,rs,h1,h2,h3,h4⟩:=resW_sound hinv' hf'.2 _ _ hres
  have hrun:(results fn a'.tmps).run P w' = .ok (if h:rs.toArray.size = 1 then rs.toArray[0] else .tuple rs.toArray) w':=by
   rw [results_eq,Sem.run_bind,Array.mapM_eq_mapM_toList,Sem.run_map,h4]
   rfl
  have hR:R I' ρ' (fnRet ps) (if h:rs.toArray.size = 1 then rs.toArray[0] else .tuple rs.toArray):=by
   match ps,rs,h2,h3 with
   | [],[],_,_=>exact .tup _ _ rfl (by simp)
   | [p],[v],_,h3=>exact h3 0 p v rfl rfl
   | p :: q :: ps,v :: u :: rs,h2,h3 =>
    rw [dif_neg (by simp)]
    exact .tup _ _ (by simpa using h2) (fun j x hj=>by
     have hlt:j < (v :: u :: rs).length:=by have:=(List.getElem?_eq_some_iff.1 hj).1; omega
     have:=h3 j x _ hj (List.getElem?_eq_getElem hlt)
     rw [Array.getD_eq_getD_getElem?,List.getElem?_toArray,List.getElem?_eq_getElem hlt]
     exact this)
  obtain ⟨p2,I2,ρ2,σ2,k1,k2,k3,k4⟩:=hend I ρ w _ _ σ' I' ρ' w' hinv h1 hR hinv' hg
  rcases he with rfl | rfl
  ·exact ⟨hd,_,hrun,_,p2,I2,ρ2,σ2,rfl,k1,k2,k3,k4⟩
  ·exact ⟨hd,_,hrun,_,p2,I2,ρ2,σ2,rfl,k1,k2,k3,k4⟩
theorem PCall.of_body (hmix:P.follows .mixedOrders = true) {F:FuncId} {fn:Func} {c:Code} {args:List PV} {σ:Store} {K:PV → Store → Prop} (hfn:P.funcs[F]? = some fn) (hb:fn.body = some c) (hname:(fn.name != "runtime.NumGoroutine") = true)
  (hargs:args.length ≤ fn.ntmps) (h:pwp P M fn.ntmps c (fun e fr σ'=>(e = .ret ∨ e = .normal) ∧ resW P σ' fr (fun l=>K (fnRet l) σ') fn.results.toList) (initFr args) σ):PCall P F args σ K :=
 PCall.of_body_with hmix hfn hb hname hargs K h fun _ _ _ p _ σ' I' ρ' _ _ hE hR hinv hg=>⟨p,I',ρ',σ',hR,hinv,hg,hE⟩
end
end Go.PV
