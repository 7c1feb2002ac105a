set_option linter.unusedSimpArgs false
set_option linter.unusedVariables false
namespace Go.Proofs.Ythginmfobikdgaa.Tj
def nd (n:Nat) (g:Int):Prop:=0 ≤ g ∧ g < n
inductive Rch (C:List (List Int)):Int → Int → Prop where
 | refl (a:Int):Rch C a a
 | step {a b c:Int}:b ∈ C.getD a.toNat [] → Rch C b c → Rch C a c
theorem Rch.trans {C:List (List Int)} {a b c:Int} (h:Rch C a b) (k:Rch C b c):Rch C a c:=by
 induction h with
 | refl a=>exact k
 | step h1 _ ih=>exact .step h1 (ih k)
theorem Rch.one {C:List (List Int)} {a b:Int} (h:b ∈ C.getD a.toNat []):Rch C a b:=.step h (.refl b)
structure TJ where
 num:List Int
 low:List Int
 set:List Int
 stk:List Int
 fd:Nat
 sets:List (List Int)
def TJ.nm (S:TJ) (g:Int):Int:=S.num.getD g.toNat 0
def TJ.lw (S:TJ) (g:Int):Int:=S.low.getD g.toNat 0
def TJ.st (S:TJ) (g:Int):Int:=S.set.getD g.toNat 0
def OkC (n:Nat) (C:List (List Int)):Prop:=∀ g,nd n g → ∀ h ∈ C.getD g.toNat [],nd n h
structure WF (n:Nat) (C:List (List Int)) (S:TJ):Prop where
 ln:S.num.length = n
 ll:S.low.length = n
 ls:S.set.length = n
 n0:∀ g,nd n g → 0 ≤ S.nm g ∧ S.nm g ≤ S.fd
 inj:∀ g h,nd n g → nd n h → S.nm g = S.nm h → S.nm g ≠ 0 → g = h
 stk:S.stk.Pairwise (fun a b=>S.nm a < S.nm b)
 ms:∀ g,g ∈ S.stk ↔ nd n g ∧ S.nm g ≠ 0 ∧ S.st g = -1
 sp:∀ g,nd n g → S.nm g = 0 → S.st g = -1
 rng:∀ g,nd n g → -1 ≤ S.st g ∧ S.st g < S.sets.length
 mem:∀ (k:Nat) g,k < S.sets.length → (g ∈ S.sets.getD k [] ↔ nd n g ∧ S.st g = k)
 ne:∀ k,k < S.sets.length → S.sets.getD k [] ≠ []
 nod:∀ k,k < S.sets.length → (S.sets.getD k []).Nodup
 srt:∀ k,k < S.sets.length → (S.sets.getD k []).Pairwise (· ≤ ·)
 topo:∀ g,nd n g → 0 ≤ S.st g → ∀ h ∈ C.getD g.toNat [],0 ≤ S.st h ∧ S.st h ≤ S.st g
 conn:∀ g h,nd n g → nd n h → S.st g = S.st h → 0 ≤ S.st g → Rch C g h
structure VisR (n:Nat) (C:List (List Int)) (S S':TJ) (f:Int) (R:List Int):Prop where
 wf:WF n C S'
 num:∀ g,nd n g → S.nm g ≠ 0 → S'.nm g = S.nm g
 low:∀ g,nd n g → S.nm g ≠ 0 → S'.lw g = S.lw g
 set:∀ g,nd n g → 0 ≤ S.st g → S'.st g = S.st g
 stk:S'.stk = S.stk ++ R
 fd:S.fd < S'.fd
 nf:S'.nm f = (S.fd + 1:Nat)
 lf:S'.lw f ≤ S'.nm f
 lw:S'.lw f = S'.nm f ∨ ∃ w ∈ S'.stk,Rch C f w ∧ S'.nm w = S'.lw f
 new:∀ v ∈ R,(S.fd:Int) < S'.nm v
 ed:∀ v ∈ R,∀ h ∈ C.getD v.toNat [],S'.nm h ≠ 0 ∧ (0 ≤ S'.st h ∨ S'.lw f ≤ S'.nm h)
 rf:∀ v ∈ R,Rch C f v
 rl:∀ v ∈ R,∃ w ∈ S'.stk,Rch C v w ∧ S'.nm w < S'.nm v ∧ S'.lw f ≤ S'.nm w
structure VisJ (n:Nat) (C:List (List Int)) (S0 S:TJ) (f:Int) (R:List Int) (k:Nat):Prop where
 wf:WF n C S
 num:∀ g,nd n g → S0.nm g ≠ 0 → S.nm g = S0.nm g
 low:∀ g,nd n g → S0.nm g ≠ 0 → S.lw g = S0.lw g
 set:∀ g,nd n g → 0 ≤ S0.st g → S.st g = S0.st g
 stk:S.stk = S0.stk ++ f :: R
 fd:S0.fd < S.fd
 nf:S.nm f = (S0.fd + 1:Nat)
 lf:S.lw f ≤ S.nm f
 lw:S.lw f = S.nm f ∨ ∃ w ∈ S.stk,Rch C f w ∧ S.nm w = S.lw f
 new:∀ v ∈ R,S.nm f < S.nm v
 ed:∀ v ∈ R,∀ h ∈ C.getD v.toNat [],S.nm h ≠ 0 ∧ (0 ≤ S.st h ∨ S.lw f ≤ S.nm h)
 edf:∀ i,i < k → S.nm ((C.getD f.toNat []).getD i 0) ≠ 0 ∧ (0 ≤ S.st ((C.getD f.toNat []).getD i 0) ∨ S.lw f ≤ S.nm ((C.getD f.toNat []).getD i 0))
 rf:∀ v ∈ R,Rch C f v
 rl:∀ v ∈ R,∃ w ∈ S.stk,Rch C v w ∧ S.nm w < S.nm v ∧ S.lw f ≤ S.nm w
theorem getD_mem (l:List Int) {k:Nat} (hk:k < l.length):l.getD k 0 ∈ l:=by
 rw [List.getD_eq_getElem?_getD,List.getElem?_eq_getElem hk]
 exact List.getElem_mem hk
theorem getD_set (l:List Int) (g h x:Int) (hg:nd l.length g) (hh:0 ≤ h):(l.set g.toNat x).getD h.toNat 0 = if h = g then x else l.getD h.toNat 0:=by
 obtain ⟨h1,h2⟩:=hg
 by_cases e:h = g
 ·subst e
  rw [if_pos rfl,List.getD_eq_getElem?_getD,List.getElem?_set_self (by omega)]; rfl
 ·rw [if_neg e,List.getD_eq_getElem?_getD,List.getElem?_set_ne (by omega),← List.getD_eq_getElem?_getD]
def TJ.enter (S:TJ) (f:Int):TJ:={ S with num:=S.num.set f.toNat ((S.fd + 1:Nat):Int),low:=S.low.set f.toNat ((S.fd + 1:Nat):Int),stk:=S.stk ++ [f],fd:=S.fd + 1 }
def TJ.fall (S:TJ) (f x:Int):TJ:={ S with low:=S.low.set f.toNat (min (S.lw f) x) }
def TJ.pop (S:TJ) (stk':List Int) (s:List Int):TJ:={ S with set:=s.foldl (fun l g=>l.set g.toNat (S.sets.length:Int)) S.set,stk:=stk',sets:=S.sets ++ [s] }
theorem enter_ok {n:Nat} {C:List (List Int)} {S:TJ} (h:WF n C S) {f:Int} (hf:nd n f) (h0:S.nm f = 0):VisJ n C S (S.enter f) f [] 0:=by
 have nm:∀ g,nd n g → (S.enter f).nm g = if g = f then ((S.fd + 1:Nat):Int) else S.nm g:=fun g hg=>by
  unfold TJ.nm TJ.enter; exact getD_set _ _ _ _ (by rw [h.ln]; exact hf) hg.1
 have lw:∀ g,nd n g → (S.enter f).lw g = if g = f then ((S.fd + 1:Nat):Int) else S.lw g:=fun g hg=>by
  unfold TJ.lw TJ.enter; exact getD_set _ _ _ _ (by rw [h.ll]; exact hf) hg.1
 have st:∀ g,(S.enter f).st g = S.st g:=fun g=>rfl
 have hfs:f ∉ S.stk:=fun hm=>((h.ms f).1 hm).2.1 h0
 have nne:∀ g,nd n g → S.nm g ≠ 0 → g ≠ f:=fun g _ hn e=>hn (by rw [e]; exact h0)
 refine ⟨⟨by simp [TJ.enter,h.ln],by simp [TJ.enter,h.ll],h.ls,fun g hg=>?_,fun g g' hg hg' he hn=>?_,?_,fun g=>?_,fun g hg hn=>?_,h.rng,h.mem,h.ne,h.nod,h.srt,h.topo,h.conn⟩,fun g hg hn=>?_,fun g hg hn=>?_,fun g hg hs=>rfl,rfl,Nat.lt_succ_self _,?_,?_,.inl ?_,fun v hv=>by simp at hv,fun v hv=>by simp at hv,fun i hi=>by omega,fun v hv=>by simp at hv,fun v hv=>by simp at hv⟩
 ·rw [nm g hg]
  have:=h.n0 g hg
  show 0 ≤ _ ∧ _ ≤ ((S.fd + 1:Nat):Int)
  split <;> omega
 ·rw [nm g hg,nm g' hg'] at he
  rw [nm g hg] at hn
  have a1:=h.n0 g hg
  have a2:=h.n0 g' hg'
  by_cases e1:g = f <;> by_cases e2:g' = f
  ·rw [e1,e2]
  ·rw [if_pos e1,if_neg e2] at he; omega
  ·rw [if_neg e1,if_pos e2] at he; omega
  ·rw [if_neg e1,if_neg e2] at he
   rw [if_neg e1] at hn
   exact h.inj g g' hg hg' he hn
 ·show (S.stk ++ [f]).Pairwise _
  have hin:∀ g ∈ S.stk,nd n g ∧ (S.enter f).nm g = S.nm g:=fun g hg=>by
   have:=(h.ms g).1 hg
   exact ⟨this.1,by rw [nm g this.1,if_neg (nne g this.1 this.2.1)]⟩
  refine List.pairwise_append.2 ⟨?_,List.pairwise_singleton _ _,fun a ha b hb=>?_⟩
  ·exact h.stk.imp_of_mem (fun ha hb hab=>by rw [(hin _ ha).2,(hin _ hb).2]; exact hab)
  ·rw [List.mem_singleton.1 hb,(hin a ha).2,nm f hf,if_pos rfl]
   have:=h.n0 a (hin a ha).1
   omega
 ·show g ∈ S.stk ++ [f] ↔ _
  rw [List.mem_append,List.mem_singleton,st]
  constructor
  ·rintro (hg | rfl)
   ·have:=(h.ms g).1 hg
    exact ⟨this.1,by rw [nm g this.1,if_neg (nne g this.1 this.2.1)]; exact this.2.1,this.2.2⟩
   ·exact ⟨hf,by rw [nm g hf,if_pos rfl]; omega,h.sp g hf h0⟩
  ·rintro ⟨hg,hn,hs⟩
   by_cases e:g = f
   ·exact .inr e
   ·rw [nm g hg,if_neg e] at hn
    exact .inl ((h.ms g).2 ⟨hg,hn,hs⟩)
 ·rw [nm g hg] at hn
  by_cases e:g = f
  ·rw [if_pos e] at hn; omega
  ·rw [if_neg e] at hn; exact h.sp g hg hn
 ·rw [nm g hg,if_neg (nne g hg hn)]
 ·rw [lw g hg,if_neg (nne g hg hn)]
 ·rw [nm f hf,if_pos rfl]
 ·rw [lw f hf,nm f hf,if_pos rfl,if_pos rfl]; exact Int.le_refl _
 ·rw [lw f hf,nm f hf,if_pos rfl,if_pos rfl]
theorem fall_wf {n:Nat} {C:List (List Int)} {S:TJ} (h:WF n C S) (f x:Int):WF n C (S.fall f x) :=
 ⟨h.ln,by simp [TJ.fall,h.ll],h.ls,h.n0,h.inj,h.stk,h.ms,h.sp,h.rng,h.mem,h.ne,h.nod,h.srt,h.topo,h.conn⟩
theorem VisJ.ndf {n:Nat} {C:List (List Int)} {S0 S:TJ} {f:Int} {R:List Int} {k:Nat} (h:VisJ n C S0 S f R k):nd n f:=((h.wf.ms f).1 (by rw [h.stk]; simp)).1
theorem VisJ.old {n:Nat} {C:List (List Int)} {S0 S:TJ} {f:Int} {R:List Int} {k:Nat} (h:VisJ n C S0 S f R k) (hk:k < (C.getD f.toNat []).length) {g:Int} (hg:g = (C.getD f.toNat []).getD k 0) (hgn:nd n g) (hn:S.nm g ≠ 0) (h0:S0.nm f = 0) :
  (0 ≤ S.st g → VisJ n C S0 S f R (k + 1)) ∧ (S.st g < 0 → VisJ n C S0 (S.fall f (S.nm g)) f R (k + 1)):=by
 have hf:=h.ndf
 have nxt:∀ {P:Int → Prop},(∀ i,i < k → P ((C.getD f.toNat []).getD i 0)) → P g → ∀ i,i < k + 1 → P ((C.getD f.toNat []).getD i 0):=fun {P} h1 h2 i hi=>by
  by_cases e:i = k
  ·rw [e,← hg]; exact h2
  ·exact h1 i (by omega)
 refine ⟨fun hs=>⟨h.wf,h.num,h.low,h.set,h.stk,h.fd,h.nf,h.lf,h.lw,h.new,h.ed,nxt (P:=fun g=>S.nm g ≠ 0 ∧ (0 ≤ S.st g ∨ S.lw f ≤ S.nm g)) h.edf ⟨hn,.inl hs⟩,h.rf,h.rl⟩,fun hs=>?_⟩
 have lw:∀ u,nd n u → (S.fall f (S.nm g)).lw u = if u = f then min (S.lw f) (S.nm g) else S.lw u:=fun u hu=>by
  unfold TJ.lw TJ.fall; exact getD_set _ _ _ _ (by rw [h.wf.ll]; exact hf) hu.1
 have lwf:=lw f hf
 rw [if_pos rfl] at lwf
 have hle:(S.fall f (S.nm g)).lw f ≤ S.lw f:=by rw [lwf]; omega
 have hgs:g ∈ S.stk:=(h.wf.ms g).2 ⟨hgn,hn,by have:=h.wf.rng g hgn; omega⟩
 refine ⟨fall_wf h.wf f _,h.num,fun u hu hun=>?_,h.set,h.stk,h.fd,h.nf,?_,?_,h.new,fun v hv u hu=>?_,nxt (P:=fun u=>S.nm u ≠ 0 ∧ (0 ≤ S.st u ∨ (S.fall f (S.nm g)).lw f ≤ S.nm u)) (fun i hi=>?_) ⟨hn,.inr (by rw [lwf]; omega)⟩,h.rf,fun v hv=>?_⟩
 ·rw [lw u hu,if_neg (fun e=>hun (by rw [e]; exact h0))]
  exact h.low u hu hun
 ·have:=h.lf
  show (S.fall f (S.nm g)).lw f ≤ S.nm f
  omega
 ·show (S.fall f (S.nm g)).lw f = S.nm f ∨ ∃ w ∈ S.stk,Rch C f w ∧ S.nm w = (S.fall f (S.nm g)).lw f
  rw [lwf]
  by_cases e:S.lw f ≤ S.nm g
  ·rw [show min (S.lw f) (S.nm g) = S.lw f by omega]; exact h.lw
  ·rw [show min (S.lw f) (S.nm g) = S.nm g by omega]
   refine .inr ⟨g,hgs,.one ?_,rfl⟩
   rw [hg]; exact getD_mem _ hk
 ·have:=h.ed v hv u hu
  exact ⟨this.1,this.2.imp id (fun q=>by show _ ≤ S.nm u; omega)⟩
 ·have:=h.edf i hi
  exact ⟨this.1,this.2.imp id (fun q=>by omega)⟩
 ·obtain ⟨w,h1,h2,h3,h4⟩:=h.rl v hv
  exact ⟨w,h1,h2,h3,by show _ ≤ S.nm w; omega⟩
theorem VisJ.child {n:Nat} {C:List (List Int)} (hC:OkC n C) {S0 S S2:TJ} {f:Int} {R Rh:List Int} {k:Nat} (h:VisJ n C S0 S f R k) (hk:k < (C.getD f.toNat []).length) {g:Int} (hg:g = (C.getD f.toNat []).getD k 0) (hgn:nd n g) (hn:S.nm g = 0) (h0:S0.nm f = 0) (hv:VisR n C S S2 g Rh) :
  VisJ n C S0 (S2.fall f (S2.lw g)) f (R ++ Rh) (k + 1):=by
 have hf:=h.ndf
 have hfn:S.nm f ≠ 0:=by rw [h.nf]; omega
 have hgf:g ∈ C.getD f.toNat []:=by
  rw [hg]; exact getD_mem _ hk
 have lw:∀ u,nd n u → (S2.fall f (S2.lw g)).lw u = if u = f then min (S2.lw f) (S2.lw g) else S2.lw u:=fun u hu=>by
  unfold TJ.lw TJ.fall; exact getD_set _ _ _ _ (by rw [hv.wf.ll]; exact hf) hu.1
 have lwf:=lw f hf
 rw [if_pos rfl,hv.low f hf hfn] at lwf
 have nf2:S2.nm f = S.nm f:=hv.num f hf hfn
 have hgn2:S.nm f < S2.nm g:=by
  have:=(h.wf.n0 f hf).2
  rw [hv.nf]; omega
 have s2stk:S2.stk = S0.stk ++ f :: (R ++ Rh):=by rw [hv.stk,h.stk]; simp
 have memS:∀ u,u ∈ S.stk → u ∈ S2.stk:=fun u hu=>by rw [hv.stk]; exact List.mem_append_left _ hu
 have ndR:∀ v,v ∈ R → nd n v ∧ S.nm v ≠ 0:=fun v hv'=>by
  have:=(h.wf.ms v).1 (by rw [h.stk]; simp [hv'])
  exact ⟨this.1,this.2.1⟩
 have edge:∀ u,nd n u → S.nm u ≠ 0 ∧ (0 ≤ S.st u ∨ S.lw f ≤ S.nm u) → S2.nm u ≠ 0 ∧ (0 ≤ S2.st u ∨ (S2.fall f (S2.lw g)).lw f ≤ S2.nm u):=fun u hu ⟨a,b⟩=>by
  rw [hv.num u hu a]
  refine ⟨a,b.imp (fun c=>by rw [hv.set u hu c]; exact c) (fun c=>by rw [lwf]; omega)⟩
 have hRl:∀ v ∈ R,∀ w ∈ S.stk,S.nm w < S.nm v → S2.nm w < S2.nm v:=fun v hv' w hw hlt=>by
  have h1:=(h.wf.ms w).1 hw
  rw [hv.num w h1.1 h1.2.1,hv.num v (ndR v hv').1 (ndR v hv').2]; exact hlt
 have w2:∀ {v},nd n v → S.nm v ≠ 0 → (∃ w ∈ S.stk,Rch C v w ∧ S.nm w < S.nm v ∧ S.lw f ≤ S.nm w) → ∃ w ∈ S2.stk,Rch C v w ∧ S2.nm w < S2.nm v ∧ (S2.fall f (S2.lw g)).lw f ≤ S2.nm w:=fun {v} hv1 hv2 ⟨w,a1,a2,a3,a4⟩=>by
  have h1:=(h.wf.ms w).1 a1
  exact ⟨w,memS w a1,a2,by rw [hv.num w h1.1 h1.2.1,hv.num v hv1 hv2]; exact a3,by rw [hv.num w h1.1 h1.2.1,lwf]; omega⟩
 refine ⟨fall_wf hv.wf f _,fun u hu hun=>?_,fun u hu hun=>?_,fun u hu hus=>?_,s2stk,by have:=h.fd; have:=hv.fd; show S0.fd < S2.fd; omega,by show S2.nm f = _; rw [nf2]; exact h.nf,?_,?_,fun v hv'=>?_,fun v hv' u hu=>?_,fun i hi=>?_,fun v hv'=>?_,fun v hv'=>?_⟩
 ·show S2.nm u = _
  rw [hv.num u hu (by rw [h.num u hu hun]; exact hun),h.num u hu hun]
 ·rw [lw u hu,if_neg (fun e=>hun (by rw [e]; exact h0)),hv.low u hu (by rw [h.num u hu hun]; exact hun),h.low u hu hun]
 ·show S2.st u = _
  have e:=h.set u hu hus
  rw [hv.set u hu (by rw [e]; exact hus),e]
 ·show (S2.fall f (S2.lw g)).lw f ≤ S2.nm f
  have:=h.lf
  rw [lwf,nf2]; omega
 ·show (S2.fall f (S2.lw g)).lw f = S2.nm f ∨ ∃ w ∈ S2.stk,Rch C f w ∧ S2.nm w = (S2.fall f (S2.lw g)).lw f
  rw [lwf,nf2]
  by_cases e:S.lw f ≤ S2.lw g
  ·rw [show min (S.lw f) (S2.lw g) = S.lw f by omega]
   refine h.lw.imp id (fun ⟨w,a1,a2,a3⟩=>⟨w,memS w a1,a2,?_⟩)
   have h1:=(h.wf.ms w).1 a1
   rw [hv.num w h1.1 h1.2.1]; exact a3
  ·rw [show min (S.lw f) (S2.lw g) = S2.lw g by omega]
   have:=h.lf
   rcases hv.lw with q | ⟨w,a1,a2,a3⟩
   ·omega
   ·exact .inr ⟨w,a1,.trans (.one hgf) a2,a3⟩
 ·show S2.nm f < S2.nm v
  rw [nf2]
  rcases List.mem_append.1 hv' with q | q
  ·rw [hv.num v (ndR v q).1 (ndR v q).2]; exact h.new v q
  ·have:=hv.new v q
   have:=(h.wf.n0 f hf).2
   omega
 ·rcases List.mem_append.1 hv' with q | q
  ·exact edge u (hC v (ndR v q).1 u hu) (h.ed v q u hu)
  ·have:=hv.ed v q u hu
   exact ⟨this.1,this.2.imp id (fun c=>by rw [lwf]; show _ ≤ S2.nm u; omega)⟩
 ·by_cases e:i = k
  ·rw [e,← hg]
   refine ⟨?_,?_⟩
   ·show S2.nm g ≠ 0
    rw [hv.nf]; omega
   ·refine .inr ?_
    rw [lwf]
    show _ ≤ S2.nm g
    have:=hv.lf
    omega
  ·have hi':i < k:=by omega
   refine edge _ (hC f hf _ ?_) (h.edf i hi')
   exact getD_mem _ (by omega)
 ·rcases List.mem_append.1 hv' with q | q
  ·exact h.rf v q
  ·exact .trans (.one hgf) (hv.rf v q)
 ·rcases List.mem_append.1 hv' with q | q
  ·exact w2 (ndR v q).1 (ndR v q).2 (h.rl v q)
  ·obtain ⟨w,a1,a2,a3,a4⟩:=hv.rl v q
   exact ⟨w,a1,a2,a3,by rw [lwf]; show _ ≤ S2.nm w; omega⟩
theorem VisJ.stay {n:Nat} {C:List (List Int)} {S0 S:TJ} {f:Int} {R:List Int} (h:VisJ n C S0 S f R (C.getD f.toNat []).length) (hlt:S.lw f < S.nm f):VisR n C S0 S f (f :: R):=by
 refine ⟨h.wf,h.num,h.low,h.set,h.stk,h.fd,h.nf,h.lf,h.lw,fun v hv=>?_,fun v hv u hu=>?_,fun v hv=>?_,fun v hv=>?_⟩
 ·rcases List.mem_cons.1 hv with rfl | q
  ·rw [h.nf]; omega
  ·have:=h.new v q
   have:=h.nf
   omega
 ·rcases List.mem_cons.1 hv with rfl | q
  ·obtain ⟨i,hi,rfl⟩:=List.mem_iff_getElem.1 hu
   have:=h.edf i hi
   rwa [List.getD_eq_getElem?_getD,List.getElem?_eq_getElem hi] at this
  ·exact h.ed v q u hu
 ·rcases List.mem_cons.1 hv with rfl | q
  ·exact .refl _
  ·exact h.rf v q
 ·rcases List.mem_cons.1 hv with rfl | q
  ·rcases h.lw with e | ⟨w,a1,a2,a3⟩
   ·omega
   ·exact ⟨w,a1,a2,by omega,by omega⟩
  ·exact h.rl v q
theorem foldl_set (x:Int):∀ (s l:List Int) (g:Int),(∀ u ∈ s,nd l.length u) → 0 ≤ g → (s.foldl (fun l g=>l.set g.toNat x) l).getD g.toNat 0 = if g ∈ s then x else l.getD g.toNat 0
 | [],l,g,_,_=>by simp
 | u :: s,l,g,hs,hg=>by
  rw [List.foldl_cons,foldl_set x s _ g (fun v hv=>by rw [List.length_set]; exact hs v (by simp [hv])) hg,getD_set l u g x (hs u (by simp)) hg]
  by_cases e:g ∈ s
  ·rw [if_pos e,if_pos (by simp [e])]
  ·rw [if_neg e]
   by_cases e2:g = u
   ·rw [if_pos e2,if_pos (by simp [e2])]
   ·rw [if_neg e2,if_neg (by simp [e,e2])]
theorem foldl_set_len (x:Int):∀ (s l:List Int),(s.foldl (fun l g=>l.set g.toNat x) l).length = l.length
 | [],l=>rfl
 | u :: s,l=>by rw [List.foldl_cons,foldl_set_len x s,List.length_set]
theorem VisJ.leave {n:Nat} {C:List (List Int)} (hC:OkC n C) {S0 S:TJ} {f:Int} {R:List Int} (h:VisJ n C S0 S f R (C.getD f.toNat []).length) (hge:¬ S.lw f < S.nm f) (h0:WF n C S0) {s:List Int} (hs:s.Perm (f :: R)) (hsr:s.Pairwise (· ≤ ·)):VisR n C S0 (S.pop S0.stk s) f []:=by
 have hf:=h.ndf
 have hlf:=h.lf
 have hms:∀ g,g ∈ s ↔ g ∈ f :: R:=fun g=>hs.mem_iff
 have hin:∀ g,g ∈ f :: R → nd n g ∧ S.nm g ≠ 0 ∧ S.st g = -1:=fun g hg=>(h.wf.ms g).1 (by rw [h.stk]; exact List.mem_append_right _ hg)
 have hge2:∀ g,g ∈ f :: R → S.nm f ≤ S.nm g:=fun g hg=>by
  rcases List.mem_cons.1 hg with rfl | q
  ·exact Int.le_refl _
  ·exact Int.le_of_lt (h.new g q)
 have h0s:∀ g,g ∈ S0.stk → S.nm g < S.nm f:=fun g hg=>by
  have a:=(h0.ms g).1 hg
  have b:=(h0.n0 g a.1).2
  rw [h.num g a.1 a.2.1,h.nf]; omega
 have up:∀ g,g ∈ S.stk → S.nm f ≤ S.nm g → g ∈ f :: R:=fun g hg hl=>by
  rw [h.stk] at hg
  rcases List.mem_append.1 hg with q | q
  ·have:=h0s g q; omega
  ·exact q
 have st:∀ g,nd n g → (S.pop S0.stk s).st g = if g ∈ f :: R then (S.sets.length:Int) else S.st g:=fun g hg=>by
  unfold TJ.st TJ.pop
  rw [foldl_set _ s S.set g (fun u hu=>by rw [h.wf.ls]; exact (hin u ((hms u).1 hu)).1) hg.1]
  simp only [hms]
 have back:∀ (m:Nat) g,g ∈ f :: R → (S.nm g).toNat ≤ m → Rch C g f:=by
  intro m
  induction m with
  | zero =>
   intro g hg hm
   have a:=hin g hg
   have b:=h.wf.n0 g a.1
   omega
  | succ m ih =>
   intro g hg hm
   rcases List.mem_cons.1 hg with rfl | q
   ·exact .refl _
   ·obtain ⟨w,a1,a2,a3,a4⟩:=h.rl g q
    have hw:=up w a1 (by omega)
    have b:=h.wf.n0 w (hin w hw).1
    exact .trans a2 (ih w hw (by omega))
 have fwd:∀ g,g ∈ f :: R → Rch C f g:=fun g hg=>by
  rcases List.mem_cons.1 hg with rfl | q
  ·exact .refl _
  ·exact h.rf g q
 have edg:∀ g,g ∈ f :: R → ∀ u ∈ C.getD g.toNat [],nd n u ∧ (u ∈ f :: R ∨ 0 ≤ S.st u):=fun g hg u hu=>by
  have hu2:=hC g (hin g hg).1 u hu
  refine ⟨hu2,?_⟩
  have key:S.nm u ≠ 0 ∧ (0 ≤ S.st u ∨ S.lw f ≤ S.nm u):=by
   rcases List.mem_cons.1 hg with rfl | q
   ·obtain ⟨i,hi,rfl⟩:=List.mem_iff_getElem.1 hu
    have:=h.edf i hi
    rwa [List.getD_eq_getElem?_getD,List.getElem?_eq_getElem hi] at this
   ·exact h.ed g q u hu
  rcases key.2 with q | q
  ·exact .inr q
  ·by_cases e:0 ≤ S.st u
   ·exact .inr e
   ·exact .inl (up u ((h.wf.ms u).2 ⟨hu2,key.1,by have:=h.wf.rng u hu2; omega⟩) (by omega))
 have hL:(S.pop S0.stk s).sets.length = S.sets.length + 1:=by simp [TJ.pop]
 have hnot:∀ g,nd n g → 0 ≤ S.st g → g ∉ f :: R:=fun g hg hs hm=>by
  have:=(hin g hm).2.2; omega
 refine ⟨⟨h.wf.ln,h.wf.ll,by simp [TJ.pop,foldl_set_len,h.wf.ls],h.wf.n0,h.wf.inj,?_,fun g=>?_,fun g hg hn=>?_,fun g hg=>?_,fun k g hk=>?_,fun k hk=>?_,fun k hk=>?_,fun k hk=>?_,fun g hg hs u hu=>?_,fun g u hg hu he hs=>?_⟩,h.num,h.low,fun g hg hs=>?_,by simp [TJ.pop],h.fd,h.nf,h.lf,.inl (by show S.lw f = S.nm f; omega),fun v hv=>by simp at hv,fun v hv=>by simp at hv,fun v hv=>by simp at hv,fun v hv=>by simp at hv⟩
 ·show S0.stk.Pairwise (fun a b=>S.nm a < S.nm b)
  have:=h.wf.stk
  rw [h.stk] at this
  exact (List.pairwise_append.1 this).1
 ·show g ∈ S0.stk ↔ _
  constructor
  ·intro hg
   have a:=(h.wf.ms g).1 (by rw [h.stk]; exact List.mem_append_left _ hg)
   refine ⟨a.1,a.2.1,?_⟩
   rw [st g a.1,if_neg (fun hm=>by have:=h0s g hg; have:=hge2 g hm; omega)]
   exact a.2.2
  ·rintro ⟨a,b,c⟩
   rw [st g a] at c
   by_cases e:g ∈ f :: R
   ·rw [if_pos e] at c; omega
   ·rw [if_neg e] at c
    have:=(h.wf.ms g).2 ⟨a,b,c⟩
    rw [h.stk] at this
    exact (List.mem_append.1 this).resolve_right e
 ·rw [st g hg,if_neg (fun hm=>(hin g hm).2.1 hn)]
  exact h.wf.sp g hg hn
 ·have:=h.wf.rng g hg
  rw [st g hg,hL]
  split <;> omega
 ·rw [hL] at hk
  by_cases e:k < S.sets.length
  ·have hkk:(S.pop S0.stk s).sets.getD k [] = S.sets.getD k []:=by
    simp [TJ.pop,List.getD_eq_getElem?_getD,List.getElem?_append_left e]
   rw [hkk,h.wf.mem k g e]
   constructor
   ·rintro ⟨a,b⟩
    exact ⟨a,by rw [st g a,if_neg (hnot g a (by omega))]; exact b⟩
   ·rintro ⟨a,b⟩
    rw [st g a] at b
    by_cases e2:g ∈ f :: R
    ·rw [if_pos e2] at b; omega
    ·rw [if_neg e2] at b; exact ⟨a,b⟩
  ·obtain rfl:k = S.sets.length:=by omega
   have hkk:(S.pop S0.stk s).sets.getD S.sets.length [] = s:=by
    simp [TJ.pop,List.getD_eq_getElem?_getD]
   rw [hkk,hms]
   constructor
   ·intro hm
    exact ⟨(hin g hm).1,by rw [st g (hin g hm).1,if_pos hm]⟩
   ·rintro ⟨a,b⟩
    rw [st g a] at b
    by_cases e2:g ∈ f :: R
    ·exact e2
    ·rw [if_neg e2] at b
     have:=h.wf.rng g a
     omega
 ·rw [hL] at hk
  by_cases e:k < S.sets.length
  ·have hkk:(S.pop S0.stk s).sets.getD k [] = S.sets.getD k []:=by
    simp [TJ.pop,List.getD_eq_getElem?_getD,List.getElem?_append_left e]
   rw [hkk]; exact h.wf.ne k e
  ·obtain rfl:k = S.sets.length:=by omega
   have hkk:(S.pop S0.stk s).sets.getD S.sets.length [] = s:=by
    simp [TJ.pop,List.getD_eq_getElem?_getD]
   rw [hkk]
   intro e2
   have:=(hms f).2 (by simp)
   rw [e2] at this; simp at this
 ·rw [hL] at hk
  by_cases e:k < S.sets.length
  ·have hkk:(S.pop S0.stk s).sets.getD k [] = S.sets.getD k []:=by
    simp [TJ.pop,List.getD_eq_getElem?_getD,List.getElem?_append_left e]
   rw [hkk]; exact h.wf.nod k e
  ·obtain rfl:k = S.sets.length:=by omega
   have hkk:(S.pop S0.stk s).sets.getD S.sets.length [] = s:=by
    simp [TJ.pop,List.getD_eq_getElem?_getD]
   rw [hkk,hs.nodup_iff]
   have:=h.wf.stk
   rw [h.stk] at this
   exact ((List.pairwise_append.1 this).2.1).imp (fun {a b} hab e=>by rw [e] at hab; omega)
 ·rw [hL] at hk
  by_cases e:k < S.sets.length
  ·have hkk:(S.pop S0.stk s).sets.getD k [] = S.sets.getD k []:=by
    simp [TJ.pop,List.getD_eq_getElem?_getD,List.getElem?_append_left e]
   rw [hkk]; exact h.wf.srt k e
  ·obtain rfl:k = S.sets.length:=by omega
   have hkk:(S.pop S0.stk s).sets.getD S.sets.length [] = s:=by
    simp [TJ.pop,List.getD_eq_getElem?_getD]
   rw [hkk]; exact hsr
 ·rw [st g hg] at hs ⊢
  by_cases e:g ∈ f :: R
  ·rw [if_pos e]
   obtain ⟨a,b⟩:=edg g e u hu
   rw [st u a]
   by_cases e2:u ∈ f :: R
   ·rw [if_pos e2]; omega
   ·rw [if_neg e2]
    have:=h.wf.rng u a
    have:=b.resolve_left e2
    omega
  ·rw [if_neg e] at hs ⊢
   have hu2:=hC g hg u hu
   have:=h.wf.topo g hg hs u hu
   rw [st u hu2,if_neg (hnot u hu2 this.1)]
   exact this
 ·rw [st g hg,st u hu] at he
  rw [st g hg] at hs
  by_cases e:g ∈ f :: R <;> by_cases e2:u ∈ f :: R
  ·exact .trans (back _ g e (Nat.le_refl _)) (fwd u e2)
  ·rw [if_pos e,if_neg e2] at he
   have:=h.wf.rng u hu; omega
  ·rw [if_neg e,if_pos e2] at he
   have:=h.wf.rng g hg; omega
  ·rw [if_neg e,if_neg e2] at he
   rw [if_neg e] at hs
   exact h.wf.conn g u hg hu he hs
 ·rw [st g hg,if_neg (fun hm=>?_)]
  ·exact h.set g hg hs
  ·have a:=h.set g hg hs
   have:=(hin g hm).2.2
   omega
end Go.Proofs.Ythginmfobikdgaa.Tj
