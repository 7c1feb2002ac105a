import Derived.Test.YthginmfobikdgaaTjA
set_option maxRecDepth 8000
set_option linter.unusedSimpArgs false
set_option linter.unusedVariables false
namespace Go.Proofs.Ythginmfobikdgaa.Tj
def cnt0 (l:List Int):Nat:=l.countP (· == 0)
theorem cnt0_le:∀ (a b:List Int),a.length = b.length → (∀ i,i < a.length → a.getD i 0 ≠ 0 → b.getD i 0 ≠ 0) → cnt0 b ≤ cnt0 a
 | [],[],_,_=>Nat.le_refl _
 | [],_ :: _,h,_=>by simp at h
 | _ :: _,[],h,_=>by simp at h
 | x :: a,y :: b,h,hi=>by
  have ih:=cnt0_le a b (by simpa using h) (fun i hil hn=>by
   have:=hi (i + 1) (by simp; omega) (by simpa using hn)
   simpa using this)
  have h0:=hi 0 (by simp)
  simp only [List.getD_cons_zero] at h0
  unfold cnt0 at ih ⊢
  rw [List.countP_cons,List.countP_cons]
  by_cases e:x = 0
  ·subst e
   have:(if ((0:Int) == 0) = true then 1 else 0) = 1:=rfl
   rw [this]
   split <;> omega
  ·have e2:=h0 e
   have a1:(y == 0) = false:=by simpa using e2
   have a2:(x == 0) = false:=by simpa using e
   rw [a1,a2]; simpa using ih
theorem cnt0_set:∀ (a:List Int) (i:Nat) (x:Int),i < a.length → a.getD i 0 = 0 → x ≠ 0 → cnt0 (a.set i x) < cnt0 a
 | [],i,x,h,_,_=>by simp at h
 | y :: a,0,x,_,h0,hx=>by
  simp only [List.getD_cons_zero] at h0
  subst h0
  have a1:(x == 0) = false:=by simpa using hx
  simp [cnt0,List.countP_cons,a1]
 | y :: a,i + 1,x,h,h0,hx=>by
  have:=cnt0_set a i x (by simpa using h) (by simpa using h0) hx
  unfold cnt0 at this ⊢
  rw [List.set_cons_succ,List.countP_cons,List.countP_cons]
  omega
theorem cnt0_of {n:Nat} {S S':TJ} (h1:S.num.length = n) (h2:S'.num.length = n) (h:∀ g,nd n g → S.nm g ≠ 0 → S'.nm g ≠ 0):cnt0 S'.num ≤ cnt0 S.num :=
 cnt0_le _ _ (by omega) (fun i hi hn=>h (i:Int) ⟨by omega,by omega⟩ hn)
theorem VisJ.less {n:Nat} {C:List (List Int)} {S0 S:TJ} {f:Int} {R:List Int} {k:Nat} (h:VisJ n C S0 S f R k) (hw:WF n C S0) (h0:S0.nm f = 0):cnt0 S.num < cnt0 S0.num:=by
 have hf:=h.ndf
 have h1:=cnt0_set S0.num f.toNat 1 (by rw [hw.ln]; have:=hf.2; have:=hf.1; omega) h0 (by omega)
 refine Nat.lt_of_le_of_lt (cnt0_le _ _ (by rw [List.length_set,hw.ln,h.wf.ln]) (fun i hi hn=>?_)) h1
 rw [List.length_set,hw.ln] at hi
 have hi2:nd n (i:Int):=⟨by omega,by omega⟩
 by_cases e:(i:Int) = f
 ·show S.nm (i:Int) ≠ 0
  rw [e,h.nf]; omega
 ·have:S0.nm (i:Int) ≠ 0:=by
   have q:=getD_set S0.num f i 1 (by rw [hw.ln]; exact hf) (by omega)
   rw [if_neg e] at q
   simp only [Int.toNat_natCast] at q
   rw [q] at hn; exact hn
  show S.nm (i:Int) ≠ 0
  rw [h.num _ hi2 this]; exact this
def TJ.init (n:Nat):TJ:=⟨List.replicate n 0,List.replicate n 0,List.replicate n (-1),[],0,[]⟩
theorem init_wf (n:Nat) (C:List (List Int)):WF n C (TJ.init n):=by
 have hn:∀ g,nd n g → (TJ.init n).nm g = 0:=fun g hg=>by
  have:=hg.1; have:=hg.2
  simp [TJ.nm,TJ.init,List.getD_eq_getElem?_getD,show g.toNat < n by omega]
 have hs:∀ g,nd n g → (TJ.init n).st g = -1:=fun g hg=>by
  have:=hg.1; have:=hg.2
  simp [TJ.st,TJ.init,List.getD_eq_getElem?_getD,show g.toNat < n by omega]
 refine ⟨by simp [TJ.init],by simp [TJ.init],by simp [TJ.init],fun g hg=>by rw [hn g hg]; simp [TJ.init],fun g h hg _ _ hne=>absurd (hn g hg) hne,by simp [TJ.init],fun g=>⟨fun h=>by simp [TJ.init] at h,fun ⟨a,b,_⟩=>absurd (hn g a) b⟩,fun g hg _=>hs g hg,fun g hg=>by rw [hs g hg]; simp [TJ.init],fun k g hk=>by simp [TJ.init] at hk,fun k hk=>by simp [TJ.init] at hk,fun k hk=>by simp [TJ.init] at hk,fun k hk=>by simp [TJ.init] at hk,fun g hg h0=>by rw [hs g hg] at h0; omega,fun g h hg _ _ h0=>by rw [hs g hg] at h0; omega⟩
structure FinJ (n:Nat) (C:List (List Int)) (S:TJ) (k:Nat):Prop where
 wf:WF n C S
 stk:S.stk = []
 seen:∀ g,nd n g → g < k → S.nm g ≠ 0
theorem FinJ.next {n:Nat} {C:List (List Int)} {S S':TJ} {k:Nat} {R:List Int} (h:FinJ n C S k) (hk:nd n k) (hv:VisR n C S S' k R):FinJ n C S' (k + 1):=by
 have hR:R = []:=by
  have key:∀ (m:Nat) v,v ∈ R → (S'.nm v).toNat ≤ m → False:=by
   intro m
   induction m with
   | zero =>
    intro v hv1 hm
    have:=hv.new v hv1
    omega
   | succ m ih =>
    intro v hv1 hm
    obtain ⟨w,a1,a2,a3,a4⟩:=hv.rl v hv1
    rw [hv.stk,h.stk,List.nil_append] at a1
    have:=hv.new w a1
    exact ih w a1 (by omega)
  cases R with
  | nil=>rfl
  | cons v R=>exact (key _ v (by simp) (Nat.le_refl _)).elim
 refine ⟨hv.wf,by rw [hv.stk,h.stk,hR]; rfl,fun g hg hlt=>?_⟩
 by_cases e:g = k
 ·rw [e,hv.nf]; omega
 ·have:=h.seen g hg (by omega)
  rw [hv.num g hg this]; exact this
theorem FinJ.skip {n:Nat} {C:List (List Int)} {S:TJ} {k:Nat} (h:FinJ n C S k) (hn:S.nm k ≠ 0):FinJ n C S (k + 1) :=
 ⟨h.wf,h.stk,fun g hg hlt=>by
  by_cases e:g = k
  ·rw [e]; exact hn
  ·exact h.seen g hg (by omega)⟩
theorem FinJ.all {n:Nat} {C:List (List Int)} {S:TJ} (h:FinJ n C S n):∀ g,nd n g → 0 ≤ S.st g:=fun g hg=>by
 have a:=h.wf.rng g hg
 have b:=(h.wf.ms g)
 rw [h.stk] at b
 have c:=h.seen g hg hg.2
 by_cases e:S.st g = -1
 ·exact absurd (b.2 ⟨hg,c,e⟩) (by simp)
 ·omega
theorem nodup_le_len {l m:List Nat} (h:l.Nodup) (hs:∀ x ∈ l,x ∈ m):l.length ≤ m.length:=by
 induction l generalizing m with
 | nil=>simp
 | cons a l ih =>
  have ha:=hs a (by simp)
  have h2:=List.nodup_cons.1 h
  have:=ih (m:=m.erase a) h2.2 (fun x hx=>by
   have hne:x ≠ a:=fun e=>h2.1 (e ▸ hx)
   exact (List.mem_erase_of_ne hne).2 (hs x (by simp [hx])))
  rw [List.length_erase_of_mem ha] at this
  have hpos:0 < m.length:=List.length_pos_of_mem ha
  simp only [List.length_cons]
  omega
def rdy (C:List (List Int)) (S:TJ) (dn:List Bool) (s:Nat):Prop:=dn.getD s false = false ∧ ∀ f ∈ S.sets.getD s [],∀ g ∈ C.getD f.toNat [],S.st g = s ∨ dn.getD (S.st g).toNat false = true
structure ComJ (n:Nat) (C:List (List Int)) (S:TJ) (dn:List Bool) (ord:List Nat):Prop where
 dl:dn.length = S.sets.length
 lt:∀ s ∈ ord,s < S.sets.length
 nod:ord.Nodup
 dn:∀ s,s < S.sets.length → (dn.getD s false = true ↔ s ∈ ord)
 ed:∀ i,i < ord.length → ∀ f ∈ S.sets.getD (ord.getD i 0) [],∀ g ∈ C.getD f.toNat [],∃ j,j ≤ i ∧ S.st g = (ord.getD j 0:Nat)
 lst:∀ i,i < ord.length → ∀ t,t < S.sets.length → t ∉ ord.take i → (∀ f ∈ S.sets.getD t [],∀ g ∈ C.getD f.toNat [],S.st g = t ∨ (S.st g).toNat ∈ ord.take i) → (S.sets.getD (ord.getD i 0) []).getD 0 0 ≤ (S.sets.getD t []).getD 0 0
theorem comJ_start {n:Nat} {C:List (List Int)} {S:TJ}:ComJ n C S (List.replicate S.sets.length false) [] :=
 ⟨by simp,fun s h=>by simp at h,List.nodup_nil,fun s hs=>by simp [List.getD_eq_getElem?_getD,hs],fun i hi=>by simp at hi,fun i hi=>by simp at hi⟩
theorem ComJ.next {n:Nat} {C:List (List Int)} {S:TJ} (hw:FinJ n C S n) (hC:OkC n C) {dn:List Bool} {ord:List Nat} (h:ComJ n C S dn ord) {s:Nat} (hs:s < S.sets.length) (hr:rdy C S dn s) (hmin:∀ t,t < S.sets.length → rdy C S dn t → (S.sets.getD s []).getD 0 0 ≤ (S.sets.getD t []).getD 0 0):ComJ n C S (dn.set s true) (ord ++ [s]):=by
 have hns:s ∉ ord:=fun hm=>by
  have:=(h.dn s hs).2 hm
  rw [hr.1] at this; cases this
 have hget:∀ i,i < ord.length → (ord ++ [s]).getD i 0 = ord.getD i 0:=fun i hi=>by
  rw [List.getD_eq_getElem?_getD,List.getElem?_append_left hi,← List.getD_eq_getElem?_getD]
 have hlast:(ord ++ [s]).getD ord.length 0 = s:=by simp [List.getD_eq_getElem?_getD]
 refine ⟨by rw [List.length_set]; exact h.dl,fun t ht=>?_,?_,fun t ht=>?_,fun i hi f hf g hg=>?_,fun i hi t ht hti hed=>?_⟩
 ·rcases List.mem_append.1 ht with q | q
  ·exact h.lt t q
  ·rw [List.mem_singleton.1 q]; exact hs
 ·refine List.nodup_append.2 ⟨h.nod,by simp,fun a ha b hb=>?_⟩
  rw [List.mem_singleton.1 hb]
  exact fun e=>hns (e ▸ ha)
 ·rw [List.mem_append,List.mem_singleton,List.getD_eq_getElem?_getD]
  by_cases e:t = s
  ·subst e
   rw [List.getElem?_set_self (by rw [h.dl]; exact hs)]
   simp
  ·rw [List.getElem?_set_ne (fun q=>e q.symm),← List.getD_eq_getElem?_getD,h.dn t ht]
   simp [e]
 ·rw [List.length_append,List.length_singleton] at hi
  by_cases e:i < ord.length
  ·rw [hget i e] at hf
   obtain ⟨j,hj,he⟩:=h.ed i e f hf g hg
   exact ⟨j,hj,by rw [hget j (by omega)]; exact he⟩
  ·obtain rfl:i = ord.length:=by omega
   rw [hlast] at hf
   have hfn:=((hw.wf.mem s f hs).1 hf).1
   have hgn:=hC f hfn g hg
   have h0:=hw.all g hgn
   have hrg:=(hw.wf.rng g hgn).2
   rcases hr.2 f hf g hg with q | q
   ·exact ⟨ord.length,Nat.le_refl _,by rw [hlast]; exact q⟩
   ·have hm:=(h.dn (S.st g).toNat (by omega)).1 q
    obtain ⟨j,hj,he⟩:=List.mem_iff_getElem.1 hm
    refine ⟨j,by omega,?_⟩
    rw [hget j hj,List.getD_eq_getElem?_getD,List.getElem?_eq_getElem hj]
    simp only [Option.getD_some]
    omega
 ·rw [List.length_append,List.length_singleton] at hi
  rw [List.take_append_of_le_length (by omega)] at hti hed
  by_cases e:i < ord.length
  ·rw [hget i e]
   exact h.lst i e t ht hti hed
  ·obtain rfl:i = ord.length:=by omega
   rw [List.take_length] at hti hed
   rw [hlast]
   refine hmin t ht ⟨?_,fun f hf g hg=>?_⟩
   ·cases hd:dn.getD t false with
    | false=>rfl
    | true=>exact absurd ((h.dn t ht).1 hd) hti
   ·rcases hed f hf g hg with q | q
    ·exact .inl q
    ·exact .inr ((h.dn _ (h.lt _ q)).2 q)
theorem ComJ.has {n:Nat} {C:List (List Int)} {S:TJ} (hw:FinJ n C S n) (hC:OkC n C) {dn:List Bool} {ord:List Nat} (h:ComJ n C S dn ord) (hl:ord.length < S.sets.length):∃ s,s < S.sets.length ∧ rdy C S dn s:=by
 have h1:∃ s,s < S.sets.length ∧ dn.getD s false = false:=by
  false_or_by_contra
  rename_i hno
  have hall:∀ s,s < S.sets.length → s ∈ ord:=fun s hs=>by
   refine (h.dn s hs).1 ?_
   cases e:dn.getD s false with
   | true=>rfl
   | false=>exact absurd ⟨s,hs,e⟩ hno
  have:(List.range S.sets.length).length ≤ ord.length:=by
   have hnd:(List.range S.sets.length).Nodup:=List.nodup_range
   exact (nodup_le_len hnd (fun x hx=>hall x (List.mem_range.1 hx)))
  rw [List.length_range] at this
  omega
 have h2:∀ m,∀ s,s ≤ m → s < S.sets.length → dn.getD s false = false → ∃ s,s < S.sets.length ∧ rdy C S dn s:=by
  intro m
  induction m with
  | zero =>
   intro s hs hl hd
   refine ⟨s,hl,hd,fun f hf g hg=>?_⟩
   have hf2:=(hw.wf.mem s f hl).1 hf
   have:=hw.wf.topo f hf2.1 (by omega) g hg
   exact .inl (by omega)
  | succ m ih =>
   intro s hs hl hd
   by_cases e:∃ t,t < s ∧ dn.getD t false = false
   ·obtain ⟨t,ht,hd2⟩:=e
    exact ih t (by omega) (by omega) hd2
   ·refine ⟨s,hl,hd,fun f hf g hg=>?_⟩
    have hf2:=(hw.wf.mem s f hl).1 hf
    have:=hw.wf.topo f hf2.1 (by omega) g hg
    by_cases e2:S.st g = s
    ·exact .inl e2
    ·refine .inr ?_
     cases e3:dn.getD (S.st g).toNat false with
     | true=>rfl
     | false=>exact absurd ⟨(S.st g).toNat,by omega,e3⟩ e
 obtain ⟨s,hs,hd⟩:=h1
 exact h2 s s (Nat.le_refl _) hs hd
end Go.Proofs.Ythginmfobikdgaa.Tj
