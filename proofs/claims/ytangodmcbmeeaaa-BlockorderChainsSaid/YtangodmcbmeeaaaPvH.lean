import Derived.Test.YtangodmcbmeeaaaPvG1
import Derived.Orders
set_option maxRecDepth 8000
namespace Go.PV
def maskOf (acc:List Nat) (o:Oper):Nat:=o.after.toList.foldl (fun s e=>if Region.binds .any e then s ||| 2 ^ e.on ||| acc.getD e.on 0 else s) 0
def beforeFrom (acc:List Nat):List Oper → List Nat
 | []=>acc
 | o :: l=>beforeFrom (acc ++ [maskOf acc o]) l
def beforeL (ops:Array Oper):List Nat:=beforeFrom [] ops.toList
def looksL (ops:Array Oper) (o:Oper):List Nat:=o.looksAt ops ++ o.dst.toList
def sortedB:List Nat → Bool
 | a :: b :: l=>decide (a < b) && sortedB (b :: l)
 | _=>true
def forced (b:List Nat) (i j:Nat):Bool:=i == j || (if j < i then (b.getD i 0).testBit j else (b.getD j 0).testBit i)
def drawB (ops:Array Oper) (effs:List Nat):Bool :=
 let b:=beforeL ops
 sortedB effs && (effs.all fun i=>decide (i < ops.size) && effs.all fun j=>forced b i j) &&
 (List.range ops.size).all fun i=>match ops[i]? with
  | none=>true
  | some o =>
   (o.after.toList.all fun e=>!Region.binds .any e || decide (e.on < i)) &&
   ((List.range ops.size).all fun j=>match ops[j]? with
    | none=>true
    | some oj=>(match oj.dst with
     | some d=>!(looksL ops o).contains d || forced b i j
     | none=>true))
def loE (ops:Array Oper) (effs:List Nat) (i:Nat):Nat:=(effs.filter fun e=>((beforeL ops).getD i 0).testBit e).length
def hiE (ops:Array Oper) (effs:List Nat) (i:Nat):Nat:=(effs.filter fun e=>!((beforeL ops).getD e 0).testBit i).length
def evR (slots:List Nat) (fr:Fr):Operand → PV
 | .tmp t=>if slots.contains t then look fr t else .unk
 | x=>evO fr x
def Out (P:Program) (M:List Nat) (ops:Array Oper) (σ:Store) (fr:Fr) (o:Oper) (p:PV) (σ':Store):Prop:=stepC P (mutOf M o.dst) σ (evR (o.looksAt ops) fr) (fun q σ''=>q = p ∧ σ'' = σ') o.op
def frT (ops:Array Oper) (vals:Nat → PV) (fr:Fr):Nat → Fr
 | 0=>fr
 | i + 1=>putF (frT ops vals fr i) ((ops[i]?).bind (·.dst)) (vals i)
def slotF (N:Nat) (fls:List Nat) (i:Nat):Nat:=N + (fls.filter fun e=>decide (e < i)).length
def isMk (mk:Nat → PV):Prop:=(mk = fun o=>.msl o 0) ∨ (mk = fun o=>.ptr o 0 0 0)
def OpOk (P:Program) (M:List Nat) (n:Nat) (ops:Array Oper) (effs fls:List Nat) (N:Nat) (vals:Nat → PV) (sts:Nat → Store) (fobj:Nat → Obj) (fr:Fr) (i:Nat) (o:Oper):Prop :=
 fits n o.dst ∧
 ((guardP ops (frT ops vals fr i) o = some false ∧ vals i = .undef ∧ (∀ k,effs[k]? = some i → sts (k + 1) = sts k) ∧ (i ∈ fls → fobj i = .dead)) ∨
  (guardP ops (frT ops vals fr i) o = some true ∧
   ((i ∉ effs ∧ i ∉ fls ∧ ∀ k,loE ops effs i ≤ k → k ≤ hiE ops effs i → Out P M ops (sts k) (frT ops vals fr i) o (vals i) (sts k)) ∨
   (i ∉ fls ∧ ∃ k,effs[k]? = some i ∧ Out P M ops (sts k) (frT ops vals fr i) o (vals i) (sts (k + 1))) ∨
   (i ∉ effs ∧ i ∈ fls ∧ ObjBel 0 (fobj i) ∧ ∃ mk,isMk mk ∧ vals i = mk (slotF N fls i) ∧
    ∀ σ,stepC P (mutOf M o.dst) σ (evR (o.looksAt ops) (frT ops vals fr i)) (fun q σ''=>q = mk σ.length ∧ σ'' = σ ++ [fobj i]) o.op))))
structure Real (fls:List Nat) (N:Nat) (fobj:Nat → Obj) (come:Nat → Prop) (ρ:Rho) (σd σr:Store):Prop where
 len:σr.length = σd.length
 out:∀ o:Nat,(∀ i ∈ fls,slotF N fls i ≠ o) → σr[o]? = σd[o]?
 dead:∀ i ∈ fls,σd[slotF N fls i]? = some .dead
 inn:∀ i ∈ fls,come i → σr[slotF N fls i]? = some (fobj i)
 yet:∀ i ∈ fls,¬ come i → σr[slotF N fls i]? = some .dead ∧ ∀ ver,ρ (slotF N fls i) ver = none
theorem Real.killed {fls:List Nat} {N:Nat} {fobj:Nat → Obj} {come:Nat → Prop} {ρ:Rho} {σd σr:Store} (h:Real fls N fobj come ρ σd σr):Killed σd σr:=by
 refine ⟨h.len.symm,fun o=>?_⟩
 by_cases hx:∃ i ∈ fls,slotF N fls i = o
 ·obtain ⟨i,hi,rfl⟩:=hx
  exact .inl (h.dead i hi)
 ·exact .inr (h.out o (fun i hi he=>hx ⟨i,hi,he⟩)).symm
section plain
theorem beforeFrom_head:∀ (l:List Oper) (acc:List Nat) (i:Nat),i < acc.length → (beforeFrom acc l).getD i 0 = acc.getD i 0
 | [],_,_,_=>rfl
 | o :: l,acc,i,h=>by
  simp only [beforeFrom]
  rw [beforeFrom_head l _ i (by simp; omega),List.getD_eq_getElem?_getD,List.getElem?_append_left h,← List.getD_eq_getElem?_getD]
theorem beforeFrom_at:∀ (l:List Oper) (acc:List Nat) (i:Nat) (o:Oper),l[i]? = some o → (∀ e ∈ o.after.toList,Region.binds .any e = true → e.on < acc.length + i) →
  (beforeFrom acc l).getD (acc.length + i) 0 = maskOf (beforeFrom acc l) o
 | [],_,_,_,h,_=>by simp at h
 | o0 :: l,acc,0,o,h,he=>by
  simp at h
  subst h
  simp only [beforeFrom]
  rw [Nat.add_zero,beforeFrom_head l _ acc.length (by simp),List.getD_eq_getElem?_getD,List.getElem?_concat_length,Option.getD_some]
  unfold maskOf
  have:∀ (es:List Edge) (s:Nat),(∀ e ∈ es,Region.binds .any e = true → e.on < acc.length) →
    es.foldl (fun s e=>if Region.binds .any e then s ||| 2 ^ e.on ||| acc.getD e.on 0 else s) s = es.foldl (fun s e=>if Region.binds .any e then s ||| 2 ^ e.on ||| (beforeFrom (acc ++ [maskOf acc o0]) l).getD e.on 0 else s) s:=by
   intro es
   induction es with
   | nil=>intro s _; rfl
   | cons e es ih =>
    intro s hes
    simp only [List.foldl_cons]
    by_cases hb:Region.binds .any e = true
    ·rw [if_pos hb,if_pos hb]
     have hlt:=hes e (by simp) hb
     rw [beforeFrom_head l _ e.on (by simp; omega),List.getD_eq_getElem?_getD (l:=acc ++ _),List.getElem?_append_left hlt,← List.getD_eq_getElem?_getD]
     exact ih _ (fun e' h'=>hes e' (by simp [h']))
    ·rw [if_neg hb,if_neg hb]
     exact ih _ (fun e' h'=>hes e' (by simp [h']))
  exact this _ 0 (fun e h1 h2=>by have:=he e h1 h2; omega)
 | o0 :: l,acc,i + 1,o,h,he=>by
  simp only [beforeFrom]
  have:=beforeFrom_at l (acc ++ [maskOf acc o0]) i o (by simpa using h) (fun e h1 h2=>by have:=he e h1 h2; simp; omega)
  rw [List.length_append,List.length_singleton] at this
  rw [show acc.length + (i + 1) = acc.length + 1 + i from by omega]
  exact this
theorem testBit_mask (b:List Nat) (j:Nat):∀ (es:List Edge) (s:Nat),(es.foldl (fun s e=>if Region.binds .any e then s ||| 2 ^ e.on ||| b.getD e.on 0 else s) s).testBit j = true →
  s.testBit j = true ∨ ∃ e ∈ es,Region.binds .any e = true ∧ (j = e.on ∨ (b.getD e.on 0).testBit j = true)
 | [],_,h=>.inl h
 | e :: es,s,h=>by
  simp only [List.foldl_cons] at h
  rcases testBit_mask b j es _ h with h1 | ⟨e',h1,h2,h3⟩
  ·by_cases hb:Region.binds .any e = true
   ·rw [if_pos hb] at h1
    simp only [Nat.testBit_or,Bool.or_eq_true,Nat.testBit_two_pow,decide_eq_true_eq] at h1
    rcases h1 with (h1 | h1) | h1
    ·exact .inl h1
    ·exact .inr ⟨e,by simp,hb,.inl h1.symm⟩
    ·exact .inr ⟨e,by simp,hb,.inr h1⟩
   ·rw [if_neg hb] at h1
    exact .inl h1
  ·exact .inr ⟨e',by simp [h1],h2,h3⟩
theorem sorted_lt:∀ {l:List Nat},sortedB l = true → ∀ (i j:Nat) (a b:Nat),i < j → l[i]? = some a → l[j]? = some b → a < b
 | [],_,_,_,_,_,_,h,_=>by simp at h
 | [x],_,i,j,a,b,hij,h1,h2=>by
  have:=(List.getElem?_eq_some_iff.1 h2).1
  simp at this
  omega
 | x :: y :: l,hs,i,j,a,b,hij,h1,h2=>by
  simp only [sortedB,Bool.and_eq_true,decide_eq_true_eq] at hs
  cases j with
  | zero=>omega
  | succ j =>
   rw [List.getElem?_cons_succ] at h2
   cases i with
   | zero =>
    simp at h1
    subst h1
    cases j with
    | zero=>simp at h2; omega
    | succ j=>exact Nat.lt_trans hs.1 (sorted_lt hs.2 0 (j + 1) y b (by omega) rfl h2)
   | succ i =>
    rw [List.getElem?_cons_succ] at h1
    exact sorted_lt hs.2 i j a b (by omega) h1 h2
end plain
section
variable {P:Program} {n:Nat} {ops:Array Oper} {effs:List Nat} {vals:Nat → PV} {sts:Nat → Store} {fr:Fr}
structure DrawOk (ops:Array Oper) (effs:List Nat):Prop where
 sorted:sortedB effs = true
 inside:∀ i ∈ effs,i < ops.size
 effs:∀ i ∈ effs,∀ j ∈ effs,forced (beforeL ops) i j = true
 back:∀ (i:Nat) (o:Oper),ops[i]? = some o → ∀ e ∈ o.after.toList,Region.binds .any e = true → e.on < i
 slots:∀ (i j:Nat) (o oj:Oper) (d:Nat),ops[i]? = some o → ops[j]? = some oj → oj.dst = some d → d ∈ looksL ops o → forced (beforeL ops) i j = true
theorem DrawOk.of (h:drawB ops effs = true):DrawOk ops effs:=by
 simp only [drawB,Bool.and_eq_true] at h
 obtain ⟨⟨h1,h2⟩,h3⟩:=h
 rw [List.all_eq_true] at h2 h3
 refine ⟨h1,fun i hi=>?_,fun i hi j hj=>?_,fun i o ho e he hb=>?_,fun i j o oj d ho hoj hd hl=>?_⟩
 ·have:=h2 i hi
  simp only [Bool.and_eq_true,decide_eq_true_eq] at this
  exact this.1
 ·have:=h2 i hi
  simp only [Bool.and_eq_true] at this
  exact List.all_eq_true.1 this.2 j hj
 ·have hi:i < ops.size:=(Array.getElem?_eq_some_iff.1 ho).1
  have:=h3 i (List.mem_range.2 hi)
  simp only [ho,Bool.and_eq_true] at this
  have:=List.all_eq_true.1 this.1 e he
  simpa [hb] using this
 ·have hi:i < ops.size:=(Array.getElem?_eq_some_iff.1 ho).1
  have hj:j < ops.size:=(Array.getElem?_eq_some_iff.1 hoj).1
  have:=h3 i (List.mem_range.2 hi)
  simp only [ho,Bool.and_eq_true] at this
  have:=List.all_eq_true.1 this.2 j (List.mem_range.2 hj)
  simp only [hoj,hd] at this
  simpa [hl] using this
def isIn (listed:Array Bool) (i:Nat):Prop:=listed.getD i false = true
def Closed (ops:Array Oper) (listed:Array Bool):Prop:=∀ (i:Nat) (o:Oper),isIn listed i → ops[i]? = some o → ∀ e ∈ o.after.toList,Region.binds .any e = true → isIn listed e.on
theorem before_in (hok:DrawOk ops effs) {listed:Array Bool} (hc:Closed ops listed):∀ (i:Nat) (o:Oper),ops[i]? = some o → (∀ e ∈ o.after.toList,Region.binds .any e = true → isIn listed e.on) →
  ∀ j,((beforeL ops).getD i 0).testBit j = true → isIn listed j:=by
 intro i
 induction i using Nat.strongRecOn with
 | _ i ih =>
  intro o ho hd j hj
  have hm:=beforeFrom_at ops.toList [] i o (by simpa using ho) (fun e he hb=>by have:=hok.back i o ho e he hb; simpa using this)
  simp only [List.length_nil,Nat.zero_add] at hm
  unfold beforeL at hj
  rw [hm] at hj
  rcases testBit_mask _ j _ 0 hj with h0 | ⟨e,he,hb,h⟩
  ·simp at h0
  ·have hin:=hd e he hb
   rcases h with rfl | h
   ·exact hin
   ·have hlt:=hok.back i o ho e he hb
    have hes:e.on < ops.size:=Nat.lt_trans hlt (Array.getElem?_eq_some_iff.1 ho).1
    exact ih e.on hlt _ (Array.getElem?_eq_getElem hes) (hc e.on _ hin (Array.getElem?_eq_getElem hes)) j h
def gT (ops:Array Oper) (vals:Nat → PV) (fr:Fr) (listed:Array Bool) (t:Nat):Nat → PV
 | 0=>look fr t
 | i + 1=>if listed.getD i false = true ∧ (ops[i]?).bind (·.dst) = some t then vals i else gT ops vals fr listed t i
theorem look_frT (t:Nat):∀ i,look (frT ops vals fr (i + 1)) t = if (ops[i]?).bind (·.dst) = some t then vals i else look (frT ops vals fr i) t:=by
 intro i
 simp only [frT]
 cases hd:(ops[i]?).bind (·.dst) with
 | none=>simp [putF]
 | some d =>
  simp only [putF,look_setF,Option.some.injEq]
theorem gT_eq (listed:Array Bool) (t i:Nat) (hin:∀ j,j < i → (ops[j]?).bind (·.dst) = some t → isIn listed j) (hout:∀ j,i ≤ j → (ops[j]?).bind (·.dst) = some t → ¬ isIn listed j) :
  ∀ m,gT ops vals fr listed t m = look (frT ops vals fr (min m i)) t:=by
 intro m
 induction m with
 | zero=>simp [gT,frT]
 | succ m ih =>
  simp only [gT]
  by_cases hm:m < i
  ·rw [Nat.min_eq_left (by omega),look_frT]
   rw [Nat.min_eq_left (by omega)] at ih
   by_cases hd:(ops[m]?).bind (·.dst) = some t
   ·rw [if_pos ⟨hin m hm hd,hd⟩,if_pos hd]
   ·rw [if_neg (fun h=>hd h.2),if_neg hd,ih]
  ·rw [Nat.min_eq_right (by omega)]
   rw [Nat.min_eq_right (by omega)] at ih
   rw [if_neg (fun h=>hout m (by omega) h.2 h.1),ih]
theorem gT_add {listed:Array Bool} {i:Nat} (hi:i < listed.size) (t:Nat) (hlast:(ops[i]?).bind (·.dst) = some t → ∀ j,i < j → (ops[j]?).bind (·.dst) = some t → ¬ isIn listed j) :
  ∀ m,i < m → gT ops vals fr (listed.setIfInBounds i true) t m = if (ops[i]?).bind (·.dst) = some t then vals i else gT ops vals fr listed t m:=by
 have hset:∀ j,(listed.setIfInBounds i true).getD j false = if j = i then true else listed.getD j false:=fun j=>by
  rw [Array.getD_eq_getD_getElem?,Array.getD_eq_getD_getElem?]
  by_cases h:j = i
  ·subst h
   rw [Array.getElem?_setIfInBounds_self_of_lt hi,if_pos rfl]; rfl
  ·rw [Array.getElem?_setIfInBounds_ne (Ne.symm h),if_neg h]
 have hlow:∀ m,m ≤ i → gT ops vals fr (listed.setIfInBounds i true) t m = gT ops vals fr listed t m:=by
  intro m hm
  induction m with
  | zero=>rfl
  | succ m ih =>
   simp only [gT,hset,if_neg (show ¬ m = i by omega),ih (by omega)]
 intro m hm
 induction m with
 | zero=>omega
 | succ m ih =>
  simp only [gT,hset]
  by_cases hmi:m = i
  ·subst hmi
   simp only [if_true,true_and,hlow m (Nat.le_refl _)]
   by_cases hd:(ops[m]?).bind (·.dst) = some t
   ·rw [if_pos hd,if_pos hd]
   ·rw [if_neg hd,if_neg hd,if_neg (fun h=>hd h.2)]
  ·rw [if_neg hmi,ih (by omega)]
   by_cases hd:(ops[i]?).bind (·.dst) = some t
   ·rw [if_pos hd,if_pos hd]
    by_cases hd2:(ops[m]?).bind (·.dst) = some t
    ·rw [if_neg (fun h=>hlast hd m (by omega) hd2 h.1)]
    ·rw [if_neg (fun h=>hd2 h.2)]
   ·rw [if_neg hd,if_neg hd]
def cnt (effs:List Nat) (listed:Array Bool):Nat:=(effs.filter fun e=>listed.getD e false).length
end
end Go.PV
