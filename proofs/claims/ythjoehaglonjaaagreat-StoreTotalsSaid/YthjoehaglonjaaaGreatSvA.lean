import Derived.Test.YthjoehaglonjaaaGreatStA
set_option maxRecDepth 8000
set_option linter.unusedSimpArgs false
set_option linter.unusedVariables false
namespace Go.Proofs.YthjoehaglonjaaaGreat
open Go.PV
def posL {α:Type} (p:α → Bool):List α → Nat
 | []=>0
 | x :: l=>if p x then posL p l + 1 else 0
theorem posL_le {α:Type} (p:α → Bool):∀ l:List α,posL p l ≤ l.length
 | []=>Nat.le_refl _
 | x :: l=>by
  have:=posL_le p l
  unfold posL
  split
  ·simp; omega
  ·simp
theorem posL_lt {α:Type} (p:α → Bool) (d:α):∀ (l:List α) (j:Nat),j < posL p l → p (l.getD j d) = true
 | [],j,h=>by simp [posL] at h
 | x :: l,j,h=>by
  unfold posL at h
  split at h
  ·rename_i hx
   cases j with
   | zero=>exact hx
   | succ j=>exact posL_lt p d l j (by omega)
  ·omega
theorem posL_at {α:Type} (p:α → Bool) (d:α):∀ l:List α,posL p l < l.length → p (l.getD (posL p l) d) = false
 | [],h=>by simp at h
 | x :: l,h=>by
  by_cases hx:p x = true
  ·have e:posL p (x :: l) = posL p l + 1:=by simp [posL,hx]
   rw [e] at h ⊢
   exact posL_at p d l (by simpa using h)
  ·have e:posL p (x :: l) = 0:=by simp [posL,hx]
   rw [e]
   simpa using hx
theorem posL_uniq {α:Type} (p:α → Bool) (d:α) {l:List α} {k:Nat} (hk:k ≤ l.length) (h1:∀ j,j < k → p (l.getD j d) = true) (h2:k < l.length → p (l.getD k d) = false):posL p l = k:=by
 rcases Nat.lt_trichotomy (posL p l) k with h | h | h
 ·have a:=posL_at p d l (by omega)
  rw [h1 _ h] at a; cases a
 ·exact h
 ·have a:=posL_lt p d l k h
  rw [h2 (by have:=posL_le p l; omega)] at a; cases a
def plusI (s n:Int):Int:=if n < 0 then s else if s < 0 then n else min (s + n) 1099511627776
def insT (tg:List (Int × Int)) (t:Int × Int):List (Int × Int) :=
 if posL (fun x=>decide (x.1 < t.1)) tg < tg.length ∧ (tg.getD (posL (fun x=>decide (x.1 < t.1)) tg) (0,0)).1 = t.1 then
  tg.set (posL (fun x=>decide (x.1 < t.1)) tg) (t.1,plusI (tg.getD (posL (fun x=>decide (x.1 < t.1)) tg) (0,0)).2 t.2)
 else tg.take (posL (fun x=>decide (x.1 < t.1)) tg) ++ t :: tg.drop (posL (fun x=>decide (x.1 < t.1)) tg)
def bef (b i:Int) (x:Site):Bool:=decide (x.blk < b ∨ (x.blk = b ∧ x.ins < i))
def sPos (l:List Site) (b i:Int):Nat:=posL (bef b i) l
def sHas (l:List Site) (b i:Int):Prop:=sPos l b i < l.length ∧ (l.getD (sPos l b i) default).blk = b ∧ (l.getD (sPos l b i) default).ins = i
instance (l:List Site) (b i:Int):Decidable (sHas l b i):=by unfold sHas; infer_instance
def sBase (l:List Site) (b i:Int):List Site:=if sHas l b i then l else l.take (sPos l b i) ++ ⟨b,i,[]⟩ :: l.drop (sPos l b i)
def addT1 (l:List Site) (b i:Int) (t:Int × Int):List Site :=
 (sBase l b i).set (sPos l b i) ⟨b,i,insT ((sBase l b i).getD (sPos l b i) default).tg t⟩
def addSi (l:List Site) (s:Site):List Site :=
 if s.tg = [] then l else (sBase l s.blk s.ins).set (sPos l s.blk s.ins) ⟨s.blk,s.ins,s.tg.foldl insT ((sBase l s.blk s.ins).getD (sPos l s.blk s.ins) default).tg⟩
def addSs (l more:List Site):List Site:=more.foldl addSi l
theorem sPos_le (l:List Site) (b i:Int):sPos l b i ≤ l.length:=posL_le _ _
theorem sBase_lt (l:List Site) (b i:Int):sPos l b i < (sBase l b i).length:=by
 unfold sBase
 have:=sPos_le l b i
 split
 ·rename_i h; exact h.1
 ·simp; omega
theorem sBase_at (l:List Site) (b i:Int):((sBase l b i).getD (sPos l b i) default).blk = b ∧ ((sBase l b i).getD (sPos l b i) default).ins = i:=by
 unfold sBase
 have:=sPos_le l b i
 split
 ·rename_i h; exact h.2
 ·rw [List.getD_eq_getElem?_getD,List.getElem?_append_right (by simp; omega)]
  simp [Nat.min_eq_left this]
structure LiesAt (l:List Site) (b i:Int) (k:Nat):Prop where
 lt:k < l.length
 at':(l.getD k default).blk = b ∧ (l.getD k default).ins = i
 bf:∀ j,j < k → bef b i (l.getD j default) = true
theorem LiesAt.pos {l:List Site} {b i:Int} {k:Nat} (h:LiesAt l b i k):sPos l b i = k :=
 posL_uniq _ default (by have:=h.lt; omega) h.bf (fun _=>by unfold bef; rw [decide_eq_false_iff_not]; have:=h.at'; omega)
theorem LiesAt.base {l:List Site} {b i:Int} {k:Nat} (h:LiesAt l b i k):sBase l b i = l:=by
 unfold sBase
 rw [if_pos]
 unfold sHas
 rw [h.pos]
 exact ⟨h.lt,h.at'⟩
theorem LiesAt.set {l:List Site} {b i:Int} {k:Nat} (h:LiesAt l b i k) (tg:List (Int × Int)):LiesAt (l.set k ⟨b,i,tg⟩) b i k:=by
 refine ⟨by simpa using h.lt,?_,fun j hj=>?_⟩
 ·rw [List.getD_eq_getElem?_getD,List.getElem?_set_self h.lt]; exact ⟨rfl,rfl⟩
 ·rw [List.getD_eq_getElem?_getD,List.getElem?_set_ne (by omega),← List.getD_eq_getElem?_getD]; exact h.bf j hj
theorem LiesAt.self {l:List Site} {b i:Int} {k:Nat} (h:LiesAt l b i k):l.set k ⟨b,i,(l.getD k default).tg⟩ = l:=by
 have e:(⟨b,i,(l.getD k default).tg⟩:Site) = l[k]'h.lt:=by
  have h1:=h.at'
  rw [List.getD_eq_getElem?_getD,List.getElem?_eq_getElem h.lt] at h1 ⊢
  simp only [Option.getD_some] at h1 ⊢
  obtain ⟨h1,h2⟩:=h1
  cases hx:l[k]'h.lt
  rw [hx] at h1 h2
  simp only at h1 h2 ⊢
  rw [h1,h2]
 rw [e]; exact List.set_getElem_self h.lt
def SoS (l:List Site):Prop:=l.Pairwise siteLt
def SoT (l:List (Int × Int)):Prop:=l.Pairwise (fun x y=>x.1 < y.1)
theorem ins_sorted {α:Type} {R:α → α → Prop} (ht:∀ x y z,R x y → R y z → R x z) {l:List α} (hl:l.Pairwise R) {k:Nat} {x d:α} (hk:k ≤ l.length) (h1:∀ j,j < k → R (l.getD j d) x) (h2:k < l.length → R x (l.getD k d)):(l.take k ++ x :: l.drop k).Pairwise R:=by
 rw [List.pairwise_append,List.pairwise_cons]
 have hall:∀ y ∈ l.drop k,R x y:=fun y hy=>by
  obtain ⟨j,hj,rfl⟩:=List.mem_iff_getElem.1 hy
  rw [List.length_drop] at hj
  have h3:=h2 (by omega)
  rw [List.getD_eq_getElem?_getD,List.getElem?_eq_getElem (show k < l.length by omega),Option.getD_some] at h3
  rw [List.getElem_drop]
  cases j with
  | zero=>simpa using h3
  | succ j=>exact ht _ _ _ h3 (List.pairwise_iff_getElem.1 hl k (k + (j + 1)) (by omega) (by omega) (by omega))
 refine ⟨hl.sublist (List.take_sublist _ _),⟨hall,hl.sublist (List.drop_sublist _ _)⟩,fun a ha b hb=>?_⟩
 obtain ⟨j,hj,rfl⟩:=List.mem_iff_getElem.1 ha
 rw [List.length_take] at hj
 have h3:=h1 j (by omega)
 rw [List.getD_eq_getElem?_getD,List.getElem?_eq_getElem (show j < l.length by omega),Option.getD_some] at h3
 rw [List.getElem_take]
 rcases List.mem_cons.1 hb with rfl | hb
 ·exact h3
 ·exact ht _ _ _ h3 (hall b hb)
theorem set_sorted {α:Type} {R:α → α → Prop} {l:List α} (hl:l.Pairwise R) {k:Nat} {x d:α} (hk:k < l.length) (h1:∀ y,R y (l.getD k d) → R y x) (h2:∀ y,R (l.getD k d) y → R x y):(l.set k x).Pairwise R:=by
 rw [List.getD_eq_getElem?_getD,List.getElem?_eq_getElem hk,Option.getD_some] at h1 h2
 rw [List.pairwise_iff_getElem] at hl ⊢
 intro i j hi hj hij
 rw [List.length_set] at hi hj
 have:=hl i j hi hj hij
 rw [List.getElem_set,List.getElem_set]
 split
 ·subst_vars
  rw [if_neg (by omega)]
  exact h2 _ this
 ·split
  ·subst_vars; exact h1 _ this
  ·exact this
theorem siteLt_trans {x y z:Site} (h1:siteLt x y) (h2:siteLt y z):siteLt x z:=by unfold siteLt at *; omega
theorem sBase_sorted {l:List Site} (h:SoS l) (b i:Int):SoS (sBase l b i):=by
 unfold sBase
 split
 ·exact h
 ·rename_i hp
  refine ins_sorted (R:=siteLt) (d:=default) (fun x y z=>siteLt_trans) h (sPos_le _ _ _) (fun j hj=>?_) (fun hj=>?_)
  ·have:=of_decide_eq_true (posL_lt (bef b i) default _ _ hj)
   exact this
  ·have:=of_decide_eq_false (posL_at (bef b i) default _ hj)
   have h2:¬ ((l.getD (sPos l b i) default).blk = b ∧ (l.getD (sPos l b i) default).ins = i):=fun e=>hp ⟨hj,e⟩
   unfold siteLt
   unfold sPos at *
   dsimp only
   omega
theorem addSi_sorted {l:List Site} (h:SoS l) (s:Site):SoS (addSi l s):=by
 unfold addSi
 split
 ·exact h
 ·have h1:=sBase_at l s.blk s.ins
  refine set_sorted (d:=default) (sBase_sorted h _ _) (sBase_lt _ _ _) (fun y hy=>?_) (fun y hy=>?_)
  ·unfold siteLt at hy ⊢; dsimp only; omega
  ·unfold siteLt at hy ⊢; dsimp only; omega
theorem plusI_ok {s n:Int} (h1:0 ≤ s) (h2:0 ≤ n):plusI s n = min (s + n) 1099511627776:=by unfold plusI; rw [if_neg (by omega),if_neg (by omega)]
theorem plusI_cnt {s n:Int} (h1:cntd s) (h2:cntd n):cntd (plusI s n):=by
 unfold plusI cntd at *
 split
 ·exact h1
 ·split
  ·exact h2
  ·omega
end Go.Proofs.YthjoehaglonjaaaGreat
