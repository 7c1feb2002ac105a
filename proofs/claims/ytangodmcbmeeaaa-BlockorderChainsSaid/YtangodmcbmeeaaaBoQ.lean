import Derived.Test.YtangodmcbmeeaaaBoP
set_option maxRecDepth 8000
set_option linter.unusedSimpArgs false
set_option linter.unusedVariables false
namespace Go.Proofs.Ytangodmcbmeeaaa
def addB (s b:Nat):Nat:=s ||| 2 ^ b
theorem addB_bit (s b j:Nat):(addB s b).testBit j = (s.testBit j || decide (b = j)):=by
 rw [addB,Nat.testBit_or,Nat.testBit_two_pow]
def miss:Nat → Nat → Nat
 | 0,_=>0
 | n + 1,s=>miss n s + if s.testBit n = true then 0 else 1
theorem miss_congr {s t:Nat}:∀ {n:Nat},(∀ j,j < n → s.testBit j = t.testBit j) → miss n s = miss n t
 | 0,_=>rfl
 | n + 1,h=>by rw [miss,miss,miss_congr (fun j hj=>h j (by omega)),h n (by omega)]
theorem miss_add {s b:Nat} (hb:s.testBit b = false):∀ {n:Nat},b < n → miss n (addB s b) + 1 = miss n s
 | n + 1,h=>by
  rw [miss,miss,addB_bit]
  by_cases e:b = n
  ·subst e
   rw [miss_congr (s:=addB s b) (t:=s) (fun j hj=>by rw [addB_bit,decide_eq_false (by omega),Bool.or_false]),hb]
   simp
  ·have:=miss_add hb (n:=n) (by omega)
   rw [decide_eq_false e,Bool.or_false]
   omega
theorem miss_zero {s:Nat}:∀ {n:Nat},miss n s = 0 → ∀ b,b < n → s.testBit b = true
 | n + 1,h,b,hb=>by
  rw [miss] at h
  by_cases e:b = n
  ·subst e
   cases hh:s.testBit b with
   | true=>rfl
   | false=>rw [hh] at h; simp at h
  ·exact miss_zero (n:=n) (by omega) b (by omega)
theorem miss_pos {s:Nat}:∀ {n:Nat},0 < miss n s → ∃ b,b < n ∧ s.testBit b = false
 | n + 1,h=>by
  cases hh:s.testBit n with
  | false=>exact ⟨n,by omega,hh⟩
  | true =>
   rw [miss,hh] at h
   obtain ⟨b,hb,e⟩:=miss_pos (n:=n) (by simpa using h)
   exact ⟨b,by omega,e⟩
theorem miss_le (s:Nat):∀ n,miss n s ≤ n
 | 0=>Nat.le_refl _
 | n + 1=>by
  have:=miss_le s n
  rw [miss]; split <;> omega
section
variable (W:Nat → Nat → Int)
def bestK (g:Nat → Nat → Int) (s last:Nat):Nat → Int
 | 0=>0
 | b + 1=>if s.testBit b = true then bestK g s last b else if W last b + g (addB s b) b > bestK g s last b then W last b + g (addB s b) b else bestK g s last b
def G (n:Nat):Nat → Nat → Nat → Int
 | 0,_,_=>0
 | m + 1,s,last=>bestK W (G n m) s last n
def GS (n s last:Nat):Int:=G W n (miss n s) s last
theorem bestK_congr {g g':Nat → Nat → Int} {s last:Nat}:∀ {k:Nat},(∀ b,b < k → s.testBit b = false → g (addB s b) b = g' (addB s b) b) → bestK W g s last k = bestK W g' s last k
 | 0,_=>rfl
 | k + 1,h=>by
  rw [bestK,bestK,bestK_congr (fun b hb=>h b (by omega))]
  split
  ·rfl
  ·rename_i hs
   rw [h k (by omega) (by simpa using hs)]
theorem bestK_full {g:Nat → Nat → Int} {s last:Nat}:∀ {k:Nat},(∀ b,b < k → s.testBit b = true) → bestK W g s last k = 0
 | 0,_=>rfl
 | k + 1,h=>by rw [bestK,if_pos (h k (by omega)),bestK_full (fun b hb=>h b (by omega))]
theorem GS_eq (n s last:Nat):GS W n s last = bestK W (GS W n) s last n:=by
 unfold GS
 cases h:miss n s with
 | zero=>rw [bestK_full W (miss_zero h)]; rfl
 | succ m =>
  rw [G]
  refine bestK_congr W fun b hb hs=>?_
  have:=miss_add hs hb
  rw [show miss n (addB s b) = m by omega]
theorem bestK_nn {g:Nat → Nat → Int} {s last:Nat}:∀ k,0 ≤ bestK W g s last k
 | 0=>Int.le_refl _
 | k + 1=>by
  have:=bestK_nn (g:=g) (s:=s) (last:=last) k
  rw [bestK]
  split
  ·exact this
  ·split <;> omega
theorem bestK_ge {g:Nat → Nat → Int} {s last b:Nat} (hs:s.testBit b = false):∀ {k:Nat},b < k → W last b + g (addB s b) b ≤ bestK W g s last k
 | k + 1,h=>by
  rw [bestK]
  by_cases e:b = k
  ·subst e
   rw [if_neg (by rw [hs]; decide)]
   split <;> omega
  ·have:=bestK_ge (g:=g) (last:=last) hs (k:=k) (by omega)
   split
   ·exact this
   ·split <;> omega
theorem bestK_att {g:Nat → Nat → Int} {s last:Nat}:∀ k,bestK W g s last k = 0 ∨ ∃ b,b < k ∧ s.testBit b = false ∧ W last b + g (addB s b) b = bestK W g s last k
 | 0=>.inl rfl
 | k + 1=>by
  have ih:=bestK_att (g:=g) (s:=s) (last:=last) k
  have up:bestK W g s last (k + 1) = bestK W g s last k → bestK W g s last (k + 1) = 0 ∨ ∃ b,b < k + 1 ∧ s.testBit b = false ∧ W last b + g (addB s b) b = bestK W g s last (k + 1):=fun e=>by
   rw [e]
   rcases ih with h | ⟨b,h1,h2,h3⟩
   ·exact .inl h
   ·exact .inr ⟨b,by omega,h2,h3⟩
  by_cases hs:s.testBit k = true
  ·exact up (by rw [bestK,if_pos hs])
  ·by_cases hg:W last k + g (addB s k) k > bestK W g s last k
   ·exact .inr ⟨k,by omega,by simpa using hs,by rw [bestK,if_neg hs,if_pos hg]⟩
   ·exact up (by rw [bestK,if_neg hs,if_neg hg])
theorem GS_nn (n s last:Nat):0 ≤ GS W n s last:=by rw [GS_eq]; exact bestK_nn W n
def pathW:List Nat → Int
 | []=>0
 | [_]=>0
 | a :: b :: t=>W a b + pathW (b :: t)
theorem path_le (n:Nat):∀ (l:List Nat) (s last:Nat),l.Nodup → (∀ b ∈ l,b < n ∧ s.testBit b = false) → pathW W (last :: l) ≤ GS W n s last
 | [],s,last,_,_=>GS_nn W n s last
 | b :: t,s,last,hn,h=>by
  have hb:=h b (by simp)
  have hn1:=List.nodup_cons.1 hn
  have ih:=path_le n t (addB s b) b hn1.2 (fun c hc=>⟨(h c (by simp [hc])).1,by
   rw [addB_bit,(h c (by simp [hc])).2,decide_eq_false (fun e=>hn1.1 (by rw [e]; exact hc))]; rfl⟩)
  have:=bestK_ge W (g:=GS W n) (last:=last) hb.2 hb.1
  rw [← GS_eq] at this
  rw [pathW]; omega
theorem pick_ex (hW:∀ a b,0 ≤ W a b) {n s last:Nat} (h:0 < miss n s):∃ b,b < n ∧ s.testBit b = false ∧ W last b + GS W n (addB s b) b = GS W n s last:=by
 rcases bestK_att W (g:=GS W n) (s:=s) (last:=last) n with h0 | h0
 ·obtain ⟨b,hb,hs⟩:=miss_pos h
  have h1:=bestK_ge W (g:=GS W n) (last:=last) hs hb
  have h2:=GS_nn W n (addB s b) b
  have h3:=hW last b
  refine ⟨b,hb,hs,?_⟩
  rw [GS_eq W n s last]; omega
 ·rw [← GS_eq] at h0; exact h0
def isPick (n s last b:Nat):Bool:=!s.testBit b && decide (W last b + GS W n (addB s b) b = GS W n s last)
def pickF (n s last:Nat):Nat:=((List.range n).find? (isPick W n s last)).getD 0
theorem pickF_ok (hW:∀ a b,0 ≤ W a b) {n s last:Nat} (h:0 < miss n s):pickF W n s last < n ∧ isPick W n s last (pickF W n s last) = true ∧ ∀ b,b < pickF W n s last → isPick W n s last b = false:=by
 obtain ⟨b,hb,h1,h2⟩:=pick_ex W hW (last:=last) h
 have hp:isPick W n s last b = true:=by simp [isPick,h1,h2]
 unfold pickF
 cases hf:(List.range n).find? (isPick W n s last) with
 | none =>
  have:=List.find?_eq_none.1 hf b (List.mem_range.2 hb)
  exact absurd hp this
 | some c =>
  rw [Option.getD_some]
  refine ⟨List.mem_range.1 (List.mem_of_find?_eq_some hf),List.find?_some hf,fun d hd=>?_⟩
  obtain ⟨_,i,hi,e,hall⟩:=List.find?_eq_some_iff_getElem.1 hf
  rw [List.getElem_range] at e
  subst e
  have:=hall d hd
  rw [List.getElem_range] at this
  simpa using this
theorem pickF_uniq (hW:∀ a b,0 ≤ W a b) {n s last b:Nat} (h:0 < miss n s) (h1:isPick W n s last b = true) (h2:∀ c,c < b → isPick W n s last c = false):pickF W n s last = b:=by
 obtain ⟨p1,p2,p3⟩:=pickF_ok W hW (last:=last) h
 rcases Nat.lt_trichotomy (pickF W n s last) b with h3 | h3 | h3
 ·rw [h2 _ h3] at p2; cases p2
 ·exact h3
 ·rw [p3 _ h3] at h1; cases h1
def buildO (n:Nat):Nat → Nat → Nat → List Nat
 | 0,_,_=>[]
 | m + 1,s,last=>pickF W n s last :: buildO n m (addB s (pickF W n s last)) (pickF W n s last)
theorem build_ok (hW:∀ a b,0 ≤ W a b) (n:Nat):∀ (m s last:Nat),miss n s = m → (buildO W n m s last).Nodup ∧ (∀ b ∈ buildO W n m s last,b < n ∧ s.testBit b = false) ∧ (buildO W n m s last).length = m ∧ (∀ b,b < n → s.testBit b = true ∨ b ∈ buildO W n m s last) ∧ pathW W (last :: buildO W n m s last) = GS W n s last
 | 0,s,last,h=>⟨List.nodup_nil,(fun b hb=>by cases hb),rfl,fun b hb=>.inl (miss_zero h b hb),by rw [buildO,pathW,GS,h,G]⟩
 | m + 1,s,last,h=>by
  obtain ⟨p1,p2,_⟩:=pickF_ok W hW (n:=n) (s:=s) (last:=last) (by omega)
  obtain ⟨b,hb⟩:∃ b,b = pickF W n s last:=⟨_,rfl⟩
  rw [buildO]
  rw [← hb] at p1 p2 ⊢
  have p3:s.testBit b = false ∧ W last b + GS W n (addB s b) b = GS W n s last:=by simpa [isPick] using p2
  obtain ⟨q1,q2,q3,q4,q5⟩:=build_ok hW n m (addB s b) b (by have:=miss_add p3.1 p1; omega)
  have q2':∀ c ∈ buildO W n m (addB s b) b,c < n ∧ s.testBit c = false ∧ b ≠ c:=fun c hc=>by
   have:=q2 c hc
   rw [addB_bit,Bool.or_eq_false_iff,decide_eq_false_iff_not] at this
   exact ⟨this.1,this.2.1,this.2.2⟩
  refine ⟨List.nodup_cons.2 ⟨fun hm=>(q2' b hm).2.2 rfl,q1⟩,fun c hc=>?_,by rw [List.length_cons,q3],fun c hc=>?_,?_⟩
  ·rcases List.mem_cons.1 hc with rfl | hc
   ·exact ⟨p1,p3.1⟩
   ·exact ⟨(q2' c hc).1,(q2' c hc).2.1⟩
  ·rcases q4 c hc with h1 | h1
   ·rw [addB_bit,Bool.or_eq_true,decide_eq_true_eq] at h1
    rcases h1 with h1 | h1
    ·exact .inl h1
    ·exact .inr (by rw [h1]; exact List.mem_cons_self ..)
   ·exact .inr (List.mem_cons_of_mem _ h1)
  ·rw [pathW,q5,p3.2]
def exactO (n:Nat):List Nat:=0 :: buildO W n (n - 1) 1 0
theorem one_bit (j:Nat):Nat.testBit 1 j = decide (0 = j):=by
 have:=Nat.testBit_two_pow (n:=0) (m:=j)
 simpa using this
theorem miss_one:∀ {n:Nat},0 < n → miss n 1 = n - 1
 | 1,_=>rfl
 | n + 2,_=>by
  rw [miss,miss_one (n:=n + 1) (by omega),one_bit,decide_eq_false (by omega)]
  simp
theorem exactO_ok (hW:∀ a b,0 ≤ W a b) {n:Nat} (hn:0 < n):(exactO W n).Nodup ∧ (∀ b,b ∈ exactO W n ↔ b < n) ∧ (exactO W n).length = n ∧ pathW W (exactO W n) = GS W n 1 0:=by
 obtain ⟨q1,q2,q3,q4,q5⟩:=build_ok W hW n (n - 1) 1 0 (miss_one hn)
 refine ⟨List.nodup_cons.2 ⟨fun hm=>?_,q1⟩,fun b=>⟨fun hb=>?_,fun hb=>?_⟩,by rw [exactO,List.length_cons,q3]; omega,q5⟩
 ·have:=(q2 0 hm).2
  rw [one_bit] at this
  simp at this
 ·rcases List.mem_cons.1 hb with rfl | hb
  ·exact hn
  ·exact (q2 b hb).1
 ·rcases q4 b hb with h | h
  ·rw [one_bit,decide_eq_true_eq] at h
   rw [← h]; exact List.mem_cons_self ..
  ·exact List.mem_cons_of_mem _ h
theorem exactO_best (hW:∀ a b,0 ≤ W a b) {n:Nat} (hn:0 < n) {l:List Nat} (hl:(0 :: l).Nodup) (hb:∀ b ∈ l,b < n):pathW W (0 :: l) ≤ pathW W (exactO W n):=by
 rw [(exactO_ok W hW hn).2.2.2]
 have h1:=List.nodup_cons.1 hl
 refine path_le W n l 1 0 h1.2 (fun b hm=>⟨hb b hm,?_⟩)
 rw [one_bit]
 exact decide_eq_false (fun e=>h1.1 (by rw [e]; exact hm))
end
def wt (ws:List Way) (a b:Nat):Int:=(ws.map fun w=>if w.fr = a ∧ w.to = b then w.cnt else 0).sum
theorem wt_nn {ws:List Way} (h:∀ w ∈ ws,0 ≤ w.cnt) (a b:Nat):0 ≤ wt ws a b:=sum_nn fun x hx=>by
 obtain ⟨w,hw,rfl⟩:=List.mem_map.1 hx
 have:=h w hw
 split <;> omega
theorem sum_add {α:Type} (f g:α → Int):∀ (l:List α),(l.map fun x=>f x + g x).sum = (l.map f).sum + (l.map g).sum
 | []=>rfl
 | x :: l=>by
  rw [List.map_cons,List.map_cons,List.map_cons,List.sum_cons,List.sum_cons,List.sum_cons,sum_add f g l]; omega
theorem sum_zero {α:Type} (f:α → Int):∀ (l:List α),(∀ x ∈ l,f x = 0) → (l.map f).sum = 0
 | [],_=>rfl
 | x :: l,h=>by rw [List.map_cons,List.sum_cons,h x (by simp),sum_zero f l (fun y hy=>h y (by simp [hy]))]; rfl
def castL (l:List Nat):List Int:=l.map fun x:Nat=>(x:Int)
theorem wsum_path (ws:List Way):∀ (l:List Nat),l.Nodup → wsum ws (castL l) = pathW (wt ws) l
 | [],_=>sum_zero _ _ fun w _=>by rw [if_neg]; show ¬ ((-1:Int) = w.to); omega
 | [a],_=>sum_zero _ _ fun w _=>by rw [if_neg]; show ¬ ((-1:Int) = w.to); omega
 | a :: c :: t,h=>by
  have h1:=List.nodup_cons.1 h
  rw [pathW,← wsum_path ws (c :: t) h1.2,wt,wsum,wsum,← sum_add]
  congr 1
  refine List.map_congr_left fun w _=>?_
  show (if (if (a:Int) = w.fr then (c:Int) else nextOf (castL (c :: t)) w.fr) = w.to then w.cnt else 0) = _
  by_cases e:(a:Int) = w.fr
  ·have e2:w.fr = a:=by omega
   have e3:nextOf (castL (c :: t)) w.fr = -1:=nextOf_no _ _ (fun hm=>by
    obtain ⟨x,hx,ex⟩:=List.mem_map.1 hm
    exact h1.1 (by rw [show a = x by omega]; exact hx))
   rw [if_pos e,e3,if_neg (show ¬ ((-1:Int) = w.to) by omega)]
   by_cases e4:(c:Int) = w.to
   ·rw [if_pos e4,if_pos (show w.fr = a ∧ w.to = c from ⟨e2,by omega⟩)]; omega
   ·rw [if_neg e4,if_neg (show ¬ (w.fr = a ∧ w.to = c) from fun hh=>e4 (by have:=hh.2; omega))]; omega
  ·rw [if_neg e,if_neg (show ¬ (w.fr = a ∧ w.to = c) from fun hh=>e (by have:=hh.1; omega))]; omega
theorem exact_perm {ws:List Way} (h:∀ w ∈ ws,0 ≤ w.cnt) {n:Nat} (hn:0 < n):(castL (exactO (wt ws) n)).Perm (natB n):=by
 obtain ⟨h1,h2,h3,_⟩:=exactO_ok (wt ws) (wt_nn h) hn
 refine List.Perm.map _ ((List.perm_ext_iff_of_nodup h1 List.nodup_range).2 fun b=>?_)
 rw [h2,List.mem_range]
theorem exact_most {ws:List Way} (h:∀ w ∈ ws,0 ≤ w.cnt) {n:Nat} (hn:0 < n) {o:List Int} (hp:(0 :: o).Perm (natB n)):wsum ws (0 :: o) ≤ wsum ws (castL (exactO (wt ws) n)):=by
 have hnn:∀ v ∈ (0:Int) :: o,∃ b:Nat,v = b ∧ b < n:=fun v hv=>by
  obtain ⟨b,hb,e⟩:=List.mem_map.1 (hp.mem_iff.1 hv)
  exact ⟨b,e.symm,List.mem_range.1 hb⟩
 obtain ⟨l,hl⟩:∃ l:List Nat,castL l = o:=⟨o.map Int.toNat,by
  rw [castL,List.map_map]
  conv=>rhs; rw [← List.map_id o]
  refine List.map_congr_left fun v hv=>?_
  obtain ⟨b,rfl,_⟩:=hnn v (List.mem_cons_of_mem _ hv)
  rfl⟩
 subst hl
 have e:(0:Int) :: castL l = castL (0 :: l):=rfl
 rw [e] at hp hnn ⊢
 have hnd:(0 :: l).Nodup:=by
  have h1:(natB n).Nodup:=List.pairwise_map.2 (List.nodup_range.imp fun hne e=>hne (by omega))
  have h2:=hp.nodup_iff.2 h1
  exact (List.pairwise_map.1 h2).imp fun hne e=>hne (by rw [e])
 rw [wsum_path ws _ hnd,wsum_path ws _ (exactO_ok (wt ws) (wt_nn h) hn).1]
 refine exactO_best (wt ws) (wt_nn h) hn hnd fun b hb=>?_
 obtain ⟨c,e,hc⟩:=hnn (b:Int) (List.mem_map.2 ⟨b,List.mem_cons_of_mem _ hb,rfl⟩)
 omega
end Go.Proofs.Ytangodmcbmeeaaa
