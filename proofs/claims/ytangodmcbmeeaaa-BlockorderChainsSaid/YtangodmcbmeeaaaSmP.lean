set_option linter.unusedSimpArgs false
set_option linter.unusedVariables false
namespace Go.Proofs.Ytangodmcbmeeaaa
structure Weak {α:Type} (lt:α → α → Bool):Prop where
 irr:∀ a,lt a a = false
 tr:∀ a b c,lt a b = true → lt b c = true → lt a c = true
 nt:∀ a b c,lt b a = false → lt c b = false → lt c a = false
def mrg {α:Type} (lt:α → α → Bool) (X Y:List α):List α:=List.merge X Y (fun x y=>!lt y x)
theorem mrg_nil {α:Type} (lt:α → α → Bool) (X:List α):mrg lt X [] = X:=by unfold mrg; simp
theorem nil_mrg {α:Type} (lt:α → α → Bool) (X:List α):mrg lt [] X = X:=by unfold mrg; simp
theorem mrg_cons {α:Type} (lt:α → α → Bool) (x y:α) (X Y:List α):mrg lt (x :: X) (y :: Y) = if lt y x then y :: mrg lt (x :: X) Y else x :: mrg lt X (y :: Y):=by
 unfold mrg
 rw [List.merge]
 cases lt y x <;> simp
theorem mrg_left {α:Type} (lt:α → α → Bool) {y:α}:∀ (X1 X2 Y:List α),(∀ x ∈ X1,lt y x = false) → mrg lt (X1 ++ X2) (y :: Y) = X1 ++ mrg lt X2 (y :: Y)
 | [],X2,Y,_=>rfl
 | x :: X1,X2,Y,h=>by
  rw [List.cons_append,mrg_cons,if_neg (by rw [h x (List.mem_cons_self ..)]; decide),mrg_left lt X1 X2 Y (fun z hz=>h z (List.mem_cons_of_mem _ hz)),List.cons_append]
theorem mrg_split {α:Type} (lt:α → α → Bool):∀ (X1 X2 Y1 Y2:List α),(∀ x ∈ X1,∀ y ∈ Y2,lt y x = false) → (∀ x ∈ X2,∀ y ∈ Y1,lt y x = true) → mrg lt (X1 ++ X2) (Y1 ++ Y2) = mrg lt X1 Y1 ++ mrg lt X2 Y2
 | [],X2,[],Y2,_,_=>by rw [nil_mrg]; rfl
 | x :: X1,X2,[],[],_,_=>by rw [mrg_nil,mrg_nil,List.append_nil,mrg_nil]
 | x :: X1,X2,[],y :: Y2,h,_=>by
  rw [mrg_nil,List.nil_append]
  exact mrg_left lt (x :: X1) X2 Y2 (fun z hz=>h z hz y (List.mem_cons_self ..))
 | [],[],y :: Y1,Y2,_,_=>by rw [List.nil_append,nil_mrg,nil_mrg,nil_mrg]
 | [],x :: X2,y :: Y1,Y2,h,g=>by
  have:=mrg_split lt [] (x :: X2) Y1 Y2 (fun z hz=>by simp at hz) (fun z hz w hw=>g z hz w (List.mem_cons_of_mem _ hw))
  rw [List.nil_append,nil_mrg] at this
  rw [List.nil_append,List.cons_append,mrg_cons,if_pos (g x (List.mem_cons_self ..) y (List.mem_cons_self ..)),this,nil_mrg,List.cons_append]
 | x :: X1,X2,y :: Y1,Y2,h,g=>by
  rw [List.cons_append,List.cons_append,mrg_cons,mrg_cons]
  split
  ·have:=mrg_split lt (x :: X1) X2 Y1 Y2 h (fun z hz w hw=>g z hz w (List.mem_cons_of_mem _ hw))
   rw [List.cons_append] at this
   rw [this,List.cons_append]
  ·have:=mrg_split lt X1 X2 (y :: Y1) Y2 (fun z hz=>h z (List.mem_cons_of_mem _ hz)) g
   rw [List.cons_append] at this
   rw [this,List.cons_append]
termination_by X1 X2 Y1 Y2=>X1.length + Y1.length
def SortedL {α:Type} (lt:α → α → Bool) (l:List α):Prop:=l.Pairwise (fun a b=>lt b a = false)
theorem mrg_mem {α:Type} (lt:α → α → Bool) {z:α}:∀ (X Y:List α),z ∈ mrg lt X Y ↔ z ∈ X ∨ z ∈ Y
 | [],Y=>by rw [nil_mrg]; simp
 | x :: X,[]=>by rw [mrg_nil]; simp
 | x :: X,y :: Y=>by
  rw [mrg_cons]
  split
  ·rw [List.mem_cons,mrg_mem lt (x :: X) Y]; simp only [List.mem_cons]; exact ⟨fun h=>by rcases h with h | h | h <;> simp [h],fun h=>by rcases h with h | h | h <;> simp [h]⟩
  ·rw [List.mem_cons,mrg_mem lt X (y :: Y)]; simp only [List.mem_cons]; exact ⟨fun h=>by rcases h with h | h | h <;> simp [h],fun h=>by rcases h with (h | h) | h <;> simp [h]⟩
termination_by X Y=>X.length + Y.length
theorem mrg_sorted {α:Type} {lt:α → α → Bool} (hw:Weak lt):∀ (X Y:List α),SortedL lt X → SortedL lt Y → SortedL lt (mrg lt X Y)
 | [],Y,_,hy=>by rw [nil_mrg]; exact hy
 | x :: X,[],hx,_=>by rw [mrg_nil]; exact hx
 | x :: X,y :: Y,hx,hy=>by
  have hx1:=List.pairwise_cons.1 hx
  have hy1:=List.pairwise_cons.1 hy
  have asym:∀ a b,lt a b = true → lt b a = false:=fun a b h=>by
   cases hh:lt b a with
   | false=>rfl
   | true=>have:=hw.tr a b a h hh; rw [hw.irr] at this; exact this.symm
  rw [mrg_cons]
  split
  ·rename_i h
   refine List.pairwise_cons.2 ⟨fun z hz=>?_,mrg_sorted hw (x :: X) Y hx hy1.2⟩
   rcases (mrg_mem lt _ _).1 hz with h1 | h1
   ·rcases List.mem_cons.1 h1 with rfl | h1
    ·exact asym _ _ h
    ·exact hw.nt _ _ _ (asym _ _ h) (hx1.1 z h1)
   ·exact hy1.1 z h1
  ·rename_i h
   have h':lt y x = false:=by simpa using h
   refine List.pairwise_cons.2 ⟨fun z hz=>?_,mrg_sorted hw X (y :: Y) hx1.2 hy⟩
   rcases (mrg_mem lt _ _).1 hz with h1 | h1
   ·exact hx1.1 z h1
   ·rcases List.mem_cons.1 h1 with rfl | h1
    ·exact h'
    ·exact hw.nt _ _ _ h' (hy1.1 z h1)
termination_by X Y=>X.length + Y.length
def alike {α:Type} (lt:α → α → Bool) (z a:α):Bool:=!lt a z && !lt z a
theorem mrg_filter {α:Type} {lt:α → α → Bool} (hw:Weak lt) (z:α):∀ (X Y:List α),SortedL lt X → SortedL lt Y → (mrg lt X Y).filter (alike lt z) = X.filter (alike lt z) ++ Y.filter (alike lt z)
 | [],Y,_,_=>by rw [nil_mrg]; rfl
 | x :: X,[],_,_=>by rw [mrg_nil]; simp
 | x :: X,y :: Y,hx,hy=>by
  have hx1:=List.pairwise_cons.1 hx
  have hy1:=List.pairwise_cons.1 hy
  rw [mrg_cons]
  split
  ·rename_i h
   rw [List.filter_cons,mrg_filter hw z (x :: X) Y hx hy1.2]
   by_cases hyz:alike lt z y = true
   ·have hno:(x :: X).filter (alike lt z) = []:=by
     rw [List.filter_eq_nil_iff]
     intro w hww ha
     unfold alike at hyz ha
     simp only [Bool.and_eq_true,Bool.not_eq_true'] at hyz ha
     have hwx:lt w x = false:=by
      rcases List.mem_cons.1 hww with rfl | h1
      ·exact hw.irr _
      ·exact hx1.1 w h1
     have h1:lt w y = false:=hw.nt y z w hyz.2 ha.1
     have h2:lt y w = false:=hw.nt w z y ha.2 hyz.1
     have h4:lt y x = false:=hw.nt x w y hwx h2
     rw [h] at h4; exact absurd h4 (by decide)
    rw [hno,if_pos hyz,List.filter_cons,if_pos hyz]; rfl
   ·rw [if_neg hyz,List.filter_cons (x:=y),if_neg hyz]
  ·rename_i h
   rw [List.filter_cons,mrg_filter hw z X (y :: Y) hx1.2 hy]
   rw [List.filter_cons (x:=x) (xs:=X)]
   split
   ·rfl
   ·rfl
termination_by X Y=>X.length + Y.length
theorem alike_self {α:Type} {lt:α → α → Bool} (hw:Weak lt) (z:α):alike lt z z = true:=by unfold alike; rw [hw.irr]; rfl
theorem head_least {α:Type} {lt:α → α → Bool} (hw:Weak lt) {x y:α} {R S:List α} (hr:SortedL lt (x :: R)) (h:∀ z,(x :: R).filter (alike lt z) = (y :: S).filter (alike lt z)):lt y x = false:=by
 have hm:y ∈ (y :: S).filter (alike lt y):=List.mem_filter.2 ⟨List.mem_cons_self ..,alike_self hw y⟩
 rw [← h y] at hm
 have h1:=List.mem_filter.1 hm
 rcases List.mem_cons.1 h1.1 with rfl | h2
 ·exact hw.irr _
 ·exact (List.pairwise_cons.1 hr).1 y h2
theorem stable_uniq {α:Type} {lt:α → α → Bool} (hw:Weak lt):∀ (r s:List α),SortedL lt r → SortedL lt s → (∀ z,r.filter (alike lt z) = s.filter (alike lt z)) → r = s
 | [],[],_,_,_=>rfl
 | [],y :: S,_,_,h=>by
  have:=h y
  rw [List.filter_cons,if_pos (alike_self hw y)] at this
  simp at this
 | x :: R,[],_,_,h=>by
  have:=h x
  rw [List.filter_cons,if_pos (alike_self hw x)] at this
  simp at this
 | x :: R,y :: S,hr,hs,h=>by
  have h1:=head_least hw hr h
  have h2:=head_least hw hs (fun z=>(h z).symm)
  have hx:=h x
  have hy:alike lt x y = true:=by unfold alike; rw [h1,h2]; rfl
  rw [List.filter_cons,if_pos (alike_self hw x),List.filter_cons,if_pos hy] at hx
  have e:x = y:=(List.cons.inj hx).1
  subst e
  have hz:∀ z,R.filter (alike lt z) = S.filter (alike lt z):=fun z=>by
   have:=h z
   rw [List.filter_cons,List.filter_cons] at this
   split at this
   ·exact (List.cons.inj this).2
   ·exact this
  rw [stable_uniq hw R S (List.pairwise_cons.1 hr).2 (List.pairwise_cons.1 hs).2 hz]
theorem sortedL_get {α:Type} {lt:α → α → Bool} (hw:Weak lt) {l:List α} (h:SortedL lt l) {i j:Nat} (hj:j < l.length) (hij:i ≤ j):lt l[j] (l[i]'(by omega)) = false:=by
 by_cases e:i = j
 ·subst e; exact hw.irr _
 ·exact List.pairwise_iff_getElem.1 h i j (by omega) hj (by omega)
theorem sym_split {α:Type} {lt:α → α → Bool} (hw:Weak lt) {X Y:List α} (hx:SortedL lt X) (hy:SortedL lt Y) (i j:Nat) (hi:i ≤ X.length) (hj:j ≤ Y.length)
  (h1:∀ (p:0 < i) (q:j < Y.length),lt Y[j] (X[i - 1]'(by omega)) = false) (h2:∀ (p:i < X.length) (q:0 < j),lt (Y[j - 1]'(by omega)) X[i] = true) :
  mrg lt X Y = mrg lt (X.take i) (Y.take j) ++ mrg lt (X.drop i) (Y.drop j):=by
 have:=mrg_split lt (X.take i) (X.drop i) (Y.take j) (Y.drop j) ?_ ?_
 ·rw [List.take_append_drop,List.take_append_drop] at this; exact this
 ·intro x hxm y hym
  obtain ⟨a,ha,rfl⟩:=List.mem_iff_getElem.1 hxm
  obtain ⟨b,hb,rfl⟩:=List.mem_iff_getElem.1 hym
  rw [List.length_take] at ha
  rw [List.length_drop] at hb
  rw [List.getElem_take,List.getElem_drop]
  have a1:=h1 (by omega) (by omega)
  have a2:=sortedL_get hw hx (i:=a) (j:=i - 1) (by omega) (by omega)
  have a3:=sortedL_get hw hy (i:=j) (j:=j + b) (by omega) (by omega)
  exact hw.nt _ _ _ (hw.nt _ _ _ a2 a1) a3
 ·intro x hxm y hym
  obtain ⟨a,ha,rfl⟩:=List.mem_iff_getElem.1 hxm
  obtain ⟨b,hb,rfl⟩:=List.mem_iff_getElem.1 hym
  rw [List.length_drop] at ha
  rw [List.length_take] at hb
  rw [List.getElem_take,List.getElem_drop]
  have a1:=h2 (by omega) (by omega)
  have a2:=sortedL_get hw hx (i:=i) (j:=i + a) (by omega) (by omega)
  have a3:=sortedL_get hw hy (i:=b) (j:=j - 1) (by omega) (by omega)
  cases hh:lt (Y[b]'(by omega)) (X[i + a]'(by omega)) with
  | true=>rfl
  | false =>
   have:=hw.nt _ _ _ (hw.nt _ _ _ a2 hh) a3
   rw [a1] at this; exact this.symm
theorem mrg_oneL {α:Type} {lt:α → α → Bool} (hw:Weak lt) {x:α} {Y:List α} (hy:SortedL lt Y) (j:Nat) (hj:j ≤ Y.length)
  (h1:∀ q:j < Y.length,lt Y[j] x = false) (h2:∀ p:0 < j,lt (Y[j - 1]'(by omega)) x = true):mrg lt [x] Y = Y.take j ++ x :: Y.drop j:=by
 rw [sym_split hw (X:=[x]) (Y:=Y) (List.pairwise_singleton _ _) hy 0 j (Nat.zero_le _) hj (fun p _=>absurd p (by decide)) (fun _ q=>h2 q),List.take_zero,nil_mrg,List.drop_zero]
 congr 1
 by_cases hl:j < Y.length
 ·rw [List.drop_eq_getElem_cons hl,mrg_cons,if_neg (by rw [h1 hl]; decide),nil_mrg]
 ·rw [List.drop_eq_nil_of_le (by omega),mrg_nil]
theorem mrg_oneR {α:Type} {lt:α → α → Bool} (hw:Weak lt) {y:α} {X:List α} (hx:SortedL lt X) (i:Nat) (hi:i ≤ X.length)
  (h1:∀ p:0 < i,lt y (X[i - 1]'(by omega)) = false) (h2:∀ q:i < X.length,lt y X[i] = true):mrg lt X [y] = X.take i ++ y :: X.drop i:=by
 rw [sym_split hw (X:=X) (Y:=[y]) hx (List.pairwise_singleton _ _) i 0 hi (Nat.zero_le _) (fun p _=>h1 p) (fun _ q=>absurd q (by decide)),List.take_zero,mrg_nil,List.drop_zero]
 congr 1
 by_cases hl:i < X.length
 ·rw [List.drop_eq_getElem_cons hl,mrg_cons,if_pos (h2 hl),mrg_nil]
 ·rw [List.drop_eq_nil_of_le (by omega),nil_mrg]
def sw2 {α:Type} [Inhabited α] (D:List α) (x y:Nat):List α:=(D.set x (D.getD y default)).set y (D.getD x default)
def swR {α:Type} [Inhabited α] (D:List α) (a b:Nat):Nat → List α
 | 0=>D
 | n + 1=>swR (sw2 D a b) (a + 1) (b + 1) n
theorem sw2_length {α:Type} [Inhabited α] (D:List α) (x y:Nat):(sw2 D x y).length = D.length:=by simp [sw2]
theorem swR_length {α:Type} [Inhabited α]:∀ (n:Nat) (D:List α) (a b:Nat),(swR D a b n).length = D.length
 | 0,_,_,_=>rfl
 | n + 1,D,a,b=>by rw [swR,swR_length n,sw2_length]
theorem sw2_at {α:Type} [Inhabited α] (P M Q:List α) (x y:α):sw2 (P ++ x :: (M ++ y :: Q)) P.length (P.length + 1 + M.length) = P ++ y :: (M ++ x :: Q):=by
 have e1:(P ++ x :: (M ++ y :: Q)).getD P.length default = x:=by simp [List.getD_eq_getElem?_getD]
 have e2:(P ++ x :: (M ++ y :: Q)).getD (P.length + 1 + M.length) default = y:=by
  rw [List.getD_eq_getElem?_getD,List.getElem?_append_right (by omega),show P.length + 1 + M.length - P.length = M.length + 1 by omega,List.getElem?_cons_succ,List.getElem?_append_right (Nat.le_refl _),Nat.sub_self]; rfl
 unfold sw2
 rw [e1,e2,List.set_append_right _ _ (Nat.le_refl _),Nat.sub_self,List.set_cons_zero,List.set_append_right _ _ (by omega),show P.length + 1 + M.length - P.length = M.length + 1 by omega,List.set_cons_succ,List.set_append_right _ _ (Nat.le_refl _),Nat.sub_self,List.set_cons_zero]
theorem swR_at {α:Type} [Inhabited α]:∀ (U V P M Q:List α),U.length = V.length → swR (P ++ (U ++ (M ++ (V ++ Q)))) P.length (P.length + U.length + M.length) U.length = P ++ (V ++ (M ++ (U ++ Q)))
 | [],[],P,M,Q,_=>rfl
 | x :: U,y :: V,P,M,Q,h=>by
  have hl:U.length = V.length:=by simpa using h
  have:=swR_at U V (P ++ [y]) (M ++ [x]) Q hl
  have e:=sw2_at P (U ++ M) (V ++ Q) x y
  simp only [List.append_assoc,List.length_append,List.cons_append,List.nil_append,List.length_cons,List.length_nil,Nat.zero_add] at this e ⊢
  rw [swR,show P.length + (U.length + 1) + M.length = P.length + 1 + (U.length + M.length) by omega,e,show P.length + 1 + (U.length + M.length) + 1 = P.length + 1 + U.length + (M.length + 1) by omega]
  exact this
def Rot {α:Type} (G D:List α) (i j m:Nat):Prop:=∃ P X Y Q,D = P ++ (X ++ (Y ++ Q)) ∧ G = P ++ (Y ++ (X ++ Q)) ∧ X.length = i ∧ Y.length = j ∧ P.length + i = m ∧ 0 < i ∧ 0 < j
theorem Rot.len {α:Type} {G D:List α} {i j m:Nat} (h:Rot G D i j m):D.length = G.length ∧ i ≤ m ∧ m + j ≤ D.length ∧ 0 < i ∧ 0 < j:=by
 obtain ⟨P,X,Y,Q,rfl,rfl,h1,h2,h3,h4,h5⟩:=h
 simp only [List.length_append]
 omega
theorem Rot.eq {α:Type} [Inhabited α] {G D:List α} {i m:Nat} (h:Rot G D i i m):swR D (m - i) m i = G:=by
 obtain ⟨P,X,Y,Q,rfl,rfl,h1,h2,h3,h4,h5⟩:=h
 have:=swR_at X Y P [] Q (by omega)
 simp only [List.nil_append,List.length_nil,Nat.add_zero] at this
 rw [show m - i = P.length by omega,show m = P.length + X.length by omega,← h1]
 exact this
theorem Rot.gt {α:Type} [Inhabited α] {G D:List α} {i j m:Nat} (h:Rot G D i j m) (hij:j < i):Rot G (swR D (m - i) m j) (i - j) j m:=by
 obtain ⟨P,X,Y,Q,rfl,rfl,h1,h2,h3,h4,h5⟩:=h
 have hU:(X.take j).length = j:=by rw [List.length_take]; omega
 have hW:(X.drop j).length = i - j:=by rw [List.length_drop]; omega
 have:=swR_at (X.take j) Y P (X.drop j) Q (by omega)
 rw [hU,hW,show P.length + j + (i - j) = m by omega,show X.take j ++ (X.drop j ++ (Y ++ Q)) = X ++ (Y ++ Q) by rw [← List.append_assoc,List.take_append_drop]] at this
 rw [show m - i = P.length by omega,this]
 refine ⟨P ++ Y,X.drop j,X.take j,Q,by simp only [List.append_assoc],?_,hW,hU,by rw [List.length_append]; omega,by omega,by omega⟩
 rw [List.append_assoc,← List.append_assoc (X.take j),List.take_append_drop]
theorem Rot.lt {α:Type} [Inhabited α] {G D:List α} {i j m:Nat} (h:Rot G D i j m) (hij:i < j):Rot G (swR D (m - i) (m + j - i) i) i (j - i) m:=by
 obtain ⟨P,X,Y,Q,rfl,rfl,h1,h2,h3,h4,h5⟩:=h
 have hV:(Y.take (j - i)).length = j - i:=by rw [List.length_take]; omega
 have hW:(Y.drop (j - i)).length = i:=by rw [List.length_drop]; omega
 have:=swR_at X (Y.drop (j - i)) P (Y.take (j - i)) Q (by omega)
 rw [h1,hV,show P.length + i + (j - i) = m + j - i by omega,show Y.take (j - i) ++ (Y.drop (j - i) ++ Q) = Y ++ Q by rw [← List.append_assoc,List.take_append_drop]] at this
 rw [show m - i = P.length by omega,this]
 refine ⟨P,Y.drop (j - i),Y.take (j - i),X ++ Q,rfl,?_,hW,hV,by omega,by omega,by omega⟩
 rw [← List.append_assoc (Y.take (j - i)),List.take_append_drop]
end Go.Proofs.Ytangodmcbmeeaaa
