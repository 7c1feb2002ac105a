/- Chapter 32, plain: targets, their sums and objects. -/
import Derived.Test.YthginmfobikdgaaSrA
import Derived.Test.YthginmfobikdgaaWtD
set_option linter.unusedSimpArgs false
set_option linter.unusedVariables false
namespace Go.Proofs.Ythginmfobikdgaa
open Go.PV

/-! The sums of targets, in the order in which they come. -/
def putL (L : List (K3 × Int)) (k : K3) (c w : Int) : List (K3 × Int) := match L with
  | [] => [(k, addT 0 c w)]
  | (k', t) :: L => if k' = k then (k', addT t c w) :: L else (k', t) :: putL L k c w
def addTg (b i w : Int) (tg : List (Int × Int)) (L : List (K3 × Int)) : List (K3 × Int) := tg.foldl (fun L t => putL L (b, i, t.1) t.2 w) L
def addSt (w : Int) (S : List Site) (L : List (K3 × Int)) : List (K3 × Int) := S.foldl (fun L s => addTg s.blk s.ins w s.tg L) L
def addAll (ws : List Int) (l : List FC) : Nat → List (K3 × Int)
  | 0 => []
  | i + 1 => addSt (ws.getD i 0) (l.getD i default).sites (addAll ws l i)
theorem take_get {α : Type} (l : List α) (i : Nat) (d : α) (h : i < l.length) : l.take (i + 1) = l.take i ++ [l.getD i d] := by
  rw [List.take_add_one, List.getElem?_eq_getElem h, List.getD_eq_getElem?_getD, List.getElem?_eq_getElem h]; rfl
theorem addTg_succ (b i w : Int) (tg : List (Int × Int)) (L : List (K3 × Int)) (t : Nat) (h : t < tg.length) : addTg b i w (tg.take (t + 1)) L = putL (addTg b i w (tg.take t) L) (b, i, (tg.getD t (0, 0)).1) (tg.getD t (0, 0)).2 w := by
  unfold addTg
  rw [take_get tg t (0, 0) h, List.foldl_append]; rfl
theorem addSt_succ (w : Int) (S : List Site) (L : List (K3 × Int)) (j : Nat) (h : j < S.length) : addSt w (S.take (j + 1)) L = addTg (S.getD j default).blk (S.getD j default).ins w (S.getD j default).tg (addSt w (S.take j) L) := by
  unfold addSt
  rw [take_get S j default h, List.foldl_append]; rfl
theorem putL_keys (L : List (K3 × Int)) (k : K3) (c w : Int) : ∀ q, q ∈ (putL L k c w).map (·.1) ↔ q ∈ L.map (·.1) ∨ q = k := by
  intro q
  induction L with
  | nil => simp [putL]
  | cons e L ih =>
    obtain ⟨k', t⟩ := e
    simp only [putL]
    split
    · rename_i h; subst h
      simp only [List.map_cons, List.mem_cons]
      constructor
      · rintro (h | h)
        · exact .inl (.inl h)
        · exact .inl (.inr h)
      · rintro ((h | h) | h)
        · exact .inl h
        · exact .inr h
        · exact .inl h
    · simp only [List.map_cons, List.mem_cons, ih]
      constructor
      · rintro (h | h | h)
        · exact .inl (.inl h)
        · exact .inl (.inr h)
        · exact .inr h
      · rintro ((h | h) | h)
        · exact .inl h
        · exact .inr (.inl h)
        · exact .inr (.inr h)
theorem putL_nodup (L : List (K3 × Int)) (k : K3) (c w : Int) (h : (L.map (·.1)).Nodup) : ((putL L k c w).map (·.1)).Nodup := by
  induction L with
  | nil => simp [putL]
  | cons e L ih =>
    obtain ⟨k', t⟩ := e
    simp only [List.map_cons, List.nodup_cons] at h
    simp only [putL]
    split
    · simp only [List.map_cons, List.nodup_cons]; exact h
    · rename_i hne
      simp only [List.map_cons, List.nodup_cons]
      exact ⟨fun hm => ((putL_keys L k c w k').1 hm).elim h.1 hne, ih h.2⟩

/-! Objects of sums. -/
abbrev Ent := K3 × Nat × Int
def encE (es : List Ent) : List (PV × PV) := es.map fun e => (.agg (kRow e.1), .ptr (e.2.1 + 2) 0 0 0)
def updE (es : List Ent) (k : K3) (t : Int) : List Ent := es.map fun e => if e.1 = k then (e.1, e.2.1, t) else e
theorem encE_upd (es : List Ent) (k : K3) (t : Int) : encE (updE es k t) = encE es := by
  simp only [encE, updE, List.map_map]
  refine List.map_congr_left (fun e _ => ?_)
  simp only [Function.comp]
  split <;> rfl
theorem updE_keys (es : List Ent) (k : K3) (t : Int) : (updE es k t).map (·.1) = es.map (·.1) := by
  simp only [updE, List.map_map]
  refine List.map_congr_left (fun e _ => ?_)
  simp only [Function.comp]
  split <;> rfl
theorem updE_length (es : List Ent) (k : K3) (t : Int) : (updE es k t).length = es.length := by simp [updE]
def totE (es : List Ent) : List (K3 × Int) := es.map fun e => (e.1, e.2.2)
theorem totE_keys (es : List Ent) : (totE es).map (·.1) = es.map (·.1) := by simp [totE]
theorem putL_new (es : List Ent) (k : K3) (c w : Int) (o : Nat) (h : k ∉ es.map (·.1)) : putL (totE es) k c w = totE (es ++ [(k, o, addT 0 c w)]) := by
  induction es with
  | nil => rfl
  | cons e es ih =>
    simp only [List.map_cons, List.mem_cons, not_or] at h
    have := ih h.2
    simp only [totE, List.map_cons, List.cons_append, putL] at this ⊢
    rw [if_neg (fun e => h.1 e.symm), this]
theorem putL_upd (es : List Ent) (k : K3) (c w : Int) (o : Nat) (t : Int) (hn : (es.map (·.1)).Nodup) (h : (k, o, t) ∈ es) : putL (totE es) k c w = totE (updE es k (addT t c w)) := by
  induction es with
  | nil => simp at h
  | cons e es ih =>
    simp only [List.map_cons, List.nodup_cons] at hn
    rcases List.mem_cons.1 h with rfl | h'
    · have e2 : updE es k (addT t c w) = es := by
        unfold updE
        refine (List.map_congr_left (fun e he => ?_)).trans (List.map_id es)
        rw [if_neg (fun e1 => hn.1 (List.mem_map.2 ⟨e, he, e1⟩))]; rfl
      have e3 : updE ((k, o, t) :: es) k (addT t c w) = (k, o, addT t c w) :: updE es k (addT t c w) := by simp [updE]
      rw [e3, e2]
      simp [totE, putL]
    · have hne : e.1 ≠ k := fun e1 => hn.1 (by rw [e1]; exact List.mem_map_of_mem (f := fun e => e.1) h')
      have := ih hn.2 h'
      have e3 : updE (e :: es) k (addT t c w) = e :: updE es k (addT t c w) := by simp [updE, hne]
      rw [e3]
      simp only [totE, List.map_cons, putL] at this ⊢
      rw [if_neg hne, this]

theorem sameK_row (a b : K3) : sameK (.agg (kRow a)) (.agg (kRow b)) = some (decide (a = b)) := by
  obtain ⟨a1, a2, a3⟩ := a
  obtain ⟨b1, b2, b3⟩ := b
  simp only [sameK, kRow, sameKs, if_true, Prod.mk.injEq]
  by_cases h1 : a1 = b1
  · by_cases h2 : a2 = b2
    · by_cases h3 : a3 = b3 <;> simp [h1, h2, h3]
    · simp [h1, h2]
  · simp [h1]
theorem findE_none (es : List Ent) (k : K3) (h : k ∉ es.map (·.1)) : ∀ i, findP (.agg (kRow k)) (encE es) i = some none := by
  induction es with
  | nil => intro i; rfl
  | cons e es ih =>
    intro i
    simp only [List.map_cons, List.mem_cons, not_or] at h
    have hs := sameK_row k e.1
    rw [decide_eq_false h.1] at hs
    simp only [encE, List.map_cons, findP, hs]
    exact ih h.2 (i + 1)
theorem findE_some (es : List Ent) (k : K3) (o : Nat) (t : Int) (hn : (es.map (·.1)).Nodup) (h : (k, o, t) ∈ es) : ∀ i, ∃ j, findP (.agg (kRow k)) (encE es) i = some (some (j, .ptr (o + 2) 0 0 0)) := by
  induction es with
  | nil => simp at h
  | cons e es ih =>
    intro i
    simp only [List.map_cons, List.nodup_cons] at hn
    rcases List.mem_cons.1 h with rfl | h'
    · have hs := sameK_row k k
      rw [decide_eq_true rfl] at hs
      exact ⟨i, by simp only [encE, List.map_cons, findP, hs]⟩
    · have hne : k ≠ e.1 := fun e1 => hn.1 (by rw [← e1]; exact List.mem_map_of_mem (f := fun e => e.1) h')
      have hs := sameK_row k e.1
      rw [decide_eq_false hne] at hs
      obtain ⟨j, hj⟩ := ih hn.2 h' (i + 1)
      exact ⟨j, by simp only [encE, List.map_cons, findP, hs]; exact hj⟩
theorem mem_ent {es : List Ent} {k : K3} (h : k ∈ es.map (·.1)) : ∃ o t, (k, o, t) ∈ es := by
  obtain ⟨⟨k', o, t⟩, he, rfl⟩ := List.mem_map.1 h
  exact ⟨o, t, he⟩
theorem nodup_le {α : Type} [DecidableEq α] : ∀ (L M : List α), L.Nodup → (∀ x ∈ L, x ∈ M) → L.length ≤ M.length
  | [], M, _, _ => by simp
  | x :: L, M, hn, hs => by
    simp only [List.nodup_cons] at hn
    have hx := hs x (by simp)
    have := nodup_le L (M.erase x) hn.2 (fun y hy => (List.mem_erase_of_ne (fun e => hn.1 (by rw [← e]; exact hy))).2 (hs y (by simp [hy])))
    rw [List.length_erase_of_mem hx] at this
    have := List.length_pos_of_mem hx
    simp; omega

theorem nodup_inj {α β : Type} (f : α → β) : ∀ (l : List α), (l.map f).Nodup → ∀ a ∈ l, ∀ b ∈ l, f a = f b → a = b
  | [], _, a, ha, _, _, _ => by simp at ha
  | x :: l, hn, a, ha, b, hb, h => by
    simp only [List.map_cons, List.nodup_cons] at hn
    rcases List.mem_cons.1 ha with rfl | ha'
    · rcases List.mem_cons.1 hb with rfl | hb'
      · rfl
      · exact absurd (List.mem_map.2 ⟨b, hb', h.symm⟩) hn.1
    · rcases List.mem_cons.1 hb with rfl | hb'
      · exact absurd (List.mem_map.2 ⟨a, ha', h⟩) hn.1
      · exact nodup_inj f l hn.2 a ha' b hb' h
/-- The store behind the map: the sums, and the order. -/
structure SI (KS : List K3) (Q : Store) (es : List Ent) (oo : Nat) : Prop where
  keys : (es.map (·.1)).Nodup
  sub : ∀ k ∈ es.map (·.1), k ∈ KS
  sums : ∀ k o t, (k, o, t) ∈ es → Q[o]? = some (sumO true t) ∧ 0 ≤ t ∧ t ≤ 144115188075855872
  objs : (es.map fun e => e.2.1).Nodup
  ord : es ≠ [] → Q[oo]? = some (.rows 175 3 (encK (es.map (·.1))) (es.length - 1))
theorem SI.len {KS : List K3} {Q : Store} {es : List Ent} {oo : Nat} (h : SI KS Q es oo) : es.length ≤ KS.length := by
  have := nodup_le _ KS h.keys h.sub
  simpa using this
theorem SI.app {KS : List K3} {Q : Store} {es : List Ent} {oo : Nat} (h : SI KS Q es oo) (X : Store) : SI KS (Q ++ X) es oo where
  keys := h.keys
  sub := h.sub
  sums := fun k o t hm => by
    have := h.sums k o t hm
    exact ⟨by rw [List.getElem?_append_left (List.getElem?_eq_some_iff.1 this.1).1, this.1], this.2⟩
  objs := h.objs
  ord := fun hn => by
    have := h.ord hn
    rw [List.getElem?_append_left (List.getElem?_eq_some_iff.1 this).1, this]
theorem SI.nil {KS : List K3} {Q : Store} {oo : Nat} : SI KS Q [] oo := ⟨by simp, by simp, by simp, by simp, fun h => absurd rfl h⟩
theorem addT_range {t c w : Int} (ht : 0 ≤ t ∧ t ≤ 144115188075855872) (hc : 0 ≤ c) (hw : 0 ≤ w) : 0 ≤ addT t c w ∧ addT t c w ≤ 144115188075855872 := by
  have := Int.mul_nonneg hc hw
  unfold addT
  rw [if_pos hc]
  omega
theorem SI.upd {KS : List K3} {Q : Store} {es : List Ent} {oo : Nat} (h : SI KS Q es oo) {k : K3} {o : Nat} {t c w : Int} (hm : (k, o, t) ∈ es) (hc : 0 ≤ c) (hw : 0 ≤ w) (X : Store) : SI KS (Q.set o (sumO true (addT t c w)) ++ X) (updE es k (addT t c w)) oo := by
  refine SI.app ⟨by rw [updE_keys]; exact h.keys, by rw [updE_keys]; exact h.sub, fun k' o' t' hm' => ?_, ?_, fun hn => ?_⟩ X
  · have hq := h.sums k o t hm
    simp only [updE, List.mem_map] at hm'
    obtain ⟨⟨k1, o1, t1⟩, he, heq⟩ := hm'
    dsimp only at heq
    split at heq
    · rename_i hk
      subst hk
      simp only [Prod.mk.injEq] at heq
      obtain ⟨rfl, rfl, rfl⟩ := heq
      have : (k1, o, t) = (k1, o1, t1) := nodup_inj _ es h.keys _ hm _ he rfl
      simp only [Prod.mk.injEq, true_and] at this
      obtain ⟨rfl, rfl⟩ := this
      exact ⟨List.getElem?_set_self (List.getElem?_eq_some_iff.1 hq.1).1, addT_range hq.2 hc hw⟩
    · rename_i hk
      simp only [Prod.mk.injEq] at heq
      obtain ⟨rfl, rfl, rfl⟩ := heq
      have hne : o ≠ o1 := fun e => by
        subst e
        have := nodup_inj _ es h.objs _ hm _ he rfl
        simp only [Prod.mk.injEq] at this
        exact hk this.1.symm
      rw [List.getElem?_set_ne hne]
      exact h.sums _ _ _ he
  · have : (updE es k (addT t c w)).map (fun e => e.2.1) = es.map (fun e => e.2.1) := by
      simp only [updE, List.map_map]
      refine List.map_congr_left (fun e _ => ?_)
      simp only [Function.comp]
      split <;> rfl
    rw [this]; exact h.objs
  · have hne : es ≠ [] := fun e => by rw [e] at hm; simp at hm
    have ho := h.ord hne
    have hd : o ≠ oo := fun e => by
      subst e
      have := (h.sums k o t hm).1
      rw [ho] at this
      simp [sumO] at this
    rw [List.getElem?_set_ne hd, updE_keys, updE_length, ho]
theorem SI.new0 {KS : List K3} {Q : Store} {k : K3} {c w : Int} (hk : k ∈ KS) (hc : 0 ≤ c) (hw : 0 ≤ w) (a b : Go.PV.Obj) : SI KS (Q ++ [a, b, sumO true (addT 0 c w), .rows 175 3 (encK [k]) 0]) [(k, Q.length + 2, addT 0 c w)] (Q.length + 3) where
  keys := by simp
  sub := by simpa using hk
  sums := fun k' o t hm => by
    rw [List.mem_singleton] at hm
    simp only [Prod.mk.injEq] at hm
    obtain ⟨rfl, rfl, rfl⟩ := hm
    exact ⟨by rw [gappk]; rfl, addT_range (by omega) hc hw⟩
  objs := by simp
  ord := fun _ => by rw [gappk]; rfl
theorem SI.new {KS : List K3} {Q : Store} {es : List Ent} {oo : Nat} (h : SI KS Q es oo) (hes : es ≠ []) {k : K3} {c w : Int} (hk : k ∈ KS) (hkn : k ∉ es.map (·.1)) (hc : 0 ≤ c) (hw : 0 ≤ w) (a b : Go.PV.Obj) :
    SI KS (Q.set oo (.rows 175 3 (encK (es.map (·.1) ++ [k])) es.length) ++ [a, b, sumO true (addT 0 c w)]) (es ++ [(k, Q.length + 2, addT 0 c w)]) oo where
  keys := by
    rw [List.map_append, List.nodup_append]
    refine ⟨h.keys, by simp, fun x hx y hy e => ?_⟩
    simp at hy
    exact hkn (by rw [← hy, ← e]; exact hx)
  sub := fun x hx => by
    simp only [List.map_append, List.mem_append, List.map_cons, List.map_nil, List.mem_singleton] at hx
    rcases hx with hx | rfl
    · exact h.sub x hx
    · exact hk
  sums := fun k' o t hm => by
    have ho := h.ord hes
    simp only [List.mem_append, List.mem_singleton, Prod.mk.injEq] at hm
    rcases hm with hm | ⟨rfl, rfl, rfl⟩
    · have hq := h.sums k' o t hm
      have hd : oo ≠ o := fun e => by
        subst e
        have := hq.1
        rw [ho] at this
        simp [sumO] at this
      rw [List.getElem?_append_left (by simpa using (List.getElem?_eq_some_iff.1 hq.1).1), List.getElem?_set_ne hd]
      exact hq
    · refine ⟨?_, addT_range (by omega) hc hw⟩
      have := gappk (Q.set oo (.rows 175 3 (encK (es.map (·.1) ++ [k'])) es.length)) [a, b, sumO true (addT 0 c w)] 2
      rw [List.length_set] at this
      rw [this]; rfl
  objs := by
    rw [List.map_append, List.nodup_append]
    refine ⟨h.objs, by simp, fun x hx y hy e => ?_⟩
    simp at hy
    obtain ⟨⟨k1, o1, t1⟩, he, rfl⟩ := List.mem_map.1 hx
    have := (List.getElem?_eq_some_iff.1 (h.sums k1 o1 t1 he).1).1
    dsimp only at e
    omega
  ord := fun _ => by
    have ho := (List.getElem?_eq_some_iff.1 (h.ord hes)).1
    rw [List.getElem?_append_left (by simpa using ho), List.getElem?_set_self ho]
    simp

/-! The order of targets. -/
def insK (k : K3) : List K3 → List K3
  | [] => [k]
  | q :: L => if cmpK q k < 0 then q :: insK k L else k :: q :: L
def sortK (L : List K3) : List K3 := L.foldr insK []
theorem insK_perm (k : K3) : ∀ L, (insK k L).Perm (k :: L)
  | [] => .refl _
  | q :: L => by
    unfold insK
    split
    · exact ((insK_perm k L).cons q).trans (.swap k q L)
    · exact .refl _
theorem sortK_perm : ∀ L, (sortK L).Perm L
  | [] => .refl _
  | k :: L => (insK_perm k _).trans ((sortK_perm L).cons k)
def leK (a b : K3) : Prop := ¬ ltK b a
theorem insK_sorted (k : K3) : ∀ L, L.Pairwise leK → (insK k L).Pairwise leK
  | [], _ => by simp [insK]
  | q :: L, h => by
    simp only [List.pairwise_cons] at h
    unfold insK
    split
    · rename_i hc
      have hlt := (cmpK_lt _ _).1 hc
      simp only [List.pairwise_cons]
      refine ⟨fun x hx => ?_, insK_sorted k L h.2⟩
      rcases List.mem_cons.1 ((insK_perm k L).mem_iff.1 hx) with rfl | hx
      · unfold leK ltK at *; omega
      · exact h.1 x hx
    · rename_i hc
      have hnlt : ¬ ltK q k := fun h => hc ((cmpK_lt _ _).2 h)
      simp only [List.pairwise_cons]
      refine ⟨fun x hx => ?_, h⟩
      rcases List.mem_cons.1 hx with rfl | hx
      · exact hnlt
      · have := h.1 x hx
        unfold leK ltK at *; omega
theorem sortK_sorted : ∀ L, (sortK L).Pairwise leK
  | [] => by simp [sortK]
  | k :: L => insK_sorted k _ (sortK_sorted L)
theorem sorted_unique : ∀ (L M : List K3), L.Perm M → L.Pairwise leK → M.Pairwise leK → L = M
  | [], M, hp, _, _ => by
    have := hp.length_eq
    exact (List.length_eq_zero_iff.1 this.symm).symm
  | a :: L, [], hp, _, _ => by simp at hp
  | a :: L, b :: M, hp, h1, h2 => by
    simp only [List.pairwise_cons] at h1 h2
    have hab : a = b := by
      have ha := hp.mem_iff.1 (List.mem_cons_self (a := a) (l := L))
      have hb := hp.mem_iff.2 (List.mem_cons_self (a := b) (l := M))
      rcases List.mem_cons.1 ha with h | ha
      · exact h
      · rcases List.mem_cons.1 hb with h | hb
        · exact h.symm
        · have g1 := h1.1 b hb
          have g2 := h2.1 a ha
          obtain ⟨a1, a2, a3⟩ := a
          obtain ⟨b1, b2, b3⟩ := b
          unfold leK ltK at g1 g2
          simp only at g1 g2
          simp only [Prod.mk.injEq]
          omega
    subst hab
    rw [sorted_unique L M (hp.cons_inv) h1.2 h2.2]
theorem srt_pair {L : List K3} (h : srt L L.length) : L.Pairwise leK := by
  rw [List.pairwise_iff_getElem]
  intro i j hi hj hij
  have := h i j hij hj
  rw [List.getD_eq_getElem?_getD, List.getElem?_eq_getElem hj, List.getD_eq_getElem?_getD, List.getElem?_eq_getElem hi] at this
  exact this
theorem srt_unique {L M : List K3} (hp : L.Perm M) (h : srt L L.length) (_ : M.Nodup) : L = sortK M :=
  sorted_unique L (sortK M) (hp.trans (sortK_perm M).symm) (srt_pair h) (sortK_sorted M)

/-! The sites that come out. -/
def tOf : List (K3 × Int) → K3 → Int
  | [], _ => 0
  | (k', t) :: L, k => if k' = k then t else tOf L k
theorem tOf_of {L : List (K3 × Int)} {k : K3} {t : Int} (hn : (L.map (·.1)).Nodup) (h : (k, t) ∈ L) : tOf L k = t := by
  induction L with
  | nil => simp at h
  | cons e L ih =>
    obtain ⟨k', t'⟩ := e
    simp only [List.map_cons, List.nodup_cons] at hn
    rcases List.mem_cons.1 h with h | h
    · simp only [Prod.mk.injEq] at h
      simp [tOf, h.1, h.2]
    · have hne : k' ≠ k := fun e => hn.1 (by rw [e]; exact List.mem_map.2 ⟨_, h, rfl⟩)
      simp only [tOf, if_neg hne]
      exact ih hn.2 h
theorem tOf_mem {es : List Ent} {k : K3} {o : Nat} {t : Int} (hn : (es.map (·.1)).Nodup) (h : (k, o, t) ∈ es) : tOf (totE es) k = t :=
  tOf_of (by rw [totE_keys]; exact hn) (List.mem_map.2 ⟨_, h, rfl⟩)
def stepS (out : List Site) (k : K3) (n : Int) : List Site :=
  if n ≤ 0 then out else if out ≠ [] ∧ (out.getD (out.length - 1) default).blk = k.1 ∧ (out.getD (out.length - 1) default).ins = k.2.1
    then out.set (out.length - 1) ⟨k.1, k.2.1, (out.getD (out.length - 1) default).tg ++ [(k.2.2, n)]⟩
    else out ++ [⟨k.1, k.2.1, [(k.2.2, n)]⟩]
def outF (den : Int) (Lm : List (K3 × Int)) (L : List K3) : List Site := L.foldl (fun out k => stepS out k (min (tOf Lm k / den) 1099511627776)) []
theorem outF_succ (den : Int) (Lm : List (K3 × Int)) (L : List K3) (i : Nat) (h : i < L.length) : outF den Lm (L.take (i + 1)) = stepS (outF den Lm (L.take i)) (L.getD i default) (min (tOf Lm (L.getD i default) / den) 1099511627776) := by
  unfold outF
  rw [take_get L i default h, List.foldl_append]; rfl
theorem stepS_len (out : List Site) (k : K3) (n : Int) : (stepS out k n).length ≤ out.length + 1 := by
  unfold stepS
  split
  · omega
  · split <;> simp
theorem outF_len (den : Int) (Lm : List (K3 × Int)) (L : List K3) : (outF den Lm L).length ≤ L.length := by
  have h : ∀ (L : List K3) (out : List Site), (L.foldl (fun out k => stepS out k (min (tOf Lm k / den) 1099511627776)) out).length ≤ out.length + L.length := by
    intro L
    induction L with
    | nil => intro out; simp
    | cons k L ih =>
      intro out
      have := ih (stepS out k (min (tOf Lm k / den) 1099511627776))
      have h2 := stepS_len out k (min (tOf Lm k / den) 1099511627776)
      simp only [List.foldl_cons, List.length_cons]
      omega
  have := h L []
  simpa [outF] using this
def sitesF (den : Int) (Lm : List (K3 × Int)) : List Site := outF den Lm (sortK (Lm.map (·.1)))
/-- What comes out, while it is made. -/
def encU (out : List (Site × Nat)) : List (List PV) := out.map fun u => [.int .i64 u.1.blk, .int .i64 u.1.ins, .msl (u.2 + 2) (u.1.tg.length - 1)]
structure SO (es : List Ent) (oo : Nat) (L : List K3) (v : Nat) (Q : Store) (uo : Nat) (out : List (Site × Nat)) : Prop where
  sums : ∀ k o t, (k, o, t) ∈ es → Q[o]? = some (sumO true t) ∧ 0 ≤ t ∧ t ≤ 144115188075855872
  ord : Q[oo]? = some (.rows 175 3 (encK L) v)
  row : out ≠ [] → Q[uo]? = some (.rows 63 3 (encU out) (out.length - 1))
  tgs : ∀ u ∈ out, Q[u.2]? = some (.rows 65 2 (encT u.1.tg) (u.1.tg.length - 1)) ∧ u.1.tg ≠ []
  objs : (out.map (·.2)).Nodup
theorem SO.start {KS : List K3} {Q : Store} {es : List Ent} {oo uo v : Nat} {L : List K3} {rows : List (List PV)} (h : SI KS Q es oo) (ho : Q[oo]? = some (.rows 175 3 rows v)) : SO es oo L v (Q.set oo (.rows 175 3 (encK L) v)) uo [] where
  sums := fun k o t hm => by
    have hq := h.sums k o t hm
    have hd : oo ≠ o := fun e => by
      subst e
      rw [ho] at hq
      simp [sumO] at hq
    rw [List.getElem?_set_ne hd]
    exact hq
  ord := List.getElem?_set_self (List.getElem?_eq_some_iff.1 ho).1
  row := fun h => absurd rfl h
  tgs := by simp
  objs := by simp
theorem encU_length (out : List (Site × Nat)) : (encU out).length = out.length := by simp [encU]
theorem encU_getD (out : List (Site × Nat)) (i : Nat) (h : i < out.length) : (encU out).getD i [] = [.int .i64 (out.getD i default).1.blk, .int .i64 (out.getD i default).1.ins, .msl ((out.getD i default).2 + 2) ((out.getD i default).1.tg.length - 1)] := by simp [encU, List.getD_eq_getElem?_getD, h]
theorem SO.app {es : List Ent} {oo v uo : Nat} {L : List K3} {Q : Store} {out : List (Site × Nat)} (h : SO es oo L v Q uo out) (X : Store) : SO es oo L v (Q ++ X) uo out where
  sums := fun k o t hm => by
    have := h.sums k o t hm
    exact ⟨by rw [List.getElem?_append_left (List.getElem?_eq_some_iff.1 this.1).1, this.1], this.2⟩
  ord := by rw [List.getElem?_append_left (List.getElem?_eq_some_iff.1 h.ord).1, h.ord]
  row := fun hn => by rw [List.getElem?_append_left (List.getElem?_eq_some_iff.1 (h.row hn)).1, h.row hn]
  tgs := fun u hu => by
    have := h.tgs u hu
    exact ⟨by rw [List.getElem?_append_left (List.getElem?_eq_some_iff.1 this.1).1, this.1], this.2⟩
  objs := h.objs
theorem SO.first {es : List Ent} {oo v uo : Nat} {L : List K3} {Q : Store} {out : List (Site × Nat)} (h : SO es oo L v Q uo out) (k : K3) (n : Int) (a : Go.PV.Obj) (X : Store)
    (hX : X = [a, .rows 63 3 [[.int .i64 k.1, .int .i64 k.2.1, .msl (Q.length + 4) 0]] 0, .rows 65 2 (encT [(k.2.2, n)]) 0]) : SO es oo L v (Q ++ X) (Q.length + 1) [(⟨k.1, k.2.1, [(k.2.2, n)]⟩, Q.length + 2)] where
  sums := (h.app X).sums
  ord := (h.app X).ord
  row := fun _ => by rw [gappk, hX]; rfl
  tgs := fun u hu => by
    rw [List.mem_singleton] at hu
    subst hu
    exact ⟨by rw [gappk, hX]; rfl, by simp⟩
  objs := by simp
theorem SO.more {es : List Ent} {oo v uo : Nat} {L : List K3} {Q : Store} {out : List (Site × Nat)} (h : SO es oo L v Q uo out) (hne : out ≠ []) (k : K3) (n : Int) (a : Go.PV.Obj) :
    SO es oo L v (Q.set uo (.rows 63 3 (encU (out ++ [(⟨k.1, k.2.1, [(k.2.2, n)]⟩, Q.length + 1)])) out.length) ++ [a, .rows 65 2 (encT [(k.2.2, n)]) 0]) uo (out ++ [(⟨k.1, k.2.1, [(k.2.2, n)]⟩, Q.length + 1)]) := by
  have hr := h.row hne
  have hul := (List.getElem?_eq_some_iff.1 hr).1
  have old : ∀ (o el sz w : Nat) (rows : List (List PV)) (X : Store) (y : Go.PV.Obj), uo ≠ o → Q[o]? = some (.rows el sz rows w) → (Q.set uo y ++ X)[o]? = some (.rows el sz rows w) := fun o el sz w rows X y hd hq => by
    rw [List.getElem?_append_left (by simpa using (List.getElem?_eq_some_iff.1 hq).1), List.getElem?_set_ne hd, hq]
  refine ⟨fun k o t hm => ?_, ?_, fun _ => ?_, fun u hu => ?_, ?_⟩
  · have hq := h.sums k o t hm
    exact ⟨old _ _ _ _ _ _ _ (fun e => by subst e; rw [hr] at hq; simp [sumO] at hq) hq.1, hq.2⟩
  · exact old _ _ _ _ _ _ _ (fun e => by have := h.ord; rw [← e, hr] at this; simp at this) h.ord
  · rw [List.getElem?_append_left (by simpa using hul), List.getElem?_set_self hul]
    simp
  · simp only [List.mem_append, List.mem_singleton] at hu
    rcases hu with hu | rfl
    · have hq := h.tgs u hu
      exact ⟨old _ _ _ _ _ _ _ (fun e => by have := hq.1; rw [← e, hr] at this; simp at this) hq.1, hq.2⟩
    · refine ⟨?_, by simp⟩
      have := gappk (Q.set uo (.rows 63 3 (encU (out ++ [(⟨k.1, k.2.1, [(k.2.2, n)]⟩, Q.length + 1)])) out.length)) [a, .rows 65 2 (encT [(k.2.2, n)]) 0] 1
      rw [List.length_set] at this
      rw [this]; rfl
  · rw [List.map_append, List.nodup_append]
    refine ⟨h.objs, by simp, fun x hx y hy e => ?_⟩
    simp at hy
    obtain ⟨u, hu, rfl⟩ := List.mem_map.1 hx
    have := (List.getElem?_eq_some_iff.1 (h.tgs u hu).1).1
    omega
theorem SO.same {es : List Ent} {oo v uo : Nat} {L : List K3} {Q : Store} {out : List (Site × Nat)} (h : SO es oo L v Q uo out) {i : Nat} (hi : out.length = i + 1) {lu : Site × Nat} (hlu : lu = out.getD i default) (k : K3) (n : Int) (X : Store) :
    SO es oo L v ((Q.set lu.2 (.rows 65 2 (encT (lu.1.tg ++ [(k.2.2, n)])) lu.1.tg.length)).set uo (.rows 63 3 (encU (out.set i (⟨k.1, k.2.1, lu.1.tg ++ [(k.2.2, n)]⟩, lu.2))) i) ++ X) uo (out.set i (⟨k.1, k.2.1, lu.1.tg ++ [(k.2.2, n)]⟩, lu.2)) := by
  have hne : out ≠ [] := fun e => by rw [e] at hi; simp at hi
  have hlm : lu ∈ out := by rw [hlu, List.getD_eq_getElem?_getD, List.getElem?_eq_getElem (show i < out.length by omega)]; simp
  have hli : out[i]? = some lu := by rw [hlu, List.getD_eq_getElem?_getD, List.getElem?_eq_getElem (show i < out.length by omega)]; rfl
  have hr := h.row hne
  have hul := (List.getElem?_eq_some_iff.1 hr).1
  have ht := (h.tgs lu hlm).1
  have htl := (List.getElem?_eq_some_iff.1 ht).1
  have hd : lu.2 ≠ uo := fun e => by rw [e, hr] at ht; simp at ht
  have old : ∀ (o el sz w : Nat) (rows : List (List PV)) (y z : Go.PV.Obj), lu.2 ≠ o → uo ≠ o → Q[o]? = some (.rows el sz rows w) → ((Q.set lu.2 y).set uo z ++ X)[o]? = some (.rows el sz rows w) := fun o el sz w rows y z hd hd2 hq => by
    rw [List.getElem?_append_left (by simpa using (List.getElem?_eq_some_iff.1 hq).1), List.getElem?_set_ne hd2, List.getElem?_set_ne hd, hq]
  refine ⟨fun k o t hm => ?_, ?_, fun _ => ?_, fun u hu => ?_, ?_⟩
  · have hq := h.sums k o t hm
    exact ⟨old _ _ _ _ _ _ _ (fun e => by subst e; rw [ht] at hq; simp [sumO] at hq) (fun e => by subst e; rw [hr] at hq; simp [sumO] at hq) hq.1, hq.2⟩
  · exact old _ _ _ _ _ _ _ (fun e => by have := h.ord; rw [← e, ht] at this; simp at this) (fun e => by have := h.ord; rw [← e, hr] at this; simp at this) h.ord
  · rw [List.getElem?_append_left (by simpa using hul), List.getElem?_set_self (by simpa using hul)]
    simp [hi]
  · obtain ⟨j, hj⟩ := List.mem_iff_getElem?.1 hu
    rw [List.getElem?_set] at hj
    split at hj
    · rename_i hij
      split at hj
      · cases hj
        refine ⟨?_, by simp⟩
        rw [List.getElem?_append_left (by simpa using htl), List.getElem?_set_ne (Ne.symm hd), List.getElem?_set_self htl]
        simp
      · cases hj
    · rename_i hij
      have hum : u ∈ out := List.mem_of_getElem? hj
      have hq := h.tgs u hum
      refine ⟨old _ _ _ _ _ _ _ (fun e => ?_) (fun e => by have := hq.1; rw [← e, hr] at this; simp at this) hq.1, hq.2⟩
      have hx : (out.map (·.2))[i]? = (out.map (·.2))[j]? := by
        rw [List.getElem?_map, List.getElem?_map, hli, hj]; simp [e]
      have := (List.getElem?_inj (by simp; omega) h.objs).1 hx
      exact hij this
  · have : (out.set i (⟨k.1, k.2.1, lu.1.tg ++ [(k.2.2, n)]⟩, lu.2)).map (·.2) = out.map (·.2) := by
      rw [List.map_set]
      apply List.ext_getElem?
      intro j
      rw [List.getElem?_set]
      split
      · rename_i e
        subst e
        rw [List.getElem?_map, hli]
        simp; omega
      · rfl
    rw [this]; exact h.objs
end Go.Proofs.Ythginmfobikdgaa
