/- Chapter 28, plain: how many elements two lists have in common; counting maps. -/
import Derived.Test.YthginmfobikdgaaPvX
set_option linter.unusedSimpArgs false
set_option linter.unusedVariables false
namespace Go.Proofs.Ythginmfobikdgaa
open Go.PV

/-! Maps from integers to integers. -/
def encM (kk vk : IntKind) (l : List (Int × Int)) : List (PV × PV) := l.map fun e => (PV.int kk e.1, PV.int vk e.2)
def mget : List (Int × Int) → Int → Int
  | [], _ => 0
  | (k, v) :: l, a => if a = k then v else mget l a
def mput : List (Int × Int) → Int → Int → List (Int × Int)
  | [], a, b => [(a, b)]
  | (k, v) :: l, a, b => if a = k then (a, b) :: l else (k, v) :: mput l a b
theorem mget_mput (a b c : Int) : ∀ l : List (Int × Int), mget (mput l a b) c = if c = a then b else mget l c
  | [] => by simp [mput, mget]
  | (k, v) :: l => by
    by_cases h : a = k
    · subst h
      simp only [mput, if_true, mget]
      by_cases hc : c = a <;> simp [hc]
    · simp only [mput, h, if_false, mget, mget_mput a b c l]
      by_cases hc : c = k
      · subst hc
        rw [if_pos rfl, if_neg (fun e => h e.symm), if_pos rfl]
      · rw [if_neg hc, if_neg hc]

theorem findP_enc (kk vk : IntKind) (a b : Int) : ∀ (l : List (Int × Int)) (i : Nat),
    (∃ j, findP (.int kk a) (encM kk vk l) i = some (some (i + j, .int vk (mget l a))) ∧ (encM kk vk l).set j (.int kk a, .int vk b) = encM kk vk (mput l a b)) ∨
    (findP (.int kk a) (encM kk vk l) i = some none ∧ mget l a = 0 ∧ encM kk vk l ++ [(.int kk a, .int vk b)] = encM kk vk (mput l a b))
  | [], i => .inr ⟨rfl, rfl, rfl⟩
  | (k, v) :: l, i => by
    by_cases h : a = k
    · subst h
      exact .inl ⟨0, by simp [encM, findP, sameK, mget], by simp [encM, mput]⟩
    · have hs : findP (.int kk a) (encM kk vk ((k, v) :: l)) i = findP (.int kk a) (encM kk vk l) (i + 1) := by
        have hb : (a == k) = false := by simpa using h
        simp [encM, findP, sameK, hb]
      rcases findP_enc kk vk a b l (i + 1) with ⟨j, h1, h2⟩ | ⟨h1, h2, h3⟩
      · refine .inl ⟨j + 1, ?_, ?_⟩
        · rw [hs, h1, mget, if_neg h]; congr 3; omega
        · rw [mput, if_neg h]
          simp only [encM, List.map_cons, List.set_cons_succ] at h2 ⊢
          rw [h2]
      · refine .inr ⟨by rw [hs, h1], by rw [mget, if_neg h, h2], ?_⟩
        rw [mput, if_neg h]
        simp only [encM, List.map_cons, List.cons_append] at h3 ⊢
        rw [h3]
theorem findP_some (kk vk : IntKind) (a : Int) (l : List (Int × Int)) : (findP (.int kk a) (encM kk vk l) 0).isSome = true := by
  rcases findP_enc kk vk a 0 l 0 with ⟨j, h, _⟩ | ⟨h, _⟩ <;> rw [h] <;> rfl
theorem mgetP_enc (kk vk : IntKind) (a : Int) (l : List (Int × Int)) : mgetP (encM kk vk l) (.int kk a) (.int vk 0) = .int vk (mget l a) := by
  unfold mgetP
  rcases findP_enc kk vk a 0 l 0 with ⟨j, h, _⟩ | ⟨h, h2, _⟩ <;> rw [h]
  rw [h2]
theorem mputP_enc (kk vk : IntKind) (a b : Int) (l : List (Int × Int)) : mputP (encM kk vk l) (.int kk a) (.int vk b) = encM kk vk (mput l a b) := by
  unfold mputP
  rcases findP_enc kk vk a b l 0 with ⟨j, h, h2⟩ | ⟨h, _, h2⟩ <;> rw [h]
  · simp only [Nat.zero_add]; exact h2
  · exact h2
theorem encM_nil (kk vk : IntKind) : encM kk vk [] = [] := rfl

/-! Elements in common, of numbers from 0 to 5. -/
def six (l : List Int) : Prop := ∀ x ∈ l, 0 ≤ x ∧ x < 6
def com (a b : List Int) : Nat := min (a.count 0) (b.count 0) + min (a.count 1) (b.count 1) + min (a.count 2) (b.count 2) + min (a.count 3) (b.count 3) + min (a.count 4) (b.count 4) + min (a.count 5) (b.count 5)
theorem com_nil (a : List Int) : com a [] = 0 := by simp [com]
theorem six_cases {x : Int} (h : 0 ≤ x ∧ x < 6) : x = 0 ∨ x = 1 ∨ x = 2 ∨ x = 3 ∨ x = 4 ∨ x = 5 := by omega
theorem com_snoc (a b : List Int) {x : Int} (hx : 0 ≤ x ∧ x < 6) : com a (b ++ [x]) = if b.count x < a.count x then com a b + 1 else com a b := by
  rcases six_cases hx with rfl | rfl | rfl | rfl | rfl | rfl <;> simp [com, List.count_append, List.count_singleton] <;> split <;> omega
theorem com_comm (a b : List Int) : com a b = com b a := by simp only [com, Nat.min_comm]
theorem com_perm {a a' : List Int} (h : ∀ v, a.count v = a'.count v) (b : List Int) : com a b = com a' b := by simp only [com, h]
theorem com_self {a : List Int} (h : six a) : com a a = a.length := by
  induction a with
  | nil => rfl
  | cons x a ih =>
    have hx := h x (by simp)
    have ih := ih (fun y hy => h y (by simp [hy]))
    simp only [com, Nat.min_self] at ih ⊢
    rcases six_cases hx with rfl | rfl | rfl | rfl | rfl | rfl <;> simp [List.count_cons] <;> omega
theorem com_le (a b : List Int) (n : Nat) (h : ∀ v, a.count v ≤ n) : com a b ≤ 6 * n := by
  have h0 := h 0; have h1 := h 1; have h2 := h 2; have h3 := h 3; have h4 := h 4; have h5 := h 5
  unfold com; omega
theorem com_le_len (a b : List Int) : com a b ≤ 6 * a.length := com_le a b _ (fun v => List.count_le_length)

/-- A rotated list. -/
def rot (l : List Int) (t : Nat) : List Int := (List.range l.length).map fun i => l.getD ((i + t) % l.length) 0
theorem rot_count (l : List Int) (t : Nat) (v : Int) : (rot l t).count v = l.count v := by
  by_cases hl : l = []
  · subst hl; rfl
  have hpos : 0 < l.length := List.length_pos_iff.2 hl
  have e : rot l t = l.drop (t % l.length) ++ l.take (t % l.length) := by
    have hlt : t % l.length < l.length := Nat.mod_lt _ hpos
    apply List.ext_getElem
    · simp [rot]; omega
    · intro i h1 h2
      simp only [rot, List.getElem_map, List.getElem_range]
      have hi : i < l.length := by simpa [rot] using h1
      have hm : (i + t) % l.length = if i + t % l.length < l.length then i + t % l.length else i + t % l.length - l.length := by
        have : (i + t) % l.length = (i + t % l.length) % l.length := by rw [Nat.add_mod, Nat.mod_eq_of_lt hi]
        rw [this]
        split
        · rename_i h; exact Nat.mod_eq_of_lt h
        · rename_i h
          rw [Nat.mod_eq_sub_mod (by omega), Nat.mod_eq_of_lt (by omega)]
      have hg : ∀ q, (hq : q < l.length) → l.getD q 0 = l[q] := fun q hq => by rw [List.getD_eq_getElem?_getD, List.getElem?_eq_getElem hq]; rfl
      rw [List.getElem_append]
      split
      · rename_i h
        rw [List.length_drop] at h
        rw [List.getElem_drop, hg _ (Nat.mod_lt _ hpos)]
        congr 1
        rw [hm, if_pos (by omega)]; omega
      · rename_i h
        rw [List.length_drop] at h
        rw [List.getElem_take, hg _ (Nat.mod_lt _ hpos)]
        congr 1
        rw [hm, if_neg (by omega), List.length_drop]; omega
  rw [e, List.count_append, Nat.add_comm, ← List.count_append, List.take_append_drop]
theorem rot_length (l : List Int) (t : Nat) : (rot l t).length = l.length := by simp [rot]

/-- How often a number was seen: one step. -/
theorem count_take_succ (l : List Int) (i : Nat) (h : i < l.length) (v : Int) : (l.take (i + 1)).count v = (l.take i).count v + if v = l.getD i 0 then 1 else 0 := by
  have : l.take (i + 1) = l.take i ++ [l.getD i 0] := by
    rw [List.take_add_one, List.getElem?_eq_getElem h, List.getD_eq_getElem?_getD, List.getElem?_eq_getElem h]; rfl
  rw [this, List.count_append, List.count_singleton]
  by_cases hv : v = l.getD i 0
  · rw [if_pos hv, hv]; simp
  · rw [if_neg hv, if_neg]; simp; exact fun e => hv e.symm
end Go.Proofs.Ythginmfobikdgaa
