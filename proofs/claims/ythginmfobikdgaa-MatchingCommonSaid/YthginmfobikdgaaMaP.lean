/- Chapter 28, plain: preferences, ranks. -/
import Derived.Test.YthginmfobikdgaaPvN
namespace Go.Proofs.Ythginmfobikdgaa
open Go.PV

/-- A list of different numbers below n. -/
def okList (n : Nat) (l : List Int) : Prop := l.Nodup ∧ ∀ x ∈ l, 0 ≤ x ∧ x < n
def okSide (n : Nat) (l : List (List Int)) : Prop := ∀ li ∈ l, okList n li

theorem okList.take {n : Nat} {l : List Int} (h : okList n l) (k : Nat) : okList n (l.take k) :=
  ⟨h.1.sublist (List.take_sublist k l), fun x hx => h.2 x (List.mem_of_mem_take hx)⟩

theorem take_succ_getD (l : List Int) (k : Nat) (hk : k < l.length) : l.take (k + 1) = l.take k ++ [l.getD k 0] := by
  rw [List.take_add_one, List.getElem?_eq_getElem hk, Option.toList_some, List.getD_eq_getElem?_getD, List.getElem?_eq_getElem hk, Option.getD_some]
theorem takes_succ_getD (l : List (List Int)) (k : Nat) (hk : k < l.length) : l.take (k + 1) = l.take k ++ [l.getD k []] := by
  rw [List.take_add_one, List.getElem?_eq_getElem hk, Option.toList_some, List.getD_eq_getElem?_getD, List.getElem?_eq_getElem hk, Option.getD_some]

theorem okList_succ {n : Nat} {l : List Int} {k : Nat} (hk : k < l.length) (h : okList n (l.take k)) (h0 : 0 ≤ l.getD k 0) (h1 : l.getD k 0 < n) (h2 : l.getD k 0 ∉ l.take k) : okList n (l.take (k + 1)) := by
  rw [take_succ_getD l k hk]
  refine ⟨List.nodup_append.2 ⟨h.1, by simp, fun a ha b hb => ?_⟩, fun x hx => ?_⟩
  · rw [List.mem_singleton] at hb
    rw [hb]
    exact fun e => h2 (e ▸ ha)
  · rcases List.mem_append.1 hx with hx | hx
    · exact h.2 x hx
    · rw [List.mem_singleton] at hx
      rw [hx]; exact ⟨h0, h1⟩

theorem okList_at {n : Nat} {l : List Int} {k : Nat} (hk : k < l.length) (h : okList n l) : 0 ≤ l.getD k 0 ∧ l.getD k 0 < n ∧ l.getD k 0 ∉ l.take k := by
  have h1 := h.take (k + 1)
  rw [take_succ_getD l k hk] at h1
  have h2 := h1.2 (l.getD k 0) (by simp)
  refine ⟨h2.1, h2.2, fun hm => ?_⟩
  exact (List.nodup_append.1 h1.1).2.2 _ hm _ (by simp) rfl

/-- As many different numbers below n as n. -/
theorem pigeon : ∀ (n : Nat) (l : List Int), okList n l → l.length ≤ n
  | 0, l, h => by
    cases l with
    | nil => exact Nat.le_refl _
    | cons x l => have := h.2 x (by simp); omega
  | n + 1, l, h => by
    have h1 := pigeon n (l.erase (n : Int)) ⟨h.1.erase _, fun x hx => by
      obtain ⟨h2, h3⟩ := (h.1.mem_erase_iff).1 hx
      have := h.2 x h3
      omega⟩
    by_cases hm : (n : Int) ∈ l
    · rw [List.length_erase_of_mem hm] at h1
      omega
    · rw [List.erase_of_not_mem hm] at h1
      omega

/-- The rank of a number in a list, from 1 on; 0: not in it. -/
def rk (l : List Int) (x : Int) : Nat := if x ∈ l then l.idxOf x + 1 else 0

theorem rk_pos {l : List Int} {x : Int} : 0 < rk l x ↔ x ∈ l := by
  unfold rk
  split <;> simp_all
theorem rk_snoc {l : List Int} {x y : Int} (hx : x ∉ l) : rk (l ++ [x]) y = if y = x then l.length + 1 else rk l y := by
  unfold rk
  by_cases h : y = x
  · subst h
    rw [if_pos (by simp), if_pos rfl, List.idxOf_append, if_neg hx]
    simp
  · rw [if_neg h]
    by_cases hy : y ∈ l
    · rw [if_pos (by simp [hy]), if_pos hy, List.idxOf_append, if_pos hy]
    · rw [if_neg (by simp [hy, h]), if_neg hy]
theorem rk_le (l : List Int) (x : Int) : rk l x ≤ l.length := by
  unfold rk
  split
  · rename_i h
    exact List.idxOf_lt_length_of_mem h
  · exact Nat.zero_le _

/-- The table of ranks of a side. -/
def rkRow (l : List (List Int)) : List PV := (List.range 65536).map fun c => .int .i16 (rk (l.getD (c / 256) []) ((c % 256 : Nat) : Int))

theorem rkRow_length (l : List (List Int)) : (rkRow l).length = 65536 := by simp [rkRow]
theorem rkRow_getD (l : List (List Int)) (i j : Nat) (hi : i < 256) (hj : j < 256) : (rkRow l).getD (i * 256 + j) .unk = .int .i16 (rk (l.getD i []) (j : Int)) := by
  have h1 : (i * 256 + j) / 256 = i := by omega
  have h2 : (i * 256 + j) % 256 = j := by omega
  rw [rkRow, List.getD_eq_getElem?_getD, List.getElem?_map, List.getElem?_range (by omega), Option.map_some, Option.getD_some, h1, h2]
theorem rkRow_bel (k : Nat) (l : List (List Int)) : ∀ p ∈ rkRow l, Bel k p := fun p hp => by
  obtain ⟨c, _, rfl⟩ := List.mem_map.1 hp
  exact bel_int _ _ _
theorem getD_snoc_nil (l : List (List Int)) (i : Nat) : (l ++ [[]]).getD i [] = l.getD i [] := by
  rw [List.getD_eq_getElem?_getD, List.getD_eq_getElem?_getD, List.getElem?_append]
  split
  · rfl
  · rename_i h
    rw [List.getElem?_eq_none (l := l) (by omega)]
    cases hh : i - l.length with
    | zero => rfl
    | succ m => rfl
theorem rkRow_snoc_nil (l : List (List Int)) : rkRow (l ++ [[]]) = rkRow l := by
  unfold rkRow
  refine List.map_congr_left (fun c _ => ?_)
  rw [getD_snoc_nil]
theorem rkRow_nil : rkRow [] = List.replicate 65536 (.int .i16 0) := by
  unfold rkRow
  rw [List.map_congr_left (g := fun _ => PV.int .i16 0) (fun c _ => by simp [rk])]
  rw [List.map_const', List.length_range]
theorem splice_set (row : List PV) (off : Nat) (x : PV) (h : off < row.length) : splice row off [x] = row.set off x := by
  unfold splice
  apply List.ext_getElem?
  intro i
  rw [List.getElem?_set, List.append_assoc, List.getElem?_append, List.length_take, Nat.min_eq_left (by omega)]
  by_cases h1 : i < off
  · rw [if_pos h1, if_neg (by omega), List.getElem?_take, if_pos h1]
  · rw [if_neg h1]
    by_cases h2 : i = off
    · subst h2; simp [h]
    · rw [if_neg (by omega)]
      obtain ⟨m, rfl⟩ : ∃ m, i = off + (m + 1) := ⟨i - off - 1, by omega⟩
      rw [show off + (m + 1) - off = m + 1 from by omega]
      simp only [List.cons_append, List.nil_append, List.getElem?_cons_succ, List.getElem?_drop, List.length_cons, List.length_nil]
      congr 1; omega
theorem getD_last (l : List (List Int)) (x : List Int) (i : Nat) : (l ++ [x]).getD i [] = if i = l.length then x else l.getD i [] := by
  rw [List.getD_eq_getElem?_getD, List.getD_eq_getElem?_getD, List.getElem?_append]
  by_cases h : i < l.length
  · rw [if_pos h, if_neg (by omega)]
  · rw [if_neg h]
    by_cases h2 : i = l.length
    · rw [if_pos h2, h2, Nat.sub_self]; rfl
    · rw [if_neg h2, List.getElem?_eq_none (l := l) (by omega), List.getElem?_eq_none (by simp; omega)]
theorem rkRow_step (l : List (List Int)) (li : List Int) (x : Nat) (hl : l.length < 256) (hx : x < 256) (hn : (x : Int) ∉ li) :
    splice (rkRow (l ++ [li])) (l.length * 256 + x) [.int .i16 ((li.length + 1 : Nat) : Int)] = rkRow (l ++ [li ++ [(x : Int)]]) := by
  rw [splice_set _ _ _ (by rw [rkRow_length]; omega)]
  apply List.ext_getElem?
  intro c
  rw [List.getElem?_set, rkRow_length]
  by_cases hc : c < 65536
  · simp only [rkRow, List.getElem?_map, List.getElem?_range hc, Option.map_some, getD_last]
    by_cases h1 : c / 256 = l.length
    · rw [if_pos h1, if_pos h1, rk_snoc hn]
      by_cases h2 : c % 256 = x
      · rw [if_pos (by omega), if_pos (by omega), if_pos (by omega)]
      · rw [if_neg (by omega), if_neg (by omega)]
    · rw [if_neg h1, if_neg h1, if_neg (by omega)]
  · rw [if_neg (by omega)]
    simp [rkRow, hc]
end Go.Proofs.Ythginmfobikdgaa
