/- Chapter 28, the walks: Blocking. -/
import Derived.Test.YtijigploahapfaaMaD
set_option linter.unusedSimpArgs false
namespace Go.Proofs.Ytijigploahapfaa
open Go.PV

def blockingK (rows cols : List (List Int)) (m : List Int) (p : PV) : Prop := (okPrefs rows cols ∧ Stab rows cols m ∧ p = .bool false) ∨ (¬ (okPrefs rows cols ∧ Stab rows cols m) ∧ p = .bool true)

/-- The partners of the first i rows. -/
structure Part (rows cols : List (List Int)) (m of : List Int) (i : Nat) : Prop where
  len : of.length = cols.length
  row : ∀ a, a < i → m.getD a 0 = -1 ∨ ∃ j : Nat, m.getD a 0 = j ∧ j < cols.length ∧ (j : Int) ∈ rows.getD a [] ∧ (a : Int) ∈ cols.getD j [] ∧ of.getD j 0 = a
  col : ∀ j, j < cols.length → of.getD j 0 = -1 ∨ ∃ a : Nat, of.getD j 0 = a ∧ a < i ∧ m.getD a 0 = j

theorem Part.init (rows cols : List (List Int)) (m : List Int) : Part rows cols m (List.replicate cols.length (-1)) 0 :=
  ⟨by simp, fun a h => absurd h (Nat.not_lt_zero _), fun j hj => .inl (by simp [List.getD_eq_getElem?_getD, hj])⟩

theorem Part.skip {rows cols : List (List Int)} {m of : List Int} {i : Nat} (h : Part rows cols m of i) (hm : m.getD i 0 = -1) : Part rows cols m of (i + 1) :=
  ⟨h.len, fun a ha => by
    by_cases he : a = i
    · rw [he]; exact .inl hm
    · exact h.row a (by omega), fun j hj => (h.col j hj).imp id fun ⟨a, h1, h2, h3⟩ => ⟨a, h1, by omega, h3⟩⟩

theorem Part.put {rows cols : List (List Int)} {m of : List Int} {i j : Nat} (h : Part rows cols m of i) (hm : m.getD i 0 = j) (hj : j < cols.length) (h1 : (j : Int) ∈ rows.getD i []) (h2 : (i : Int) ∈ cols.getD j []) (h3 : of.getD j 0 = -1) : Part rows cols m (of.set j (i : Int)) (i + 1) := by
  have hs : ∀ b, (of.set j (i : Int)).getD b 0 = if b = j then (i : Int) else of.getD b 0 := fun b => set_getD _ _ _ _ (by rw [h.len]; exact hj)
  refine ⟨by rw [List.length_set]; exact h.len, fun a ha => ?_, fun b hb => ?_⟩
  · by_cases he : a = i
    · rw [he]; exact .inr ⟨j, hm, hj, h1, h2, by rw [hs, if_pos rfl]⟩
    · rcases h.row a (by omega) with h4 | ⟨b, g1, g2, g3, g4, g5⟩
      · exact .inl h4
      · have hbj : b ≠ j := fun e => by rw [e, h3] at g5; omega
        exact .inr ⟨b, g1, g2, g3, g4, by rw [hs, if_neg hbj]; exact g5⟩
  · rw [hs]
    by_cases he : b = j
    · rw [if_pos he, he]; exact .inr ⟨i, rfl, by omega, hm⟩
    · rw [if_neg he]
      exact (h.col b hb).imp id fun ⟨a, g1, g2, g3⟩ => ⟨a, g1, by omega, g3⟩

theorem Part.isMatch {rows cols : List (List Int)} {m of : List Int} (h : Part rows cols m of rows.length) (hl : m.length = rows.length) : IsMatch rows cols m :=
  ⟨hl, fun i hi => (h.row i hi).imp id fun ⟨j, g1, g2, g3, g4, _⟩ => ⟨j, g1, g2, g3, g4⟩, fun i i' hi hi' he hne => by
    rcases h.row i hi with h1 | ⟨j, g1, g2, g3, g4, g5⟩
    · exact absurd h1 hne
    · rcases h.row i' hi' with h1' | ⟨j', g1', _, _, _, g5'⟩
      · rw [he] at hne; exact absurd h1' hne
      · have : j = j' := by rw [g1, g1'] at he; omega
        subst this
        rw [g5] at g5'; omega⟩

/-- What Blocking asks of a row and a column. -/
theorem blk_iff {rows cols : List (List Int)} {m of : List Int} (h : Part rows cols m of rows.length) {i j : Nat} (hi : i < rows.length) (hj : j < cols.length) (hmem : (j : Int) ∈ rows.getD i []) :
    Blk rows cols m i j ↔ 0 < rk (cols.getD j []) i ∧ (m.getD i 0 = -1 ∨ rk (rows.getD i []) j < rk (rows.getD i []) (m.getD i 0)) ∧ (of.getD j 0 = -1 ∨ ∃ a : Nat, of.getD j 0 = a ∧ rk (cols.getD j []) i < rk (cols.getD j []) a) := by
  rw [rk_pos]
  constructor
  · rintro ⟨_, _, _, h2, h3, h4⟩
    refine ⟨h2, h3, (h.col j hj).imp id fun ⟨a, g1, g2, g3⟩ => ⟨a, g1, h4 a g2 g3⟩⟩
  · rintro ⟨h2, h3, h4⟩
    refine ⟨hi, hj, hmem, h2, h3, fun a ha hma => ?_⟩
    rcases h.row a ha with h5 | ⟨b, g1, g2, g3, g4, g5⟩
    · rw [h5] at hma; omega
    · have : b = j := by rw [g1] at hma; omega
      subst this
      rcases h4 with h4 | ⟨c, h4, h6⟩
      · rw [h4] at g5; omega
      · have : c = a := by rw [h4] at g5; omega
        subst this; exact h6
end Go.Proofs.Ytijigploahapfaa
