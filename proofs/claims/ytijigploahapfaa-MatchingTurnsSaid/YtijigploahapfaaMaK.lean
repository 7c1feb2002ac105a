/- Chapter 28, plain: a matching turned round. -/
import Derived.Test.YtijigploahapfaaMaI
set_option linter.unusedVariables false
namespace Go.Proofs.Ytijigploahapfaa
open Go.PV

/-- t is b turned round, as far as its first k columns go. -/
structure Turned (n : Nat) (b t : List Int) (k : Nat) : Prop where
  len : t.length = n
  row : ∀ i, i < n → t.getD i 0 = -1 ∨ ∃ j : Nat, j < k ∧ t.getD i 0 = j ∧ b.getD j 0 = i
  col : ∀ j, j < k → b.getD j 0 = -1 ∨ ∃ i : Nat, b.getD j 0 = i ∧ i < n ∧ t.getD i 0 = j

theorem Turned.init (n : Nat) (b : List Int) : Turned n b (List.replicate n (-1)) 0 :=
  ⟨by simp, fun i hi => .inl (by simp [List.getD_eq_getElem?_getD, hi]), fun j h => absurd h (Nat.not_lt_zero _)⟩
theorem Turned.skip {n : Nat} {b t : List Int} {k : Nat} (h : Turned n b t k) (hb : b.getD k 0 = -1) : Turned n b t (k + 1) :=
  ⟨h.len, fun i hi => (h.row i hi).imp id fun ⟨j, h1, h2⟩ => ⟨j, by omega, h2⟩, fun j hj => by
    by_cases he : j = k
    · rw [he]; exact .inl hb
    · exact h.col j (by omega)⟩
theorem Turned.put {n : Nat} {b t : List Int} {k i : Nat} (h : Turned n b t k) (hb : b.getD k 0 = i) (hi : i < n) (hinj : ∀ j, j < k → b.getD j 0 ≠ i) : Turned n b (t.set i (k : Int)) (k + 1) := by
  have hs : ∀ x, (t.set i (k : Int)).getD x 0 = if x = i then (k : Int) else t.getD x 0 := fun x => set_getD _ _ _ _ (by rw [h.len]; exact hi)
  refine ⟨by rw [List.length_set]; exact h.len, fun x hx => ?_, fun j hj => ?_⟩
  · rw [hs]
    by_cases he : x = i
    · rw [if_pos he, he]; exact .inr ⟨k, by omega, rfl, hb⟩
    · rw [if_neg he]
      exact (h.row x hx).imp id fun ⟨j, h1, h2⟩ => ⟨j, by omega, h2⟩
  · by_cases he : j = k
    · rw [he]; exact .inr ⟨i, hb, hi, by rw [hs, if_pos rfl]⟩
    · refine (h.col j (by omega)).imp id fun ⟨x, h1, h2, h3⟩ => ⟨x, h1, h2, ?_⟩
      have : x ≠ i := fun e => hinj j (by omega) (by rw [h1, e])
      rw [hs, if_neg this]; exact h3

theorem Turned.stab {rows cols : List (List Int)} {b t : List Int} (h : Turned rows.length b t cols.length) (hb : Stab cols rows b) : Stab rows cols t := by
  refine ⟨⟨h.len, fun i hi => ?_, fun i i' hi hi' he hne => ?_⟩, fun i j hbl => ?_⟩
  · refine (h.row i hi).imp id fun ⟨j, h1, h2, h3⟩ => ?_
    rcases hb.1.ok j h1 with h4 | ⟨i2, h4, h5, h6, h7⟩
    · rw [h3] at h4; omega
    · have : i2 = i := by rw [h3] at h4; omega
      subst this
      exact ⟨j, h2, h1, h7, h6⟩
  · rcases h.row i hi with h1 | ⟨j, h1, h2, h3⟩
    · exact absurd h1 hne
    · rcases h.row i' hi' with h4 | ⟨j', h4, h5, h6⟩
      · rw [he] at hne; exact absurd h4 hne
      · have : j = j' := by rw [h2, h5] at he; omega
        subst this
        rw [h3] at h6; omega
  · obtain ⟨hi, hj, h1, h2, h3, h4⟩ := hbl
    refine hb.2 j i ⟨hj, hi, h2, h1, ?_, fun j' hj' he => ?_⟩
    · refine (h.col j hj).imp id fun ⟨i2, g1, g2, g3⟩ => ?_
      rw [g1]; exact h4 i2 g2 g3
    · rcases h.col j' hj' with g | ⟨i2, g1, g2, g3⟩
      · rw [he] at g; omega
      · have : i2 = i := by rw [he] at g1; omega
        subst this
        rcases h3 with h3 | h3
        · rw [h3] at g3; omega
        · rw [g3] at h3; exact h3
theorem okPrefs.turn {rows cols : List (List Int)} (h : okPrefs rows cols) : okPrefs cols rows := ⟨h.2.1, h.1, h.2.2.2, h.2.2.1⟩
end Go.Proofs.Ytijigploahapfaa
