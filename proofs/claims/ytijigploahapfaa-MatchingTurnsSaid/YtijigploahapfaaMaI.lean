/- Chapter 28, plain: all stable matchings match the same rows. -/
import Derived.Test.YtijigploahapfaaMaG
set_option linter.unusedVariables false
namespace Go.Proofs.Ytijigploahapfaa
open Go.PV

theorem nodup_sub : ∀ (l l' : List Nat), l.Nodup → (∀ x ∈ l, x ∈ l') → l.length ≤ l'.length
  | [], _, _, _ => Nat.zero_le _
  | x :: l, l', hn, hs => by
    obtain ⟨h1, h2⟩ := List.nodup_cons.1 hn
    have hx : x ∈ l' := hs x (by simp)
    have := nodup_sub l (l'.erase x) h2 (fun y hy => (List.mem_erase_of_ne (show y ≠ x from fun e => h1 (by rw [← e]; exact hy))).2 (hs y (by simp [hy])))
    rw [List.length_erase_of_mem hx] at this
    have := List.length_pos_of_mem hx
    simp only [List.length_cons]; omega

variable {rows cols : List (List Int)} {a b m : List Int}

/-- Who is matched in the best one is matched, as to the column, in every one. -/
theorem col_of (hp : okPrefs rows cols) (hb : Opt rows cols b) (hm : Stab rows cols m) {i : Nat} (hi : i < rows.length) (h : b.getD i 0 ≠ -1) : ∃ i', i' < rows.length ∧ m.getD i' 0 = b.getD i 0 := by
  rcases hb.1.1.ok i hi with e | ⟨j, e, hj, h1, h2⟩
  · exact absurd e h
  · by_cases hmi : m.getD i 0 = j
    · exact ⟨i, hi, by rw [hmi, e]⟩
    · have hpref : m.getD i 0 = -1 ∨ rk (rows.getD i []) j < rk (rows.getD i []) (m.getD i 0) := by
        rcases hb.2 m hm i hi with h3 | ⟨_, h3⟩
        · exact .inl h3
        · rw [e] at h3
          rcases hm.1.ok i hi with h4 | ⟨j2, h4, _, h5, _⟩
          · exact .inl h4
          · refine .inr (Nat.lt_of_le_of_ne h3 (fun h6 => hmi ?_))
            rw [h4]
            rw [h4] at h6
            exact (rk_inj (hp.row hi).1 h1 h5 h6).symm
      have hnb := hm.2 i j
      refine Classical.byContradiction fun hno => hnb ⟨hi, hj, h1, h2, hpref, fun i' hi' he => absurd ⟨i', hi', by rw [he, e]⟩ hno⟩

def matched (rows : List (List Int)) (m : List Int) : List Nat := (List.range rows.length).filter fun i => decide (m.getD i 0 ≠ -1)
theorem mem_matched {i : Nat} : i ∈ matched rows m ↔ i < rows.length ∧ m.getD i 0 ≠ -1 := by
  simp [matched]
theorem nodup_matched : (matched rows m).Nodup := List.Pairwise.filter _ List.nodup_range

theorem same_rows (hp : okPrefs rows cols) (hb : Opt rows cols b) (hm : Stab rows cols m) {i : Nat} (hi : i < rows.length) : m.getD i 0 = -1 ↔ b.getD i 0 = -1 := by
  constructor
  · intro h
    refine Classical.byContradiction fun hne => ?_
    have hex : ∀ x ∈ matched rows b, ∃ i', i' < rows.length ∧ m.getD i' 0 = b.getD x 0 := fun x hx => col_of hp hb hm (mem_matched.1 hx).1 (mem_matched.1 hx).2
    let f : Nat → Nat := fun x => if hx : x ∈ matched rows b then (hex x hx).choose else 0
    have hf : ∀ x, x ∈ matched rows b → f x < rows.length ∧ m.getD (f x) 0 = b.getD x 0 := fun x hx => by
      simp only [f, hx, dif_pos]; exact (hex x hx).choose_spec
    have h1 : ((matched rows b).map f).Nodup := by
      refine List.pairwise_map.2 ?_
      refine (nodup_matched (rows := rows) (m := b)).imp_of_mem ?_
      intro x y hx hy hxy e
      have e2 : b.getD x 0 = b.getD y 0 := by rw [← (hf x hx).2, ← (hf y hy).2, e]
      exact hxy (hb.1.1.inj x y (mem_matched.1 hx).1 (mem_matched.1 hy).1 e2 (mem_matched.1 hx).2)
    have h2 : ∀ y ∈ (matched rows b).map f, y ∈ matched rows m := fun y hy => by
      obtain ⟨x, hx, rfl⟩ := List.mem_map.1 hy
      exact mem_matched.2 ⟨(hf x hx).1, by rw [(hf x hx).2]; exact (mem_matched.1 hx).2⟩
    have h3 := nodup_sub _ _ h1 h2
    have h4 : ∀ y ∈ i :: matched rows m, y ∈ matched rows b := fun y hy => by
      rcases List.mem_cons.1 hy with rfl | hy
      · exact mem_matched.2 ⟨hi, hne⟩
      · obtain ⟨g1, g2⟩ := mem_matched.1 hy
        refine mem_matched.2 ⟨g1, ?_⟩
        rcases hb.2 m hm y g1 with g | g
        · exact absurd g g2
        · exact g.1
    have h5 := nodup_sub (i :: matched rows m) _ (List.nodup_cons.2 ⟨fun h6 => (mem_matched.1 h6).2 h, nodup_matched⟩) h4
    simp only [List.length_map, List.length_cons] at h3 h5
    omega
  · intro h
    rcases hb.2 m hm i hi with g | g
    · exact g
    · exact absurd h g.1
end Go.Proofs.Ytijigploahapfaa
