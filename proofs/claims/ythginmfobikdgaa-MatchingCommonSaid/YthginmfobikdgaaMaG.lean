/- Chapter 28, plain: stable matchings, and what a run of proposals comes to. -/
import Derived.Test.YthginmfobikdgaaMaP
set_option linter.unusedSimpArgs false
set_option linter.unusedVariables false
namespace Go.Proofs.Ythginmfobikdgaa
open Go.PV

/-- Preferences that are valid. -/
def okPrefs (rows cols : List (List Int)) : Prop := rows.length ≤ 256 ∧ cols.length ≤ 256 ∧ okSide cols.length rows ∧ okSide rows.length cols

structure IsMatch (rows cols : List (List Int)) (m : List Int) : Prop where
  len : m.length = rows.length
  ok : ∀ i, i < rows.length → m.getD i 0 = -1 ∨ (∃ j : Nat, m.getD i 0 = j ∧ j < cols.length ∧ (j : Int) ∈ rows.getD i [] ∧ (i : Int) ∈ cols.getD j [])
  inj : ∀ i i', i < rows.length → i' < rows.length → m.getD i 0 = m.getD i' 0 → m.getD i 0 ≠ -1 → i = i'

/-- Row i and column j would have each other. -/
def Blk (rows cols : List (List Int)) (m : List Int) (i j : Nat) : Prop :=
  i < rows.length ∧ j < cols.length ∧ (j : Int) ∈ rows.getD i [] ∧ (i : Int) ∈ cols.getD j [] ∧ (m.getD i 0 = -1 ∨ rk (rows.getD i []) j < rk (rows.getD i []) (m.getD i 0)) ∧
  ∀ i', i' < rows.length → m.getD i' 0 = j → rk (cols.getD j []) i < rk (cols.getD j []) i'

def Stab (rows cols : List (List Int)) (m : List Int) : Prop := IsMatch rows cols m ∧ ∀ i j, ¬ Blk rows cols m i j

/-- Stable, and no row has a better column in any stable matching. -/
def Opt (rows cols : List (List Int)) (m : List Int) : Prop :=
  Stab rows cols m ∧ ∀ m', Stab rows cols m' → ∀ i, i < rows.length → m'.getD i 0 = -1 ∨ (m.getD i 0 ≠ -1 ∧ rk (rows.getD i []) (m.getD i 0) ≤ rk (rows.getD i []) (m'.getD i 0))

theorem getD_mem {l : List Int} {k : Nat} (h : k < l.length) : l.getD k 0 ∈ l := by
  rw [List.getD_eq_getElem?_getD, List.getElem?_eq_getElem h]
  exact List.getElem_mem h
theorem gets_mem {l : List (List Int)} {k : Nat} (h : k < l.length) : l.getD k [] ∈ l := by
  rw [List.getD_eq_getElem?_getD, List.getElem?_eq_getElem h]
  exact List.getElem_mem h
theorem rk_getD : ∀ {l : List Int} {p : Nat}, l.Nodup → p < l.length → rk l (l.getD p 0) = p + 1
  | l, p, hn, hp => by
    unfold rk
    rw [if_pos (getD_mem hp)]
    have hlt : l.idxOf (l.getD p 0) < l.length := List.idxOf_lt_length_of_mem (getD_mem hp)
    have h1 : l[l.idxOf (l.getD p 0)] = l.getD p 0 := by simp
    have h2 : l.getD p 0 = l[p] := by rw [List.getD_eq_getElem?_getD, List.getElem?_eq_getElem hp]; rfl
    have := (List.getElem_inj (h₀ := hlt) (h₁ := hp) hn).1 (h1.trans h2)
    omega
theorem rk_mem {l : List Int} {x : Int} (hn : l.Nodup) (hx : x ∈ l) : ∃ p, p < l.length ∧ l.getD p 0 = x ∧ rk l x = p + 1 := by
  refine ⟨l.idxOf x, List.idxOf_lt_length_of_mem hx, ?_, ?_⟩
  · rw [List.getD_eq_getElem?_getD, List.getElem?_eq_getElem (List.idxOf_lt_length_of_mem hx)]
    simp
  · unfold rk; rw [if_pos hx]
theorem rk_inj {l : List Int} {x y : Int} (hn : l.Nodup) (hx : x ∈ l) (hy : y ∈ l) (h : rk l x = rk l y) : x = y := by
  obtain ⟨p, hp, h1, h2⟩ := rk_mem hn hx
  obtain ⟨q, hq, h3, h4⟩ := rk_mem hn hy
  have : p = q := by omega
  subst this
  rw [← h1, ← h3]
theorem set_getD (l : List Int) (i k : Nat) (x : Int) (h : i < l.length) : (l.set i x).getD k 0 = if k = i then x else l.getD k 0 := by
  rw [List.getD_eq_getElem?_getD, List.getD_eq_getElem?_getD, List.getElem?_set]
  by_cases hk : i = k
  · subst hk; simp [h]
  · rw [if_neg hk, if_neg (Ne.symm hk)]

section
variable {rows cols : List (List Int)}

theorem okPrefs.row (h : okPrefs rows cols) {i : Nat} (hi : i < rows.length) : okList cols.length (rows.getD i []) := h.2.2.1 _ (gets_mem hi)
theorem okPrefs.col (h : okPrefs rows cols) {j : Nat} (hj : j < cols.length) : okList rows.length (cols.getD j []) := h.2.2.2 _ (gets_mem hj)
theorem okPrefs.at_ (h : okPrefs rows cols) {i k : Nat} (hi : i < rows.length) (hk : k < (rows.getD i []).length) : ∃ j : Nat, (rows.getD i []).getD k 0 = j ∧ j < cols.length := by
  have := (h.row hi).2 _ (getD_mem hk)
  exact ⟨((rows.getD i []).getD k 0).toNat, by omega, by omega⟩

/-- Who is beaten at a column by one that has been turned down by all that it likes better has no part in it. -/
theorem beaten (hp : okPrefs rows cols) {m : List Int} (hm : Stab rows cols m) {w l j p : Nat} (hw : w < rows.length) (hl : l < rows.length) (hj : (rows.getD w []).getD p 0 = j) (hpl : p < (rows.getD w []).length)
    (hc : (w : Int) ∈ cols.getD j []) (hlt : rk (cols.getD j []) w < rk (cols.getD j []) l) (hq : ∀ q, q < p → ∀ jq : Nat, (rows.getD w []).getD q 0 = jq → m.getD w 0 ≠ jq) : m.getD l 0 ≠ j := by
  intro he
  have hjc : j < cols.length := by obtain ⟨j', h1, h2⟩ := hp.at_ hw hpl; rw [hj] at h1; omega
  have hmem : (j : Int) ∈ rows.getD w [] := hj ▸ getD_mem hpl
  have hnd := (hp.row hw).1
  refine hm.2 w j ⟨hw, hjc, hmem, hc, ?_, fun i' hi' h' => ?_⟩
  · rcases hm.1.ok w hw with h | ⟨j2, h1, h2, h3, h4⟩
    · exact .inl h
    · right
      rw [h1]
      obtain ⟨q, hq1, hq2, hq3⟩ := rk_mem hnd h3
      have hpj : rk (rows.getD w []) j = p + 1 := by rw [← hj]; exact rk_getD hnd hpl
      rcases Nat.lt_trichotomy q p with h | h | h
      · exact absurd h1 (hq q h j2 hq2)
      · subst h
        rw [hj] at hq2
        have : w = l := hm.1.inj w l hw hl (by rw [h1, he, hq2]) (by rw [h1]; omega)
        subst this
        omega
      · omega
  · have : i' = l := hm.1.inj i' l hi' hl (by rw [h', he]) (by rw [h']; omega)
    rw [this]; exact hlt

structure GS (rows cols : List (List Int)) (out of next : List Int) : Prop where
  ho : out.length = rows.length
  hf : of.length = cols.length
  hn : next.length = rows.length
  nx : ∀ i, i < rows.length → ∃ k : Nat, next.getD i 0 = k ∧ k ≤ (rows.getD i []).length
  out_of : ∀ i, i < rows.length → out.getD i 0 = -1 ∨ ∃ j k : Nat, out.getD i 0 = j ∧ j < cols.length ∧ of.getD j 0 = i ∧ next.getD i 0 = ((k + 1 : Nat) : Int) ∧ (rows.getD i []).getD k 0 = j ∧ (i : Int) ∈ cols.getD j []
  of_out : ∀ j, j < cols.length → of.getD j 0 = -1 ∨ ∃ i : Nat, of.getD j 0 = i ∧ i < rows.length ∧ out.getD i 0 = j
  rej : ∀ i, i < rows.length → ∀ k : Nat, (k : Int) < next.getD i 0 → ∀ j : Nat, (rows.getD i []).getD k 0 = j → out.getD i 0 ≠ j →
    ((i : Int) ∉ cols.getD j [] ∨ ∃ i' : Nat, of.getD j 0 = i' ∧ rk (cols.getD j []) i' < rk (cols.getD j []) i) ∧ ∀ m, Stab rows cols m → m.getD i 0 ≠ j

theorem GS.init (rows cols : List (List Int)) : GS rows cols (List.replicate rows.length (-1)) (List.replicate cols.length (-1)) (List.replicate rows.length 0) where
  ho := by simp
  hf := by simp
  hn := by simp
  nx i hi := ⟨0, by simp [List.getD_eq_getElem?_getD, List.getElem?_replicate, hi], Nat.zero_le _⟩
  out_of i hi := .inl (by simp [List.getD_eq_getElem?_getD, List.getElem?_replicate, hi])
  of_out j hj := .inl (by simp [List.getD_eq_getElem?_getD, List.getElem?_replicate, hj])
  rej i hi k hk := by simp [List.getD_eq_getElem?_getD, List.getElem?_replicate, hi] at hk; omega

variable {out of next : List Int}

/-- Row i has been turned down at its next column. -/
theorem GS.reject (hp : okPrefs rows cols) (h : GS rows cols out of next) {i k j : Nat} (hi : i < rows.length) (hout : out.getD i 0 = -1) (hk : next.getD i 0 = k) (hkl : k < (rows.getD i []).length) (hj : (rows.getD i []).getD k 0 = j)
    (hr : (i : Int) ∉ cols.getD j [] ∨ ∃ i' : Nat, of.getD j 0 = i' ∧ rk (cols.getD j []) i' < rk (cols.getD j []) i) : GS rows cols out of (next.set i ((k + 1 : Nat) : Int)) where
  ho := h.ho
  hf := h.hf
  hn := by rw [List.length_set]; exact h.hn
  nx a ha := by
    rw [set_getD _ _ _ _ (by rw [h.hn]; exact hi)]
    by_cases he : a = i
    · subst he; rw [if_pos rfl]; exact ⟨k + 1, rfl, hkl⟩
    · rw [if_neg he]; exact h.nx a ha
  out_of a ha := by
    rw [set_getD _ _ _ _ (by rw [h.hn]; exact hi)]
    by_cases he : a = i
    · subst he; exact .inl hout
    · rw [if_neg he]; exact h.out_of a ha
  of_out := h.of_out
  rej a ha q hq ja hja hne := by
    rw [set_getD _ _ _ _ (by rw [h.hn]; exact hi)] at hq
    by_cases he : a = i
    · subst he
      rw [if_pos rfl] at hq
      by_cases hqk : q = k
      · subst hqk
        have : ja = j := by rw [hj] at hja; omega
        subst this
        refine ⟨hr, fun m hm => ?_⟩
        rcases hr with hr | ⟨i', h1, h2⟩
        · intro he
          rcases hm.1.ok a ha with h3 | ⟨j2, h3, h4, h5, h6⟩
          · rw [h3] at he; omega
          · have : j2 = ja := by rw [h3] at he; omega
            subst this
            exact hr h6
        · have hjc : ja < cols.length := by obtain ⟨j', h3, h4⟩ := hp.at_ ha hkl; rw [hj] at h3; omega
          rcases h.of_out ja hjc with h3 | ⟨i2, h3, h4, h5⟩
          · rw [h3] at h1; omega
          have : i2 = i' := by rw [h3] at h1; omega
          subst this
          rcases h.out_of i2 h4 with h6 | ⟨j3, k3, g1, g2, g3, g4, g5, g6⟩
          · rw [h6] at h5; omega
          have : j3 = ja := by rw [h5] at g1; omega
          subst this
          obtain ⟨k4, e1, e2⟩ := h.nx i2 h4
          have hk3 : k3 < (rows.getD i2 []).length := by rw [g4] at e1; omega
          refine beaten hp hm h4 ha g5 hk3 g6 h2 (fun q2 hq2 jq hjq => ?_)
          refine (h.rej i2 h4 q2 (by rw [g4]; omega) jq hjq (fun he => ?_)).2 m hm
          rw [g1] at he
          have : jq = j3 := by omega
          subst this
          have := rk_getD (hp.row h4).1 hk3
          have h7 := rk_getD (hp.row h4).1 (show q2 < (rows.getD i2 []).length by omega)
          rw [g5] at this
          rw [hjq] at h7
          omega
      · exact h.rej a ha q (by rw [hk]; omega) ja hja hne
    · rw [if_neg he] at hq
      exact h.rej a ha q hq ja hja hne

/-- Row i has been taken by its next column, in the place of another row or of none. -/
theorem GS.accept (hp : okPrefs rows cols) (h : GS rows cols out of next) {i k j : Nat} (hi : i < rows.length) (hout : out.getD i 0 = -1) (hk : next.getD i 0 = k) (hkl : k < (rows.getD i []).length) (hj : (rows.getD i []).getD k 0 = j)
    (hc : (i : Int) ∈ cols.getD j []) (out' : List Int) (ho' : out'.length = rows.length)
    (hr : (of.getD j 0 = -1 ∧ ∀ a, a < rows.length → out'.getD a 0 = if a = i then (j : Int) else out.getD a 0) ∨
      ∃ i' : Nat, of.getD j 0 = i' ∧ rk (cols.getD j []) i < rk (cols.getD j []) i' ∧ ∀ a, a < rows.length → out'.getD a 0 = if a = i then (j : Int) else if a = i' then -1 else out.getD a 0) :
    GS rows cols out' (of.set j i) (next.set i ((k + 1 : Nat) : Int)) := by
  have hjc : j < cols.length := by obtain ⟨j', h3, h4⟩ := hp.at_ hi hkl; rw [hj] at h3; omega
  have hnd := (hp.row hi).1
  have hset : ∀ a, (next.set i ((k + 1 : Nat) : Int)).getD a 0 = if a = i then ((k + 1 : Nat) : Int) else next.getD a 0 := fun a => set_getD _ _ _ _ (by rw [h.hn]; exact hi)
  have hsof : ∀ a, (of.set j (i : Int)).getD a 0 = if a = j then (i : Int) else of.getD a 0 := fun a => set_getD _ _ _ _ (by rw [h.hf]; exact hjc)
  -- the old row of the column
  have hold : ∀ a, a < rows.length → a ≠ i → out'.getD a 0 = out.getD a 0 ∨ (out'.getD a 0 = -1 ∧ out.getD a 0 = j ∧ of.getD j 0 = a ∧ rk (cols.getD j []) i < rk (cols.getD j []) a) := fun a ha hne => by
    rcases hr with ⟨_, h2⟩ | ⟨i', h1, h2, h3⟩
    · left; rw [h2 a ha, if_neg hne]
    · rw [h3 a ha, if_neg hne]
      by_cases he : a = i'
      · subst he
        right
        rw [if_pos rfl]
        refine ⟨rfl, ?_, h1, h2⟩
        rcases h.of_out j hjc with h4 | ⟨i2, h4, h5, h6⟩
        · rw [h4] at h1; omega
        · have : i2 = a := by rw [h4] at h1; omega
          subst this; exact h6
      · rw [if_neg he]; exact .inl rfl
  have hnew : out'.getD i 0 = j := by
    rcases hr with ⟨_, h2⟩ | ⟨i', h1, h2, h3⟩
    · rw [h2 i hi, if_pos rfl]
    · rw [h3 i hi, if_pos rfl]
  have hofj : ∀ a, a < rows.length → a ≠ i → out'.getD a 0 ≠ j := fun a ha hne he => by
    rcases hold a ha hne with h1 | ⟨h1, _⟩
    · rw [h1] at he
      rcases h.out_of a ha with h2 | ⟨j2, k2, g1, g2, g3, _⟩
      · rw [h2] at he; omega
      · have : j2 = j := by rw [g1] at he; omega
        subst this
        rcases hr with ⟨h3, _⟩ | ⟨i', h3, h4, h5⟩
        · rw [h3] at g3; omega
        · have : i' = a := by rw [h3] at g3; omega
          subst this
          have := h5 i' ha
          rw [if_neg hne, if_pos rfl] at this
          rw [this] at h1
          rw [← h1] at g1
          omega
    · rw [h1] at he; omega
  refine ⟨ho', by rw [List.length_set]; exact h.hf, by rw [List.length_set]; exact h.hn, fun a ha => ?_, fun a ha => ?_, fun b hb => ?_, fun a ha q hq ja hja hne => ?_⟩
  · rw [hset]
    by_cases he : a = i
    · subst he; rw [if_pos rfl]; exact ⟨k + 1, rfl, hkl⟩
    · rw [if_neg he]; exact h.nx a ha
  · by_cases he : a = i
    · subst he
      right
      exact ⟨j, k, hnew, hjc, by rw [hsof, if_pos rfl], by rw [hset, if_pos rfl], hj, hc⟩
    · rcases hold a ha he with h1 | ⟨h1, _⟩
      · rcases h.out_of a ha with h2 | ⟨j2, k2, g1, g2, g3, g4, g5, g6⟩
        · exact .inl (by rw [h1, h2])
        · right
          have hjj : j2 ≠ j := fun e => hofj a ha he (by rw [h1, g1, e])
          exact ⟨j2, k2, by rw [h1, g1], g2, by rw [hsof, if_neg hjj]; exact g3, by rw [hset, if_neg he]; exact g4, g5, g6⟩
      · exact .inl h1
  · rw [hsof]
    by_cases he : b = j
    · subst he; rw [if_pos rfl]; exact .inr ⟨i, rfl, hi, hnew⟩
    · rw [if_neg he]
      rcases h.of_out b hb with h1 | ⟨a, h1, h2, h3⟩
      · exact .inl h1
      · right
        have hai : a ≠ i := fun e => by rw [e, hout] at h3; omega
        refine ⟨a, h1, h2, ?_⟩
        rcases hold a h2 hai with h4 | ⟨_, h4, _⟩
        · rw [h4]; exact h3
        · rw [h3] at h4; omega
  · rw [hset] at hq
    -- the column holds one that is at least as good as before
    have hkeep : ∀ (jb : Nat) (l : Nat), (∃ i' : Nat, of.getD jb 0 = i' ∧ rk (cols.getD jb []) i' < rk (cols.getD jb []) l) → ∃ i' : Nat, (of.set j (i : Int)).getD jb 0 = i' ∧ rk (cols.getD jb []) i' < rk (cols.getD jb []) l := fun jb l ⟨i', h1, h2⟩ => by
      rw [hsof]
      by_cases he : jb = j
      · subst he
        rw [if_pos rfl]
        refine ⟨i, rfl, ?_⟩
        rcases hr with ⟨h3, _⟩ | ⟨i2, h3, h4, _⟩
        · rw [h3] at h1; omega
        · have : i2 = i' := by rw [h3] at h1; omega
          subst this; omega
      · rw [if_neg he]; exact ⟨i', h1, h2⟩
    by_cases he : a = i
    · subst he
      rw [if_pos rfl] at hq
      have hqk : q ≠ k := fun e => hne (by rw [hnew, ← hja, e, hj])
      obtain ⟨r1, r2⟩ := h.rej a ha q (by rw [hk]; omega) ja hja (by rw [hout]; omega)
      exact ⟨r1.imp id (hkeep ja a), r2⟩
    · rw [if_neg he] at hq
      rcases hold a ha he with h1 | ⟨h1, h2, h3, h4⟩
      · obtain ⟨r1, r2⟩ := h.rej a ha q hq ja hja (by rw [← h1]; exact hne)
        exact ⟨r1.imp id (hkeep ja a), r2⟩
      · by_cases hjj : ja = j
        · subst hjj
          refine ⟨.inr ⟨i, by rw [hsof, if_pos rfl], h4⟩, fun m hm => ?_⟩
          refine beaten hp hm hi ha hj hkl hc h4 (fun q2 hq2 jq hjq => ?_)
          exact (h.rej i hi q2 (by rw [hk]; omega) jq hjq (by rw [hout]; omega)).2 m hm
        · obtain ⟨r1, r2⟩ := h.rej a ha q hq ja hja (by rw [h2]; omega)
          exact ⟨r1.imp id (hkeep ja a), r2⟩

/-- WHERE NOBODY PROPOSES ANY MORE. -/
theorem GS.opt (hp : okPrefs rows cols) (h : GS rows cols out of next) (hend : ∀ i, i < rows.length → out.getD i 0 ≠ -1 ∨ next.getD i 0 = ((rows.getD i []).length : Int)) : Opt rows cols out := by
  refine ⟨⟨⟨h.ho, fun i hi => ?_, fun i i' hi hi' he hne => ?_⟩, fun i j ⟨hi, hj, hmem, hc, hbet, hcol⟩ => ?_⟩, fun m hm i hi => ?_⟩
  · rcases h.out_of i hi with h1 | ⟨j, k, g1, g2, g3, g4, g5, g6⟩
    · exact .inl h1
    · obtain ⟨k2, e1, e2⟩ := h.nx i hi
      exact .inr ⟨j, g1, g2, g5 ▸ getD_mem (by rw [g4] at e1; omega), g6⟩
  · rcases h.out_of i hi with h1 | ⟨j, k, g1, g2, g3, _⟩
    · exact absurd h1 hne
    · rcases h.out_of i' hi' with h1' | ⟨j', k', g1', g2', g3', _⟩
      · rw [he, h1'] at hne; exact absurd rfl hne
      · have : j = j' := by rw [g1, g1'] at he; omega
        subst this
        rw [g3] at g3'; omega
  · obtain ⟨p, hp1, hp2, hp3⟩ := rk_mem (hp.row hi).1 hmem
    have hlt : (p : Int) < next.getD i 0 ∧ out.getD i 0 ≠ j := by
      rcases hbet with h1 | h1
      · rcases hend i hi with h2 | h2
        · exact absurd h1 h2
        · exact ⟨by rw [h2]; omega, by rw [h1]; omega⟩
      · rcases h.out_of i hi with h2 | ⟨j2, k, g1, g2, g3, g4, g5, g6⟩
        · rw [h2] at h1
          rcases hend i hi with h3 | h3
          · exact absurd h2 h3
          · exact ⟨by rw [h3]; omega, by rw [h2]; omega⟩
        · obtain ⟨k2, e1, e2⟩ := h.nx i hi
          have hkl : k < (rows.getD i []).length := by rw [g4] at e1; omega
          have := rk_getD (hp.row hi).1 hkl
          rw [g5] at this
          rw [g1] at h1
          refine ⟨by rw [g4]; omega, fun he => ?_⟩
          rw [g1] at he
          have : j2 = j := by omega
          subst this
          omega
    obtain ⟨r1, _⟩ := h.rej i hi p hlt.1 j hp2 hlt.2
    rcases r1 with r1 | ⟨i', r1, r2⟩
    · exact r1 hc
    · rcases h.of_out j hj with h1 | ⟨i2, h1, h2, h3⟩
      · rw [h1] at r1; omega
      · have : i2 = i' := by rw [h1] at r1; omega
        subst this
        have := hcol i2 h2 h3
        omega
  · rcases hm.1.ok i hi with h1 | ⟨j, h1, h2, h3, h4⟩
    · exact .inl h1
    · right
      obtain ⟨p, hp1, hp2, hp3⟩ := rk_mem (hp.row hi).1 h3
      rw [h1]
      rcases h.out_of i hi with h5 | ⟨j2, k, g1, g2, g3, g4, g5, g6⟩
      · rcases hend i hi with h6 | h6
        · exact absurd h5 h6
        · exact absurd h1 ((h.rej i hi p (by rw [h6]; omega) j hp2 (by rw [h5]; omega)).2 m hm)
      · rw [g1]
        refine ⟨by omega, ?_⟩
        obtain ⟨k2, e1, e2⟩ := h.nx i hi
        have hkl : k < (rows.getD i []).length := by rw [g4] at e1; omega
        have hrk := rk_getD (hp.row hi).1 hkl
        rw [g5] at hrk
        rcases Nat.lt_or_ge p k with hpk | hpk
        · refine absurd h1 ((h.rej i hi p (by rw [g4]; omega) j hp2 (fun he => ?_)).2 m hm)
          rw [g1] at he
          have : j2 = j := by omega
          subst this
          omega
        · omega

/-- There is one. -/
theorem Opt.unique (hp : okPrefs rows cols) {a b : List Int} (ha : Opt rows cols a) (hb : Opt rows cols b) : a = b := by
  have hget : ∀ i, i < rows.length → a.getD i 0 = b.getD i 0 := fun i hi => by
    rcases ha.2 b hb.1 i hi with h1 | ⟨h1, h2⟩
    · rcases hb.2 a ha.1 i hi with h3 | ⟨h3, _⟩
      · rw [h1, h3]
      · exact absurd h1 h3
    · rcases hb.2 a ha.1 i hi with h3 | ⟨h3, h4⟩
      · exact absurd h3 h1
      · rcases ha.1.1.ok i hi with h5 | ⟨j, g1, _, g3, _⟩
        · exact absurd h5 h1
        · rcases hb.1.1.ok i hi with h6 | ⟨j', g1', _, g3', _⟩
          · exact absurd h6 h3
          · exact rk_inj (hp.row hi).1 (g1 ▸ g3) (g1' ▸ g3') (Nat.le_antisymm h2 h4)
  apply List.ext_getElem (by rw [ha.1.1.len, hb.1.1.len])
  intro i h1 h2
  have := hget i (by rw [← ha.1.1.len]; exact h1)
  rw [List.getD_eq_getElem?_getD, List.getD_eq_getElem?_getD, List.getElem?_eq_getElem h1, List.getElem?_eq_getElem h2] at this
  exact this

/-- What is left to propose. -/
def left (rows : List (List Int)) (next : List Int) : Nat := ((List.range rows.length).map fun i => (rows.getD i []).length - (next.getD i 0).toNat).sum

theorem sum_lt : ∀ (n : Nat) (f g : Nat → Nat) (i : Nat), i < n → g i < f i → (∀ k, k ≠ i → g k = f k) → ((List.range n).map g).sum < ((List.range n).map f).sum
  | 0, _, _, i, h, _, _ => by omega
  | n + 1, f, g, i, h, h1, h2 => by
    rw [List.range_succ]
    simp only [List.map_append, List.map_cons, List.map_nil, List.sum_append, List.sum_cons, List.sum_nil, Nat.add_zero]
    by_cases hi : i = n
    · subst hi
      have : (List.range i).map g = (List.range i).map f := List.map_congr_left (fun k hk => h2 k (by have := List.mem_range.1 hk; omega))
      rw [this]
      omega
    · have := sum_lt n f g i (by omega) h1 h2
      have := h2 n (fun e => hi e.symm)
      omega

theorem left_lt {i k : Nat} (hn : next.length = rows.length) (hi : i < rows.length) (hk : next.getD i 0 = k) (hkl : k < (rows.getD i []).length) : left rows (next.set i ((k + 1 : Nat) : Int)) < left rows next := by
  refine sum_lt rows.length _ _ i hi ?_ (fun q hq => ?_)
  · rw [set_getD _ _ _ _ (by rw [hn]; exact hi), if_pos rfl, hk]
    omega
  · rw [set_getD _ _ _ _ (by rw [hn]; exact hi), if_neg hq]
end
end Go.Proofs.Ythginmfobikdgaa
