/- Chapter 32, plain: the order of the lists does not matter. -/
import Derived.Test.YthginmfobikdgaaWtN
set_option linter.unusedSimpArgs false
set_option linter.unusedVariables false
namespace Go.Proofs.Ythginmfobikdgaa
open Go.PV

/-! Targets with their counts and weights, one behind the other. -/
abbrev T3 := K3 × Int × Int
def tripS (w : Int) (s : Site) : List T3 := s.tg.map fun t => ((s.blk, s.ins, t.1), t.2, w)
def tripX (p : Int × FC) : List T3 := p.2.sites.flatMap (tripS p.1)
def put3 (L : List (K3 × Int)) (e : T3) : List (K3 × Int) := putL L e.1 e.2.1 e.2.2
theorem addTg_trip (s : Site) (w : Int) (L : List (K3 × Int)) : addTg s.blk s.ins w s.tg L = (tripS w s).foldl put3 L := by
  unfold addTg tripS
  rw [List.foldl_map]; rfl
theorem addSt_trip (w : Int) (S : List Site) : ∀ L, addSt w S L = (S.flatMap (tripS w)).foldl put3 L := by
  unfold addSt
  induction S with
  | nil => intro L; rfl
  | cons s S ih =>
    intro L
    rw [List.foldl_cons, ih, List.flatMap_cons, List.foldl_append, addTg_trip]
theorem addAll_trip (z : List (Int × FC)) : ∀ n, n ≤ z.length → addAll (z.map (·.1)) (z.map (·.2)) n = ((z.take n).flatMap tripX).foldl put3 []
  | 0, _ => rfl
  | n + 1, h => by
    have e1 : (z.map (·.1)).getD n 0 = (z[n]'(by omega)).1 := by rw [List.getD_eq_getElem?_getD, List.getElem?_map, List.getElem?_eq_getElem (show n < z.length by omega)]; rfl
    have e2 : (z.map (·.2)).getD n default = (z[n]'(by omega)).2 := by rw [List.getD_eq_getElem?_getD, List.getElem?_map, List.getElem?_eq_getElem (show n < z.length by omega)]; rfl
    rw [addAll, addAll_trip z n (by omega), e1, e2, addSt_trip, List.take_add_one, List.getElem?_eq_getElem (show n < z.length by omega), List.flatMap_append, List.foldl_append]
    simp [tripX]
theorem fold_keys (ts : List T3) : ∀ (L : List (K3 × Int)) (q : K3), q ∈ (ts.foldl put3 L).map (·.1) ↔ q ∈ L.map (·.1) ∨ ∃ e ∈ ts, e.1 = q := by
  induction ts with
  | nil => intro L q; simp
  | cons e ts ih =>
    intro L q
    rw [List.foldl_cons, ih, put3, putL_keys]
    simp only [List.mem_cons]
    constructor
    · rintro ((h | h) | ⟨e', h1, h2⟩)
      · exact .inl h
      · exact .inr ⟨e, .inl rfl, h.symm⟩
      · exact .inr ⟨e', .inr h1, h2⟩
    · rintro (h | ⟨e', rfl | h1, h2⟩)
      · exact .inl (.inl h)
      · exact .inl (.inr h2.symm)
      · exact .inr ⟨e', h1, h2⟩
theorem fold_nodup (ts : List T3) : ∀ (L : List (K3 × Int)), (L.map (·.1)).Nodup → ((ts.foldl put3 L).map (·.1)).Nodup := by
  induction ts with
  | nil => intro L h; exact h
  | cons e ts ih => intro L h; exact ih _ (putL_nodup _ _ _ _ h)
theorem tOf_putL (L : List (K3 × Int)) (k : K3) (c w : Int) (q : K3) : tOf (putL L k c w) q = if k = q then addT (tOf L q) c w else tOf L q := by
  induction L with
  | nil =>
    simp only [putL, tOf]
  | cons e L ih =>
    obtain ⟨k', t⟩ := e
    simp only [putL]
    by_cases h : k' = k
    · subst h
      rw [if_pos rfl]
      simp only [tOf]
      split <;> rfl
    · rw [if_neg h]
      simp only [tOf, ih]
      by_cases h2 : k' = q
      · rw [if_pos h2, if_pos h2, if_neg (fun e => h (h2.trans e.symm))]
      · rw [if_neg h2, if_neg h2]
def addE (t : Int) (e : T3) : Int := addT t e.2.1 e.2.2
theorem tOf_fold (ts : List T3) (q : K3) : ∀ (L : List (K3 × Int)), tOf (ts.foldl put3 L) q = (ts.filter (fun e => decide (e.1 = q))).foldl addE (tOf L q) := by
  induction ts with
  | nil => intro L; rfl
  | cons e ts ih =>
    intro L
    rw [List.foldl_cons, ih, put3, tOf_putL, List.filter_cons]
    by_cases h : e.1 = q
    · rw [if_pos h, decide_eq_true h, if_pos rfl]; rfl
    · rw [if_neg h, decide_eq_false h, if_neg (by simp)]
theorem addT_comm (t a v b w : Int) (hv : 0 ≤ v) (hw : 0 ≤ w) : addT (addT t a v) b w = addT (addT t b w) a v := by
  unfold addT
  split <;> split
  · have := Int.mul_nonneg ‹0 ≤ a› hv
    have := Int.mul_nonneg ‹0 ≤ b› hw
    omega
  · rfl
  · rfl
  · rfl

/-! Lists in another order. -/
theorem sitesF_same (den : Int) (L M : List (K3 × Int)) (hL : (L.map (·.1)).Nodup) (hM : (M.map (·.1)).Nodup) (hk : ∀ q, q ∈ L.map (·.1) ↔ q ∈ M.map (·.1)) (ht : ∀ q, tOf L q = tOf M q) : sitesF den L = sitesF den M := by
  have hp : (L.map (·.1)).Perm (M.map (·.1)) := (List.perm_ext_iff_of_nodup hL hM).2 hk
  have hs : sortK (L.map (·.1)) = sortK (M.map (·.1)) := sorted_unique _ _ (((sortK_perm _).trans hp).trans (sortK_perm _).symm) (sortK_sorted _) (sortK_sorted _)
  unfold sitesF outF
  rw [hs, show tOf L = tOf M from funext ht]
theorem sites_perm (den : Int) (z y : List (Int × FC)) (hp : z.Perm y) (hw : ∀ p ∈ z, 0 ≤ p.1) : sitesF den (addAll (z.map (·.1)) (z.map (·.2)) z.length) = sitesF den (addAll (y.map (·.1)) (y.map (·.2)) y.length) := by
  rw [addAll_trip z _ (Nat.le_refl _), addAll_trip y _ (Nat.le_refl _), List.take_length, List.take_length]
  have hf : (z.flatMap tripX).Perm (y.flatMap tripX) := hp.flatMap_right _
  have hq : ∀ e ∈ z.flatMap tripX, 0 ≤ e.2.2 := fun e he => by
    obtain ⟨p, hpz, he⟩ := List.mem_flatMap.1 he
    obtain ⟨s, _, he⟩ := List.mem_flatMap.1 he
    obtain ⟨t, _, rfl⟩ := List.mem_map.1 he
    exact hw p hpz
  refine sitesF_same den _ _ (fold_nodup _ _ (by simp)) (fold_nodup _ _ (by simp)) (fun q => ?_) (fun q => ?_)
  · rw [fold_keys, fold_keys]
    constructor
    · rintro (h | ⟨e, h1, h2⟩)
      · exact .inl h
      · exact .inr ⟨e, hf.mem_iff.1 h1, h2⟩
    · rintro (h | ⟨e, h1, h2⟩)
      · exact .inl h
      · exact .inr ⟨e, hf.mem_iff.2 h1, h2⟩
  · rw [tOf_fold, tOf_fold]
    refine (hf.filter _).foldl_eq' (fun x hx y hy t => ?_) _
    exact addT_comm _ _ _ _ _ (hq _ (List.mem_filter.1 hx).1) (hq _ (List.mem_filter.1 hy).1)
theorem total_fold (num : FC → Int) (z : List (Int × FC)) : ∀ n, n ≤ z.length → total num (z.map (·.1)) (z.map (·.2)) n = (z.take n).foldl (fun t p => addT t (num p.2) p.1) 0
  | 0, _ => rfl
  | n + 1, h => by
    have e1 : (z.map (·.1)).getD n 0 = (z[n]'(by omega)).1 := by rw [List.getD_eq_getElem?_getD, List.getElem?_map, List.getElem?_eq_getElem (show n < z.length by omega)]; rfl
    have e2 : (z.map (·.2)).getD n default = (z[n]'(by omega)).2 := by rw [List.getD_eq_getElem?_getD, List.getElem?_map, List.getElem?_eq_getElem (show n < z.length by omega)]; rfl
    rw [total, total_fold num z n (by omega), e1, e2, List.take_add_one, List.getElem?_eq_getElem (show n < z.length by omega), List.foldl_append]
    rfl
theorem known_iff (num : FC → Int) (l : List FC) : known num l l.length = true ↔ ∃ x ∈ l, 0 ≤ num x := by
  unfold known
  rw [List.take_length, List.any_eq_true]
  simp
theorem each_perm (num : FC → Int) (den : Int) (z y : List (Int × FC)) (hp : z.Perm y) (hw : ∀ p ∈ z, 0 ≤ p.1) : eachF num (z.map (·.1)) (z.map (·.2)) den = eachF num (y.map (·.1)) (y.map (·.2)) den := by
  have hk : known num (z.map (·.2)) (z.map (·.2)).length = known num (y.map (·.2)) (y.map (·.2)).length := by
    rw [Bool.eq_iff_iff, known_iff, known_iff]
    have := hp.map (·.2)
    exact ⟨fun ⟨x, h1, h2⟩ => ⟨x, this.mem_iff.1 h1, h2⟩, fun ⟨x, h1, h2⟩ => ⟨x, this.mem_iff.2 h1, h2⟩⟩
  unfold eachF
  rw [hk]
  simp only [List.length_map]
  rw [total_fold num z _ (Nat.le_refl _), total_fold num y _ (Nat.le_refl _), List.take_length, List.take_length,
    hp.foldl_eq' (fun x hx y hy t => addT_comm _ _ _ _ _ (hw x hx) (hw y hy)) 0]
theorem combF_perm (num den : Int) (hr : validR num den) (z y : List (Int × FC)) (hp : z.Perm y) (ha : ∀ p ∈ z, ageOk p.1) (hd : ∀ p ∈ z, Drawn p.2) (h0 : 0 < z.length) : combF (z.map (·.1)) (z.map (·.2)) num den = combF (y.map (·.1)) (y.map (·.2)) num den := by
  have e : ∀ z : List (Int × FC), (z.map (·.1)).map (wOf num den) = (z.map fun p => (wOf num den p.1, p.2)).map (·.1) := fun z => by simp
  have e2 : ∀ z : List (Int × FC), z.map (·.2) = (z.map fun p => (wOf num den p.1, p.2)).map (·.2) := fun z => by simp
  obtain ⟨F, hF⟩ : ∃ F : (Int × FC) → (Int × FC), F = fun p => (wOf num den p.1, p.2) := ⟨_, rfl⟩
  have hp2 := hp.map F
  have hw : ∀ p ∈ z.map F, 0 ≤ p.1 := fun p hm => by
    obtain ⟨q, hq, rfl⟩ := List.mem_map.1 hm
    rw [hF]
    exact (wOf_in num den q.1 hr (ha q hq)).1
  have hb : ∀ z : List (Int × FC), (∀ p ∈ z, Drawn p.2) → 0 < z.length → (((z.map F).map (fun p : Int × FC => p.2)).getD 0 (default : FC)).blocks.length = 2 ∧ (((z.map F).map (fun p : Int × FC => p.2)).getD 0 (default : FC)).edges.length = 2 := fun z hd h0 => by
    have hm : (((z.map F).map (fun p : Int × FC => p.2)).getD 0 (default : FC)) ∈ ((z.map F).map (fun p : Int × FC => p.2)) := mem_getD (by simpa using h0)
    obtain ⟨q, hq, e3⟩ := List.mem_map.1 hm
    obtain ⟨p, hp, rfl⟩ := List.mem_map.1 hq
    rw [← e3, hF]
    exact ⟨(hd p hp).ok.nb, (hd p hp).ok.ne⟩
  have hz := hb z hd h0
  have hy := hb y (fun p h => hd p (hp.mem_iff.2 h)) (by rw [← hp.length_eq]; exact h0)
  unfold combF countsF
  rw [e z, e y, e2 z, e2 y, ← hF, hz.1, hz.2, hy.1, hy.2, each_perm FC.ent _ _ _ hp2 hw]
  have hs := sites_perm (den ^ 8) _ _ hp2 hw
  rw [List.length_map, List.length_map] at hs
  rw [List.length_map, List.length_map, List.length_map, List.length_map, hs]
  congr 1
  · exact List.map_congr_left (fun b _ => each_perm _ _ _ _ hp2 hw)
  · refine List.map_congr_left (fun b _ => ?_)
    rw [each_perm _ _ _ _ hp2 hw, each_perm _ _ _ _ hp2 hw]
theorem sitesF_small (den : Int) (Lm : List (K3 × Int)) : (sitesF den Lm).length ≤ Lm.length ∧ ∀ s ∈ sitesF den Lm, s.tg.length ≤ Lm.length := by
  have e : (sortK (Lm.map (·.1))).length = Lm.length := by rw [(sortK_perm _).length_eq, List.length_map]
  refine ⟨?_, fun s hs => ?_⟩
  · have := outF_len den Lm (sortK (Lm.map (·.1)))
    rw [e] at this; exact this
  · have := outF_tg den Lm (sortK (Lm.map (fun x : K3 × Int => x.1))) s hs
    rw [e] at this; exact this
theorem combF_small (z : List (Int × FC)) (num den : Int) (hd : ∀ p ∈ z, Drawn p.2) (h0 : 0 < z.length) : (combF (z.map (·.1)) (z.map (·.2)) num den).blocks.length = 2 ∧ (combF (z.map (·.1)) (z.map (·.2)) num den).edges.length = 2 ∧
    (combF (z.map (·.1)) (z.map (·.2)) num den).sites.length < 2 ^ 30 ∧ ∀ s ∈ (combF (z.map (·.1)) (z.map (·.2)) num den).sites, s.tg.length < 2 ^ 30 := by
  have hm : ((z.map (fun p : Int × FC => p.2)).getD 0 (default : FC)) ∈ z.map (fun p : Int × FC => p.2) := mem_getD (by simpa using h0)
  obtain ⟨p, hp, e⟩ := List.mem_map.1 hm
  have hb := (hd p hp).ok.nb
  have he := (hd p hp).ok.ne
  rw [e] at hb he
  have e1 : (z.map (·.1)).map (wOf num den) = (z.map fun p => (wOf num den p.1, p.2)).map (·.1) := by simp
  have e2 : z.map (·.2) = (z.map fun p => (wOf num den p.1, p.2)).map (·.2) := by simp
  have hk : (addAll ((z.map (·.1)).map (wOf num den)) (z.map (·.2)) (z.map (·.2)).length).length ≤ 12 := by
    rw [e1, e2, List.length_map, addAll_trip _ _ (Nat.le_refl _), List.take_length]
    have hn := fold_nodup ((z.map fun p => (wOf num den p.1, p.2)).flatMap tripX) [] (by simp)
    have := nodup_le _ keys12 hn (fun q hq => by
      rcases (fold_keys _ _ _).1 hq with h | ⟨t, ht, rfl⟩
      · simp at h
      · obtain ⟨p, hpz, ht⟩ := List.mem_flatMap.1 ht
        obtain ⟨p', hp', rfl⟩ := List.mem_map.1 hpz
        obtain ⟨s, hs, ht⟩ := List.mem_flatMap.1 ht
        obtain ⟨u, hu, rfl⟩ := List.mem_map.1 ht
        exact drawn_keys (hd p' hp') s hs u hu)
    rw [List.length_map] at this
    exact this
  have hs := sitesF_small (den ^ 8) (addAll ((z.map (·.1)).map (wOf num den)) (z.map (·.2)) (z.map (·.2)).length)
  have q1 : (combF (z.map (·.1)) (z.map (·.2)) num den).blocks.length = 2 := by simp only [combF, countsF, List.length_map, List.length_range, hb]
  have q2 : (combF (z.map (·.1)) (z.map (·.2)) num den).edges.length = 2 := by simp only [combF, countsF, List.length_map, List.length_range, he]
  refine ⟨q1, q2, ?_, fun s h => ?_⟩
  · have := hs.1
    show (sitesF _ _).length < _
    omega
  · have := hs.2 s h
    omega
end Go.Proofs.Ythginmfobikdgaa
