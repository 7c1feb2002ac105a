/- Chapter 32, plain: a single list. -/
import Derived.Test.YthginmfobikdgaaWtP
set_option linter.unusedSimpArgs false
set_option linter.unusedVariables false
namespace Go.Proofs.Ythginmfobikdgaa
open Go.PV

/-! The numbers of a single list. -/
theorem each1 (num : FC → Int) (w D : Int) (x : FC) (hw : 0 ≤ w ∧ w ≤ 65536) (h1 : 1 ≤ D) (h2 : D ≤ 65536) : eachF num [w] [x] D = if 0 ≤ num x then min (num x * w / D) 1099511627776 else -1 := by
  rw [eachF_raw num [w] [x] D (fun v hv => by rw [List.mem_singleton] at hv; rw [hv]; exact hw) (Nat.le_refl _) h1 h2]
  by_cases h : 0 ≤ num x
  · have hk : known num [x] [x].length = true := (known_iff num [x]).2 ⟨x, by simp, h⟩
    rw [hk, if_pos rfl, if_pos h]
    simp [raw, h]
  · have hk : known num [x] [x].length = false := by
      rw [Bool.eq_false_iff]
      intro e
      obtain ⟨y, hy, h0⟩ := (known_iff num [x]).1 e
      rw [List.mem_singleton] at hy
      subst hy
      exact h h0
    rw [hk, if_neg (by simp), if_neg h]
theorem each_full (num : FC → Int) (D : Int) (x : FC) (hn : -1 ≤ num x ∧ num x ≤ 1099511627776) (h1 : 1 ≤ D) (h2 : D ≤ 65536) : eachF num [D] [x] D = num x := by
  rw [each1 num D D x ⟨by omega, h2⟩ h1 h2, Int.mul_ediv_cancel _ (by omega)]
  split <;> omega
theorem each_less (num : FC → Int) (w v D : Int) (x : FC) (hw : 0 ≤ w ∧ w ≤ 65536) (hv : 0 ≤ v ∧ v ≤ 65536) (hwv : w ≤ v) (h1 : 1 ≤ D) (h2 : D ≤ 65536) : eachF num [w] [x] D ≤ eachF num [v] [x] D ∧ (eachF num [w] [x] D < 0 ↔ num x < 0) := by
  rw [each1 num w D x hw h1 h2, each1 num v D x hv h1 h2]
  by_cases h : 0 ≤ num x
  · rw [if_pos h, if_pos h]
    have a1 : num x * w / D ≤ num x * v / D := Int.ediv_le_ediv (by omega) (Int.mul_le_mul_of_nonneg_left hwv h)
    have a2 : 0 ≤ num x * w / D := Int.ediv_nonneg (Int.mul_nonneg h hw.1) (by omega)
    omega
  · rw [if_neg h, if_neg h]
    omega
theorem wOf_less (num den a k : Int) (hr : validR num den) (ha : ageOk a) (hk : 0 ≤ k ∧ k ≤ a) : wOf num den a ≤ wOf num den k := by
  have h : ∀ (n d : Fin 5) (a k : Fin 9), n.1 ≤ d.1 → k.1 ≤ a.1 → n.1 ^ a.1 * d.1 ^ (8 - a.1) ≤ n.1 ^ k.1 * d.1 ^ (8 - k.1) := by decide +kernel
  obtain ⟨h1, h2, h3, h4⟩ := hr
  obtain ⟨h5, h6⟩ := ha
  obtain ⟨n, rfl⟩ := Int.eq_ofNat_of_zero_le h1
  obtain ⟨d, rfl⟩ := Int.eq_ofNat_of_zero_le (show 0 ≤ den by omega)
  obtain ⟨a, rfl⟩ := Int.eq_ofNat_of_zero_le h5
  obtain ⟨k, rfl⟩ := Int.eq_ofNat_of_zero_le hk.1
  have h7 := h ⟨n, by omega⟩ ⟨d, by omega⟩ ⟨a, by omega⟩ ⟨k, by omega⟩ (show n ≤ d by omega) (show k ≤ a by omega)
  dsimp only at h7
  have e : ∀ a : Nat, a ≤ 8 → wOf n d a = ((n ^ a * d ^ (8 - a) : Nat) : Int) := fun a h => by
    have e : (8 - (a : Int)).toNat = 8 - a := by omega
    simp [wOf, e]
  rw [e a (by omega), e k (by omega)]
  omega

/-! The sites of a single list. -/
def pos (s : Site) : Site := ⟨s.blk, s.ins, s.tg.filter fun t => decide (0 < t.2)⟩
def keepS (S : List Site) : List Site := (S.map pos).filter fun s => !s.tg.isEmpty
theorem keepS_app (S T : List Site) : keepS (S ++ T) = keepS S ++ keepS T := by simp [keepS]
theorem putL_app (L : List (K3 × Int)) (k : K3) (c w : Int) (h : k ∉ L.map (·.1)) : putL L k c w = L ++ [(k, addT 0 c w)] := by
  induction L with
  | nil => rfl
  | cons e L ih =>
    simp only [List.map_cons, List.mem_cons, not_or] at h
    simp only [putL]
    rw [if_neg (fun e => h.1 e.symm), ih h.2]
    rfl
theorem fold_distinct : ∀ (ts : List T3) (L : List (K3 × Int)), (ts.map (·.1)).Nodup → (∀ e ∈ ts, e.1 ∉ L.map (·.1)) → ts.foldl put3 L = L ++ ts.map (fun e => (e.1, addT 0 e.2.1 e.2.2))
  | [], L, _, _ => by simp
  | e :: ts, L, hn, hd => by
    simp only [List.map_cons, List.nodup_cons] at hn
    rw [List.foldl_cons, put3, putL_app _ _ _ _ (hd e (by simp)), fold_distinct ts _ hn.2 (fun e' he' hm => by
      simp only [List.map_append, List.map_cons, List.map_nil, List.mem_append, List.mem_singleton] at hm
      rcases hm with hm | hm
      · exact hd e' (by simp [he']) hm
      · exact hn.1 (by rw [← hm]; exact List.mem_map_of_mem he'))]
    simp
theorem sortK_id {L : List K3} (h : L.Pairwise ltK) : sortK L = L :=
  sorted_unique _ _ (sortK_perm L) (sortK_sorted L) (h.imp (fun {a b} h => by unfold leK ltK at *; omega))
theorem ltK_nodup {L : List K3} (h : L.Pairwise ltK) : L.Nodup := h.imp (fun {a b} h e => by subst e; unfold ltK at h; omega)
theorem fold_steps (D : Int) (Lm : List (K3 × Int)) : ∀ (us : List T3) (out : List Site), (∀ e ∈ us, min (tOf Lm e.1 / D) 1099511627776 = e.2.1) → (us.map (·.1)).foldl (fun out k => stepS out k (min (tOf Lm k / D) 1099511627776)) out = us.foldl (fun out e => stepS out e.1 e.2.1) out
  | [], _, _ => rfl
  | e :: us, out, h => by
    rw [List.map_cons, List.foldl_cons, List.foldl_cons, h e (by simp)]
    exact fold_steps D Lm us _ (fun e' he' => h e' (by simp [he']))
theorem sitesF_sorted (D : Int) (h1 : 1 ≤ D) (h2 : D ≤ 65536) (ts : List T3) (hs : (ts.map (·.1)).Pairwise ltK) (hw : ∀ e ∈ ts, e.2.2 = D ∧ 0 ≤ e.2.1 ∧ e.2.1 ≤ 1099511627776) : sitesF D (ts.foldl put3 []) = ts.foldl (fun out e => stepS out e.1 e.2.1) [] := by
  have hn := ltK_nodup hs
  have e0 := fold_distinct ts [] hn (by simp)
  have e1 : (ts.foldl put3 []).map (·.1) = ts.map (·.1) := by rw [e0]; simp
  unfold sitesF outF
  rw [e1, sortK_id hs]
  refine fold_steps D _ ts [] (fun e he => ?_)
  have ht : tOf (ts.foldl put3 []) e.1 = addT 0 e.2.1 e.2.2 := tOf_of (by rw [e1]; exact hn) (by rw [e0]; exact List.mem_map.2 ⟨e, he, rfl⟩)
  obtain ⟨w1, w2, w3⟩ := hw e he
  have hb := mul_bound w2 w3 (show 0 ≤ D by omega) h2
  rw [ht, addT, if_pos w2, w1, Int.zero_add, Int.min_eq_left (show e.2.1 * D ≤ 144115188075855872 by omega), Int.mul_ediv_cancel _ (by omega)]
  omega
theorem step2 (out : List Site) (b i f c d : Int) (h : out = [] ∨ (out.getD (out.length - 1) default).blk ≠ b) (hc : 0 ≤ c) (hd : 0 ≤ d) : stepS (stepS out (b, i, f) c) (b, i, 2) d = out ++ keepS [⟨b, i, [(f, c), (2, d)]⟩] := by
  have hno : ∀ j, ¬ (out ≠ [] ∧ (out.getD (out.length - 1) default).blk = b ∧ j) := fun j hh => by
    rcases h with h | h
    · exact hh.1 h
    · exact h hh.2.1
  have hst : ∀ k n, ¬ n ≤ 0 → k.1 = b → stepS out k n = out ++ [⟨k.1, k.2.1, [(k.2.2, n)]⟩] := fun k n hn hk => by
    unfold stepS
    rw [if_neg hn, hk, if_neg (hno _)]
  have hz : ∀ o k n, n ≤ 0 → stepS o k n = o := fun o k n hn => by unfold stepS; rw [if_pos hn]
  by_cases hc0 : c ≤ 0
  · rw [hz _ _ _ hc0]
    by_cases hd0 : d ≤ 0
    · rw [hz _ _ _ hd0]
      simp [keepS, pos, show ¬ 0 < c by omega, show ¬ 0 < d by omega]
    · rw [hst _ _ hd0 rfl]
      simp [keepS, pos, show ¬ 0 < c by omega, show 0 < d by omega]
  · rw [hst _ _ hc0 rfl]
    by_cases hd0 : d ≤ 0
    · rw [hz _ _ _ hd0]
      simp [keepS, pos, show 0 < c by omega, show ¬ 0 < d by omega]
    · have e1 : (out ++ [(⟨b, i, [(f, c)]⟩ : Site)]).length - 1 = out.length := by simp
      have e2 : (out ++ [(⟨b, i, [(f, c)]⟩ : Site)]).getD out.length default = ⟨b, i, [(f, c)]⟩ := by simp
      unfold stepS
      dsimp only
      rw [if_neg hd0, e1, e2, if_pos ⟨by simp, rfl, rfl⟩]
      simp [keepS, pos, show 0 < c by omega, show 0 < d by omega]
theorem sites_full (D : Int) (h1 : 1 ≤ D) (h2 : D ≤ 65536) (x : FC) (hx : Drawn x) : sitesF D (addAll [D] [x] 1) = keepS x.sites := by
  obtain ⟨s0, s1, hs, o0, o1⟩ := hx.sites
  have e : addAll [D] [x] 1 = (x.sites.flatMap (tripS D)).foldl put3 [] := addSt_trip D x.sites []
  rw [e, hs]
  have nil1 : keepS [] = [] := rfl
  rcases o0 with rfl | ⟨i, f, c, d, hi, hf, hc, hd, rfl⟩ <;> rcases o1 with rfl | ⟨i', f', c', d', hi', hf', hc', hd', rfl⟩
  · rfl
  · rw [sitesF_sorted D h1 h2 _ (by simp [tripS, ltK]; omega) (by simp [tripS]; omega)]
    have := step2 [] 1 i' f' c' d' (.inl rfl) hc'.1 hd'.1
    simpa [tripS] using this
  · rw [sitesF_sorted D h1 h2 _ (by simp [tripS, ltK]; omega) (by simp [tripS]; omega)]
    have := step2 [] 0 i f c d (.inl rfl) hc.1 hd.1
    simpa [tripS] using this
  · rw [sitesF_sorted D h1 h2 _ (by simp [tripS, ltK]; omega) (by simp [tripS]; omega)]
    have a1 := step2 [] 0 i f c d (.inl rfl) hc.1 hd.1
    rw [List.nil_append] at a1
    have hl : keepS [⟨0, i, [(f, c), (2, d)]⟩] = [] ∨ ((keepS [⟨0, i, [(f, c), (2, d)]⟩]).getD ((keepS [⟨0, i, [(f, c), (2, d)]⟩]).length - 1) default).blk ≠ 1 := by
      by_cases h : 0 < c <;> by_cases h' : 0 < d <;> simp [keepS, pos, h, h']
    have a2 := step2 (keepS [⟨0, i, [(f, c), (2, d)]⟩]) 1 i' f' c' d' hl hc'.1 hd'.1
    rw [← keepS_app] at a2
    have e2 : (([⟨0, i, [(f, c), (2, d)]⟩] ++ [⟨1, i', [(f', c'), (2, d')]⟩] : List Site).flatMap (tripS D)).foldl (fun out e => stepS out e.1 e.2.1) [] = stepS (stepS (stepS (stepS [] (0, i, f) c) (0, i, 2) d) (1, i', f') c') (1, i', 2) d' := rfl
    rw [e2, a1, a2]
/-- What is left of a list. -/
def fullF (x : FC) : FC := ⟨x.ent, x.blocks, x.edges, keepS x.sites⟩
theorem combF_full (x : FC) (hx : Drawn x) (a num den : Int) (hr : validR num den) (hf : wOf num den a = den ^ 8) : combF [a] [x] num den = fullF x := by
  have hd := pow8_in den hr.2.2.1 hr.2.2.2
  obtain ⟨D, hD⟩ : ∃ D, D = den ^ 8 := ⟨_, rfl⟩
  rw [← hD] at hd
  have hb := hx.ok.nb
  have he := hx.ok.ne
  have hbl := hx.ok.blocks
  have hel := hx.ok.edges
  unfold combF countsF fullF
  rw [List.map_cons, List.map_nil, hf, ← hD]
  simp only [List.length_singleton, List.getD_cons_zero]
  rw [sites_full D hd.1 hd.2 x hx, each_full FC.ent D x hx.ok.ent hd.1 hd.2, hb, he]
  obtain ⟨en, bs, es, S⟩ := x
  match bs, es, hb, he with
  | [b0, b1], [q0, q1], _, _ =>
    simp only [List.mem_cons, List.not_mem_nil, or_false, forall_eq_or_imp, forall_eq] at hbl hel
    obtain ⟨hb0, hb1⟩ := hbl
    obtain ⟨⟨g1, g2⟩, g3, g4⟩ := hel
    have er : List.range 2 = [0, 1] := rfl
    rw [er]
    simp only [List.map_cons, List.map_nil]
    rw [each_full _ D _ hb0 hd.1 hd.2, each_full _ D _ hb1 hd.1 hd.2, each_full _ D _ g1 hd.1 hd.2, each_full _ D _ g2 hd.1 hd.2, each_full _ D _ g3 hd.1 hd.2, each_full _ D _ g4 hd.1 hd.2]
    rfl
end Go.Proofs.Ythginmfobikdgaa
