/- Chapter 32, the walks: Combine of lists that are drawn; plain sums. -/
import Derived.Test.YthginmfobikdgaaWtM
import Derived.Test.YthginmfobikdgaaWtI
import Derived.Test.YthginmfobikdgaaWtK
set_option linter.unusedSimpArgs false
set_option linter.unusedVariables false
namespace Go.Proofs.Ythginmfobikdgaa
open Go.PV

def keys12 : List K3 := [(0, 0, 0), (0, 0, 1), (0, 0, 2), (0, 1, 0), (0, 1, 1), (0, 1, 2), (1, 0, 0), (1, 0, 1), (1, 0, 2), (1, 1, 0), (1, 1, 1), (1, 1, 2)]
theorem oneSite_key {b : Int} {S : List Site} (hb : b = 0 ∨ b = 1) (h : oneSite b S) : ∀ s ∈ S, ∀ t ∈ s.tg, (s.blk, s.ins, t.1) ∈ keys12 := by
  intro s hs t ht
  rcases h with rfl | ⟨i, f, c, d, hi, hf, _, _, rfl⟩
  · simp at hs
  · rw [List.mem_singleton] at hs
    subst hs
    have hi : i = 0 ∨ i = 1 := by omega
    have hf : f = 0 ∨ f = 1 := by omega
    simp only [List.mem_cons, List.not_mem_nil, or_false] at ht
    rcases ht with rfl | rfl <;> rcases hb with rfl | rfl <;> rcases hi with rfl | rfl <;> rcases hf with rfl | rfl <;> simp [keys12]
theorem drawn_keys {x : FC} (h : Drawn x) : ∀ s ∈ x.sites, ∀ t ∈ s.tg, (s.blk, s.ins, t.1) ∈ keys12 := by
  obtain ⟨s0, s1, hx, h0, h1⟩ := h.sites
  intro s hs
  rw [hx, List.mem_append] at hs
  rcases hs with hs | hs
  · exact oneSite_key (.inl rfl) h0 s hs
  · exact oneSite_key (.inr rfl) h1 s hs
/-- What Combine returns. -/
def combF (a : List Int) (l : List FC) (num den : Int) : FC := countsF (a.map (wOf num den)) (den ^ 8) l (sitesF (den ^ 8) (addAll (a.map (wOf num den)) l l.length))
theorem combine_drawn (a : List Int) (l : List FC) (num den : Int) (hr : validR num den) (ha : ∀ x ∈ a, ageOk x) (hal : a.length = l.length) (hl0 : 0 < l.length) (hl : l.length ≤ 32) (hx : ∀ x ∈ l, Drawn x) (σ : Store) :
    PCall Try.prog 27 [.sl (ints a), .sl (encC l), .agg [.int .i64 num, .int .i64 den]] σ (fun p σ' => p = .tup [.agg [.sl [(combF a l num den).row]], .int .i64 0] ∧ σ' = σ) := by
  have hd := pow8_in den hr.2.2.1 hr.2.2.2
  have hw : ∀ w ∈ a.map (wOf num den), 0 ≤ w ∧ w ≤ 65536 := fun w hw => by
    obtain ⟨x, hx, rfl⟩ := List.mem_map.1 hw
    exact wOf_in num den x hr (ha x hx)
  have hS : ∀ σ, PCall Try.prog 94 [.agg (mixV (a.map (wOf num den)) (den ^ 8) l)] σ (fun p σ' => p = .sl (encS (sitesF (den ^ 8) (addAll (a.map (wOf num den)) l l.length))) ∧ σ' = σ) := fun σ =>
    PCall.lift (sites_w keys12 (by decide) _ _ l (by omega) (by simp; omega) hw (by simp; omega) hd.1 (fun x h => (hx x h).ok.sites) (fun x h => drawn_keys (hx x h)) (fun x h => (hx x h).ok.few))
      (by simp only [List.forall_mem_cons, List.not_mem_nil, false_implies, implies_true, and_true]; exact mixV_bel _ _ _ _) (fun p h => ⟨by rw [h]; exact bel_sites _ _, h, rfl⟩)
  refine PCall.lift (combine_ok a l _ num den 2 2 hr ha hal hl0 hl (fun x h => (hx x h).ok) (by omega) (by omega) (by omega) (by omega) hS) ?_ (fun p h => ⟨?_, h, rfl⟩)
  · simp only [List.forall_mem_cons, List.not_mem_nil, false_implies, implies_true, and_true]
    exact ⟨bel_ints _ _, bel_sl (encC_bel _ _), bel_rate _ _ _⟩
  · rw [h]
    exact bel_tup2 (row_bel _) (bel_int _ _ _)

/-! Sums without a bound. -/
def raw (num : FC → Int) (ws : List Int) (l : List FC) : Nat → Int
  | 0 => 0
  | k + 1 => raw num ws l k + (if 0 ≤ num (l.getD k default) then num (l.getD k default) * ws.getD k 0 else 0)
theorem total_raw (num : FC → Int) (ws : List Int) (l : List FC) (hw : ∀ w ∈ ws, 0 ≤ w ∧ w ≤ 65536) : ∀ k, k ≤ ws.length → total num ws l k = min (raw num ws l k) 144115188075855872 ∧ 0 ≤ raw num ws l k
  | 0, _ => by simp only [total, raw]; omega
  | k + 1, h => by
    have ih := total_raw num ws l hw k (by omega)
    have hk := hw _ (getD_mem (show k < ws.length by omega))
    simp only [total, raw, addT]
    split
    · rename_i h0
      have := Int.mul_nonneg h0 hk.1
      rw [ih.1]; omega
    · rw [ih.1]; omega
theorem raw_le (num : FC → Int) (ws : List Int) (l : List FC) (hw : ∀ w ∈ ws, 0 ≤ w ∧ w ≤ 65536) (hn : ∀ x ∈ l, num x ≤ 1099511627776) : ∀ k, k ≤ ws.length → k ≤ l.length → raw num ws l k ≤ k * 72057594037927936
  | 0, _, _ => by simp [raw]
  | k + 1, h, h2 => by
    have ih := raw_le num ws l hw hn k (by omega) (by omega)
    have hk := hw _ (getD_mem (show k < ws.length by omega))
    simp only [raw]
    split
    · rename_i h0
      have := mul_bound h0 (hn _ (by rw [List.getD_eq_getElem?_getD, List.getElem?_eq_getElem (show k < l.length by omega)]; simp)) hk.1 hk.2
      omega
    · omega
/-- The bound of a sum is no matter. -/
theorem over_raw {s D : Int} (hs : 0 ≤ s) (h1 : 1 ≤ D) (h2 : D ≤ 65536) : min (min s 144115188075855872 / D) 1099511627776 = min (s / D) 1099511627776 := by
  by_cases h : s ≤ 144115188075855872
  · rw [Int.min_eq_left h]
  · have a1 : 1099511627776 ≤ 144115188075855872 / D := (Int.le_ediv_iff_mul_le (by omega)).2 (by omega)
    have a2 : 1099511627776 ≤ s / D := (Int.le_ediv_iff_mul_le (by omega)).2 (by omega)
    rw [Int.min_eq_right (show (144115188075855872 : Int) ≤ s by omega)]
    omega
theorem eachF_raw (num : FC → Int) (ws : List Int) (l : List FC) (D : Int) (hw : ∀ w ∈ ws, 0 ≤ w ∧ w ≤ 65536) (hl : l.length ≤ ws.length) (h1 : 1 ≤ D) (h2 : D ≤ 65536) : eachF num ws l D = if known num l l.length then min (raw num ws l l.length / D) 1099511627776 else -1 := by
  have h := total_raw num ws l hw l.length hl
  unfold eachF
  rw [h.1, over_raw h.2 h1 h2]
theorem pow_quo {den : Int} {n : Nat} (h1 : 1 ≤ den) (hn : n ≤ 8) : den ^ 8 / den ^ n = den ^ (8 - n) := by
  have hp : 0 < den ^ n := Int.pow_pos (by omega)
  have e : den ^ 8 = den ^ (8 - n) * den ^ n := by rw [← Int.pow_add]; congr 1; omega
  rw [e, Int.mul_ediv_cancel _ (by omega)]
theorem countsF_block (ws : List Int) (D : Int) (l : List FC) (S : List Site) (hx : (l.getD 0 default).blocks.length = 2) : ∃ vb : List Int, (countsF ws D l S).blocks = vb ∧ vb.length = 2 ∧ ∀ b, b < 2 → vb.getD b 0 = eachF (fun x => x.blocks.getD b 0) ws l D := by
  refine ⟨_, rfl, by simp only [countsF, List.length_map, List.length_range, hx], fun b hb => ?_⟩
  simp only [countsF, hx]
  match b, hb with
  | 0, _ => rfl
  | 1, _ => rfl
end Go.Proofs.Ythginmfobikdgaa
