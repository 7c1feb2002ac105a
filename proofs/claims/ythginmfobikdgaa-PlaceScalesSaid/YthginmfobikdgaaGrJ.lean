/- Chapter 38, plain: sizes, counts and page in other measures. -/
import Derived.Test.YthginmfobikdgaaGrH
set_option linter.unusedSimpArgs false
set_option linter.unusedVariables false
namespace Go.Proofs.Ythginmfobikdgaa
open Go.PV

def R12 : (Int → Int → Int) → List Int → List Int → Prop := fun cf L0 L => L = insS (ltOf cf) L0
def greedyF (sizes : List Int) (calls : List CallI) (page : Int) : List Int :=
  let s := runG page (initG sizes) (hotF calls)
  outG s.gs (insS (ltOf (cfG (winG s.of (List.replicate sizes.length 0) calls) s.gs)) (liveG s.gs sizes.length))
theorem greedyF_of {sizes : List Int} {calls : List CallI} {page : Int} {out : List Int} (h : GreedyR R12 sizes calls page out) : out = greedyF sizes calls page := by
  obtain ⟨s, wi, L, rfl, rfl, h, _, rfl⟩ := h
  rw [h]; rfl

section
variable (a b : Int) (ha : 0 < a) (hb : 0 < b)
include ha hb
def mulL (a : Int) (l : List Int) : List Int := l.map (a * ·)
def cMul (b : Int) (c : CallI) : CallI := ⟨c.fn, c.blk, c.ins, c.cal, c.cnt * b⟩
def mulC (b : Int) (l : List CallI) : List CallI := l.map (cMul b)
omit ha hb in
theorem mulL_getD (l : List Int) (i : Nat) : (mulL a l).getD i 0 = a * l.getD i 0 := by
  rw [mulL, List.getD_eq_getElem?_getD, List.getD_eq_getElem?_getD, List.getElem?_map]
  cases l[i]? <;> simp
omit ha hb in
theorem mulC_getD (l : List CallI) (i : Nat) : (mulC b l).getD i default = cMul b (l.getD i default) := by
  rw [mulC, List.getD_eq_getElem?_getD, List.getD_eq_getElem?_getD, List.getElem?_map]
  cases l[i]? with
  | none => show (⟨0, 0, 0, 0, 0⟩ : CallI) = ⟨0, 0, 0, 0, 0 * b⟩; rw [Int.zero_mul]
  | some c => rfl
omit ha hb in
theorem adr_mul (sizes ord : List Int) : ∀ k, adr (mulL a sizes) ord k = a * adr sizes ord k
  | 0 => by simp [adr]
  | k + 1 => by rw [adr, adr, adr_mul sizes ord k, mulL_getD, Int.mul_add]
omit hb in
theorem pgL_mul (sizes ord : List Int) (page : Int) : ∀ k, pgL (mulL a sizes) (a * page) ord k = pgL sizes page ord k
  | 0 => by simp [pgL, mulL]
  | k + 1 => by rw [pgL, pgL, pgL_mul sizes ord page k, adr_mul a, Int.mul_ediv_mul_of_pos _ _ ha]
omit ha hb in
theorem wsum_mul (pages : List Int) (calls : List CallI) : ∀ k, wsum pages (mulC b calls) k = b * wsum pages calls k
  | 0 => by simp [wsum]
  | k + 1 => by
    rw [wsum, wsum, wsum_mul pages calls k, mulC_getD]
    show _ + (if pages.getD (calls.getD k default).fn.toNat 0 = pages.getD (calls.getD k default).cal.toNat 0 then 0 else (calls.getD k default).cnt * b) = _
    split
    · rw [Int.add_zero, Int.add_zero]
    · rw [Int.mul_add, Int.mul_comm b (calls.getD k default).cnt]
omit hb in
theorem wgt_mul (sizes : List Int) (calls : List CallI) (page : Int) (ord : List Int) : wgt (mulL a sizes) (mulC b calls) (a * page) ord = b * wgt sizes calls page ord := by
  rw [wgt, wgt, pgL_mul a ha, wsum_mul]
  congr 2
  simp [mulC]
theorem bestO_mul (sizes : List Int) (calls : List CallI) (page : Int) : bestO (mulL a sizes) (mulC b calls) (a * page) = bestO sizes calls page := by
  unfold bestO
  have hl : (mulL a sizes).length = sizes.length := by simp [mulL]
  rw [hl, visitB_exts, visitB_exts]
  have key : ∀ (L : List (List Int)) (o : Option (List Int)) (w : Int), L.foldl (fun b' x => updB (wgt (mulL a sizes) (mulC b calls) (a * page)) b' x) (o, b * w) = ((L.foldl (fun b' x => updB (wgt sizes calls page) b' x) (o, w)).1, b * (L.foldl (fun b' x => updB (wgt sizes calls page) b' x) (o, w)).2) := by
    intro L
    induction L with
    | nil => intro o w; rfl
    | cons x L ih =>
      intro o w
      rw [List.foldl_cons, List.foldl_cons]
      unfold updB
      dsimp only
      rw [wgt_mul a b ha]
      have e : (b * wgt sizes calls page x < b * w) ↔ wgt sizes calls page x < w := Int.mul_lt_mul_left hb
      by_cases h : o = none ∨ wgt sizes calls page x < w
      · rw [if_pos h, if_pos (by rw [e]; exact h)]
        exact ih _ _
      · rw [if_neg h, if_neg (by rw [e]; exact h)]
        exact ih _ _
  have := key (extsB sizes.length sizes.length []) none 0
  rw [Int.mul_zero] at this
  rw [this]

/-! Insertion sort of other elements. -/
omit a b ha hb in
theorem getD_mapD {α β : Type} [Inhabited α] [Inhabited β] (f : α → β) (hf : f default = default) (l : List α) (i : Nat) : (l.map f).getD i default = f (l.getD i default) := by
  rw [List.getD_eq_getElem?_getD, List.getD_eq_getElem?_getD, List.getElem?_map]
  cases l[i]? with
  | none => exact hf.symm
  | some x => rfl
omit a b ha hb in
theorem ins1_map {α β : Type} [Inhabited α] [Inhabited β] (f : α → β) (hf : f default = default) (lt : α → α → Bool) (lt' : β → β → Bool) (h : ∀ x y, lt' (f x) (f y) = lt x y) : ∀ (j : Nat) (L : List α), ins1 lt' j (L.map f) = (ins1 lt j L).map f
  | 0, L => rfl
  | j + 1, L => by
    rw [ins1, ins1, getD_mapD f hf, getD_mapD f hf, h]
    split
    · rw [show swp (L.map f) j = (swp L j).map f by rw [swp, swp, getD_mapD f hf, getD_mapD f hf, List.map_set, List.map_set]]
      exact ins1_map f hf lt lt' h j _
    · rfl
omit a b ha hb in
theorem insS_map {α β : Type} [Inhabited α] [Inhabited β] (f : α → β) (hf : f default = default) (lt : α → α → Bool) (lt' : β → β → Bool) (h : ∀ x y, lt' (f x) (f y) = lt x y) (L : List α) : insS lt' (L.map f) = (insS lt L).map f := by
  have : ∀ k, insTo lt' (L.map f) k = (insTo lt L k).map f := fun k => by
    induction k with
    | zero => rfl
    | succ k ih => rw [insTo, insTo, ih, ins1_map f hf lt lt' h]
  rw [insS, insS, List.length_map, this]
omit a ha in
theorem hotF_mul (calls : List CallI) : hotF (mulC b calls) = mulC b (hotF calls) := by
  unfold hotF mulC
  rw [List.filter_map, show ((fun c : CallI => decide (0 < c.cnt)) ∘ cMul b) = fun c : CallI => decide (0 < c.cnt) from by
    funext c
    show decide (0 < c.cnt * b) = decide (0 < c.cnt)
    rw [decide_eq_decide]
    have : (0 : Int) * b < c.cnt * b ↔ 0 < c.cnt := Int.mul_lt_mul_right hb
    rwa [Int.zero_mul] at this]
  refine insS_map (cMul b) ?_ _ _ (fun x y => ?_) _
  · show (⟨0, 0, 0, 0, 0 * b⟩ : CallI) = ⟨0, 0, 0, 0, 0⟩
    rw [Int.zero_mul]
  · show decide (y.cnt * b < x.cnt * b) = decide (y.cnt < x.cnt)
    rw [decide_eq_decide]
    exact Int.mul_lt_mul_right hb
def mulS (a : Int) (s : GS) : GS := ⟨s.gs, s.of, mulL a s.by_⟩
omit hb in
theorem stepG_mul (page : Int) (s : GS) (c : CallI) : stepG (a * page) (mulS a s) (cMul b c) = mulS a (stepG page s c) := by
  unfold stepG
  show (if s.of.getD c.fn.toNat 0 = s.of.getD c.cal.toNat 0 ∨ a * page < (mulL a s.by_).getD (s.of.getD c.fn.toNat 0).toNat 0 + (mulL a s.by_).getD (s.of.getD c.cal.toNat 0).toNat 0 then mulS a s else joinG (mulS a s) (s.of.getD c.fn.toNat 0).toNat (s.of.getD c.cal.toNat 0).toNat) = _
  dsimp only
  rw [mulL_getD, mulL_getD, ← Int.mul_add]
  have e : ∀ x, (a * page < a * x) ↔ page < x := fun x => Int.mul_lt_mul_left ha
  simp only [e]
  split
  · rfl
  · unfold joinG mulS
    dsimp only
    rw [mulL_getD, mulL_getD, ← Int.mul_add]
    congr 1
    simp [mulL, List.map_set]
omit hb in
theorem runG_mul (page : Int) : ∀ (l : List CallI) (s : GS), runG (a * page) (mulS a s) (mulC b l) = mulS a (runG page s l)
  | [], s => rfl
  | c :: l, s => by
    have := runG_mul page l (stepG page s c)
    rw [← stepG_mul a b ha page s c] at this
    exact this
omit ha hb in
theorem winG_mul (of : List Int) : ∀ (l : List CallI) (wi : List Int), winG of (mulL b wi) (mulC b l) = mulL b (winG of wi l)
  | [], wi => rfl
  | c :: l, wi => by
    have h1 : winS of (mulL b wi) (cMul b c) = mulL b (winS of wi c) := by
      unfold winS
      show (if of.getD c.fn.toNat 0 = of.getD c.cal.toNat 0 then (mulL b wi).set (of.getD c.fn.toNat 0).toNat ((mulL b wi).getD (of.getD c.fn.toNat 0).toNat 0 + c.cnt * b) else mulL b wi) = _
      split
      · rw [mulL_getD, Int.mul_comm c.cnt b, ← Int.mul_add]
        simp [mulL, List.map_set]
      · rfl
    have := winG_mul of l (winS of wi c)
    rw [← h1] at this
    exact this
omit a ha in
theorem cmpG_mul (x y : Int) : cmpG (b * x) (b * y) = cmpG x y := by
  unfold cmpG
  have e : ∀ x y, (b * x < b * y) ↔ x < y := fun x y => Int.mul_lt_mul_left hb
  simp only [e]
theorem greedyF_mul (sizes : List Int) (calls : List CallI) (page : Int) : greedyF (mulL a sizes) (mulC b calls) (a * page) = greedyF sizes calls page := by
  have hl : (mulL a sizes).length = sizes.length := by simp [mulL]
  have hi : initG (mulL a sizes) = mulS a (initG sizes) := by rw [initG, hl]; rfl
  have hz : List.replicate sizes.length (0 : Int) = mulL b (List.replicate sizes.length 0) := by rw [mulL, List.map_replicate, Int.mul_zero]
  have hcf : ∀ wi gs, cfG (mulL b wi) gs = cfG wi gs := fun wi gs => by
    funext x y
    unfold cfG
    rw [mulL_getD, mulL_getD, cmpG_mul b hb]
  unfold greedyF
  rw [hi, hl, hotF_mul b hb, runG_mul a b ha]
  show outG _ (insS (ltOf (cfG (winG _ (List.replicate sizes.length 0) (mulC b calls)) _)) _) = _
  rw [hz, winG_mul, hcf, ← hz]; rfl
end
def orderF (sizes : List Int) (calls : List CallI) (page : Int) : List Int := if sizes.length ≤ 7 then bestO sizes calls page else greedyF sizes calls page
theorem orderF_mul (a b : Int) (ha : 0 < a) (hb : 0 < b) (sizes : List Int) (calls : List CallI) (page : Int) : orderF (mulL a sizes) (mulC b calls) (a * page) = orderF sizes calls page := by
  have hl : (mulL a sizes).length = sizes.length := by simp [mulL]
  rw [orderF, orderF, hl, bestO_mul a b ha hb, greedyF_mul a b ha hb]
end Go.Proofs.Ythginmfobikdgaa
