/- Chapter 31, plain: the total of two parts. -/
import Derived.Test.YthjoehaglonjaaaGreatSvF
set_option linter.unusedSimpArgs false
set_option linter.unusedVariables false
namespace Go.Proofs.YthjoehaglonjaaaGreat
open Go.PV

def sumR (a b : Int) : Int := if a < 0 then b else if b < 0 then a else min (a + b) 1099511627776
/-- A list is parted in two. -/
inductive PartL {α : Type} : List α → List α → List α → Prop where
  | nil : PartL [] [] []
  | l {L A B : List α} (p : α) : PartL L A B → PartL (L ++ [p]) (A ++ [p]) B
  | r {L A B : List α} (p : α) : PartL L A B → PartL (L ++ [p]) A (B ++ [p])
theorem PartL.sub1 {α : Type} {L A B : List α} (h : PartL L A B) : A.Sublist L := by
  induction h with
  | nil => exact List.Sublist.refl _
  | l p _ ih => exact ih.append (List.Sublist.refl _)
  | r p _ ih => exact ih.trans (List.sublist_append_left _ _)
theorem PartL.sub2 {α : Type} {L A B : List α} (h : PartL L A B) : B.Sublist L := by
  induction h with
  | nil => exact List.Sublist.refl _
  | l p _ ih => exact ih.trans (List.sublist_append_left _ _)
  | r p _ ih => exact ih.append (List.Sublist.refl _)
theorem PartL.len {α : Type} {L A B : List α} (h : PartL L A B) : L.length = A.length + B.length := by
  induction h with
  | nil => rfl
  | l p _ ih => simp; omega
  | r p _ ih => simp; omega
theorem PartL.map {α β : Type} (f : α → β) {L A B : List α} (h : PartL L A B) : PartL (L.map f) (A.map f) (B.map f) := by
  induction h with
  | nil => exact .nil
  | l p _ ih => rw [List.map_append, List.map_append]; exact .l _ ih
  | r p _ ih => rw [List.map_append, List.map_append]; exact .r _ ih
theorem PartL.ofR {L A B : List Pc} (h : PartL L A B) (r : Int) : PartL (ofR L r) (ofR A r) (ofR B r) := by
  have e : ∀ (L : List Pc) (p : Pc), Go.Proofs.YthjoehaglonjaaaGreat.ofR (L ++ [p]) r = if p.id.1 = r then Go.Proofs.YthjoehaglonjaaaGreat.ofR L r ++ [p.fs] else Go.Proofs.YthjoehaglonjaaaGreat.ofR L r := fun L p => by
    unfold Go.Proofs.YthjoehaglonjaaaGreat.ofR
    rw [List.filter_append]
    split
    · rename_i h; simp [h]
    · rename_i h; simp [h]
  induction h with
  | nil => exact .nil
  | l p _ ih =>
    rw [e, e]
    split
    · exact .l _ ih
    · exact ih
  | r p _ ih =>
    rw [e, e]
    split
    · exact .r _ ih
    · exact ih
theorem fold_part {L A B : List Int} (h : PartL L A B) (hc : ∀ x ∈ L, cntd x) : L.foldl plusI (-1) = sumR (A.foldl plusI (-1)) (B.foldl plusI (-1)) ∧ cntd (A.foldl plusI (-1)) ∧ cntd (B.foldl plusI (-1)) := by
  induction h with
  | nil => exact ⟨by decide, by unfold cntd; decide, by unfold cntd; decide⟩
  | l p _ ih =>
    obtain ⟨h1, h2, h3⟩ := ih (fun x hx => hc x (by simp [hx]))
    have hp : cntd p := hc p (by simp)
    rw [List.foldl_append, List.foldl_append, h1]
    refine ⟨?_, plusI_cnt h2 hp, h3⟩
    show plusI (sumR _ _) p = sumR (plusI _ p) _
    unfold cntd at h2 h3 hp
    unfold sumR plusI
    repeat' split
    all_goals omega
  | r p _ ih =>
    obtain ⟨h1, h2, h3⟩ := ih (fun x hx => hc x (by simp [hx]))
    have hp : cntd p := hc p (by simp)
    rw [List.foldl_append, List.foldl_append, h1]
    refine ⟨?_, h2, plusI_cnt h3 hp⟩
    show plusI (sumR _ _) p = sumR _ (plusI _ p)
    unfold cntd at h2 h3 hp
    unfold sumR plusI
    repeat' split
    all_goals omega
theorem fold_ent : ∀ (l : List FC) (z : FC), (l.foldl sumF z).ent = (l.map (·.ent)).foldl plusI z.ent
  | [], z => rfl
  | x :: l, z => by rw [List.foldl_cons, fold_ent l]; rfl
theorem fold_blk {n : Nat} : ∀ (l : List FC) (z : FC), z.blocks.length = n → (∀ x ∈ l, x.blocks.length = n) → (l.foldl sumF z).blocks.length = n ∧ ∀ j, j < n → (l.foldl sumF z).blocks.getD j 0 = (l.map (·.blocks.getD j 0)).foldl plusI (z.blocks.getD j 0)
  | [], z, h, _ => ⟨h, fun j _ => rfl⟩
  | x :: l, z, h, hl => by
    have hx := hl x (by simp)
    have h1 : (sumF z x).blocks.length = n := by simp [sumF]; omega
    obtain ⟨h2, h3⟩ := fold_blk l (sumF z x) h1 (fun y hy => hl y (by simp [hy]))
    refine ⟨h2, fun j hj => ?_⟩
    rw [List.foldl_cons, h3 j hj, List.map_cons, List.foldl_cons]
    congr 1
    show (List.zipWith plusI z.blocks x.blocks).getD j 0 = _
    exact zip_getD plusI _ _ 0 0 0 j (by omega) (by omega)
/-- All have one shape. -/
def OneSh (L : List (List FC)) (w : List Nat) : Prop := ∀ l ∈ L, shp l = w
theorem oneSh_of {L : List (List FC)} (h : notAll L ≠ true) : OneSh L (shp (L.getD 0 [])) := fun l hl => by
  unfold notAll at h
  rw [ne_eq, List.any_eq_true] at h
  by_cases h2 : shp (L.getD 0 []) = shp l
  · exact h2.symm
  · exact absurd ⟨l, hl, by rw [decide_eq_false h2]; rfl⟩ h
theorem notAll_of {L : List (List FC)} {w : List Nat} (h : OneSh L w) (h0 : L ≠ []) : notAll L = false := by
  unfold notAll
  rw [List.any_eq_false]
  intro l hl
  have h1 := h l hl
  have h2 := h _ (gtD (d := []) (List.length_pos_iff.2 h0))
  rw [h1, h2]
  simp
theorem totF_len {L : List (List FC)} {w : List Nat} (h : OneSh L w) (h0 : L ≠ []) : (totF L).length = w.length := by
  have h2 := h _ (gtD (d := []) (List.length_pos_iff.2 h0))
  unfold totF
  simp
  rw [← shp_len, ← h2]; rfl
theorem totF_get {L : List (List FC)} {w : List Nat} (h : OneSh L w) (h0 : L ≠ []) {f : Nat} (hf : f < w.length) : (totF L).getD f default = totC L f := by
  have h2 := h _ (gtD (d := []) (List.length_pos_iff.2 h0))
  have h3 : f < (L.getD 0 []).length := by rw [← shp_len, h2]; exact hf
  unfold totF
  simp only [List.getD_eq_getElem?_getD] at h3 ⊢
  simp [h3]
theorem totC_eq {L : List (List FC)} {w : List Nat} (h : OneSh L w) (h0 : L ≠ []) {f : Nat} (hf : f < w.length) : totC L f = (L.map fun l => l.getD f default).foldl sumF (zeroF (w.getD f 0)) := by
  have h2 := h _ (gtD (d := []) (List.length_pos_iff.2 h0))
  have h3 : f < (L.getD 0 []).length := by rw [← shp_len, h2]; exact hf
  unfold totC
  rw [← shp_get _ _ h3, h2]
/-- What the law says of a release and its two parts. -/
theorem tot_part {L A B : List (List FC)} {w : List Nat} (h : PartL L A B) (hw : OneSh L w) (hA : A ≠ []) (hB : B ≠ []) (hL : L ≠ []) (hc : ∀ l ∈ L, ∀ x ∈ l, cntd x.ent ∧ ∀ n ∈ x.blocks, cntd n) {f : Nat} (hf : f < w.length) :
    ((totC L f).ent = sumR (totC A f).ent (totC B f).ent ∧ cntd (totC A f).ent ∧ cntd (totC B f).ent) ∧ (totC L f).blocks.length = w.getD f 0 ∧ (totC A f).blocks.length = w.getD f 0 ∧ (totC B f).blocks.length = w.getD f 0 ∧
      ∀ j, j < w.getD f 0 → (totC L f).blocks.getD j 0 = sumR ((totC A f).blocks.getD j 0) ((totC B f).blocks.getD j 0) ∧ cntd ((totC A f).blocks.getD j 0) ∧ cntd ((totC B f).blocks.getD j 0) := by
  have hwA : OneSh A w := fun l hl => hw l (h.sub1.subset hl)
  have hwB : OneSh B w := fun l hl => hw l (h.sub2.subset hl)
  rw [totC_eq hw hL hf, totC_eq hwA hA hf, totC_eq hwB hB hf]
  have hfl : ∀ l ∈ L, f < l.length ∧ (l.getD f default).blocks.length = w.getD f 0 := fun l hl => by
    have h1 := hw l hl
    have h2 : f < l.length := by rw [← shp_len, h1]; exact hf
    exact ⟨h2, by rw [← shp_get l f h2, h1]⟩
  have hm := h.map (fun l => l.getD f default)
  have hme := hm.map (·.ent)
  have hce := fold_part hme (fun x hx => by
    simp only [List.mem_map] at hx
    obtain ⟨y, ⟨l, hl, rfl⟩, rfl⟩ := hx
    exact (hc l hl _ (gtD (hfl l hl).1)).1)
  have lenOf : ∀ X : List (List FC), (∀ l ∈ X, l ∈ L) → ∀ x ∈ X.map (fun l => l.getD f default), x.blocks.length = w.getD f 0 := fun X hX x hx => by
    simp only [List.mem_map] at hx
    obtain ⟨l, hl, rfl⟩ := hx
    exact (hfl l (hX l hl)).2
  have z0 : (zeroF (w.getD f 0)).blocks.length = w.getD f 0 := by simp [zeroF]
  have bL := fold_blk (L.map fun l => l.getD f default) _ z0 (lenOf L (fun _ h => h))
  have bA := fold_blk (A.map fun l => l.getD f default) _ z0 (lenOf A (fun _ hl => h.sub1.subset hl))
  have bB := fold_blk (B.map fun l => l.getD f default) _ z0 (lenOf B (fun _ hl => h.sub2.subset hl))
  refine ⟨?_, bL.1, bA.1, bB.1, fun j hj => ?_⟩
  · rw [fold_ent, fold_ent, fold_ent]; exact hce
  · have zj : (zeroF (w.getD f 0)).blocks.getD j 0 = -1 := by
      show (List.replicate (w.getD f 0) (-1 : Int)).getD j 0 = -1
      rw [List.getD_eq_getElem?_getD, List.getElem?_replicate, if_pos hj]; rfl
    rw [bL.2 j hj, bA.2 j hj, bB.2 j hj, zj]
    refine fold_part (hm.map (·.blocks.getD j 0)) (fun x hx => ?_)
    simp only [List.mem_map] at hx
    obtain ⟨y, ⟨l, hl, rfl⟩, rfl⟩ := hx
    have h3 := hfl l hl
    exact (hc l hl _ (gtD h3.1)).2 _ (gtD (by omega))
/-- The totals of a store and of two parts of it. -/
structure KnP (S a b : StS) (r : Int) : Prop where
  no : (totR S r).2.2 = 34 → (totR a r).2.2 = 34 ∧ (totR b r).2.2 = 34
  n : (totR S r).2.2 = 0 → (totR S r).2.1 = (totR a r).2.1 + (totR b r).2.1
  sm : ((totR a r).2.1 ≤ 100 ∧ 0 ≤ (totR a r).2.1) ∧ (totR b r).2.1 ≤ 100 ∧ 0 ≤ (totR b r).2.1
  f : (totR S r).2.2 = 0 → (totR a r).2.2 = 0 → (totR b r).2.2 = 0 → (totR a r).1.length = (totR S r).1.length ∧ (totR b r).1.length = (totR S r).1.length ∧ (totR S r).1.length ≤ 1000 ∧
    ∀ i, i < (totR S r).1.length → (((totR S r).1.getD i default).ent = sumR ((totR a r).1.getD i default).ent ((totR b r).1.getD i default).ent ∧ cntd ((totR a r).1.getD i default).ent ∧ cntd ((totR b r).1.getD i default).ent) ∧
      ((totR a r).1.getD i default).blocks.length = ((totR S r).1.getD i default).blocks.length ∧ ((totR b r).1.getD i default).blocks.length = ((totR S r).1.getD i default).blocks.length ∧ ((totR S r).1.getD i default).blocks.length ≤ 1000 ∧
      ∀ j, j < ((totR S r).1.getD i default).blocks.length → ((totR S r).1.getD i default).blocks.getD j 0 = sumR (((totR a r).1.getD i default).blocks.getD j 0) (((totR b r).1.getD i default).blocks.getD j 0) ∧ cntd (((totR a r).1.getD i default).blocks.getD j 0) ∧ cntd (((totR b r).1.getD i default).blocks.getD j 0)
theorem okSt_sub {S : StS} (h : OkSt S) {A : List Pc} (hA : A.Sublist S.ps) : OkSt ⟨A, []⟩ := by
  have hl := hA.length_le
  refine ⟨by have := h.n; show A.length + 0 ≤ 256; omega, ⟨h.o.p.sublist hA, List.Pairwise.nil, fun p _ hp => by simp at hp⟩, fun i hi => ?_⟩
  have hm := hA.subset (gtD (d := (default : Pc)) (show i < A.length from hi))
  obtain ⟨j, hj, e⟩ := List.mem_iff_getElem.1 hm
  have := h.p j hj
  rw [List.getD_eq_getElem?_getD, List.getElem?_eq_getElem hj, Option.getD_some, e] at this
  exact this
theorem knows_plain {S : StS} (hS : OkSt S) {A B : List Pc} (h : PartL S.ps A B) (hn : S.ps.length ≤ 50) (r : Int) : KnP S ⟨A, []⟩ ⟨B, []⟩ r := by
  have hA := okSt_sub hS h.sub1
  have hB := okSt_sub hS h.sub2
  have hp := h.ofR r
  have hlen := hp.len
  have hLn := ofR_len S.ps r
  have hcn : ∀ l ∈ ofR S.ps r, ∀ x ∈ l, cntd x.ent ∧ ∀ n ∈ x.blocks, cntd n := fun l hl x hx => by
    obtain ⟨p, hp, rfl⟩ := ofR_mem hl
    obtain ⟨i, hi, rfl⟩ := List.mem_iff_getElem.1 hp
    obtain ⟨j, hj, rfl⟩ := List.mem_iff_getElem.1 hx
    have h1 := hS.p i hi
    rw [List.getD_eq_getElem?_getD, List.getElem?_eq_getElem hi, Option.getD_some] at h1
    have h2 := h1.f j hj
    rw [List.getD_eq_getElem?_getD, List.getElem?_eq_getElem hj, Option.getD_some] at h2
    refine ⟨h2.c, fun n hn => ?_⟩
    obtain ⟨k, hk, rfl⟩ := List.mem_iff_getElem.1 hn
    have h3 := (h2.b k hk).1
    rwa [List.getD_eq_getElem?_getD, List.getElem?_eq_getElem hk, Option.getD_some] at h3
  have hcl : ∀ l ∈ ofR S.ps r, l.length ≤ 64 ∧ ∀ x ∈ l, x.blocks.length ≤ 256 := fun l hl => by
    obtain ⟨p, hp, rfl⟩ := ofR_mem hl
    obtain ⟨i, hi, rfl⟩ := List.mem_iff_getElem.1 hp
    have h1 := hS.p i hi
    rw [List.getD_eq_getElem?_getD, List.getElem?_eq_getElem hi, Option.getD_some] at h1
    refine ⟨h1.n.2, fun x hx => ?_⟩
    obtain ⟨j, hj, rfl⟩ := List.mem_iff_getElem.1 hx
    have h2 := h1.f j hj
    rw [List.getD_eq_getElem?_getD, List.getElem?_eq_getElem hj, Option.getD_some] at h2
    exact h2.l.2
  obtain ⟨L, hL⟩ : ∃ L, L = ofR S.ps r := ⟨_, rfl⟩
  obtain ⟨LA, hLA⟩ : ∃ LA, LA = ofR A r := ⟨_, rfl⟩
  obtain ⟨LB, hLB⟩ : ∃ LB, LB = ofR B r := ⟨_, rfl⟩
  have eS := totR_t hS r
  have eA := totR_t hA r
  have eB := totR_t hB r
  dsimp only at eA eB
  rw [← hL] at eS hp hlen hLn hcn hcl
  rw [← hLA] at eA hp hlen
  rw [← hLB] at eB hp hlen
  rw [show (⟨A, []⟩ : StS) = ⟨A, []⟩ from rfl] at eA
  by_cases hL0 : L = []
  · have e1 : LA = [] := List.eq_nil_of_length_eq_zero (by rw [hL0] at hlen; simp at hlen; omega)
    have e2 : LB = [] := List.eq_nil_of_length_eq_zero (by rw [hL0] at hlen; simp at hlen; omega)
    rw [if_pos hL0] at eS
    rw [if_pos e1] at eA
    rw [if_pos e2] at eB
    refine ⟨fun _ => ?_, fun h => ?_, ?_, fun h => ?_⟩
    · rw [eA, eB]; exact ⟨rfl, rfl⟩
    · rw [eS] at h; simp at h
    · rw [eA, eB]; simp
    · rw [eS] at h; simp at h
  · rw [if_neg hL0] at eS
    by_cases hna : notAll L = true
    · rw [if_pos hna] at eS
      refine ⟨fun h => ?_, fun h => ?_, ?_, fun h => ?_⟩
      · rw [eS] at h; simp at h
      · rw [eS] at h; simp at h
      · rw [eA, eB]
        refine ⟨?_, ?_⟩
        · split
          · simp
          · split
            · simp
            · dsimp only; omega
        · split
          · simp
          · split
            · simp
            · dsimp only; omega
      · rw [eS] at h; simp at h
    · rw [if_neg hna] at eS
      have hw := oneSh_of hna
      obtain ⟨w, hwe⟩ : ∃ w, w = shp (L.getD 0 []) := ⟨_, rfl⟩
      rw [← hwe] at hw
      have hwA : OneSh LA w := fun l hl => hw l (hp.sub1.subset hl)
      have hwB : OneSh LB w := fun l hl => hw l (hp.sub2.subset hl)
      have nA : (totR ⟨A, []⟩ r).2.1 = LA.length := by
        rw [eA]
        split
        · rename_i h; rw [h]; rfl
        · rename_i h
          rw [if_neg (by rw [notAll_of hwA h]; simp)]
      have nB : (totR ⟨B, []⟩ r).2.1 = LB.length := by
        rw [eB]
        split
        · rename_i h; rw [h]; rfl
        · rename_i h
          rw [if_neg (by rw [notAll_of hwB h]; simp)]
      refine ⟨fun h => ?_, fun _ => ?_, ?_, fun _ h1 h2 => ?_⟩
      · rw [eS] at h; simp at h
      · rw [nA, nB, eS]; dsimp only; omega
      · rw [nA, nB]; omega
      · have hA0 : LA ≠ [] := fun e => by rw [eA, if_pos e] at h1; simp at h1
        have hB0 : LB ≠ [] := fun e => by rw [eB, if_pos e] at h2; simp at h2
        rw [if_neg hA0, if_neg (by rw [notAll_of hwA hA0]; simp)] at eA
        rw [if_neg hB0, if_neg (by rw [notAll_of hwB hB0]; simp)] at eB
        rw [eS, eA, eB]
        dsimp only
        have lL := totF_len hw hL0
        have lA := totF_len hwA hA0
        have lB := totF_len hwB hB0
        have hL0m : L.getD 0 [] ∈ L := gtD (List.length_pos_iff.2 hL0)
        have hwl : w.length ≤ 64 := by rw [hwe, shp_len]; exact (hcl _ hL0m).1
        refine ⟨by omega, by omega, by omega, fun i hi => ?_⟩
        rw [lL] at hi
        rw [totF_get hw hL0 hi, totF_get hwA hA0 hi, totF_get hwB hB0 hi]
        obtain ⟨g1, g2, g3, g4, g5⟩ := tot_part hp hw hA0 hB0 hL0 hcn hi
        have hwi : w.getD i 0 ≤ 256 := by
          rw [hwe] at hi ⊢
          rw [shp_len] at hi
          rw [shp_get _ _ hi]
          exact (hcl _ hL0m).2 _ (gtD hi)
        refine ⟨g1, by omega, by omega, by omega, fun j hj => ?_⟩
        rw [g2] at hj
        exact g5 j hj
end Go.Proofs.YthjoehaglonjaaaGreat
