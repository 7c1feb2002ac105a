/- Chapter 38, plain: the hottest call that fits is looked at first, and makes neighbours. -/
import Derived.Test.YthginmfobikdgaaGrH
import Derived.Test.YthginmfobikdgaaPlH
import Derived.Test.YthginmfobikdgaaPqE
set_option linter.unusedSimpArgs false
set_option linter.unusedVariables false
namespace Go.Proofs.Ythginmfobikdgaa
open Go.PV

/-! Insertion sort sorts, and keeps equal ones in order. -/
theorem swp_at {α : Type} [Inhabited α] (P : List α) (a b : α) (R : List α) : swp (P ++ a :: b :: R) P.length = P ++ b :: a :: R := by
  unfold swp
  have e1 : (P ++ a :: b :: R).getD P.length default = a := by simp [List.getD_eq_getElem?_getD]
  have e2 : (P ++ a :: b :: R).getD (P.length + 1) default = b := by simp [List.getD_eq_getElem?_getD]
  rw [e1, e2]
  simp
def Dsc (a b : CallI) : Prop := b.cnt ≤ a.cnt
theorem ins1_at : ∀ (n : Nat) (P : List CallI) (x : CallI) (R : List CallI), P.length = n → P.Pairwise Dsc → ∃ P2, ins1 hotter n (P ++ x :: R) = P2 ++ R ∧ P2.Pairwise Dsc ∧ P2.Perm (x :: P) ∧ ∀ (k : Int) (q : CallI → Bool), P2.filter (fun c => decide (c.cnt = k) && q c) = (P ++ [x]).filter (fun c => decide (c.cnt = k) && q c)
  | 0, P, x, R, hn, hP => by
    obtain rfl := List.length_eq_zero_iff.1 hn
    exact ⟨[x], rfl, List.pairwise_singleton _ _, .refl _, fun _ _ => rfl⟩
  | n + 1, P, x, R, hn, hP => by
    obtain ⟨P', a, rfl⟩ : ∃ P' a, P = P' ++ [a] := by
      have hne : P ≠ [] := fun e => by rw [e] at hn; cases hn
      exact ⟨P.dropLast, P.getLast hne, (List.dropLast_concat_getLast hne).symm⟩
    have hn' : P'.length = n := by simpa using hn
    have e1 : (P' ++ [a] ++ x :: R).getD (n + 1) default = x := by
      rw [← hn]
      simp [List.getD_eq_getElem?_getD]
    have e2 : (P' ++ [a] ++ x :: R).getD n default = a := by
      rw [List.append_assoc, ← hn']
      simp [List.getD_eq_getElem?_getD]
    rw [ins1, e1, e2]
    have hpw := List.pairwise_append.1 hP
    by_cases hlt : hotter x a = true
    · have hlt2 : a.cnt < x.cnt := by simpa [hotter] using hlt
      rw [if_pos hlt, List.append_assoc, List.singleton_append, ← hn', swp_at]
      obtain ⟨P2, h1, h2, h3, h4⟩ := ins1_at n P' x (a :: R) hn' hpw.1
      refine ⟨P2 ++ [a], by rw [hn', h1, List.append_assoc]; rfl, ?_, ?_, fun k q => ?_⟩
      · refine List.pairwise_append.2 ⟨h2, List.pairwise_singleton _ _, fun c hc b hb => ?_⟩
        rw [List.mem_singleton] at hb
        subst hb
        rcases List.mem_cons.1 (h3.mem_iff.1 hc) with rfl | hc
        · exact Int.le_of_lt hlt2
        · exact hpw.2.2 c hc b (by simp)
      · exact (List.Perm.append_right _ h3).trans (by simp)
      · rw [List.filter_append, h4, ← List.filter_append, List.append_assoc, List.append_assoc, List.filter_append, List.filter_append]
        congr 1
        by_cases hx : x.cnt = k
        · have ha : ¬ a.cnt = k := by omega
          simp [List.filter_cons, hx, ha]
        · simp [List.filter_cons, hx]
    · have hlt2 : ¬ a.cnt < x.cnt := by simpa [hotter] using hlt
      rw [if_neg hlt]
      refine ⟨P' ++ [a] ++ [x], by simp, ?_, by simpa using (List.perm_append_singleton x (P' ++ [a])), fun k q => rfl⟩
      refine List.pairwise_append.2 ⟨hP, List.pairwise_singleton _ _, fun c hc b hb => ?_⟩
      rw [List.mem_singleton] at hb
      subst hb
      unfold Dsc
      rcases List.mem_append.1 hc with hc | hc
      · have := hpw.2.2 c hc a (by simp)
        unfold Dsc at this
        omega
      · rw [List.mem_singleton] at hc
        subst hc
        omega
theorem insTo_at (L : List CallI) : ∀ k, k ≤ L.length → ∃ P, insTo hotter L k = P ++ L.drop k ∧ P.Pairwise Dsc ∧ P.Perm (L.take k) ∧ ∀ (j : Int) (q : CallI → Bool), P.filter (fun c => decide (c.cnt = j) && q c) = (L.take k).filter (fun c => decide (c.cnt = j) && q c)
  | 0, _ => ⟨[], rfl, .nil, .refl _, fun _ _ => rfl⟩
  | k + 1, h => by
    obtain ⟨P, h1, h2, h3, h4⟩ := insTo_at L k (by omega)
    have hl : P.length = k := by rw [h3.length_eq, List.length_take]; omega
    have hd : L.drop k = L[k] :: L.drop (k + 1) := List.drop_eq_getElem_cons (by omega)
    obtain ⟨P2, g1, g2, g3, g4⟩ := ins1_at k P L[k] (L.drop (k + 1)) hl h2
    have ht : L.take (k + 1) = L.take k ++ [L[k]] := by rw [List.take_add_one, List.getElem?_eq_getElem (by omega)]; rfl
    refine ⟨P2, by rw [insTo, h1, hd, g1], g2, ?_, fun j q => ?_⟩
    · rw [ht]
      exact g3.trans ((List.Perm.cons _ h3).trans (List.perm_append_singleton _ _).symm)
    · rw [g4, ht, List.filter_append, List.filter_append, h4]
theorem insS_at (L : List CallI) : (insS hotter L).Pairwise Dsc ∧ ∀ (j : Int) (q : CallI → Bool), (insS hotter L).filter (fun c => decide (c.cnt = j) && q c) = L.filter (fun c => decide (c.cnt = j) && q c) := by
  obtain ⟨P, h1, h2, h3, h4⟩ := insTo_at L L.length (Nat.le_refl _)
  rw [List.drop_length, List.append_nil] at h1
  rw [insS, h1]
  refine ⟨h2, fun j q => ?_⟩
  rw [h4, List.take_length]
theorem filter_split {α : Type} (p : α → Bool) : ∀ (l : List α) (x : α) (q : List α), l.filter p = x :: q → ∃ A B, l = A ++ x :: B ∧ (∀ a ∈ A, p a = false) ∧ p x = true
  | [], _, _, h => by cases h
  | a :: l, x, q, h => by
    rw [List.filter_cons] at h
    split at h
    · obtain ⟨rfl, _⟩ := List.cons.inj h
      exact ⟨[], l, rfl, by simp, by assumption⟩
    · rename_i hp
      obtain ⟨A, B, rfl, h2, h3⟩ := filter_split p l x q h
      refine ⟨a :: A, B, rfl, fun b hb => ?_, h3⟩
      rcases List.mem_cons.1 hb with rfl | hb
      · simpa using hp
      · exact h2 b hb
/-- The first call of those with the greatest count that can be, comes first of all that can be. -/
theorem hot_first (calls : List CallI) (can : CallI → Bool) (h : CallI) (hc : can h = true) (h0 : 0 < h.cnt) (A B : List CallI) (hd : calls = A ++ h :: B) (hA : ∀ c ∈ A, can c = true → c.cnt < h.cnt) (hB : ∀ c ∈ B, can c = true → c.cnt ≤ h.cnt) :
    ∃ A2 B2, hotF calls = A2 ++ h :: B2 ∧ ∀ c ∈ A2, can c = false := by
  obtain ⟨hs, hf⟩ := insS_at (calls.filter fun c => decide (0 < c.cnt))
  have e := hf h.cnt can
  rw [← hotF] at hs e
  rw [List.filter_filter] at e
  have e2 : calls.filter (fun c => (decide (c.cnt = h.cnt) && can c) && decide (0 < c.cnt)) = h :: B.filter (fun c => (decide (c.cnt = h.cnt) && can c) && decide (0 < c.cnt)) := by
    rw [hd, List.filter_append, List.filter_cons_of_pos (by simp [hc, h0])]
    rw [List.filter_eq_nil_iff.2, List.nil_append]
    intro c hcA
    have := hA c hcA
    simp only [Bool.and_eq_true, decide_eq_true_eq, not_and]
    rintro ⟨h1, h2⟩
    have := this h2
    omega
  rw [e2] at e
  obtain ⟨A2, B2, h1, h2, h3⟩ := filter_split _ _ _ _ e
  refine ⟨A2, B2, h1, fun c hcA => ?_⟩
  have g1 := h2 c hcA
  rw [h1] at hs
  have g2 := (List.pairwise_append.1 hs).2.2 c hcA h (by simp)
  unfold Dsc at g2
  cases hcc : can c with
  | false => rfl
  | true =>
    rw [hcc, Bool.and_true, decide_eq_false_iff_not] at g1
    have hm : c ∈ calls := by
      have : c ∈ hotF calls := by rw [h1]; exact List.mem_append_left _ hcA
      rw [hotF] at this
      exact (List.mem_filter.1 ((insS_perm _ _).mem_iff.1 this)).1
    rw [hd] at hm
    rcases List.mem_append.1 hm with hm | hm
    · have := hA c hm hcc; omega
    · rcases List.mem_cons.1 hm with rfl | hm
      · omega
      · have := hB c hm hcc; omega

/-! Neighbours. -/
def canF (sizes : List Int) (page : Int) (c : CallI) : Bool := decide (c.fn ≠ c.cal) && decide (sizes.getD c.fn.toNat 0 + sizes.getD c.cal.toNat 0 ≤ page)
theorem natI_at (n i : Nat) (h : i < n) : (natI n).getD i 0 = i := by
  simp [natI, List.getD_eq_getElem?_getD, h]
theorem step_not {sizes : List Int} {page : Int} {c : CallI} (h1 : 0 ≤ c.fn ∧ c.fn < sizes.length) (h2 : 0 ≤ c.cal ∧ c.cal < sizes.length) (hc : canF sizes page c = false) : stepG page (initG sizes) c = initG sizes := by
  unfold stepG initG
  dsimp only
  rw [natI_at _ _ (by omega), natI_at _ _ (by omega), if_pos]
  unfold canF at hc
  simp only [Bool.and_eq_false_iff, decide_eq_false_iff_not] at hc
  rw [Int.toNat_natCast, Int.toNat_natCast]
  omega
theorem run_not {sizes : List Int} {page : Int} : ∀ (l : List CallI), (∀ c ∈ l, (0 ≤ c.fn ∧ c.fn < sizes.length) ∧ (0 ≤ c.cal ∧ c.cal < sizes.length)) → (∀ c ∈ l, canF sizes page c = false) → runG page (initG sizes) l = initG sizes
  | [], _, _ => rfl
  | c :: l, h1, h2 => by
    rw [runG, List.foldl_cons, step_not (h1 c (by simp)).1 (h1 c (by simp)).2 (h2 c (by simp))]
    exact run_not l (fun d hd => h1 d (by simp [hd])) (fun d hd => h2 d (by simp [hd]))
/-- Two numbers stand side by side in a group. -/
def Nb (n : Nat) (s : GS) (x y : Int) : Prop := ∃ k, k < n ∧ ∃ A B, (s.gs.getD k default).1 = A ++ x :: y :: B
theorem Nb.step {n : Nat} {s : GS} (hI : GI n s) {x y : Int} (h : Nb n s x y) {page : Int} {c : CallI} (hc : (0 ≤ c.fn ∧ c.fn < n) ∧ (0 ≤ c.cal ∧ c.cal < n)) : Nb n (stepG page s c) x y := by
  obtain ⟨u, hu, eu, _⟩ := hI.ofr c.fn.toNat (by omega)
  obtain ⟨w, hw, ew, _⟩ := hI.ofr c.cal.toNat (by omega)
  unfold stepG
  rw [eu, ew]
  dsimp only
  split
  · exact h
  rename_i hcond
  rw [Int.toNat_natCast, Int.toNat_natCast]
  have huw : u ≠ w := fun e => hcond (.inl (by omega))
  obtain ⟨k, hk, A, B, e⟩ := h
  have gl := hI.gl
  unfold joinG Nb
  dsimp only
  by_cases h1 : k = u
  · subst h1
    refine ⟨k, hk, A, B ++ (s.gs.getD w default).1, ?_⟩
    rw [getD_set _ _ _ _ _ (by rw [List.length_set]; omega), if_neg (fun e => huw e.symm), getD_set _ _ _ _ _ (by omega), if_pos rfl]
    dsimp only
    rw [e]; simp
  · by_cases h2 : k = w
    · subst h2
      refine ⟨u, hu, (s.gs.getD u default).1 ++ A, B, ?_⟩
      rw [getD_set _ _ _ _ _ (by rw [List.length_set]; omega), if_neg (fun e => huw e.symm), getD_set _ _ _ _ _ (by omega), if_pos rfl]
      dsimp only
      rw [e]; simp
    · refine ⟨k, hk, A, B, ?_⟩
      rw [getD_set _ _ _ _ _ (by rw [List.length_set]; omega), if_neg (fun e => h2 e.symm), getD_set _ _ _ _ _ (by omega), if_neg (fun e => h1 e.symm)]
      exact e
theorem Nb.run {n : Nat} {page : Int} (hp : page ≤ 65536) {x y : Int} : ∀ (l : List CallI) (s : GS), GI n s → Nb n s x y → (∀ c ∈ l, (0 ≤ c.fn ∧ c.fn < n) ∧ (0 ≤ c.cal ∧ c.cal < n)) → Nb n (runG page s l) x y
  | [], s, _, h, _ => h
  | c :: l, s, hI, h, hc => by
    rw [runG, List.foldl_cons]
    exact Nb.run hp l _ (hI.step hp (hc c (by simp))) (h.step hI (hc c (by simp))) (fun d hd => hc d (by simp [hd]))
theorem Nb.init {sizes : List Int} {page : Int} {c : CallI} (h1 : 0 ≤ c.fn ∧ c.fn < sizes.length) (h2 : 0 ≤ c.cal ∧ c.cal < sizes.length) (hc : canF sizes page c = true) : Nb sizes.length (stepG page (initG sizes) c) c.fn c.cal := by
  obtain ⟨x, hx⟩ : ∃ x : Nat, c.fn = x := ⟨c.fn.toNat, by omega⟩
  obtain ⟨y, hy⟩ : ∃ y : Nat, c.cal = y := ⟨c.cal.toNat, by omega⟩
  unfold canF at hc
  rw [Bool.and_eq_true, decide_eq_true_eq, decide_eq_true_eq, hx, hy, Int.toNat_natCast, Int.toNat_natCast] at hc
  have hg : ∀ k, k < sizes.length → (((List.range sizes.length).map fun x : Nat => (([(x : Int)], 0) : Grp)).getD k default).1 = [(k : Int)] := fun k hk => by
    simp [List.getD_eq_getElem?_getD, hk]
  have hgl : ((List.range sizes.length).map fun x : Nat => (([(x : Int)], 0) : Grp)).length = sizes.length := by simp
  unfold stepG initG
  rw [hx, hy, Int.toNat_natCast, Int.toNat_natCast]
  dsimp only
  rw [natI_at _ _ (by omega), natI_at _ _ (by omega), if_neg (by rw [Int.toNat_natCast, Int.toNat_natCast]; omega), Int.toNat_natCast, Int.toNat_natCast]
  refine ⟨x, by omega, [], [], ?_⟩
  unfold joinG
  dsimp only
  rw [getD_set _ _ _ _ _ (by rw [List.length_set, hgl]; omega), if_neg (by omega), getD_set _ _ _ _ _ (by rw [hgl]; omega), if_pos rfl]
  dsimp only
  rw [hg x (by omega), hg y (by omega)]
  rfl
theorem greedy_nb {R : (Int → Int → Int) → List Int → List Int → Prop} {sizes : List Int} {calls : List CallI} {page : Int} {out : List Int} (hG : GoodP sizes calls page) (hg : GreedyR R sizes calls page out) (h : CallI) (hc : canF sizes page h = true) (h0 : 0 < h.cnt)
    (A B : List CallI) (hd : calls = A ++ h :: B) (hA : ∀ c ∈ A, canF sizes page c = true → c.cnt < h.cnt) (hB : ∀ c ∈ B, canF sizes page c = true → c.cnt ≤ h.cnt) : ∃ P Q, out = P ++ h.fn :: h.cal :: Q := by
  obtain ⟨A2, B2, e, hn⟩ := hot_first calls (canF sizes page) h hc h0 A B hd hA hB
  obtain ⟨s, wi, L, hs, _, _, hp, rfl⟩ := hg
  have hends : ∀ c ∈ hotF calls, (0 ≤ c.fn ∧ c.fn < sizes.length) ∧ (0 ≤ c.cal ∧ c.cal < sizes.length) := fun c hc => hG.ends c (by
    rw [hotF] at hc
    exact (List.mem_filter.1 ((insS_perm _ _).mem_iff.1 hc)).1)
  have hI0 := GI.init hG.sz
  have hI : GI sizes.length s := by
    rw [hs]
    exact GI.run (page := page) hG.pg.2 _ _ hI0 hends
  rw [e] at hends hs
  have hh := hends h (by simp)
  have hnb : Nb sizes.length s h.fn h.cal := by
    rw [hs, runG, List.foldl_append, List.foldl_cons]
    have e1 := run_not (page := page) A2 (fun c hc => hends c (by simp [hc])) hn
    rw [runG] at e1
    rw [e1]
    exact Nb.run hG.pg.2 B2 _ (hI0.step hG.pg.2 hh) (Nb.init hh.1 hh.2 hc) (fun c hc => hends c (by simp [hc]))
  obtain ⟨k, hk, C, D, ek⟩ := hnb
  have hkl : (k : Int) ∈ L := hp.mem_iff.2 (by
    rw [liveG, List.mem_filter]
    refine ⟨by rw [natI, List.mem_map]; exact ⟨k, List.mem_range.2 hk, rfl⟩, ?_⟩
    rw [Int.toNat_natCast, ek]
    simp)
  obtain ⟨L1, L2, rfl⟩ := List.append_of_mem hkl
  refine ⟨outG s.gs L1 ++ C, D ++ outG s.gs L2, ?_⟩
  unfold outG
  rw [List.flatMap_append, List.flatMap_cons, Int.toNat_natCast, ek]
  simp

/-! Where each function stands. -/
def atL (gr : List Int) (n : Nat) : Nat → List Int
  | 0 => List.replicate n 0
  | k + 1 => (atL gr n k).set (gr.getD k 0).toNat k
theorem atL_length (gr : List Int) (n : Nat) : ∀ k, (atL gr n k).length = n
  | 0 => List.length_replicate
  | k + 1 => by rw [atL, List.length_set]; exact atL_length gr n k
theorem atL_get {gr : List Int} {n : Nat} (hnd : gr.Nodup) (hr : ∀ x ∈ gr, 0 ≤ x ∧ x < n) : ∀ k, k ≤ gr.length → ∀ j, j < k → (atL gr n k).getD (gr.getD j 0).toNat 0 = j
  | 0, _, j, h => absurd h (Nat.not_lt_zero _)
  | k + 1, hk, j, hj => by
    have hkr := hr _ (getDm (d := 0) (show k < gr.length by omega))
    have hjr := hr _ (getDm (d := 0) (show j < gr.length by omega))
    rw [atL, getD_set _ _ _ _ _ (by rw [atL_length]; omega)]
    by_cases h : j = k
    · subst h; rw [if_pos rfl]
    · rw [if_neg, atL_get hnd hr k (by omega) j (by omega)]
      intro e
      refine h ?_
      have e2 : gr.getD k 0 = gr.getD j 0 := by omega
      rw [List.getD_eq_getElem?_getD, List.getD_eq_getElem?_getD, List.getElem?_eq_getElem (by omega), List.getElem?_eq_getElem (by omega), Option.getD_some, Option.getD_some] at e2
      exact absurd e2.symm ((List.pairwise_iff_getElem.1 hnd) j k (by omega) (by omega) (by omega))
/-! The hottest call that can be. -/
def hstep (sizes : List Int) (page : Int) (h c : CallI) : CallI := if h.cnt < c.cnt ∧ canF sizes page c = true then c else h
def hotL (sizes : List Int) (page : Int) (calls : List CallI) : CallI := calls.foldl (hstep sizes page) ⟨0, 0, 0, 0, 0⟩
theorem hotL_snoc (sizes : List Int) (page : Int) (l : List CallI) (c : CallI) : hotL sizes page (l ++ [c]) = hstep sizes page (hotL sizes page l) c := by simp [hotL]
theorem hotL_spec (sizes : List Int) (page : Int) (calls : List CallI) (hc : ∀ c ∈ calls, 0 ≤ c.cnt) : ((∀ c ∈ calls, canF sizes page c = true → c.cnt ≤ 0) ∧ hotL sizes page calls = ⟨0, 0, 0, 0, 0⟩) ∨
    (canF sizes page (hotL sizes page calls) = true ∧ 0 < (hotL sizes page calls).cnt ∧ ∃ A B, calls = A ++ hotL sizes page calls :: B ∧ (∀ c ∈ A, canF sizes page c = true → c.cnt < (hotL sizes page calls).cnt) ∧ ∀ c ∈ B, canF sizes page c = true → c.cnt ≤ (hotL sizes page calls).cnt) := by
  have key : ∀ n, n ≤ calls.length → ((∀ c ∈ calls.take n, canF sizes page c = true → c.cnt ≤ 0) ∧ hotL sizes page (calls.take n) = ⟨0, 0, 0, 0, 0⟩) ∨
    (canF sizes page (hotL sizes page (calls.take n)) = true ∧ 0 < (hotL sizes page (calls.take n)).cnt ∧ ∃ A B, calls.take n = A ++ hotL sizes page (calls.take n) :: B ∧ (∀ c ∈ A, canF sizes page c = true → c.cnt < (hotL sizes page (calls.take n)).cnt) ∧ ∀ c ∈ B, canF sizes page c = true → c.cnt ≤ (hotL sizes page (calls.take n)).cnt) := by
    intro n
    induction n with
    | zero => intro _; exact .inl ⟨by simp, rfl⟩
    | succ n ih =>
      intro hn
      have e : calls.take (n + 1) = calls.take n ++ [calls[n]] := by rw [List.take_add_one, List.getElem?_eq_getElem (by omega)]; rfl
      have h0 := hc _ (List.getElem_mem (show n < calls.length by omega))
      rw [e, hotL_snoc]
      generalize calls[n] = x at h0 ⊢
      generalize calls.take n = L at ih ⊢
      rcases ih (by omega) with ⟨h1, h2⟩ | ⟨h1, h2, A, B, h3, h4, h5⟩
      · rw [h2]
        unfold hstep
        by_cases hx : (0 : Int) < x.cnt ∧ canF sizes page x = true
        · rw [if_pos hx]
          refine .inr ⟨hx.2, hx.1, L, [], rfl, fun c hcm hcc => ?_, by simp⟩
          have := h1 c hcm hcc
          omega
        · rw [if_neg hx]
          refine .inl ⟨fun c hcm hcc => ?_, rfl⟩
          rcases List.mem_append.1 hcm with hcm | hcm
          · exact h1 c hcm hcc
          · rw [List.mem_singleton] at hcm
            subst hcm
            exact Int.not_lt.1 fun h => hx ⟨h, hcc⟩
      · unfold hstep
        generalize hotL sizes page L = h at h1 h2 h3 h4 h5 ⊢
        by_cases hx : h.cnt < x.cnt ∧ canF sizes page x = true
        · rw [if_pos hx]
          refine .inr ⟨hx.2, by omega, L, [], rfl, fun c hcm hcc => ?_, by simp⟩
          rw [h3] at hcm
          rcases List.mem_append.1 hcm with hcm | hcm
          · have := h4 c hcm hcc; omega
          · rcases List.mem_cons.1 hcm with rfl | hcm
            · exact hx.1
            · have := h5 c hcm hcc; omega
        · rw [if_neg hx]
          refine .inr ⟨h1, h2, A, B ++ [x], by rw [h3]; simp, h4, fun c hcm hcc => ?_⟩
          rcases List.mem_append.1 hcm with hcm | hcm
          · exact h5 c hcm hcc
          · rw [List.mem_singleton] at hcm
            subst hcm
            exact Int.not_lt.1 fun h => hx ⟨h, hcc⟩
  have := key calls.length (Nat.le_refl _)
  rw [List.take_length] at this
  exact this
set_option maxRecDepth 8000 in
set_option maxHeartbeats 16000000 in
theorem groups38_ok (l0 : List Int) (hl0 : okInts .u8 l0) : PCall Try.prog 13 [.sl (PV.encI .u8 l0)] [] (fun p _ => p = .bool true) := by
  refine PCall.vfrz [] 649037109583663153376117500510207 129 [.tmp 2] (noE_ok _) mix Try.func13 rfl (by decide) rfl rfl (by simp) ?_
  simp -dsimp only [initFr, List.zipIdx_cons, List.zipIdx_nil, List.map_cons, List.map_nil, Nat.zero_add, Nat.reduceAdd]
  simp -dsimp (maxSteps := 4000000) +contextual (disch := first | omega | decide +kernel) only [↓vsD, vsU, Bool.or_false, Bool.true_or, resW, fnRet, cond_true, cond_false, Nat.reduceShiftRight, Nat.reduceAnd, Go.PV.fits, Go.PV.mutOf, Go.PV.splice, Int.reduceToNat, Int.reduceEq, Int.reduceAdd, Int.reduceSub, Int.reduceMul, Int.reduceLE, Int.reduceLT, Int.reduceNeg, Nat.reduceMul, Nat.reduceLeDiff, ne_eq, if_true, if_false, reduceIte, Nat.reduceEqDiff, ↓Nat.reduceLT, Nat.reduceAdd, Nat.reduceBEq, reduceCtorEq, enc_length, encs_length, tyU, tyC, tyB, tyA, tyI, tyZ, tyF, tyP, enc_getD, encs_getD, wrap_i64, enc_set, splice_one, set_last, bin_snn, bin_snm, bin_sns, bin_tnn, bin_tnm, bin_tns]
  refine PCall.mono (awake38_on _) ?_
  rintro p σ' ⟨rfl, rfl⟩
  simp -dsimp (maxSteps := 4000000) +contextual (disch := first | omega | decide +kernel) only [↓vsD, vsU, Bool.or_false, Bool.true_or, resW, fnRet, cond_true, cond_false, Nat.reduceShiftRight, Nat.reduceAnd, Go.PV.fits, Go.PV.mutOf, Go.PV.splice, Int.reduceToNat, Int.reduceEq, Int.reduceAdd, Int.reduceSub, Int.reduceMul, Int.reduceLE, Int.reduceLT, Int.reduceNeg, Nat.reduceMul, Nat.reduceLeDiff, ne_eq, if_true, if_false, reduceIte, Nat.reduceEqDiff, ↓Nat.reduceLT, Nat.reduceAdd, Nat.reduceBEq, reduceCtorEq, enc_length, encs_length, tyU, tyC, tyB, tyA, tyI, tyZ, tyF, tyP, enc_getD, encs_getD, wrap_i64, enc_set, splice_one, set_last, bin_snn, bin_snm, bin_sns, bin_tnn, bin_tnm, bin_tns]
  refine PCall.mono (newC_on l0 300 _) ?_
  rintro p σ' ⟨rfl, rfl⟩
  obtain ⟨cs, hcs⟩ : ∃ cs, cs = l0.take 300 := ⟨_, rfl⟩
  have hcl : okInts .u8 cs := fun n hn => hl0 n (by rw [hcs] at hn; exact List.mem_of_mem_take hn)
  have hcn : cs.length ≤ 300 := by rw [hcs]; simp; omega
  rw [← hcs]
  simp -dsimp (maxSteps := 4000000) +contextual (disch := first | omega | decide +kernel) only [↓vsD, vsU, Bool.or_false, Bool.true_or, resW, fnRet, cond_true, cond_false, Nat.reduceShiftRight, Nat.reduceAnd, Go.PV.fits, Go.PV.mutOf, Go.PV.splice, Int.reduceToNat, Int.reduceEq, Int.reduceAdd, Int.reduceSub, Int.reduceMul, Int.reduceLE, Int.reduceLT, Int.reduceNeg, Nat.reduceMul, Nat.reduceLeDiff, ne_eq, if_true, if_false, reduceIte, Nat.reduceEqDiff, ↓Nat.reduceLT, Nat.reduceAdd, Nat.reduceBEq, reduceCtorEq, enc_length, encs_length, tyU, tyC, tyB, tyA, tyI, tyZ, tyF, tyP, enc_getD, encs_getD, wrap_i64, enc_set, splice_one, set_last, bin_snn, bin_snm, bin_sns, bin_tnn, bin_tnm, bin_tns]
  refine PCall.mono (draw38_w cs 0 8 20 (by omega) (by omega) (by omega) hcl (by omega) (by omega)) ?_
  rintro p σ' ⟨sizes, calls, page, k, rfl, rfl, hk, hs1, hs2, hsz, hcl12, good, hp100⟩
  have hg := pGreedy_on _ sizes .nils calls page rfl (bel_nils _) good (by omega) (sortQ sizes.length (by omega))
  unfold graphV at hg
  simp -dsimp (maxSteps := 4000000) +contextual (disch := first | omega | decide +kernel) only [↓vsD, vsU, Bool.or_false, Bool.true_or, resW, fnRet, cond_true, cond_false, Nat.reduceShiftRight, Nat.reduceAnd, Go.PV.fits, Go.PV.mutOf, Go.PV.splice, Int.reduceToNat, Int.reduceEq, Int.reduceAdd, Int.reduceSub, Int.reduceMul, Int.reduceLE, Int.reduceLT, Int.reduceNeg, Nat.reduceMul, Nat.reduceLeDiff, ne_eq, if_true, if_false, reduceIte, Nat.reduceEqDiff, ↓Nat.reduceLT, Nat.reduceAdd, Nat.reduceBEq, reduceCtorEq, enc_length, encs_length, tyU, tyC, tyB, tyA, tyI, tyZ, tyF, tyP, enc_getD, encs_getD, wrap_i64, enc_set, splice_one, set_last, bin_snn, bin_snm, bin_sns, bin_tnn, bin_tnm, bin_tns]
  refine PCall.mono (hg _) ?_
  rintro p σ' ⟨⟨gr, hgr, rfl⟩, rfl⟩
  have hgp := hgr.perm good
  have hgl : gr.length = sizes.length := by rw [hgp.length_eq, natI_length]
  have hnd : gr.Nodup := hgp.nodup_iff.2 (natI_nodup _)
  have hrg : ∀ x ∈ gr, 0 ≤ x ∧ x < sizes.length := fun x hx => natI_mem (hgp.mem_iff.1 hx)
  have hzz : List.replicate sizes.length [PV.int .i64 0] = ints (List.replicate sizes.length 0) := by simp [ints, PV.encI]
  simp -dsimp (maxSteps := 4000000) +contextual (disch := first | omega | decide +kernel) only [↓vsD, vsU, Bool.or_false, Bool.true_or, resW, fnRet, cond_true, cond_false, Nat.reduceShiftRight, Nat.reduceAnd, Go.PV.fits, Go.PV.mutOf, Go.PV.splice, Int.reduceToNat, Int.reduceEq, Int.reduceAdd, Int.reduceSub, Int.reduceMul, Int.reduceLE, Int.reduceLT, Int.reduceNeg, Nat.reduceMul, Nat.reduceLeDiff, ne_eq, if_true, if_false, reduceIte, Nat.reduceEqDiff, ↓Nat.reduceLT, Nat.reduceAdd, Nat.reduceBEq, reduceCtorEq, enc_length, encs_length, tyU, tyC, tyB, tyA, tyI, tyZ, tyF, tyP, enc_getD, encs_getD, wrap_i64, enc_set, splice_one, set_last, bin_snn, bin_snm, bin_sns, bin_tnn, bin_tnm, bin_tns, enc_length, hgl, bytesOk, lenOk]
  refine v_loopS (fun i : Nat => [(3, .sl (ints sizes)), (4, .ptr 1 0 0 0), (5, .int .i64 page), (6, .sl (ints gr)), (8, .msl 2 0), (9, .msl 3 0), (46, .sl (ints gr)), (47, .int .i64 sizes.length), (48, .int .i64 i)])
    (fun i => [codes cs k, .rows 76 2 [[.nils, .sl (encL calls)]] 0, .rows 3 1 (ints (atL gr sizes.length i)) 0, .rows 4 1 (encB (usedL sizes.length (gr.take i))) 0]) (fun i => i ≤ sizes.length) (fun i => sizes.length - i) 0 (by simp [weaker, Go.PV.look]) (by rw [List.take_zero, ← usedL_none, atL, ← hzz]) (by omega) ?_
  intro i hi
  have hal := atL_length gr sizes.length i
  have hul := usedL_length sizes.length (gr.take i)
  by_cases hil : i < sizes.length
  · have hfr := hrg _ (getDm (d := 0) (show i < gr.length by omega))
    obtain ⟨f, hf⟩ : ∃ f : Nat, gr.getD i 0 = f := ⟨(gr.getD i 0).toNat, by omega⟩
    have htk : gr.take (i + 1) = gr.take i ++ [(f : Int)] := by rw [← hf, List.take_add_one, List.getElem?_eq_getElem (by omega), List.getD_eq_getElem?_getD, List.getElem?_eq_getElem (by omega)]; rfl
    have hnf : (f : Int) ∉ gr.take i := fun h => by
      have h3 : (gr.take (i + 1)).Nodup := List.Nodup.sublist (List.take_sublist _ _) hnd
      rw [htk] at h3
      exact (List.nodup_append.1 h3).2.2 _ h _ (by simp) rfl
    have hfn : f < sizes.length := by omega
    have hud : (usedL sizes.length (gr.take i)).getD f false = false := by rw [usedL_getD _ _ _ hfn, decide_eq_false hnf]
    have hus2 : (usedL sizes.length (gr.take i)).set f true = usedL sizes.length (gr.take (i + 1)) := by rw [usedL_set _ _ _ hfn, htk]
    have hat2 : (atL gr sizes.length i).set f i = atL gr sizes.length (i + 1) := by rw [atL, hf]; rfl
    generalize usedL sizes.length (gr.take i) = us at hul hud hus2 ⊢
    generalize atL gr sizes.length i = al at hal hat2 ⊢
    simp -dsimp (maxSteps := 4000000) +contextual (disch := first | omega | decide +kernel) only [↓vsD, vsU, Bool.or_false, Bool.true_or, resW, fnRet, cond_true, cond_false, Nat.reduceShiftRight, Nat.reduceAnd, Go.PV.fits, Go.PV.mutOf, Go.PV.splice, Int.reduceToNat, Int.reduceEq, Int.reduceAdd, Int.reduceSub, Int.reduceMul, Int.reduceLE, Int.reduceLT, Int.reduceNeg, Nat.reduceMul, Nat.reduceLeDiff, ne_eq, if_true, if_false, reduceIte, Nat.reduceEqDiff, ↓Nat.reduceLT, Nat.reduceAdd, Nat.reduceBEq, reduceCtorEq, enc_length, encs_length, tyU, tyC, tyB, tyA, tyI, tyZ, tyF, tyP, enc_getD, encs_getD, wrap_i64, enc_set, splice_one, set_last, bin_snn, bin_snm, bin_sns, bin_tnn, bin_tnm, bin_tns, enc_length, enc_getD, hf, encB_length, encB_getD, hud, encB_set, hgl]
    exact ⟨i + 1, (by (try dsimp only); omega), by simp [weaker, Go.PV.look], by dsimp only; rw [← hus2, ← hat2], by omega⟩
  · obtain rfl : i = sizes.length := by omega
    have hget := atL_get hnd hrg sizes.length (by omega)
    generalize usedL sizes.length (gr.take sizes.length) = us at hul ⊢
    generalize atL gr sizes.length sizes.length = al at hal hget ⊢
    clear hzz
    simp -dsimp (maxSteps := 4000000) +contextual (disch := first | omega | decide +kernel) only [↓vsD, vsU, Bool.or_false, Bool.true_or, resW, fnRet, cond_true, cond_false, Nat.reduceShiftRight, Nat.reduceAnd, Go.PV.fits, Go.PV.mutOf, Go.PV.splice, Int.reduceToNat, Int.reduceEq, Int.reduceAdd, Int.reduceSub, Int.reduceMul, Int.reduceLE, Int.reduceLT, Int.reduceNeg, Nat.reduceMul, Nat.reduceLeDiff, ne_eq, if_true, if_false, reduceIte, Nat.reduceEqDiff, ↓Nat.reduceLT, Nat.reduceAdd, Nat.reduceBEq, reduceCtorEq, enc_length, encs_length, tyU, tyC, tyB, tyA, tyI, tyZ, tyF, tyP, enc_getD, encs_getD, wrap_i64, enc_set, splice_one, set_last, bin_snn, bin_snm, bin_sns, bin_tnn, bin_tnm, bin_tns, enc_length, encL_length, hgl, hal, hul, bytesOk, lenOk]
    refine v_loopS (fun t : Nat × Store => [(3, .sl (ints sizes)), (5, .int .i64 page), (8, .msl 2 0), (12, .ptr 4 0 0 0), (77, .sl (encL calls)), (78, .int .i64 calls.length), (79, .int .i64 t.1)])
      (fun t => codes cs k :: .rows 76 2 [[.nils, .sl (encL calls)]] 0 :: .rows 3 1 (ints al) 0 :: .rows 4 1 (encB us) 0 :: .rows 78 5 [(hotL sizes page (calls.take t.1)).row] 0 :: t.2) (fun t => t.1 ≤ calls.length) (fun t => calls.length - t.1) (0, []) (by simp [weaker, Go.PV.look]) rfl (by simp) ?_
    rintro ⟨i, Q⟩ hi
    dsimp only at hi ⊢
    by_cases hil : i < calls.length
    · have htk : calls.take (i + 1) = calls.take i ++ [calls.getD i default] := by rw [List.take_add_one, List.getElem?_eq_getElem hil, List.getD_eq_getElem?_getD, List.getElem?_eq_getElem hil]; rfl
      have hcm := getDm (d := default) hil
      obtain ⟨c, hc⟩ : ∃ c, c = calls.getD i default := ⟨_, rfl⟩
      rw [← hc] at htk hcm
      have hst := hotL_snoc sizes page (calls.take i) c
      rw [← htk] at hst
      unfold hstep canF at hst
      obtain ⟨h, hh⟩ : ∃ h, h = hotL sizes page (calls.take i) := ⟨_, rfl⟩
      rw [← hh] at hst ⊢
      have hce := good.ends c hcm
      obtain ⟨x, hx⟩ : ∃ x : Nat, c.fn = x := ⟨c.fn.toNat, by omega⟩
      obtain ⟨y, hy⟩ : ∃ y : Nat, c.cal = y := ⟨c.cal.toNat, by omega⟩
      have hxn : x < sizes.length := by omega
      have hyn : y < sizes.length := by omega
      have hsx := good.sz _ (getDm (d := 0) hxn)
      have hsy := good.sz _ (getDm (d := 0) hyn)
      rw [hx, hy, Int.toNat_natCast, Int.toNat_natCast] at hst
      unfold CallI.row
      simp -dsimp (maxSteps := 4000000) +contextual (disch := first | omega | decide +kernel) only [↓vsD, vsU, Bool.or_false, Bool.true_or, resW, fnRet, cond_true, cond_false, Nat.reduceShiftRight, Nat.reduceAnd, Go.PV.fits, Go.PV.mutOf, Go.PV.splice, Int.reduceToNat, Int.reduceEq, Int.reduceAdd, Int.reduceSub, Int.reduceMul, Int.reduceLE, Int.reduceLT, Int.reduceNeg, Nat.reduceMul, Nat.reduceLeDiff, ne_eq, if_true, if_false, reduceIte, Nat.reduceEqDiff, ↓Nat.reduceLT, Nat.reduceAdd, Nat.reduceBEq, reduceCtorEq, enc_length, encs_length, tyU, tyC, tyB, tyA, tyI, tyZ, tyF, tyP, enc_getD, encs_getD, wrap_i64, enc_set, splice_one, set_last, bin_snn, bin_snm, bin_sns, bin_tnn, bin_tnm, bin_tns, encL_length, encL_getD, ← hc, hx, hy, enc_length, enc_getD, gapp0, gappk, sapp0, sappk, gappn0, gappnk, sappn0, sappnk]
      have hs1 : i + 1 ≤ calls.length := hil
      refine ⟨fun h1 => ⟨fun h2 => ?_, fun h2 => ⟨fun h3 => ?_, fun h3 => ?_⟩⟩, fun h1 => ?_⟩
      · have e : hotL sizes page (calls.take (i + 1)) = h := by
          rw [hst, if_neg]
          rintro ⟨_, hc⟩
          rw [Bool.and_eq_true, decide_eq_true_eq, decide_eq_true_eq] at hc
          exact hc.1 h2
        rw [← e]
        exact ⟨(i + 1, _), (by (try dsimp only); omega), by simp [weaker, Go.PV.look], rfl, hs1⟩
      · have e : hotL sizes page (calls.take (i + 1)) = c := by
          rw [hst, if_pos]
          refine ⟨h1, ?_⟩
          rw [Bool.and_eq_true, decide_eq_true_eq, decide_eq_true_eq]
          exact ⟨h2, h3⟩
        rw [← hx, ← hy, ← e]
        exact ⟨(i + 1, _), (by (try dsimp only); omega), by simp [weaker, Go.PV.look], rfl, hs1⟩
      · have e : hotL sizes page (calls.take (i + 1)) = h := by
          rw [hst, if_neg]
          rintro ⟨_, hc⟩
          rw [Bool.and_eq_true, decide_eq_true_eq, decide_eq_true_eq] at hc
          exact h3 hc.2
        rw [← e]
        exact ⟨(i + 1, _), (by (try dsimp only); omega), by simp [weaker, Go.PV.look], rfl, hs1⟩
      · have e : hotL sizes page (calls.take (i + 1)) = h := by
          rw [hst, if_neg]
          rintro ⟨hc, _⟩
          exact h1 hc
        rw [← e]
        exact ⟨(i + 1, _), (by (try dsimp only); omega), by simp [weaker, Go.PV.look], rfl, hs1⟩
    · obtain rfl : i = calls.length := by omega
      rw [List.take_length]
      unfold CallI.row
      simp -dsimp (maxSteps := 4000000) +contextual (disch := first | omega | decide +kernel) only [↓vsD, vsU, Bool.or_false, Bool.true_or, resW, fnRet, cond_true, cond_false, Nat.reduceShiftRight, Nat.reduceAnd, Go.PV.fits, Go.PV.mutOf, Go.PV.splice, Int.reduceToNat, Int.reduceEq, Int.reduceAdd, Int.reduceSub, Int.reduceMul, Int.reduceLE, Int.reduceLT, Int.reduceNeg, Nat.reduceMul, Nat.reduceLeDiff, ne_eq, if_true, if_false, reduceIte, Nat.reduceEqDiff, ↓Nat.reduceLT, Nat.reduceAdd, Nat.reduceBEq, reduceCtorEq, enc_length, encs_length, tyU, tyC, tyB, tyA, tyI, tyZ, tyF, tyP, enc_getD, encs_getD, wrap_i64, enc_set, splice_one, set_last, bin_snn, bin_snm, bin_sns, bin_tnn, bin_tnm, bin_tns, encL_length, enc_length, enc_getD]
      rcases hotL_spec sizes page calls (fun c hc => (good.cnt c hc).1) with ⟨_, he⟩ | ⟨h1, h2, A, B, h3, h4, h5⟩
      · rw [he]
        exact ⟨fun _ => fin0 (.keep _ (bel_bool _ _)) rfl, fun h => absurd rfl h⟩
      · have hm : hotL sizes page calls ∈ calls := by
          have : hotL sizes page calls ∈ A ++ hotL sizes page calls :: B := by simp
          rw [← h3] at this
          exact this
        obtain ⟨P, R, hout⟩ := greedy_nb good hgr _ h1 h2 A B h3 h4 h5
        have hce := good.ends _ hm
        generalize hotL sizes page calls = h at hm h1 h2 hout hce ⊢
        have hlP : P.length + 1 < gr.length := by rw [hout]; simp
        have e1 := hget P.length (by omega)
        have e2 := hget (P.length + 1) (by omega)
        rw [show gr.getD P.length 0 = h.fn by rw [hout]; simp [List.getD_eq_getElem?_getD]] at e1
        rw [show gr.getD (P.length + 1) 0 = h.cal by rw [hout]; simp [List.getD_eq_getElem?_getD]] at e2
        rw [e1, e2]
        refine ⟨fun h0 => absurd h0 (by omega), fun _ => ⟨by omega, by omega, by omega, by omega, fun _ => fin0 (.keep _ (bel_bool _ _)) rfl, fun hne => absurd ?_ hne⟩⟩
        simp only [IntKind.wrap, IntKind.bits, IntKind.signed]
        simp
        omega
end Go.Proofs.Ythginmfobikdgaa
