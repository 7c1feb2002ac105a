/- Chapter 38, plain: joining groups. -/
import Derived.Test.YthginmfobikdgaaGrE
set_option linter.unusedSimpArgs false
set_option linter.unusedVariables false
namespace Go.Proofs.Ythginmfobikdgaa
open Go.PV

/-! The groups, the number of the group of each function, the groups' bytes. -/
structure GS where
  gs : List Grp
  of : List Int
  by_ : List Int
def mov (of : List Int) (x : Int) (l : List Int) : List Int := l.foldl (fun of f => of.set f.toNat x) of
def joinG (s : GS) (x y : Nat) : GS := ⟨(s.gs.set x ((s.gs.getD x default).1 ++ (s.gs.getD y default).1, (s.gs.getD x default).2 + 1)).set y ([], 0), mov s.of x (s.gs.getD y default).1, s.by_.set x (s.by_.getD x 0 + s.by_.getD y 0)⟩
def stepG (page : Int) (s : GS) (c : CallI) : GS :=
  let x := s.of.getD c.fn.toNat 0
  let y := s.of.getD c.cal.toNat 0
  if x = y ∨ page < s.by_.getD x.toNat 0 + s.by_.getD y.toNat 0 then s else joinG s x.toNat y.toNat
def initG (sizes : List Int) : GS := ⟨(List.range sizes.length).map fun x : Nat => ([(x : Int)], 0), natI sizes.length, sizes⟩
def runG (page : Int) (s : GS) (l : List CallI) : GS := l.foldl (stepG page) s
/-- What holds all along. -/
structure GI (n : Nat) (s : GS) : Prop where
  gl : s.gs.length = n
  ol : s.of.length = n
  bl : s.by_.length = n
  ofr : ∀ f, f < n → ∃ x : Nat, x < n ∧ s.of.getD f 0 = x ∧ (f : Int) ∈ (s.gs.getD x default).1
  byr : ∀ x, x < n → 0 ≤ s.by_.getD x 0 ∧ s.by_.getD x 0 ≤ 1048576
  mem : ∀ x, x < n → ∀ f ∈ (s.gs.getD x default).1, 0 ≤ f ∧ f < n
  all : ((s.gs.map (·.1)).flatten).Perm (natI n)
theorem getD_set {α : Type} (l : List α) (i j : Nat) (a d : α) (h : i < l.length) : (l.set i a).getD j d = if i = j then a else l.getD j d := by
  rw [List.getD_eq_getElem?_getD, List.getD_eq_getElem?_getD, List.getElem?_set]
  by_cases hij : i = j
  · rw [if_pos hij, if_pos hij]; subst hij; rw [if_pos h]; rfl
  · rw [if_neg hij, if_neg hij]
theorem mov_length (x : Int) : ∀ (l of : List Int), (mov of x l).length = of.length
  | [], _ => rfl
  | f :: l, of => by rw [mov, List.foldl_cons]; exact (mov_length x l _).trans (List.length_set ..)
theorem mov_getD (x : Int) : ∀ (l of : List Int), (∀ f ∈ l, 0 ≤ f ∧ f < of.length) → ∀ j : Nat, (mov of x l).getD j 0 = if (j : Int) ∈ l then x else of.getD j 0
  | [], _, _, _ => rfl
  | f :: l, of, h, j => by
    have hf := h f (by simp)
    have ih := mov_getD x l (of.set f.toNat x) (fun g hg => by rw [List.length_set]; exact h g (by simp [hg])) j
    rw [mov, List.foldl_cons]
    rw [mov] at ih
    rw [ih, getD_set _ _ _ _ _ (by omega)]
    by_cases h1 : (j : Int) ∈ l
    · rw [if_pos h1, if_pos (by simp [h1])]
    · rw [if_neg h1]
      by_cases h2 : f.toNat = j
      · rw [if_pos h2, if_pos (by rw [List.mem_cons]; left; omega)]
      · rw [if_neg h2, if_neg (by rw [List.mem_cons, not_or]; exact ⟨by omega, h1⟩)]
theorem flat_split {gs : List Grp} {x : Nat} (h : x < gs.length) : ((gs.map (·.1)).flatten).Perm ((gs.getD x default).1 ++ ((gs.set x default).map (·.1)).flatten) := by
  rw [List.getD_eq_getElem?_getD, List.getElem?_eq_getElem h, Option.getD_some, List.set_eq_take_append_cons_drop, if_pos h]
  conv => lhs; rw [← List.take_append_drop x gs, List.drop_eq_getElem_cons h]
  simp only [List.map_append, List.map_cons, List.flatten_append, List.flatten_cons]
  rw [show ((default : Grp).1 : List Int) = [] from rfl, List.nil_append, ← List.append_assoc, ← List.append_assoc]
  exact List.Perm.append_right _ List.perm_append_comm
theorem flat_set {gs : List Grp} {x : Nat} (h : x < gs.length) (g : Grp) : (((gs.set x g).map (·.1)).flatten).Perm (g.1 ++ ((gs.set x default).map (·.1)).flatten) := by
  have h1 := flat_split (gs := gs.set x g) (x := x) (by rw [List.length_set]; exact h)
  rw [getD_set _ _ _ _ _ h, if_pos rfl, List.set_set] at h1
  exact h1
theorem joinG_flat {s : GS} {x y : Nat} (hx : x < s.gs.length) (hy : y < s.gs.length) (hxy : x ≠ y) : (((joinG s x y).gs.map (·.1)).flatten).Perm ((s.gs.map (·.1)).flatten) := by
  unfold joinG
  dsimp only
  have hl : y < (s.gs.set x ((s.gs.getD x default).1 ++ (s.gs.getD y default).1, (s.gs.getD x default).2 + 1)).length := by rw [List.length_set]; exact hy
  have h1 := flat_set hl ([], 0)
  have h2 := flat_split hl
  rw [getD_set _ _ _ _ _ hx, if_neg hxy] at h2
  have h3 := flat_set hx ((s.gs.getD x default).1 ++ (s.gs.getD y default).1, (s.gs.getD x default).2 + 1)
  have h4 := flat_split hx
  have h5 : ((s.gs.getD y default).1 ++ (((s.gs.set x ((s.gs.getD x default).1 ++ (s.gs.getD y default).1, (s.gs.getD x default).2 + 1)).set y ([], 0)).map (·.1)).flatten).Perm ((s.gs.getD y default).1 ++ (s.gs.map (·.1)).flatten) := by
    refine (List.Perm.append_left _ h1).trans ?_
    rw [List.nil_append]
    refine h2.symm.trans (h3.trans ?_)
    dsimp only
    refine (List.Perm.trans ?_ (List.Perm.append_left _ h4.symm))
    rw [← List.append_assoc]
    exact List.Perm.append_right _ List.perm_append_comm
  exact (List.perm_append_left_iff _).1 h5
theorem GI.elem {n : Nat} {s : GS} (h : GI n s) {f x : Nat} (hx : x < n) (hf : (f : Int) ∈ (s.gs.getD x default).1) : ∀ y, y < n → (f : Int) ∈ (s.gs.getD y default).1 → x = y := by
  intro y hy hfy
  refine Decidable.byContradiction fun hxy => ?_
  have hp := h.all.nodup_iff.2 (by
    unfold natI
    exact List.Pairwise.map _ (fun a b hab => by omega) List.nodup_range)
  have h1 := (flat_split (gs := s.gs) (x := x) (by rw [h.gl]; exact hx)).nodup_iff.1 hp
  have h2 := (List.nodup_append.1 h1).2.2 _ hf
  refine h2 (f : Int) ?_ rfl
  refine List.mem_flatten.2 ⟨(s.gs.getD y default).1, ?_, hfy⟩
  refine List.mem_map.2 ⟨s.gs.getD y default, ?_, rfl⟩
  have e : s.gs.getD y default = (s.gs.set x default).getD y default := by rw [getD_set _ _ _ _ _ (by rw [h.gl]; exact hx), if_neg hxy]
  rw [e]
  exact getDm (by rw [List.length_set, h.gl]; exact hy)
theorem GI.len {n : Nat} {s : GS} (h : GI n s) {x : Nat} (hx : x < n) : (s.gs.getD x default).1.length ≤ n := by
  have h1 := (flat_split (gs := s.gs) (x := x) (by rw [h.gl]; exact hx)).length_eq
  have h2 := h.all.length_eq
  rw [natI_length] at h2
  rw [List.length_append] at h1
  omega
theorem GI.join {n : Nat} {s : GS} (h : GI n s) {page : Int} (hp : page ≤ 65536) {x y : Nat} (hx : x < n) (hy : y < n) (hxy : x ≠ y) (hfit : ¬ page < s.by_.getD x 0 + s.by_.getD y 0) : GI n (joinG s x y) := by
  have hxl : x < s.gs.length := by rw [h.gl]; exact hx
  have hyl : y < (s.gs.set x ((s.gs.getD x default).1 ++ (s.gs.getD y default).1, (s.gs.getD x default).2 + 1)).length := by rw [List.length_set, h.gl]; exact hy
  have hbx := h.byr x hx
  have hby := h.byr y hy
  have hg : ∀ z, z < n → ((joinG s x y).gs.getD z default).1 = if y = z then [] else if x = z then (s.gs.getD x default).1 ++ (s.gs.getD y default).1 else (s.gs.getD z default).1 := fun z hz => by
    unfold joinG
    dsimp only
    rw [getD_set _ _ _ _ _ hyl, getD_set _ _ _ _ _ hxl]
    repeat' split
    all_goals rfl
  refine ⟨by simp [joinG, h.gl], by simp [joinG, mov_length, h.ol], by simp [joinG, h.bl], fun f hf => ?_, fun z hz => ?_, fun z hz f hf => ?_, ?_⟩
  · obtain ⟨z, hz, e, hne⟩ := h.ofr f hf
    have hm := mov_getD (x : Int) (s.gs.getD y default).1 s.of (fun g hg => by rw [h.ol]; exact h.mem y hy g hg) f
    by_cases hfy : (f : Int) ∈ (s.gs.getD y default).1
    · rw [if_pos hfy] at hm
      refine ⟨x, hx, hm, ?_⟩
      rw [hg x hx, if_neg (Ne.symm hxy), if_pos rfl]
      exact List.mem_append.2 (.inr hfy)
    · rw [if_neg hfy] at hm
      have hzy : y ≠ z := fun e => hfy (by rw [e]; exact hne)
      refine ⟨z, hz, hm.trans e, ?_⟩
      rw [hg z hz, if_neg hzy]
      split
      · rename_i hxz
        subst hxz
        exact List.mem_append.2 (.inl hne)
      · exact hne
  · show 0 ≤ (s.by_.set x _).getD z 0 ∧ (s.by_.set x _).getD z 0 ≤ _
    rw [getD_set _ _ _ _ _ (by rw [h.bl]; exact hx)]
    split
    · omega
    · exact h.byr z hz
  · rw [hg z hz] at hf
    split at hf
    · cases hf
    · split at hf
      · rcases List.mem_append.1 hf with hf | hf
        · exact h.mem x hx f hf
        · exact h.mem y hy f hf
      · exact h.mem z hz f hf
  · exact (joinG_flat hxl (by rw [h.gl]; exact hy) hxy).trans h.all
theorem GI.step {n : Nat} {s : GS} (h : GI n s) {page : Int} (hp : page ≤ 65536) {c : CallI} (hc : (0 ≤ c.fn ∧ c.fn < n) ∧ (0 ≤ c.cal ∧ c.cal < n)) : GI n (stepG page s c) := by
  obtain ⟨x, hx, ex, _⟩ := h.ofr c.fn.toNat (by omega)
  obtain ⟨y, hy, ey, _⟩ := h.ofr c.cal.toNat (by omega)
  unfold stepG
  dsimp only
  rw [ex, ey, Int.toNat_natCast, Int.toNat_natCast]
  split
  · exact h
  · rename_i hn
    rw [not_or] at hn
    exact h.join hp hx hy (fun e => hn.1 (by rw [e])) hn.2
theorem GI.init {sizes : List Int} (hs : ∀ s ∈ sizes, 0 ≤ s ∧ s ≤ 1048576) : GI sizes.length (initG sizes) := by
  have hg : ∀ x, x < sizes.length → (initG sizes).gs.getD x default = ([(x : Int)], 0) := fun x hx => by
    simp [initG, List.getD_eq_getElem?_getD, hx]
  refine ⟨by simp [initG], by simp [initG, natI_length], rfl, fun f hf => ⟨f, hf, by simp [initG, natI, List.getD_eq_getElem?_getD, hf], by rw [hg f hf]; simp⟩, fun x hx => hs _ (getDm hx), fun x hx f hf => ?_, ?_⟩
  · rw [hg x hx] at hf
    simp at hf
    omega
  · have : ((initG sizes).gs.map (·.1)).flatten = natI sizes.length := by
      unfold initG natI
      dsimp only
      rw [List.map_map, List.flatten_eq_flatMap, List.flatMap_map]
      simp [Function.comp_def]
      rw [List.flatMap_def]
      induction List.range sizes.length with
      | nil => rfl
      | cons a l ih => simp; exact ih
    rw [this]
theorem GI.run {n : Nat} {page : Int} (hp : page ≤ 65536) : ∀ (l : List CallI) (s : GS), GI n s → (∀ c ∈ l, (0 ≤ c.fn ∧ c.fn < n) ∧ (0 ≤ c.cal ∧ c.cal < n)) → GI n (runG page s l)
  | [], s, h, _ => h
  | c :: l, s, h, hc => GI.run hp l _ (h.step hp (hc c (by simp))) (fun d hd => hc d (by simp [hd]))
theorem runG_take (page : Int) (s : GS) (l : List CallI) (k : Nat) (h : k < l.length) : runG page s (l.take (k + 1)) = stepG page (runG page s (l.take k)) (l.getD k default) := by
  rw [runG, List.take_add_one, List.getElem?_eq_getElem h, List.foldl_append, List.getD_eq_getElem?_getD, List.getElem?_eq_getElem h]; rfl
end Go.Proofs.Ythginmfobikdgaa
