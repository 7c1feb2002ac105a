/- Chapter 38, the walks: exact, Order of few functions. -/
import Derived.Test.YthginmfobikdgaaPlD
set_option linter.unusedSimpArgs false
set_option linter.unusedVariables false
namespace Go.Proofs.Ythginmfobikdgaa
open Go.PV

theorem zN : zeroCells Try.prog 1 = some [.nilf] := by kernel_rfl
theorem cN : Try.prog.cellsOf 1 = 1 := by kernel_rfl
theorem usedL_none (n : Nat) : List.replicate n [PV.bool false] = encB (usedL n []) := by
  apply List.ext_getElem?
  intro j
  by_cases hj : j < n
  · simp [encB, usedL, hj]
  · simp [encB, usedL, hj]
def bestO (sizes : List Int) (calls : List CallI) (page : Int) : List Int := (visitB (wgt sizes calls page) sizes.length sizes.length [] (none, 0)).1.getD []
set_option maxRecDepth 8000 in
set_option maxHeartbeats 8000000 in
theorem exact_w (sizes : List Int) (E : PV) (calls : List CallI) (page : Int) (hE : PV.cell E = true) (hB : Bel 0 E) (h : GoodP sizes calls page) :
    PCall Try.prog 78 [.sl (ints sizes), graphV E calls, .int .i64 page] [] (fun p _ => p = .sl (ints (bestO sizes calls page))) := by
  have h1 := h.n0
  have h2 := h.n
  unfold graphV
  refine PCall.vfrz [] 4095 19 [.tmp 6] (noE_ok _) mix Try.func78 rfl (by decide) rfl rfl (by simp) ?_
  simp -dsimp only [initFr, List.zipIdx_cons, List.zipIdx_nil, List.map_cons, List.map_nil, Nat.zero_add, Nat.reduceAdd]
  simp -dsimp (maxSteps := 4000000) +contextual (disch := first | omega | decide +kernel) only [↓vsD, vsU, Bool.or_false, Bool.true_or, resW, fnRet, cond_true, cond_false, Nat.reduceShiftRight, Nat.reduceAnd, Go.PV.fits, Go.PV.mutOf, Go.PV.splice, Int.reduceToNat, Int.reduceEq, Int.reduceAdd, Int.reduceSub, Int.reduceMul, Int.reduceLE, Int.reduceLT, Int.reduceNeg, Nat.reduceMul, Nat.reduceLeDiff, ne_eq, if_true, if_false, reduceIte, Nat.reduceEqDiff, ↓Nat.reduceLT, Nat.reduceAdd, Nat.reduceBEq, reduceCtorEq, enc_length, encs_length, tyU, tyC, tyB, tyA, tyI, tyZ, tyF, tyP, enc_getD, encs_getD, wrap_i64, enc_set, splice_one, set_last, bin_snn, bin_snm, bin_sns, bin_tnn, bin_tnm, bin_tns, enc_length, hE, aggN, undN, zN, cN, cells_func, bytesOk, lenOk]
  rw [usedL_none]
  refine PCall.mono (permute_ok sizes E calls page hE hB h sizes.length [] none none (none, 0) [] (by simp) (by simp) ⟨fun _ => rfl, fun o v t e => (by cases e), fun _ => rfl, fun o e => (by cases e), fun o v t o2 e => (by cases e)⟩
    (fun p σ' => ∃ oo' bo' Q', EX [] (visitB (wgt sizes calls page) sizes.length sizes.length [] (none, 0)) oo' bo' Q' ∧ p = .tup [] ∧ σ' = exS sizes E calls page (usedL sizes.length []) (BVof bo') (OVof oo') (visitB (wgt sizes calls page) sizes.length sizes.length [] (none, 0)).2 Q') (fun oo' bo' Q' hx' => ⟨oo', bo', Q', hx', rfl, rfl⟩)) ?_
  rintro p σ' ⟨oo', bo', Q', hx', rfl, rfl⟩
  unfold exS
  cases bo' with
  | none =>
    have hb := hx'.best0 rfl
    simp only [BVof]
    simp -dsimp (maxSteps := 4000000) +contextual (disch := first | omega | decide +kernel) only [↓vsD, vsU, Bool.or_false, Bool.true_or, resW, fnRet, cond_true, cond_false, Nat.reduceShiftRight, Nat.reduceAnd, Go.PV.fits, Go.PV.mutOf, Go.PV.splice, Int.reduceToNat, Int.reduceEq, Int.reduceAdd, Int.reduceSub, Int.reduceMul, Int.reduceLE, Int.reduceLT, Int.reduceNeg, Nat.reduceMul, Nat.reduceLeDiff, ne_eq, if_true, if_false, reduceIte, Nat.reduceEqDiff, ↓Nat.reduceLT, Nat.reduceAdd, Nat.reduceBEq, reduceCtorEq, enc_length, encs_length, tyU, tyC, tyB, tyA, tyI, tyZ, tyF, tyP, enc_getD, encs_getD, wrap_i64, enc_set, splice_one, set_last, bin_snn, bin_snm, bin_sns, bin_tnn, bin_tnm, bin_tns]
    refine fin0 .nils ?_
    rw [bestO, hb]; rfl
  | some o =>
    obtain ⟨l, hb, hQ⟩ := hx'.best o rfl
    simp only [BVof]
    simp -dsimp (maxSteps := 4000000) +contextual (disch := first | omega | decide +kernel) only [↓vsD, vsU, Bool.or_false, Bool.true_or, resW, fnRet, cond_true, cond_false, Nat.reduceShiftRight, Nat.reduceAnd, Go.PV.fits, Go.PV.mutOf, Go.PV.splice, Int.reduceToNat, Int.reduceEq, Int.reduceAdd, Int.reduceSub, Int.reduceMul, Int.reduceLE, Int.reduceLT, Int.reduceNeg, Nat.reduceMul, Nat.reduceLeDiff, ne_eq, if_true, if_false, reduceIte, Nat.reduceEqDiff, ↓Nat.reduceLT, Nat.reduceAdd, Nat.reduceBEq, reduceCtorEq, enc_length, encs_length, tyU, tyC, tyB, tyA, tyI, tyZ, tyF, tyP, enc_getD, encs_getD, wrap_i64, enc_set, splice_one, set_last, bin_snn, bin_snm, bin_sns, bin_tnn, bin_tnm, bin_tns]
    refine fin0 (Frz.msl0 (elem := 3) (sz := 1) (Nat.zero_le _) (show Q'[o]? = _ from hQ) (enc_bel _ _ _)) ?_
    rw [bestO, hb]; rfl
theorem exact_on (sizes : List Int) (E : PV) (calls : List CallI) (page : Int) (hE : PV.cell E = true) (hB : Bel 0 E) (h : GoodP sizes calls page) (σ : Store) :
    PCall Try.prog 78 [.sl (ints sizes), graphV E calls, .int .i64 page] σ (fun p σ' => p = .sl (ints (bestO sizes calls page)) ∧ σ' = σ) :=
  PCall.lift (exact_w sizes E calls page hE hB h) (by
    simp only [List.forall_mem_cons, List.not_mem_nil, false_implies, implies_true, and_true]
    exact ⟨bel_ints _ _, graphV_bel E calls hB, bel_int _ _ _⟩) (fun p h => ⟨by rw [h]; exact bel_ints _ _, h, rfl⟩)
set_option maxHeartbeats 4000000 in
theorem pOrder_w (sizes : List Int) (E : PV) (calls : List CallI) (page : Int) (hE : PV.cell E = true) (hB : Bel 0 E) (h : GoodP sizes calls page) (hn : sizes.length ≤ 7) :
    PCall Try.prog 43 [.sl (ints sizes), graphV E calls, .int .i64 page] [] (fun p _ => p = .tup [.sl (ints (bestO sizes calls page)), .int .i64 0]) := by
  have h1 := h.n0
  have h2 := h.n
  have hc := pcheck_on sizes E calls page hE hB h
  have hx := exact_on sizes E calls page hE hB h
  unfold graphV at hc hx ⊢
  refine PCall.vfrz [] 279039 27 [.tmp 6, .tmp 7] (noE_ok _) mix Try.func43 rfl (by decide) rfl rfl (by simp) ?_
  simp -dsimp only [initFr, List.zipIdx_cons, List.zipIdx_nil, List.map_cons, List.map_nil, Nat.zero_add, Nat.reduceAdd]
  simp -dsimp (maxSteps := 4000000) +contextual (disch := first | omega | decide +kernel) only [↓vsD, vsU, Bool.or_false, Bool.true_or, resW, fnRet, cond_true, cond_false, Nat.reduceShiftRight, Nat.reduceAnd, Go.PV.fits, Go.PV.mutOf, Go.PV.splice, Int.reduceToNat, Int.reduceEq, Int.reduceAdd, Int.reduceSub, Int.reduceMul, Int.reduceLE, Int.reduceLT, Int.reduceNeg, Nat.reduceMul, Nat.reduceLeDiff, ne_eq, if_true, if_false, reduceIte, Nat.reduceEqDiff, ↓Nat.reduceLT, Nat.reduceAdd, Nat.reduceBEq, reduceCtorEq, enc_length, encs_length, tyU, tyC, tyB, tyA, tyI, tyZ, tyF, tyP, enc_getD, encs_getD, wrap_i64, enc_set, splice_one, set_last, bin_snn, bin_snm, bin_sns, bin_tnn, bin_tnm, bin_tns, enc_length, hE]
  refine PCall.mono (hc _) ?_
  rintro p σ' ⟨rfl, rfl⟩
  simp -dsimp (maxSteps := 4000000) +contextual (disch := first | omega | decide +kernel) only [↓vsD, vsU, Bool.or_false, Bool.true_or, resW, fnRet, cond_true, cond_false, Nat.reduceShiftRight, Nat.reduceAnd, Go.PV.fits, Go.PV.mutOf, Go.PV.splice, Int.reduceToNat, Int.reduceEq, Int.reduceAdd, Int.reduceSub, Int.reduceMul, Int.reduceLE, Int.reduceLT, Int.reduceNeg, Nat.reduceMul, Nat.reduceLeDiff, ne_eq, if_true, if_false, reduceIte, Nat.reduceEqDiff, ↓Nat.reduceLT, Nat.reduceAdd, Nat.reduceBEq, reduceCtorEq, enc_length, encs_length, tyU, tyC, tyB, tyA, tyI, tyZ, tyF, tyP, enc_getD, encs_getD, wrap_i64, enc_set, splice_one, set_last, bin_snn, bin_snm, bin_sns, bin_tnn, bin_tnm, bin_tns, enc_length, hE]
  refine PCall.mono (hx _) ?_
  rintro p σ' ⟨rfl, rfl⟩
  simp -dsimp (maxSteps := 4000000) +contextual (disch := first | omega | decide +kernel) only [↓vsD, vsU, Bool.or_false, Bool.true_or, resW, fnRet, cond_true, cond_false, Nat.reduceShiftRight, Nat.reduceAnd, Go.PV.fits, Go.PV.mutOf, Go.PV.splice, Int.reduceToNat, Int.reduceEq, Int.reduceAdd, Int.reduceSub, Int.reduceMul, Int.reduceLE, Int.reduceLT, Int.reduceNeg, Nat.reduceMul, Nat.reduceLeDiff, ne_eq, if_true, if_false, reduceIte, Nat.reduceEqDiff, ↓Nat.reduceLT, Nat.reduceAdd, Nat.reduceBEq, reduceCtorEq, enc_length, encs_length, tyU, tyC, tyB, tyA, tyI, tyZ, tyF, tyP, enc_getD, encs_getD, wrap_i64, enc_set, splice_one, set_last, bin_snn, bin_snm, bin_sns, bin_tnn, bin_tnm, bin_tns]
  exact fin0 (.keep _ (bel_tup2 (bel_ints _ _) (bel_int _ _ _))) rfl
theorem pOrder_on (sizes : List Int) (E : PV) (calls : List CallI) (page : Int) (hE : PV.cell E = true) (hB : Bel 0 E) (h : GoodP sizes calls page) (hn : sizes.length ≤ 7) (σ : Store) :
    PCall Try.prog 43 [.sl (ints sizes), graphV E calls, .int .i64 page] σ (fun p σ' => p = .tup [.sl (ints (bestO sizes calls page)), .int .i64 0] ∧ σ' = σ) :=
  PCall.lift (pOrder_w sizes E calls page hE hB h hn) (by
    simp only [List.forall_mem_cons, List.not_mem_nil, false_implies, implies_true, and_true]
    exact ⟨bel_ints _ _, graphV_bel E calls hB, bel_int _ _ _⟩) (fun p h => ⟨by rw [h]; exact bel_tup2 (bel_ints _ _) (bel_int _ _ _), h, rfl⟩)

def extsB (n : Nat) : Nat → List Int → List (List Int)
  | 0, pre => [pre]
  | m + 1, pre => (natI n).flatMap fun f => if f ∈ pre then [] else extsB n m (pre ++ [f])
theorem foldl_flat {α β γ : Type} (f : β → γ → β) (g : α → List γ) : ∀ (l : List α) (b : β), (l.flatMap g).foldl f b = l.foldl (fun b a => (g a).foldl f b) b
  | [], b => rfl
  | a :: l, b => by rw [List.flatMap_cons, List.foldl_append, List.foldl_cons, foldl_flat f g l]
theorem visitB_exts (W : List Int → Int) (n : Nat) : ∀ (m : Nat) (pre : List Int) (b : Option (List Int) × Int), visitB W n m pre b = (extsB n m pre).foldl (fun b x => updB W b x) b
  | 0, pre, b => rfl
  | m + 1, pre, b => by
    rw [visitB, extsB, foldl_flat]
    congr 1
    funext b f
    by_cases h : f ∈ pre
    · rw [if_pos h, if_pos h]; rfl
    · rw [if_neg h, if_neg h, visitB_exts W n m]
theorem mem_exts {n : Nat} : ∀ {m : Nat} {pre l : List Int}, l ∈ extsB n m pre ↔ ∃ s, l = pre ++ s ∧ s.length = m ∧ (∀ f ∈ s, f ∈ natI n ∧ f ∉ pre) ∧ s.Nodup
  | 0, pre, l => by
    simp only [extsB, List.mem_singleton]
    constructor
    · rintro rfl; exact ⟨[], by simp, rfl, by simp, by simp⟩
    · rintro ⟨s, rfl, hs, _⟩
      rw [List.length_eq_zero_iff.1 hs, List.append_nil]
  | m + 1, pre, l => by
    simp only [extsB, List.mem_flatMap]
    constructor
    · rintro ⟨f, hf, hl⟩
      by_cases h : f ∈ pre
      · rw [if_pos h] at hl; cases hl
      · rw [if_neg h] at hl
        obtain ⟨s, rfl, h1, h2, h3⟩ := mem_exts.1 hl
        refine ⟨f :: s, by simp, by simp [h1], fun g hg => ?_, List.nodup_cons.2 ⟨fun hs => (h2 f hs).2 (by simp), h3⟩⟩
        rcases List.mem_cons.1 hg with rfl | hg
        · exact ⟨hf, h⟩
        · exact ⟨(h2 g hg).1, fun hp => (h2 g hg).2 (List.mem_append.2 (.inl hp))⟩
    · rintro ⟨s, rfl, h1, h2, h3⟩
      cases s with
      | nil => simp at h1
      | cons f s =>
        have hf := h2 f (by simp)
        refine ⟨f, hf.1, ?_⟩
        rw [if_neg hf.2]
        refine mem_exts.2 ⟨s, by simp, by simpa using h1, fun g hg => ⟨(h2 g (by simp [hg])).1, fun hp => ?_⟩, (List.nodup_cons.1 h3).2⟩
        rcases List.mem_append.1 hp with hp | hp
        · exact (h2 g (by simp [hg])).2 hp
        · rw [List.mem_singleton] at hp
          subst hp
          exact (List.nodup_cons.1 h3).1 hg
/-- What the fold finds. -/
theorem fold_best (W : List Int → Int) : ∀ (L : List (List Int)) (x : List Int), ∃ y, (L.foldl (fun b x => updB W b x) (some x, W x)) = (some y, W y) ∧ y ∈ x :: L ∧ (∀ z ∈ x :: L, W y ≤ W z) ∧ ∃ A B, x :: L = A ++ y :: B ∧ ∀ z ∈ A, W y < W z
  | [], x => ⟨x, rfl, by simp, by simp, [], [], rfl, by simp⟩
  | z :: L, x => by
    rw [List.foldl_cons]
    by_cases h : W z < W x
    · have hu : updB W (some x, W x) z = (some z, W z) := by rw [updB, if_pos (.inr h)]
      rw [hu]
      obtain ⟨y, h1, h2, h3, A, B, h4, h5⟩ := fold_best W L z
      have h6 := h3 z (by simp)
      refine ⟨y, h1, List.mem_cons.2 (.inr h2), fun q hq => ?_, x :: A, B, by rw [h4]; rfl, fun q hq => ?_⟩
      · rcases List.mem_cons.1 hq with rfl | hq
        · omega
        · exact h3 q hq
      · rcases List.mem_cons.1 hq with rfl | hq
        · omega
        · exact h5 q hq
    · have hu : updB W (some x, W x) z = (some x, W x) := by rw [updB, if_neg (by simp; omega)]
      rw [hu]
      obtain ⟨y, h1, h2, h3, A, B, h4, h5⟩ := fold_best W L x
      have h6 := h3 x (by simp)
      refine ⟨y, h1, ?_, fun q hq => ?_, ?_⟩
      · rcases List.mem_cons.1 h2 with rfl | h2
        · simp
        · simp [h2]
      · rcases List.mem_cons.1 hq with rfl | hq
        · exact h6
        · rcases List.mem_cons.1 hq with rfl | hq
          · omega
          · exact h3 q (by simp [hq])
      · cases A with
        | nil =>
          simp at h4
          exact ⟨[], z :: L, by rw [h4.1]; rfl, by simp⟩
        | cons a A =>
          simp at h4
          obtain ⟨rfl, h4⟩ := h4
          have h7 := h5 x (by simp)
          refine ⟨x :: z :: A, B, by rw [h4]; rfl, fun q hq => ?_⟩
          rcases List.mem_cons.1 hq with rfl | hq
          · exact h7
          · rcases List.mem_cons.1 hq with rfl | hq
            · omega
            · exact h5 q (by simp [hq])
/-! The order in which they come. -/
def lexI : List Int → List Int → Bool
  | x :: xs, y :: ys => if x = y then lexI xs ys else decide (x < y)
  | _, _ => false
theorem lexI_pre : ∀ (p a b : List Int), lexI (p ++ a) (p ++ b) = lexI a b
  | [], _, _ => rfl
  | x :: p, a, b => by simp [lexI, lexI_pre p]
theorem lexI_self : ∀ a : List Int, lexI a a = false
  | [] => rfl
  | x :: a => by simp [lexI, lexI_self a]
theorem natI_lt (n : Nat) : (natI n).Pairwise (fun a b => a < b) := by
  unfold natI
  rw [List.pairwise_map]
  exact List.pairwise_lt_range.imp (fun h => by omega)
theorem exts_sorted (n : Nat) : ∀ (m : Nat) (pre : List Int), (extsB n m pre).Pairwise (fun a b => lexI a b = true)
  | 0, pre => by simp [extsB]
  | m + 1, pre => by
    rw [extsB, List.pairwise_flatMap]
    refine ⟨fun f _ => ?_, (natI_lt n).imp (fun {a b} hab x hx y hy => ?_)⟩
    · by_cases h : f ∈ pre
      · rw [if_pos h]; exact List.Pairwise.nil
      · rw [if_neg h]; exact exts_sorted n m _
    · by_cases ha : a ∈ pre
      · rw [if_pos ha] at hx; cases hx
      · by_cases hb : b ∈ pre
        · rw [if_pos hb] at hy; cases hy
        · rw [if_neg ha] at hx
          rw [if_neg hb] at hy
          obtain ⟨s, rfl, _⟩ := mem_exts.1 hx
          obtain ⟨t, rfl, _⟩ := mem_exts.1 hy
          rw [List.append_assoc, List.append_assoc, lexI_pre]
          simp [lexI, hab]
          omega
/-! Permutations. -/
theorem natI_nodup (n : Nat) : (natI n).Nodup := by
  unfold natI
  exact List.Pairwise.map _ (fun a b hab => by omega) List.nodup_range
theorem nodup_le : ∀ {s t : List Int}, s.Nodup → (∀ a ∈ s, a ∈ t) → s.length ≤ t.length
  | [], _, _, _ => Nat.zero_le _
  | x :: s, t, hn, h => by
    have hx := h x (by simp)
    have h1 := (List.nodup_cons.1 hn).1
    have := nodup_le (t := t.erase x) (List.nodup_cons.1 hn).2 (fun a ha => (List.mem_erase_of_ne (fun e => h1 (by rw [← e]; exact ha))).2 (h a (by simp [ha])))
    rw [List.length_erase_of_mem hx] at this
    have := List.length_pos_of_mem hx
    rw [List.length_cons]
    omega
theorem nodup_perm {s t : List Int} (hs : s.Nodup) (ht : t.Nodup) (h : ∀ a ∈ s, a ∈ t) (hl : s.length = t.length) : s.Perm t := by
  refine (List.perm_ext_iff_of_nodup hs ht).2 (fun a => ⟨h a, fun ha => Decidable.byContradiction fun hn => ?_⟩)
  have := nodup_le (s := a :: s) (t := t) (List.nodup_cons.2 ⟨hn, hs⟩) (fun b hb => by
    rcases List.mem_cons.1 hb with rfl | hb
    · exact ha
    · exact h b hb)
  rw [List.length_cons] at this
  omega
theorem exts_perm {n : Nat} {z : List Int} : z ∈ extsB n n [] ↔ z.Perm (natI n) := by
  rw [mem_exts]
  constructor
  · rintro ⟨s, rfl, h1, h2, h3⟩
    exact nodup_perm h3 (natI_nodup n) (fun a ha => (h2 a ha).1) (by rw [h1, natI_length])
  · intro h
    exact ⟨z, by simp, by rw [h.length_eq, natI_length], fun f hf => ⟨h.mem_iff.1 hf, by simp⟩, h.nodup_iff.2 (natI_nodup n)⟩
end Go.Proofs.Ythginmfobikdgaa
