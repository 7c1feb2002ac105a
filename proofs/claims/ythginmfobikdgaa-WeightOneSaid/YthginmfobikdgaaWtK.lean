/- Chapter 32, the walks: lists that are drawn. -/
import Derived.Test.YthginmfobikdgaaNxA
import Derived.Test.YthginmfobikdgaaWtD
set_option linter.unusedSimpArgs false
set_option linter.unusedVariables false
namespace Go.Proofs.Ythginmfobikdgaa
open Go.PV

/-! Counts that are drawn. -/
def oneSite (b : Int) (S : List Site) : Prop := S = [] ∨ ∃ i f c d : Int, (0 ≤ i ∧ i < 2) ∧ (0 ≤ f ∧ f < 2) ∧ (0 ≤ c ∧ c < 9) ∧ (0 ≤ d ∧ d < 9) ∧ S = [⟨b, i, [(f, c), (2, d)]⟩]
structure Drawn (x : FC) : Prop where
  ok : x.Ok 2 2
  sites : ∃ s0 s1, x.sites = s0 ++ s1 ∧ oneSite 0 s0 ∧ oneSite 1 s1
/-- A list that is being made: nothing yet, or an object. -/
def glist (o : Nat) : Nat → PV
  | 0 => .nils
  | k + 1 => .msl o k
theorem glist_0 (o : Nat) : glist o 0 = .nils := rfl
theorem glist_k (o k : Nat) : glist o (k + 1) = .msl o k := rfl
/-- A row whose lists are objects. -/
def Dn (M : Store) (row : List PV) (x : FC) : Prop := ∃ b e s : Nat, row = [.int .i64 x.ent, .msl (b + 1) 1, .msl (e + 1) 1, glist (s + 1) x.sites.length] ∧ M[b]? = some (.rows 3 1 (ints x.blocks) 1) ∧ M[e]? = some (.rows 121 2 (encT x.edges) 1) ∧
  (x.sites ≠ [] → M[s]? = some (.rows 63 3 (encS x.sites) (x.sites.length - 1)))
theorem Dn.app {M : Store} {row : List PV} {x : FC} (h : Dn M row x) (X : Store) : Dn (M ++ X) row x := by
  obtain ⟨b, e, s, h1, h2, h3, h4⟩ := h
  refine ⟨b, e, s, h1, ?_, ?_, fun h => ?_⟩
  · rw [List.getElem?_append_left (List.getElem?_eq_some_iff.1 h2).1, h2]
  · rw [List.getElem?_append_left (List.getElem?_eq_some_iff.1 h3).1, h3]
  · rw [List.getElem?_append_left (List.getElem?_eq_some_iff.1 (h4 h)).1, h4 h]
def mask (a l : Nat) (Z : Store) : Store := (Z.set a .dead).set l .dead
theorem mask_some {a l : Nat} {Z : Store} {o el sz v : Nat} {rows : List (List PV)} (h : (mask a l Z)[o]? = some (.rows el sz rows v)) : Z[o]? = some (.rows el sz rows v) := by
  unfold mask at h
  rw [List.getElem?_set] at h
  split at h
  · split at h <;> simp at h
  · rw [List.getElem?_set] at h
    split at h
    · split at h <;> simp at h
    · exact h
structure DS where
  r : Nat
  k : Nat
  Z : Store
  oa : Nat
  ol : Nat
  ag : List Int
  xs : List FC
  R : List (List PV)
structure DI (cs : List Int) (m : Nat) (s : DS) : Prop where
  k : s.k ≤ cs.length
  m : s.r + s.xs.length = m
  al : s.ag.length = s.xs.length
  age : ∀ a ∈ s.ag, ageOk a
  dr : ∀ x ∈ s.xs, Drawn x
  nil : s.xs = [] → s.Z = [] ∧ s.ag = []
  rl : s.R.length = s.xs.length
  ne : s.oa ≠ s.ol
  za : s.xs ≠ [] → s.Z[s.oa]? = some (.rows 3 1 (ints s.ag) (s.xs.length - 1))
  zl : s.xs ≠ [] → s.Z[s.ol]? = some (.rows 51 1 s.R (s.xs.length - 1))
  rows : ∀ i, i < s.xs.length → ∃ row, s.R.getD i [] = [.sl [row]] ∧ Dn (mask s.oa s.ol s.Z) row (s.xs.getD i default)

theorem mkDrawn {en b0 b1 : Int} {q0 q1 : Int × Int} {S : List Site} (he : -1 ≤ en ∧ en ≤ 1099511627776) (hb : ∀ n ∈ [b0, b1], -1 ≤ n ∧ n ≤ 1099511627776) (hq : ∀ e ∈ [q0, q1], (-1 ≤ e.1 ∧ e.1 ≤ 1099511627776) ∧ (-1 ≤ e.2 ∧ e.2 ≤ 1099511627776)) (hS : ∃ s0 s1, S = s0 ++ s1 ∧ oneSite 0 s0 ∧ oneSite 1 s1) : Drawn ⟨en, [b0, b1], [q0, q1], S⟩ := by
  have one : ∀ b S, oneSite b S → S.length ≤ 1 ∧ ∀ s ∈ S, s.tg.length = 2 ∧ ∀ t ∈ s.tg, 0 ≤ t.2 ∧ t.2 ≤ 1099511627776 := fun b S h => by
    rcases h with rfl | ⟨i, f, c, d, _, _, hc, hd, rfl⟩
    · simp
    · refine ⟨by simp, fun s hs => ?_⟩
      rw [List.mem_singleton] at hs
      subst hs
      refine ⟨rfl, fun t ht => ?_⟩
      simp only [List.mem_cons, List.not_mem_nil, or_false] at ht
      rcases ht with rfl | rfl
      · dsimp only; omega
      · dsimp only; omega
  refine ⟨⟨he, hb, hq, fun s hs t ht => ?_, rfl, rfl, ?_, fun s hs => ?_⟩, hS⟩
  · obtain ⟨s0, s1, rfl, h0, h1⟩ := hS
    rcases List.mem_append.1 hs with h | h
    · exact ((one _ _ h0).2 s h).2 t ht
    · exact ((one _ _ h1).2 s h).2 t ht
  · obtain ⟨s0, s1, rfl, h0, h1⟩ := hS
    have := (one _ _ h0).1
    have := (one _ _ h1).1
    simp only [List.length_append]; omega
  · obtain ⟨s0, s1, rfl, h0, h1⟩ := hS
    rcases List.mem_append.1 hs with h | h
    · have := ((one _ _ h0).2 s h).1; omega
    · have := ((one _ _ h1).2 s h).1; omega
theorem DI_first {cs : List Int} {m r k : Nat} {Z : Store} {oa ol : Nat} {age : Int} {x : FC} {row : List PV} (hk : k ≤ cs.length) (hm : r + 1 = m) (ha : ageOk age) (hx : Drawn x) (hne : oa ≠ ol) (hza : Z[oa]? = some (.rows 3 1 (ints [age]) 0))
    (hzl : Z[ol]? = some (.rows 51 1 [[.sl [row]]] 0)) (hD : Dn (mask oa ol Z) row x) : DI cs m ⟨r, k, Z, oa, ol, [age], [x], [[.sl [row]]]⟩ where
  k := hk
  m := hm
  al := rfl
  age := by simpa using ha
  dr := by simpa using hx
  nil := by simp
  rl := rfl
  ne := hne
  za := fun _ => hza
  zl := fun _ => hzl
  rows := fun i hi => by
    have : i = 0 := by simp at hi; exact hi
    subst this
    exact ⟨row, rfl, hD⟩
theorem mask_length (a l : Nat) (Z : Store) : (mask a l Z).length = Z.length := by simp [mask]
theorem DI_next {cs : List Int} {m r k k' : Nat} {Z : Store} {oa ol : Nat} {ag : List Int} {xs : List FC} {R : List (List PV)} (h : DI cs m ⟨r, k, Z, oa, ol, ag, xs, R⟩) (hr : 0 < r) (hxs : xs ≠ []) {age : Int} {x : FC} {row : List PV} (hk : k' ≤ cs.length) (ha : ageOk age) (hx : Drawn x)
    (X : Store) (hD : Dn (mask oa ol Z ++ X) row x) : DI cs m ⟨r - 1, k', (Z.set oa (.rows 3 1 (ints (ag ++ [age])) xs.length)).set ol (.rows 51 1 (R ++ [[.sl [row]]]) xs.length) ++ X, oa, ol, ag ++ [age], xs ++ [x], R ++ [[.sl [row]]]⟩ := by
  have ha1 := (List.getElem?_eq_some_iff.1 (h.za hxs)).1
  have hl1 := (List.getElem?_eq_some_iff.1 (h.zl hxs)).1
  have hne := h.ne
  dsimp only at ha1 hl1 hne
  have em : ∀ A L, mask oa ol ((Z.set oa A).set ol L ++ X) = mask oa ol Z ++ X := fun A L => by
    unfold mask
    rw [List.set_append_left _ _ (by simpa using ha1), List.set_append_left _ _ (by simpa using hl1), List.set_comm _ _ hne, List.set_set, List.set_comm _ _ hne.symm, List.set_set]
  have hm := h.m
  have hal := h.al
  have hrl := h.rl
  dsimp only at hm hal hrl
  refine ⟨hk, ?_, ?_, ?_, ?_, ?_, ?_, hne, fun _ => ?_, fun _ => ?_, fun i hi => ?_⟩
  · simp; omega
  · simp; omega
  · intro a ha'
    simp only [List.mem_append, List.mem_singleton] at ha'
    rcases ha' with h1 | rfl
    · exact h.age a h1
    · exact ha
  · intro y hy
    simp only [List.mem_append, List.mem_singleton] at hy
    rcases hy with h1 | rfl
    · exact h.dr y h1
    · exact hx
  · simp
  · simp; omega
  · dsimp only
    rw [List.getElem?_append_left (by simpa using ha1), List.getElem?_set_ne hne.symm, List.getElem?_set_self ha1]
    simp
  · dsimp only
    rw [List.getElem?_append_left (by simpa using hl1), List.getElem?_set_self (by simpa using hl1)]
    simp
  · dsimp only at hi ⊢
    rw [em]
    by_cases hi2 : i < xs.length
    · obtain ⟨rw', h1, h2⟩ := h.rows i hi2
      dsimp only at h1 h2
      refine ⟨rw', ?_, ?_⟩
      · rw [List.getD_eq_getElem?_getD, List.getElem?_append_left (by omega), ← List.getD_eq_getElem?_getD]; exact h1
      · rw [List.getD_eq_getElem?_getD, List.getElem?_append_left (by omega), ← List.getD_eq_getElem?_getD]; exact h2.app X
    · have : i = xs.length := by simp at hi; omega
      subst this
      refine ⟨row, ?_, ?_⟩
      · rw [List.getD_eq_getElem?_getD, ← hrl, List.getElem?_concat_length]; rfl
      · rw [List.getD_eq_getElem?_getD, List.getElem?_concat_length]; exact hD
theorem mask_at (a l : Nat) (Z X : Store) (c : Nat) : (mask a l Z ++ X)[Z.length + c]? = X[c]? := by
  have := gappk (mask a l Z) X c
  rwa [mask_length] at this
theorem frz_row1 {k : Nat} {σ : Store} {row row2 : List PV} (hl : row2.length = row.length) (h : ∀ (j : Nat) (p : PV), row[j]? = some p → Frz k σ p (row2.getD j .unk)) : Frz k σ (.sl [row]) (.sl [row2]) :=
  .sl _ _ rfl (fun i r hi => by
    match i with
    | 0 => simp at hi; subst hi; exact hl
    | i + 1 => simp at hi) (fun i r j p hi hj => by
    match i with
    | 0 => simp at hi; subst hi; exact h j p hj
    | i + 1 => simp at hi)
theorem DI_frz {cs : List Int} {m : Nat} {s : DS} (h : DI cs m s) (hxs : s.xs ≠ []) : Frz 1 (codes cs s.k :: s.Z) (.msl (s.ol + 1) (s.xs.length - 1)) (.sl (encC s.xs)) := by
  refine .msl (s.ol + 1) (s.xs.length - 1) 51 1 s.R (encC s.xs) (by omega) (h.zl hxs) (by rw [encC_length, h.rl]) (fun i row hi => ?_) (fun i row j p hi hj => ?_)
  · have hlt : i < s.xs.length := by have := (List.getElem?_eq_some_iff.1 hi).1; rw [h.rl] at this; exact this
    obtain ⟨r, h1, _⟩ := h.rows i hlt
    rw [List.getD_eq_getElem?_getD, hi, Option.getD_some] at h1
    rw [encC_getD _ _ hlt, h1]; rfl
  · have hlt : i < s.xs.length := by have := (List.getElem?_eq_some_iff.1 hi).1; rw [h.rl] at this; exact this
    obtain ⟨r, h1, b, e, t, hrow, hb, he, ht⟩ := h.rows i hlt
    rw [List.getD_eq_getElem?_getD, hi, Option.getD_some] at h1
    subst h1
    rw [encC_getD _ _ hlt]
    match j with
    | j + 1 => simp at hj
    | 0 =>
      simp at hj
      subst hj
      obtain ⟨x, hx⟩ : ∃ x, x = s.xs.getD i default := ⟨_, rfl⟩
      rw [← hx] at hrow hb he ht ⊢
      subst hrow
      refine frz_row1 rfl (fun j p hj => ?_)
      match j with
      | 0 => simp at hj; subst hj; exact .keep _ (bel_int _ _ _)
      | 1 => simp at hj; subst hj; exact Frz.msl0 (elem := 3) (sz := 1) (by omega) (show s.Z[b]? = _ from mask_some hb) (enc_bel _ _ _)
      | 2 => simp at hj; subst hj; exact Frz.msl0 (elem := 121) (sz := 2) (by omega) (show s.Z[e]? = _ from mask_some he) (encT_bel _ _)
      | 3 =>
        simp at hj
        subst hj
        show Frz 1 _ (glist (t + 1) x.sites.length) (.sl (encS x.sites))
        by_cases hn : x.sites = []
        · rw [hn]; exact .nils
        · have hln : x.sites.length = x.sites.length - 1 + 1 := by have := List.length_pos_iff.2 hn; omega
          rw [hln, glist_k]
          exact Frz.msl0 (elem := 63) (sz := 3) (by omega) (show s.Z[t]? = _ from mask_some (ht hn)) (encS_bel _ _)
      | j + 4 => simp at hj
set_option maxHeartbeats 16000000 in
theorem draw_w (cs : List Int) (k0 : Nat) (n : Nat) (hn1 : 1 ≤ n) (hn : n ≤ 32) (hcl : okInts .u8 cs) (hcn : cs.length < 2 ^ 40) (hk0 : k0 ≤ cs.length) :
    PCall Try.prog 24 [.ptr 0 0 0 0, .int .i64 n] [codes cs k0] (fun p σ' => ∃ (a : List Int) (l : List FC) (k : Nat), p = .tup [.sl (ints a), .sl (encC l)] ∧ σ' = [codes cs k] ∧ k ≤ cs.length ∧ a.length = l.length ∧ 0 < l.length ∧ l.length ≤ n ∧ (∀ x ∈ a, ageOk x) ∧ ∀ x ∈ l, Drawn x) := by
  have r0 := nxt_lt hcl k0 n (by omega)
  have h0 := nxt_le hk0 n
  obtain ⟨m, hm⟩ : ∃ m : Nat, (m : Int) = 1 + (nxt cs k0 n).1 := ⟨(1 + (nxt cs k0 n).1).toNat, by omega⟩
  refine PCall.vfrz [] 37778950440305658302463 95 [.tmp 4, .tmp 5] nx_ok mix Try.func24 rfl (by decide) rfl rfl (by simp) ?_
  simp -dsimp only [initFr, List.zipIdx_cons, List.zipIdx_nil, List.map_cons, List.map_nil, Nat.zero_add, Nat.reduceAdd]
  simp -dsimp (maxSteps := 4000000) +contextual (disch := first | omega | decide +kernel) only [↓vsD, vsU, resW, fnRet, cond_true, cond_false, Nat.reduceShiftRight, Nat.reduceAnd, Go.PV.fits, Go.PV.mutOf, Go.PV.splice, Int.reduceToNat, Int.reduceEq, Int.reduceAdd, Int.reduceSub, Int.reduceMul, Int.reduceLE, Int.reduceLT, Int.reduceNeg, Nat.reduceMul, Nat.reduceLeDiff, ne_eq, if_true, if_false, reduceIte, Nat.reduceEqDiff, ↓Nat.reduceLT, Nat.reduceAdd, Nat.reduceBEq, reduceCtorEq, enc_length, encs_length, tyU, tyC, tyB, tyA, tyI, tyZ, tyF, tyP, enc_getD, encs_getD, wrap_i64, enc_set, splice_one, set_last, bin_aeq2, bin_ane2, nx_next, exNextO_codes, hcl, ← hm]
  refine v_loopS (fun s : DS => [(0, .ptr 0 0 0 0), (6, glist (s.oa + 1) s.xs.length), (7, glist (s.ol + 1) s.xs.length), (8, .int .i64 s.r)]) (fun s => codes cs s.k :: s.Z) (fun s => DI cs m s) (fun s => s.r) ⟨m, (nxt cs k0 n).2, [], 0, 1, [], [], []⟩ (by simp [weaker, Go.PV.look, glist]) rfl
    ⟨h0, by simp, rfl, by simp, by simp, fun _ => ⟨rfl, rfl⟩, rfl, by simp, by simp, by simp, by simp⟩ ?_
  rintro ⟨r, k, Z, oa, ol, ag, xs, R⟩ hI
  have hk := hI.k
  have hrm := hI.m
  dsimp only at hk hrm ⊢
  by_cases hr : 0 < r
  · have e1 := nxt_lt hcl k 60 (by omega)
    have f1 := nxt_le hk 60
    obtain ⟨k1, hk1⟩ : ∃ k1, k1 = (nxt cs k 60).2 := ⟨_, rfl⟩
    obtain ⟨en, hen⟩ : ∃ en, en = (nxt cs k 60).1 - 1 := ⟨_, rfl⟩
    rw [← hk1] at f1
    simp -dsimp (maxSteps := 4000000) +contextual (disch := first | omega | decide +kernel) only [↓vsD, vsU, resW, fnRet, cond_true, cond_false, Nat.reduceShiftRight, Nat.reduceAnd, Go.PV.fits, Go.PV.mutOf, Go.PV.splice, Int.reduceToNat, Int.reduceEq, Int.reduceAdd, Int.reduceSub, Int.reduceMul, Int.reduceLE, Int.reduceLT, Int.reduceNeg, Nat.reduceMul, Nat.reduceLeDiff, ne_eq, if_true, if_false, reduceIte, Nat.reduceEqDiff, ↓Nat.reduceLT, Nat.reduceAdd, Nat.reduceBEq, reduceCtorEq, enc_length, encs_length, tyU, tyC, tyB, tyA, tyI, tyZ, tyF, tyP, enc_getD, encs_getD, wrap_i64, enc_set, splice_one, set_last, bin_aeq2, bin_ane2, nx_next, exNextO_codes, hcl, ← hk1, ← hen]
    obtain ⟨pa, hpa⟩ : ∃ pa, pa = glist (oa + 1) xs.length := ⟨_, rfl⟩
    obtain ⟨pl, hpl⟩ : ∃ pl, pl = glist (ol + 1) xs.length := ⟨_, rfl⟩
    rw [← hpa, ← hpl]
    have hen1 : -1 ≤ en ∧ en ≤ 58 := by omega
    refine v_loopS (fun s : Nat × Nat × List Int × List (Int × Int) => [(0, .ptr 0 0 0 0), (6, pa), (7, pl), (8, .int .i64 r), (9, .ptr (Z.length + 1) 0 0 0), (10, .int .i64 s.1)])
      (fun s => match s.1 with
        | 0 => codes cs s.2.1 :: (Z ++ [.rows 60 4 [[.int .i64 en, .nils, .nils, .nils]] 0])
        | j + 1 => codes cs s.2.1 :: (Z ++ [.rows 60 4 [[.int .i64 en, .msl (Z.length + 2) j, .msl (Z.length + 3) j, .nils]] 0, .rows 3 1 (ints s.2.2.1) j, .rows 121 2 (encT s.2.2.2) j]))
      (fun s => s.1 ≤ 2 ∧ s.2.1 ≤ cs.length ∧ s.2.2.1.length = s.1 ∧ s.2.2.2.length = s.1 ∧ (∀ n ∈ s.2.2.1, -1 ≤ n ∧ n ≤ 1099511627776) ∧ ∀ e ∈ s.2.2.2, (-1 ≤ e.1 ∧ e.1 ≤ 1099511627776) ∧ (-1 ≤ e.2 ∧ e.2 ≤ 1099511627776)) (fun s => 2 - s.1) (0, k1, [], []) (by simp [weaker, Go.PV.look]) rfl ⟨by simp, f1, by simp, by simp, by simp, by simp⟩ ?_
    rintro ⟨j, k, bs, es⟩ ⟨hj, hk, hbl, hel, hbr, her⟩
    dsimp only at hj hk hbl hel hbr her ⊢
    by_cases hj2 : j < 2
    · have d1 := nxt_lt hcl k 200 (by omega)
      have g1 := nxt_le hk 200
      have d2 := nxt_lt hcl (nxt cs k 200).2 40 (by omega)
      have g2 := nxt_le g1 40
      have d3 := nxt_lt hcl (nxt cs (nxt cs k 200).2 40).2 40 (by omega)
      have g3 := nxt_le g2 40
      have hm1 : (1 : Nat) * 8 ≤ maxBytes := by decide
      rcases (show j = 0 ∨ j = 1 by omega) with rfl | rfl
      · obtain rfl := List.length_eq_zero_iff.1 hbl
        obtain rfl := List.length_eq_zero_iff.1 hel
        simp -dsimp (maxSteps := 4000000) +contextual (disch := first | omega | decide +kernel) only [↓vsD, vsU, resW, fnRet, cond_true, cond_false, Nat.reduceShiftRight, Nat.reduceAnd, Go.PV.fits, Go.PV.mutOf, Go.PV.splice, Int.reduceToNat, Int.reduceEq, Int.reduceAdd, Int.reduceSub, Int.reduceMul, Int.reduceLE, Int.reduceLT, Int.reduceNeg, Nat.reduceMul, Nat.reduceLeDiff, ne_eq, if_true, if_false, reduceIte, Nat.reduceEqDiff, ↓Nat.reduceLT, Nat.reduceAdd, Nat.reduceBEq, reduceCtorEq, enc_length, encs_length, tyU, tyC, tyB, tyA, tyI, tyZ, tyF, tyP, enc_getD, encs_getD, wrap_i64, enc_set, splice_one, set_last, bin_aeq2, bin_ane2, nx_next, exNextO_codes, hcl, gapp0, gappk, sapp0, sappk, gappn0, gappnk, sappn0, sappnk]
        refine v_draws _ _ _ _ _ _ [3, 6, 8] [] [(0, 1), (0, 1), (0, 0), (0, 0), (1, 1), (1, 1), (0, 0), (2, 2), (0, 0)] (by decide +kernel) (by decide +kernel) (by decide +kernel) (by decide +kernel) ?_
        simp -dsimp (maxSteps := 4000000) +contextual (disch := first | omega | decide +kernel) only [↓vsD, vsU, resW, fnRet, cond_true, cond_false, Nat.reduceShiftRight, Nat.reduceAnd, Go.PV.fits, Go.PV.mutOf, Go.PV.splice, Int.reduceToNat, Int.reduceEq, Int.reduceAdd, Int.reduceSub, Int.reduceMul, Int.reduceLE, Int.reduceLT, Int.reduceNeg, Nat.reduceMul, Nat.reduceLeDiff, ne_eq, if_true, if_false, reduceIte, Nat.reduceEqDiff, ↓Nat.reduceLT, Nat.reduceAdd, Nat.reduceBEq, reduceCtorEq, enc_length, encs_length, tyU, tyC, tyB, tyA, tyI, tyZ, tyF, tyP, enc_getD, encs_getD, wrap_i64, enc_set, splice_one, set_last, bin_aeq2, bin_ane2, nx_next, exNextO_codes, vdx_none, vkp_go, ↓vd_end, place_nil, place_cons, vdo_eff, vdo_effA, ↓vdm_go, List.take_succ_cons, List.take_zero, List.drop_succ_cons, List.drop_zero, vdo_noeff_s, vdo_noeff_n, vdo_nofloat, vdo_noread, vdo_read, vdo_floatS, vdo_floatA, vde_s, vde_n, vde_c, vdx_s, vdr_s, vdr_b, vdf_m, vdf_p, ↓vd_op, ↓guard_none, ↓guard_some, gval_some, List.forall_mem_cons, List.not_mem_nil, false_implies, implies_true, List.length_append, List.length_replicate, List.replicate_zero, List.replicate_succ, List.contains_nil, List.contains_cons, Bool.or_false, Bool.false_or, Bool.or_self, Bool.or_true, Bool.true_or, vdr_o, vdq_eq, vdw_s, outR_v, rowsAt_none, mapAt_none, lnil, drop0, hcl, gapp0, gappk, sapp0, sappk, gappn0, gappnk, sappn0, sappnk]
        refine v_draws _ _ _ _ _ _ [3, 6, 10, 12] [] [(0, 2), (0, 2), (0, 0), (0, 0), (1, 2), (0, 1), (0, 0), (2, 2), (2, 2), (2, 2), (0, 0), (3, 3), (0, 0)] (by decide +kernel) (by decide +kernel) (by decide +kernel) (by decide +kernel) ?_
        simp -dsimp (maxSteps := 4000000) +contextual (disch := first | omega | decide +kernel) only [↓vsD, vsU, resW, fnRet, cond_true, cond_false, Nat.reduceShiftRight, Nat.reduceAnd, Go.PV.fits, Go.PV.mutOf, Go.PV.splice, Int.reduceToNat, Int.reduceEq, Int.reduceAdd, Int.reduceSub, Int.reduceMul, Int.reduceLE, Int.reduceLT, Int.reduceNeg, Nat.reduceMul, Nat.reduceLeDiff, ne_eq, if_true, if_false, reduceIte, Nat.reduceEqDiff, ↓Nat.reduceLT, Nat.reduceAdd, Nat.reduceBEq, reduceCtorEq, enc_length, encs_length, tyU, tyC, tyB, tyA, tyI, tyZ, tyF, tyP, enc_getD, encs_getD, wrap_i64, enc_set, splice_one, set_last, bin_aeq2, bin_ane2, nx_next, exNextO_codes, vdx_none, vkp_go, ↓vd_end, place_nil, place_cons, vdo_eff, vdo_effA, ↓vdm_go, List.take_succ_cons, List.take_zero, List.drop_succ_cons, List.drop_zero, vdo_noeff_s, vdo_noeff_n, vdo_nofloat, vdo_noread, vdo_read, vdo_floatS, vdo_floatA, vde_s, vde_n, vde_c, vdx_s, vdr_s, vdr_b, vdf_m, vdf_p, ↓vd_op, ↓guard_none, ↓guard_some, gval_some, List.forall_mem_cons, List.not_mem_nil, false_implies, implies_true, List.length_append, List.length_replicate, List.replicate_zero, List.replicate_succ, List.contains_nil, List.contains_cons, Bool.or_false, Bool.false_or, Bool.or_self, Bool.or_true, Bool.true_or, vdr_o, vdq_eq, vdw_s, outR_v, rowsAt_none, mapAt_none, lnil, drop0, hcl, gapp0, gappk, sapp0, sappk, gappn0, gappnk, sappn0, sappnk]
        exact ⟨(1, (nxt cs (nxt cs (nxt cs k 200).2 40).2 40).2, [(nxt cs k 200).1 - 1], [((nxt cs (nxt cs k 200).2 40).1 - 1, (nxt cs (nxt cs (nxt cs k 200).2 40).2 40).1 - 1)]), (by (try dsimp only); omega), (by simp [weaker, Go.PV.look]), rfl, by simp, g3, by simp, by simp, by simp; omega, by simp; omega⟩
      · obtain ⟨b0, rfl⟩ := List.length_eq_one_iff.1 hbl
        obtain ⟨⟨e0, e0'⟩, rfl⟩ := List.length_eq_one_iff.1 hel
        simp -dsimp (maxSteps := 4000000) +contextual (disch := first | omega | decide +kernel) only [↓vsD, vsU, resW, fnRet, cond_true, cond_false, Nat.reduceShiftRight, Nat.reduceAnd, Go.PV.fits, Go.PV.mutOf, Go.PV.splice, Int.reduceToNat, Int.reduceEq, Int.reduceAdd, Int.reduceSub, Int.reduceMul, Int.reduceLE, Int.reduceLT, Int.reduceNeg, Nat.reduceMul, Nat.reduceLeDiff, ne_eq, if_true, if_false, reduceIte, Nat.reduceEqDiff, ↓Nat.reduceLT, Nat.reduceAdd, Nat.reduceBEq, reduceCtorEq, enc_length, encs_length, tyU, tyC, tyB, tyA, tyI, tyZ, tyF, tyP, enc_getD, encs_getD, wrap_i64, enc_set, splice_one, set_last, bin_aeq2, bin_ane2, nx_next, exNextO_codes, hcl, gapp0, gappk, sapp0, sappk, gappn0, gappnk, sappn0, sappnk]
        refine v_draws _ _ _ _ _ _ [3, 6, 8] [] [(0, 1), (0, 1), (0, 0), (0, 0), (1, 1), (1, 1), (0, 0), (2, 2), (0, 0)] (by decide +kernel) (by decide +kernel) (by decide +kernel) (by decide +kernel) ?_
        simp -dsimp (maxSteps := 4000000) +contextual (disch := first | omega | decide +kernel) only [↓vsD, vsU, resW, fnRet, cond_true, cond_false, Nat.reduceShiftRight, Nat.reduceAnd, Go.PV.fits, Go.PV.mutOf, Go.PV.splice, Int.reduceToNat, Int.reduceEq, Int.reduceAdd, Int.reduceSub, Int.reduceMul, Int.reduceLE, Int.reduceLT, Int.reduceNeg, Nat.reduceMul, Nat.reduceLeDiff, ne_eq, if_true, if_false, reduceIte, Nat.reduceEqDiff, ↓Nat.reduceLT, Nat.reduceAdd, Nat.reduceBEq, reduceCtorEq, enc_length, encs_length, tyU, tyC, tyB, tyA, tyI, tyZ, tyF, tyP, enc_getD, encs_getD, wrap_i64, enc_set, splice_one, set_last, bin_aeq2, bin_ane2, nx_next, exNextO_codes, vdx_none, vkp_go, ↓vd_end, place_nil, place_cons, vdo_eff, vdo_effA, ↓vdm_go, List.take_succ_cons, List.take_zero, List.drop_succ_cons, List.drop_zero, vdo_noeff_s, vdo_noeff_n, vdo_nofloat, vdo_noread, vdo_read, vdo_floatS, vdo_floatA, vde_s, vde_n, vde_c, vdx_s, vdr_s, vdr_b, vdf_m, vdf_p, ↓vd_op, ↓guard_none, ↓guard_some, gval_some, List.forall_mem_cons, List.not_mem_nil, false_implies, implies_true, List.length_append, List.length_replicate, List.replicate_zero, List.replicate_succ, List.contains_nil, List.contains_cons, Bool.or_false, Bool.false_or, Bool.or_self, Bool.or_true, Bool.true_or, vdr_o, vdq_eq, vdw_s, outR_v, rowsAt_none, mapAt_none, lnil, drop0, hcl, gapp0, gappk, sapp0, sappk, gappn0, gappnk, sappn0, sappnk]
        refine v_draws _ _ _ _ _ _ [3, 6, 10, 12] [] [(0, 2), (0, 2), (0, 0), (0, 0), (1, 2), (0, 1), (0, 0), (2, 2), (2, 2), (2, 2), (0, 0), (3, 3), (0, 0)] (by decide +kernel) (by decide +kernel) (by decide +kernel) (by decide +kernel) ?_
        simp -dsimp (maxSteps := 4000000) +contextual (disch := first | omega | decide +kernel) only [↓vsD, vsU, resW, fnRet, cond_true, cond_false, Nat.reduceShiftRight, Nat.reduceAnd, Go.PV.fits, Go.PV.mutOf, Go.PV.splice, Int.reduceToNat, Int.reduceEq, Int.reduceAdd, Int.reduceSub, Int.reduceMul, Int.reduceLE, Int.reduceLT, Int.reduceNeg, Nat.reduceMul, Nat.reduceLeDiff, ne_eq, if_true, if_false, reduceIte, Nat.reduceEqDiff, ↓Nat.reduceLT, Nat.reduceAdd, Nat.reduceBEq, reduceCtorEq, enc_length, encs_length, tyU, tyC, tyB, tyA, tyI, tyZ, tyF, tyP, enc_getD, encs_getD, wrap_i64, enc_set, splice_one, set_last, bin_aeq2, bin_ane2, nx_next, exNextO_codes, vdx_none, vkp_go, ↓vd_end, place_nil, place_cons, vdo_eff, vdo_effA, ↓vdm_go, List.take_succ_cons, List.take_zero, List.drop_succ_cons, List.drop_zero, vdo_noeff_s, vdo_noeff_n, vdo_nofloat, vdo_noread, vdo_read, vdo_floatS, vdo_floatA, vde_s, vde_n, vde_c, vdx_s, vdr_s, vdr_b, vdf_m, vdf_p, ↓vd_op, ↓guard_none, ↓guard_some, gval_some, List.forall_mem_cons, List.not_mem_nil, false_implies, implies_true, List.length_append, List.length_replicate, List.replicate_zero, List.replicate_succ, List.contains_nil, List.contains_cons, Bool.or_false, Bool.false_or, Bool.or_self, Bool.or_true, Bool.true_or, vdr_o, vdq_eq, vdw_s, outR_v, rowsAt_none, mapAt_none, lnil, drop0, hcl, gapp0, gappk, sapp0, sappk, gappn0, gappnk, sappn0, sappnk, encT_length]
        exact ⟨(2, (nxt cs (nxt cs (nxt cs k 200).2 40).2 40).2, [b0, (nxt cs k 200).1 - 1], [(e0, e0'), ((nxt cs (nxt cs k 200).2 40).1 - 1, (nxt cs (nxt cs (nxt cs k 200).2 40).2 40).1 - 1)]), (by (try dsimp only); omega), (by simp [weaker, Go.PV.look]), rfl, by simp, g3, by simp, by simp, by simp at hbr ⊢; omega, by simp at her ⊢; omega⟩
    have hjj : j = 2 := by omega
    subst hjj
    dsimp only
    obtain ⟨b0, b1, rfl⟩ : ∃ b0 b1, bs = [b0, b1] := by
      match bs, hbl with
      | [b0, b1], _ => exact ⟨b0, b1, rfl⟩
    obtain ⟨q0, q1, rfl⟩ : ∃ q0 q1, es = [q0, q1] := by
      match es, hel with
      | [q0, q1], _ => exact ⟨q0, q1, rfl⟩
    obtain ⟨X0, hX0⟩ : ∃ X0 : Store, X0 = [.rows 3 1 (ints [b0, b1]) 1, .rows 121 2 (encT [q0, q1]) 1] := ⟨_, rfl⟩
    simp -dsimp (maxSteps := 4000000) +contextual (disch := first | omega | decide +kernel) only [↓vsD, vsU, resW, fnRet, cond_true, cond_false, Nat.reduceShiftRight, Nat.reduceAnd, Go.PV.fits, Go.PV.mutOf, Go.PV.splice, Int.reduceToNat, Int.reduceEq, Int.reduceAdd, Int.reduceSub, Int.reduceMul, Int.reduceLE, Int.reduceLT, Int.reduceNeg, Nat.reduceMul, Nat.reduceLeDiff, ne_eq, if_true, if_false, reduceIte, Nat.reduceEqDiff, ↓Nat.reduceLT, Nat.reduceAdd, Nat.reduceBEq, reduceCtorEq, enc_length, encs_length, tyU, tyC, tyB, tyA, tyI, tyZ, tyF, tyP, enc_getD, encs_getD, wrap_i64, enc_set, splice_one, set_last, bin_aeq2, bin_ane2, nx_next, exNextO_codes, hcl, gapp0, gappk, sapp0, sappk, gappn0, gappnk, sappn0, sappnk]
    refine v_loopS (fun s : Nat × Nat × List Site × List Site => [(0, .ptr 0 0 0 0), (6, pa), (7, pl), (8, .int .i64 r), (9, .ptr (Z.length + 1) 0 0 0), (11, .int .i64 s.1)])
      (fun s => match s.2.2.1 ++ s.2.2.2 with
        | [] => codes cs s.2.1 :: (Z ++ [.rows 60 4 [[.int .i64 en, .msl (Z.length + 2) 1, .msl (Z.length + 3) 1, .nils]] 0, .rows 3 1 (ints [b0, b1]) 1, .rows 121 2 (encT [q0, q1]) 1])
        | x :: l => codes cs s.2.1 :: (Z ++ [.rows 60 4 [[.int .i64 en, .msl (Z.length + 2) 1, .msl (Z.length + 3) 1, .msl (Z.length + 4) l.length]] 0, .rows 3 1 (ints [b0, b1]) 1, .rows 121 2 (encT [q0, q1]) 1, .rows 63 3 (encS (x :: l)) l.length]))
      (fun s => s.1 ≤ 2 ∧ s.2.1 ≤ cs.length ∧ (s.1 = 0 → s.2.2.1 = []) ∧ (s.1 ≤ 1 → s.2.2.2 = []) ∧ oneSite 0 s.2.2.1 ∧ oneSite 1 s.2.2.2) (fun s => 2 - s.1) (0, k, [], []) (by simp [weaker, Go.PV.look]) rfl ⟨by simp, hk, by simp, by simp, .inl rfl, .inl rfl⟩ ?_
    rintro ⟨j, k, S0, S1⟩ ⟨hj, hk, h00, h11, hs0, hs1⟩
    dsimp only at hj hk h00 h11 hs0 hs1 ⊢
    by_cases hj2 : j < 2
    · have d1 := nxt_lt hcl k 2 (by omega)
      have g1 := nxt_le hk 2
      obtain ⟨u, hu⟩ : ∃ u, u = nxt cs k 2 := ⟨_, rfl⟩
      rw [← hu] at d1 g1
      have d2 := nxt_lt hcl u.2 2 (by omega)
      have g2 := nxt_le g1 2
      obtain ⟨u2, hu2⟩ : ∃ u2, u2 = nxt cs u.2 2 := ⟨_, rfl⟩
      rw [← hu2] at d2 g2
      have d3 := nxt_lt hcl u2.2 2 (by omega)
      have g3 := nxt_le g2 2
      obtain ⟨u3, hu3⟩ : ∃ u3, u3 = nxt cs u2.2 2 := ⟨_, rfl⟩
      rw [← hu3] at d3 g3
      have d4 := nxt_lt hcl u3.2 9 (by omega)
      have g4 := nxt_le g3 9
      obtain ⟨u4, hu4⟩ : ∃ u4, u4 = nxt cs u3.2 9 := ⟨_, rfl⟩
      rw [← hu4] at d4 g4
      have d5 := nxt_lt hcl u4.2 9 (by omega)
      have g5 := nxt_le g4 9
      obtain ⟨u5, hu5⟩ : ∃ u5, u5 = nxt cs u4.2 9 := ⟨_, rfl⟩
      rw [← hu5] at d5 g5
      rcases (show j = 0 ∨ j = 1 by omega) with rfl | rfl
      · obtain rfl := h00 rfl
        obtain rfl := h11 (by omega)
        dsimp only [List.nil_append]
        simp -dsimp (maxSteps := 4000000) +contextual (disch := first | omega | decide +kernel) only [↓vsD, vsU, resW, fnRet, cond_true, cond_false, Nat.reduceShiftRight, Nat.reduceAnd, Go.PV.fits, Go.PV.mutOf, Go.PV.splice, Int.reduceToNat, Int.reduceEq, Int.reduceAdd, Int.reduceSub, Int.reduceMul, Int.reduceLE, Int.reduceLT, Int.reduceNeg, Nat.reduceMul, Nat.reduceLeDiff, ne_eq, if_true, if_false, reduceIte, Nat.reduceEqDiff, ↓Nat.reduceLT, Nat.reduceAdd, Nat.reduceBEq, reduceCtorEq, enc_length, encs_length, tyU, tyC, tyB, tyA, tyI, tyZ, tyF, tyP, enc_getD, encs_getD, wrap_i64, enc_set, splice_one, set_last, bin_aeq2, bin_ane2, nx_next, exNextO_codes, hcl, gapp0, gappk, sapp0, sappk, gappn0, gappnk, sappn0, sappnk, ← hu]
        refine ⟨fun hz => ?_, fun hz => ?_⟩
        · refine v_draws _ _ _ _ _ _ [4, 6, 8, 11, 16, 18] [] [(0, 4), (0, 4), (0, 4), (0, 0), (0, 0), (0, 1), (0, 0), (0, 2), (0, 0), (3, 4), (0, 3), (0, 0), (4, 4), (4, 4), (4, 4), (4, 4), (0, 0), (5, 5), (0, 0)] (by decide +kernel) (by decide +kernel) (by decide +kernel) (by decide +kernel) ?_
          simp -dsimp (maxSteps := 4000000) +contextual (disch := first | omega | decide +kernel) only [↓vsD, vsU, resW, fnRet, cond_true, cond_false, Nat.reduceShiftRight, Nat.reduceAnd, Go.PV.fits, Go.PV.mutOf, Go.PV.splice, Int.reduceToNat, Int.reduceEq, Int.reduceAdd, Int.reduceSub, Int.reduceMul, Int.reduceLE, Int.reduceLT, Int.reduceNeg, Nat.reduceMul, Nat.reduceLeDiff, ne_eq, if_true, if_false, reduceIte, Nat.reduceEqDiff, ↓Nat.reduceLT, Nat.reduceAdd, Nat.reduceBEq, reduceCtorEq, enc_length, encs_length, tyU, tyC, tyB, tyA, tyI, tyZ, tyF, tyP, enc_getD, encs_getD, wrap_i64, enc_set, splice_one, set_last, bin_aeq2, bin_ane2, nx_next, exNextO_codes, vdx_none, vkp_go, ↓vd_end, place_nil, place_cons, vdo_eff, vdo_effA, ↓vdm_go, List.take_succ_cons, List.take_zero, List.drop_succ_cons, List.drop_zero, vdo_noeff_s, vdo_noeff_n, vdo_nofloat, vdo_noread, vdo_read, vdo_floatS, vdo_floatA, vde_s, vde_n, vde_c, vdx_s, vdr_s, vdr_b, vdf_m, vdf_p, ↓vd_op, ↓guard_none, ↓guard_some, gval_some, List.forall_mem_cons, List.not_mem_nil, false_implies, implies_true, List.length_append, List.length_replicate, List.replicate_zero, List.replicate_succ, List.contains_nil, List.contains_cons, Bool.or_false, Bool.false_or, Bool.or_self, Bool.or_true, Bool.true_or, vdr_o, vdq_eq, vdw_s, outR_v, rowsAt_none, mapAt_none, lnil, drop0, hcl, gapp0, gappk, sapp0, sappk, gappn0, gappnk, sappn0, sappnk, ← hu2, ← hu3, ← hu4, ← hu5]
          exact ⟨(1, u5.2, [⟨0, u2.1, [(u3.1, u4.1), (2, u5.1)]⟩], []), (by (try dsimp only); omega), (by simp [weaker, Go.PV.look]), rfl, by simp, g5, by simp, by simp, .inr ⟨u2.1, u3.1, u4.1, u5.1, d2, d3, d4, d5, rfl⟩, .inl rfl⟩
        · exact ⟨(1, u.2, [], []), (by (try dsimp only); omega), (by simp [weaker, Go.PV.look]), rfl, by simp, g1, by simp, by simp, .inl rfl, .inl rfl⟩
      · obtain rfl := h11 (by omega)
        obtain ⟨hs1', hx1⟩ : oneSite 1 [⟨1, u2.1, [(u3.1, u4.1), (2, u5.1)]⟩] ∧ True := ⟨.inr ⟨u2.1, u3.1, u4.1, u5.1, d2, d3, d4, d5, rfl⟩, trivial⟩
        rcases (show S0 = [] ∨ ∃ x0, S0 = [x0] by
          rcases hs0 with h | ⟨_, _, _, _, _, _, _, _, h⟩
          · exact .inl h
          · exact .inr ⟨_, h⟩) with rfl | ⟨x0, rfl⟩
        · dsimp only [List.nil_append]
          simp -dsimp (maxSteps := 4000000) +contextual (disch := first | omega | decide +kernel) only [↓vsD, vsU, resW, fnRet, cond_true, cond_false, Nat.reduceShiftRight, Nat.reduceAnd, Go.PV.fits, Go.PV.mutOf, Go.PV.splice, Int.reduceToNat, Int.reduceEq, Int.reduceAdd, Int.reduceSub, Int.reduceMul, Int.reduceLE, Int.reduceLT, Int.reduceNeg, Nat.reduceMul, Nat.reduceLeDiff, ne_eq, if_true, if_false, reduceIte, Nat.reduceEqDiff, ↓Nat.reduceLT, Nat.reduceAdd, Nat.reduceBEq, reduceCtorEq, enc_length, encs_length, tyU, tyC, tyB, tyA, tyI, tyZ, tyF, tyP, enc_getD, encs_getD, wrap_i64, enc_set, splice_one, set_last, bin_aeq2, bin_ane2, nx_next, exNextO_codes, hcl, gapp0, gappk, sapp0, sappk, gappn0, gappnk, sappn0, sappnk, ← hu]
          refine ⟨fun hz => ?_, fun hz => ?_⟩
          · refine v_draws _ _ _ _ _ _ [4, 6, 8, 11, 16, 18] [] [(0, 4), (0, 4), (0, 4), (0, 0), (0, 0), (0, 1), (0, 0), (0, 2), (0, 0), (3, 4), (0, 3), (0, 0), (4, 4), (4, 4), (4, 4), (4, 4), (0, 0), (5, 5), (0, 0)] (by decide +kernel) (by decide +kernel) (by decide +kernel) (by decide +kernel) ?_
            simp -dsimp (maxSteps := 4000000) +contextual (disch := first | omega | decide +kernel) only [↓vsD, vsU, resW, fnRet, cond_true, cond_false, Nat.reduceShiftRight, Nat.reduceAnd, Go.PV.fits, Go.PV.mutOf, Go.PV.splice, Int.reduceToNat, Int.reduceEq, Int.reduceAdd, Int.reduceSub, Int.reduceMul, Int.reduceLE, Int.reduceLT, Int.reduceNeg, Nat.reduceMul, Nat.reduceLeDiff, ne_eq, if_true, if_false, reduceIte, Nat.reduceEqDiff, ↓Nat.reduceLT, Nat.reduceAdd, Nat.reduceBEq, reduceCtorEq, enc_length, encs_length, tyU, tyC, tyB, tyA, tyI, tyZ, tyF, tyP, enc_getD, encs_getD, wrap_i64, enc_set, splice_one, set_last, bin_aeq2, bin_ane2, nx_next, exNextO_codes, vdx_none, vkp_go, ↓vd_end, place_nil, place_cons, vdo_eff, vdo_effA, ↓vdm_go, List.take_succ_cons, List.take_zero, List.drop_succ_cons, List.drop_zero, vdo_noeff_s, vdo_noeff_n, vdo_nofloat, vdo_noread, vdo_read, vdo_floatS, vdo_floatA, vde_s, vde_n, vde_c, vdx_s, vdr_s, vdr_b, vdf_m, vdf_p, ↓vd_op, ↓guard_none, ↓guard_some, gval_some, List.forall_mem_cons, List.not_mem_nil, false_implies, implies_true, List.length_append, List.length_replicate, List.replicate_zero, List.replicate_succ, List.contains_nil, List.contains_cons, Bool.or_false, Bool.false_or, Bool.or_self, Bool.or_true, Bool.true_or, vdr_o, vdq_eq, vdw_s, outR_v, rowsAt_none, mapAt_none, lnil, drop0, hcl, gapp0, gappk, sapp0, sappk, gappn0, gappnk, sappn0, sappnk, ← hu2, ← hu3, ← hu4, ← hu5]
            exact ⟨(2, u5.2, [], [⟨1, u2.1, [(u3.1, u4.1), (2, u5.1)]⟩]), (by (try dsimp only); omega), (by simp [weaker, Go.PV.look]), rfl, by simp, g5, by simp, by simp, .inl rfl, hs1'⟩
          · exact ⟨(2, u.2, [], []), (by (try dsimp only); omega), (by simp [weaker, Go.PV.look]), rfl, by simp, g1, by simp, by simp, .inl rfl, .inl rfl⟩
        · simp -dsimp (maxSteps := 4000000) +contextual (disch := first | omega | decide +kernel) only [↓vsD, vsU, resW, fnRet, cond_true, cond_false, Nat.reduceShiftRight, Nat.reduceAnd, Go.PV.fits, Go.PV.mutOf, Go.PV.splice, Int.reduceToNat, Int.reduceEq, Int.reduceAdd, Int.reduceSub, Int.reduceMul, Int.reduceLE, Int.reduceLT, Int.reduceNeg, Nat.reduceMul, Nat.reduceLeDiff, ne_eq, if_true, if_false, reduceIte, Nat.reduceEqDiff, ↓Nat.reduceLT, Nat.reduceAdd, Nat.reduceBEq, reduceCtorEq, enc_length, encs_length, tyU, tyC, tyB, tyA, tyI, tyZ, tyF, tyP, enc_getD, encs_getD, wrap_i64, enc_set, splice_one, set_last, bin_aeq2, bin_ane2, nx_next, exNextO_codes, hcl, gapp0, gappk, sapp0, sappk, gappn0, gappnk, sappn0, sappnk, ← hu]
          refine ⟨fun hz => ?_, fun hz => ?_⟩
          · refine v_draws _ _ _ _ _ _ [4, 6, 8, 11, 16, 18] [] [(0, 4), (0, 4), (0, 4), (0, 0), (0, 0), (0, 1), (0, 0), (0, 2), (0, 0), (3, 4), (0, 3), (0, 0), (4, 4), (4, 4), (4, 4), (4, 4), (0, 0), (5, 5), (0, 0)] (by decide +kernel) (by decide +kernel) (by decide +kernel) (by decide +kernel) ?_
            simp -dsimp (maxSteps := 4000000) +contextual (disch := first | omega | decide +kernel) only [↓vsD, vsU, resW, fnRet, cond_true, cond_false, Nat.reduceShiftRight, Nat.reduceAnd, Go.PV.fits, Go.PV.mutOf, Go.PV.splice, Int.reduceToNat, Int.reduceEq, Int.reduceAdd, Int.reduceSub, Int.reduceMul, Int.reduceLE, Int.reduceLT, Int.reduceNeg, Nat.reduceMul, Nat.reduceLeDiff, ne_eq, if_true, if_false, reduceIte, Nat.reduceEqDiff, ↓Nat.reduceLT, Nat.reduceAdd, Nat.reduceBEq, reduceCtorEq, enc_length, encs_length, tyU, tyC, tyB, tyA, tyI, tyZ, tyF, tyP, enc_getD, encs_getD, wrap_i64, enc_set, splice_one, set_last, bin_aeq2, bin_ane2, nx_next, exNextO_codes, vdx_none, vkp_go, ↓vd_end, place_nil, place_cons, vdo_eff, vdo_effA, ↓vdm_go, List.take_succ_cons, List.take_zero, List.drop_succ_cons, List.drop_zero, vdo_noeff_s, vdo_noeff_n, vdo_nofloat, vdo_noread, vdo_read, vdo_floatS, vdo_floatA, vde_s, vde_n, vde_c, vdx_s, vdr_s, vdr_b, vdf_m, vdf_p, ↓vd_op, ↓guard_none, ↓guard_some, gval_some, List.forall_mem_cons, List.not_mem_nil, false_implies, implies_true, List.length_append, List.length_replicate, List.replicate_zero, List.replicate_succ, List.contains_nil, List.contains_cons, Bool.or_false, Bool.false_or, Bool.or_self, Bool.or_true, Bool.true_or, vdr_o, vdq_eq, vdw_s, outR_v, rowsAt_none, mapAt_none, lnil, drop0, hcl, gapp0, gappk, sapp0, sappk, gappn0, gappnk, sappn0, sappnk, ← hu2, ← hu3, ← hu4, ← hu5, encS_length]
            exact ⟨(2, u5.2, [x0], [⟨1, u2.1, [(u3.1, u4.1), (2, u5.1)]⟩]), (by (try dsimp only); omega), (by simp [weaker, Go.PV.look]), rfl, by simp, g5, by simp, by simp, hs0, hs1'⟩
          · exact ⟨(2, u.2, [x0], []), (by (try dsimp only); omega), (by simp [weaker, Go.PV.look]), rfl, by simp, g1, by simp, by simp, hs0, .inl rfl⟩
    have hjj : j = 2 := by omega
    subst hjj
    have d1 := nxt_lt hcl k 9 (by omega)
    have g1 := nxt_le hk 9
    obtain ⟨u, hu⟩ : ∃ u, u = nxt cs k 9 := ⟨_, rfl⟩
    rw [← hu] at d1 g1
    have d2 := nxt_lt hcl u.2 2 (by omega)
    have g2 := nxt_le g1 2
    obtain ⟨u2, hu2⟩ : ∃ u2, u2 = nxt cs u.2 2 := ⟨_, rfl⟩
    rw [← hu2] at d2 g2
    have d3 := nxt_lt hcl u.2 9 (by omega)
    have g3 := nxt_le g1 9
    obtain ⟨u3, hu3⟩ : ∃ u3, u3 = nxt cs u.2 9 := ⟨_, rfl⟩
    rw [← hu3] at d3 g3
    have d4 := nxt_lt hcl u2.2 9 (by omega)
    have g4 := nxt_le g2 9
    obtain ⟨u4, hu4⟩ : ∃ u4, u4 = nxt cs u2.2 9 := ⟨_, rfl⟩
    rw [← hu4] at d4 g4
    obtain ⟨S, hS⟩ : ∃ S, S = S0 ++ S1 := ⟨_, rfl⟩
    have hSd : ∃ s0 s1, S = s0 ++ s1 ∧ oneSite 0 s0 ∧ oneSite 1 s1 := ⟨S0, S1, hS, hs0, hs1⟩
    rw [← hS]
    have hm32 : m ≤ 32 := by omega
    have hb8 : (xs.length + 1) * 8 ≤ maxBytes := by unfold maxBytes; omega
    have hb24 : (xs.length + 1) * 24 ≤ maxBytes := by unfold maxBytes; omega
    have hbl2 : xs.length + 1 ≤ maxLen := by unfold maxLen; omega
    have hagl : ag.length = xs.length := hI.al
    have hRl : R.length = xs.length := hI.rl
    have hxs : (xs = [] ∧ Z = [] ∧ ag = []) ∨ ∃ n', xs.length = n' + 1 ∧ pa = .msl (oa + 1) n' ∧ pl = .msl (ol + 1) n' ∧ (∀ X, (Z ++ X)[oa]? = some (.rows 3 1 (ints ag) n')) ∧ (∀ y X, (Z.set oa y ++ X)[ol]? = some (.rows 51 1 R n')) ∧
        (∀ X y, (Z ++ X).set oa y = Z.set oa y ++ X) ∧ (∀ X y z, (Z.set oa y ++ X).set ol z = (Z.set oa y).set ol z ++ X) ∧ (∀ y X, (Z.set oa y ++ X)[Z.length]? = X[0]?) ∧ (∀ y z X, ((Z.set oa y).set ol z ++ X)[Z.length]? = X[0]?) := by
      cases xs with
      | nil => exact .inl ⟨rfl, (hI.nil rfl).1, (hI.nil rfl).2⟩
      | cons x0 xs =>
        have ha := hI.za (by simp)
        have hl := hI.zl (by simp)
        have hne := hI.ne
        dsimp only at ha hl hne
        have ha1 := (List.getElem?_eq_some_iff.1 ha).1
        have hl1 := (List.getElem?_eq_some_iff.1 hl).1
        refine .inr ⟨xs.length, rfl, hpa, hpl, fun X => ?_, fun y X => ?_, fun X y => ?_, fun X y z => ?_, fun y X => ?_, fun y z X => ?_⟩
        · rw [List.getElem?_append_left ha1, ha]; simp
        · rw [List.getElem?_append_left (by simpa using hl1), List.getElem?_set_ne hne, hl]; simp
        · exact List.set_append_left _ _ ha1
        · exact List.set_append_left _ _ (by simpa using hl1)
        · have := gapp0 (Z.set oa y) X; simpa using this
        · have := gapp0 ((Z.set oa y).set ol z) X; simpa using this
    cases S with
    | nil =>
      dsimp only
      simp -dsimp (maxSteps := 4000000) +contextual (disch := first | omega | decide +kernel) only [↓vsD, vsU, resW, fnRet, cond_true, cond_false, Nat.reduceShiftRight, Nat.reduceAnd, Go.PV.fits, Go.PV.mutOf, Go.PV.splice, Int.reduceToNat, Int.reduceEq, Int.reduceAdd, Int.reduceSub, Int.reduceMul, Int.reduceLE, Int.reduceLT, Int.reduceNeg, Nat.reduceMul, Nat.reduceLeDiff, ne_eq, if_true, if_false, reduceIte, Nat.reduceEqDiff, ↓Nat.reduceLT, Nat.reduceAdd, Nat.reduceBEq, reduceCtorEq, enc_length, encs_length, tyU, tyC, tyB, tyA, tyI, tyZ, tyF, tyP, enc_getD, encs_getD, wrap_i64, enc_set, splice_one, set_last, bin_aeq2, bin_ane2, nx_next, exNextO_codes, hcl, gapp0, gappk, sapp0, sappk, gappn0, gappnk, sappn0, sappnk, ← hu]
      refine ⟨fun hz => ?_, fun hz => ?_⟩
      · refine v_draws _ _ _ _ _ _ [3, 6] [] [(0, 1), (0, 1), (0, 0), (0, 0), (1, 1), (1, 1), (0, 0)] (by decide +kernel) (by decide +kernel) (by decide +kernel) (by decide +kernel) ?_
        simp -dsimp (maxSteps := 4000000) +contextual (disch := first | omega | decide +kernel) only [↓vsD, vsU, resW, fnRet, cond_true, cond_false, Nat.reduceShiftRight, Nat.reduceAnd, Go.PV.fits, Go.PV.mutOf, Go.PV.splice, Int.reduceToNat, Int.reduceEq, Int.reduceAdd, Int.reduceSub, Int.reduceMul, Int.reduceLE, Int.reduceLT, Int.reduceNeg, Nat.reduceMul, Nat.reduceLeDiff, ne_eq, if_true, if_false, reduceIte, Nat.reduceEqDiff, ↓Nat.reduceLT, Nat.reduceAdd, Nat.reduceBEq, reduceCtorEq, enc_length, encs_length, tyU, tyC, tyB, tyA, tyI, tyZ, tyF, tyP, enc_getD, encs_getD, wrap_i64, enc_set, splice_one, set_last, bin_aeq2, bin_ane2, nx_next, exNextO_codes, vdx_none, vkp_go, ↓vd_end, place_nil, place_cons, vdo_eff, vdo_effA, ↓vdm_go, List.take_succ_cons, List.take_zero, List.drop_succ_cons, List.drop_zero, vdo_noeff_s, vdo_noeff_n, vdo_nofloat, vdo_noread, vdo_read, vdo_floatS, vdo_floatA, vde_s, vde_n, vde_c, vdx_s, vdr_s, vdr_b, vdf_m, vdf_p, ↓vd_op, ↓guard_none, ↓guard_some, gval_some, List.forall_mem_cons, List.not_mem_nil, false_implies, implies_true, List.length_append, List.length_replicate, List.replicate_zero, List.replicate_succ, List.contains_nil, List.contains_cons, Bool.or_false, Bool.false_or, Bool.or_self, Bool.or_true, Bool.true_or, vdr_o, vdq_eq, vdw_s, outR_v, rowsAt_none, mapAt_none, lnil, drop0, hcl, gapp0, gappk, sapp0, sappk, gappn0, gappnk, sappn0, sappnk, ← hu2]
        have hdr : Drawn ⟨en, [1099511627776 - u2.1, b1], [q0, q1], []⟩ := mkDrawn (by omega) (by simp at hbr ⊢; omega) her hSd
        have hag : ageOk u4.1 := by unfold ageOk; omega
        rcases hxs with ⟨rfl, rfl, rfl⟩ | ⟨n', hn', hpa', hpl', ha1, hl1, sa, sl, gz0, gz1⟩
        · rw [hpa, hpl]
          dsimp only [List.length_nil, glist, List.nil_append]
          refine v_draws _ _ _ _ _ _ [2, 4, 10] [] [(0, 1), (0, 0), (0, 0), (1, 1), (0, 0), (0, 2), (0, 2), (0, 2), (0, 2), (0, 2), (0, 0), (3, 3), (3, 3)] (by decide +kernel) (by decide +kernel) (by decide +kernel) (by decide +kernel) ?_
          simp -dsimp (maxSteps := 4000000) +contextual (disch := first | omega | decide +kernel) only [↓vsD, vsU, resW, fnRet, cond_true, cond_false, Nat.reduceShiftRight, Nat.reduceAnd, Go.PV.fits, Go.PV.mutOf, Go.PV.splice, Int.reduceToNat, Int.reduceEq, Int.reduceAdd, Int.reduceSub, Int.reduceMul, Int.reduceLE, Int.reduceLT, Int.reduceNeg, Nat.reduceMul, Nat.reduceLeDiff, ne_eq, if_true, if_false, reduceIte, Nat.reduceEqDiff, ↓Nat.reduceLT, Nat.reduceAdd, Nat.reduceBEq, reduceCtorEq, enc_length, encs_length, tyU, tyC, tyB, tyA, tyI, tyZ, tyF, tyP, enc_getD, encs_getD, wrap_i64, enc_set, splice_one, set_last, bin_aeq2, bin_ane2, nx_next, exNextO_codes, vdx_none, vkp_go, ↓vd_end, place_nil, place_cons, vdo_eff, vdo_effA, ↓vdm_go, List.take_succ_cons, List.take_zero, List.drop_succ_cons, List.drop_zero, vdo_noeff_s, vdo_noeff_n, vdo_nofloat, vdo_noread, vdo_read, vdo_floatS, vdo_floatA, vde_s, vde_n, vde_c, vdx_s, vdr_s, vdr_b, vdf_m, vdf_p, ↓vd_op, ↓guard_none, ↓guard_some, gval_some, List.forall_mem_cons, List.not_mem_nil, false_implies, implies_true, List.length_append, List.length_replicate, List.replicate_zero, List.replicate_succ, List.contains_nil, List.contains_cons, Bool.or_false, Bool.false_or, Bool.or_self, Bool.or_true, Bool.true_or, vdr_o, vdq_eq, vdw_s, outR_v, rowsAt_none, mapAt_none, lnil, drop0, hcl, ← hu4]
          exact ⟨⟨r - 1, u4.2, [.rows 60 4 [[.int .i64 en, .msl (2) 1, .msl (3) 1, .nils]] 0, .rows 3 1 (ints [1099511627776 - u2.1, b1]) 1, .rows 121 2 (encT [q0, q1]) 1] ++ [.rows 3 1 (ints [u4.1]) 0, .rows 51 1 [[.sl [[.int .i64 en, .msl (2) 1, .msl (3) 1, .nils]]]] 0], 3, 4, [u4.1], [⟨en, [1099511627776 - u2.1, b1], [q0, q1], []⟩], [[.sl [[.int .i64 en, .msl (2) 1, .msl (3) 1, .nils]]]]⟩, (by (try dsimp only); omega), by simp [weaker, Go.PV.look, glist]; omega, rfl, DI_first (by assumption) (by simp at hrm; omega) hag hdr (by decide) rfl rfl ⟨1, 2, 3, rfl, rfl, rfl, fun h => absurd rfl h⟩⟩
        · rw [hpa', hpl']
          refine v_draws _ _ _ _ _ _ [2, 4, 10] [] [(0, 1), (0, 0), (0, 0), (1, 1), (0, 0), (0, 2), (0, 2), (0, 2), (0, 2), (0, 2), (0, 0), (3, 3), (3, 3)] (by decide +kernel) (by decide +kernel) (by decide +kernel) (by decide +kernel) ?_
          simp -dsimp (maxSteps := 4000000) +contextual (disch := first | omega | decide +kernel) only [↓vsD, vsU, resW, fnRet, cond_true, cond_false, Nat.reduceShiftRight, Nat.reduceAnd, Go.PV.fits, Go.PV.mutOf, Go.PV.splice, Int.reduceToNat, Int.reduceEq, Int.reduceAdd, Int.reduceSub, Int.reduceMul, Int.reduceLE, Int.reduceLT, Int.reduceNeg, Nat.reduceMul, Nat.reduceLeDiff, ne_eq, if_true, if_false, reduceIte, Nat.reduceEqDiff, ↓Nat.reduceLT, Nat.reduceAdd, Nat.reduceBEq, reduceCtorEq, enc_length, encs_length, tyU, tyC, tyB, tyA, tyI, tyZ, tyF, tyP, enc_getD, encs_getD, wrap_i64, enc_set, splice_one, set_last, bin_aeq2, bin_ane2, nx_next, exNextO_codes, vdx_none, vkp_go, ↓vd_end, place_nil, place_cons, vdo_eff, vdo_effA, ↓vdm_go, List.take_succ_cons, List.take_zero, List.drop_succ_cons, List.drop_zero, vdo_noeff_s, vdo_noeff_n, vdo_nofloat, vdo_noread, vdo_read, vdo_floatS, vdo_floatA, vde_s, vde_n, vde_c, vdx_s, vdr_s, vdr_b, vdf_m, vdf_p, ↓vd_op, ↓guard_none, ↓guard_some, gval_some, List.forall_mem_cons, List.not_mem_nil, false_implies, implies_true, List.length_append, List.length_replicate, List.replicate_zero, List.replicate_succ, List.contains_nil, List.contains_cons, Bool.or_false, Bool.false_or, Bool.or_self, Bool.or_true, Bool.true_or, vdr_o, vdq_eq, vdw_s, outR_v, rowsAt_none, mapAt_none, lnil, drop0, hcl, gapp0, gappk, sapp0, sappk, gappn0, gappnk, sappn0, sappnk, ← hu4, ha1, hl1, sa, sl, gz0, gz1, hagl, hRl]
          exact ⟨⟨r - 1, u4.2, (Z.set oa (.rows 3 1 (ints (ag ++ [u4.1])) xs.length)).set ol (.rows 51 1 (R ++ [[.sl [[.int .i64 en, .msl (Z.length + 2) 1, .msl (Z.length + 3) 1, .nils]]]]) xs.length) ++ [.rows 60 4 [[.int .i64 en, .msl (Z.length + 2) 1, .msl (Z.length + 3) 1, .nils]] 0, .rows 3 1 (ints [1099511627776 - u2.1, b1]) 1, .rows 121 2 (encT [q0, q1]) 1], oa, ol, ag ++ [u4.1], xs ++ [⟨en, [1099511627776 - u2.1, b1], [q0, q1], []⟩], R ++ [[.sl [[.int .i64 en, .msl (Z.length + 2) 1, .msl (Z.length + 3) 1, .nils]]]]⟩, (by (try dsimp only); omega), by simp [weaker, Go.PV.look, hn', glist_k]; omega, by simp [hn', encI], DI_next hI hr (fun h => by rw [h] at hn'; simp at hn') (by assumption) hag hdr [.rows 60 4 [[.int .i64 en, .msl (Z.length + 2) 1, .msl (Z.length + 3) 1, .nils]] 0, .rows 3 1 (ints [1099511627776 - u2.1, b1]) 1, .rows 121 2 (encT [q0, q1]) 1] ⟨Z.length + 1, Z.length + 2, Z.length + 3, rfl, (mask_at _ _ _ _ 1).trans rfl, (mask_at _ _ _ _ 2).trans rfl, fun h => absurd rfl h⟩⟩
      · have hdr : Drawn ⟨en, [b0, b1], [q0, q1], []⟩ := mkDrawn (by omega) (by simp at hbr ⊢; omega) her hSd
        have hag : ageOk u3.1 := by unfold ageOk; omega
        rcases hxs with ⟨rfl, rfl, rfl⟩ | ⟨n', hn', hpa', hpl', ha1, hl1, sa, sl, gz0, gz1⟩
        · rw [hpa, hpl]
          dsimp only [List.length_nil, glist, List.nil_append]
          refine v_draws _ _ _ _ _ _ [2, 4, 10] [] [(0, 1), (0, 0), (0, 0), (1, 1), (0, 0), (0, 2), (0, 2), (0, 2), (0, 2), (0, 2), (0, 0), (3, 3), (3, 3)] (by decide +kernel) (by decide +kernel) (by decide +kernel) (by decide +kernel) ?_
          simp -dsimp (maxSteps := 4000000) +contextual (disch := first | omega | decide +kernel) only [↓vsD, vsU, resW, fnRet, cond_true, cond_false, Nat.reduceShiftRight, Nat.reduceAnd, Go.PV.fits, Go.PV.mutOf, Go.PV.splice, Int.reduceToNat, Int.reduceEq, Int.reduceAdd, Int.reduceSub, Int.reduceMul, Int.reduceLE, Int.reduceLT, Int.reduceNeg, Nat.reduceMul, Nat.reduceLeDiff, ne_eq, if_true, if_false, reduceIte, Nat.reduceEqDiff, ↓Nat.reduceLT, Nat.reduceAdd, Nat.reduceBEq, reduceCtorEq, enc_length, encs_length, tyU, tyC, tyB, tyA, tyI, tyZ, tyF, tyP, enc_getD, encs_getD, wrap_i64, enc_set, splice_one, set_last, bin_aeq2, bin_ane2, nx_next, exNextO_codes, vdx_none, vkp_go, ↓vd_end, place_nil, place_cons, vdo_eff, vdo_effA, ↓vdm_go, List.take_succ_cons, List.take_zero, List.drop_succ_cons, List.drop_zero, vdo_noeff_s, vdo_noeff_n, vdo_nofloat, vdo_noread, vdo_read, vdo_floatS, vdo_floatA, vde_s, vde_n, vde_c, vdx_s, vdr_s, vdr_b, vdf_m, vdf_p, ↓vd_op, ↓guard_none, ↓guard_some, gval_some, List.forall_mem_cons, List.not_mem_nil, false_implies, implies_true, List.length_append, List.length_replicate, List.replicate_zero, List.replicate_succ, List.contains_nil, List.contains_cons, Bool.or_false, Bool.false_or, Bool.or_self, Bool.or_true, Bool.true_or, vdr_o, vdq_eq, vdw_s, outR_v, rowsAt_none, mapAt_none, lnil, drop0, hcl, ← hu3]
          exact ⟨⟨r - 1, u3.2, [.rows 60 4 [[.int .i64 en, .msl (2) 1, .msl (3) 1, .nils]] 0, .rows 3 1 (ints [b0, b1]) 1, .rows 121 2 (encT [q0, q1]) 1] ++ [.rows 3 1 (ints [u3.1]) 0, .rows 51 1 [[.sl [[.int .i64 en, .msl (2) 1, .msl (3) 1, .nils]]]] 0], 3, 4, [u3.1], [⟨en, [b0, b1], [q0, q1], []⟩], [[.sl [[.int .i64 en, .msl (2) 1, .msl (3) 1, .nils]]]]⟩, (by (try dsimp only); omega), by simp [weaker, Go.PV.look, glist]; omega, rfl, DI_first (by assumption) (by simp at hrm; omega) hag hdr (by decide) rfl rfl ⟨1, 2, 3, rfl, rfl, rfl, fun h => absurd rfl h⟩⟩
        · rw [hpa', hpl']
          refine v_draws _ _ _ _ _ _ [2, 4, 10] [] [(0, 1), (0, 0), (0, 0), (1, 1), (0, 0), (0, 2), (0, 2), (0, 2), (0, 2), (0, 2), (0, 0), (3, 3), (3, 3)] (by decide +kernel) (by decide +kernel) (by decide +kernel) (by decide +kernel) ?_
          simp -dsimp (maxSteps := 4000000) +contextual (disch := first | omega | decide +kernel) only [↓vsD, vsU, resW, fnRet, cond_true, cond_false, Nat.reduceShiftRight, Nat.reduceAnd, Go.PV.fits, Go.PV.mutOf, Go.PV.splice, Int.reduceToNat, Int.reduceEq, Int.reduceAdd, Int.reduceSub, Int.reduceMul, Int.reduceLE, Int.reduceLT, Int.reduceNeg, Nat.reduceMul, Nat.reduceLeDiff, ne_eq, if_true, if_false, reduceIte, Nat.reduceEqDiff, ↓Nat.reduceLT, Nat.reduceAdd, Nat.reduceBEq, reduceCtorEq, enc_length, encs_length, tyU, tyC, tyB, tyA, tyI, tyZ, tyF, tyP, enc_getD, encs_getD, wrap_i64, enc_set, splice_one, set_last, bin_aeq2, bin_ane2, nx_next, exNextO_codes, vdx_none, vkp_go, ↓vd_end, place_nil, place_cons, vdo_eff, vdo_effA, ↓vdm_go, List.take_succ_cons, List.take_zero, List.drop_succ_cons, List.drop_zero, vdo_noeff_s, vdo_noeff_n, vdo_nofloat, vdo_noread, vdo_read, vdo_floatS, vdo_floatA, vde_s, vde_n, vde_c, vdx_s, vdr_s, vdr_b, vdf_m, vdf_p, ↓vd_op, ↓guard_none, ↓guard_some, gval_some, List.forall_mem_cons, List.not_mem_nil, false_implies, implies_true, List.length_append, List.length_replicate, List.replicate_zero, List.replicate_succ, List.contains_nil, List.contains_cons, Bool.or_false, Bool.false_or, Bool.or_self, Bool.or_true, Bool.true_or, vdr_o, vdq_eq, vdw_s, outR_v, rowsAt_none, mapAt_none, lnil, drop0, hcl, gapp0, gappk, sapp0, sappk, gappn0, gappnk, sappn0, sappnk, ← hu3, ha1, hl1, sa, sl, gz0, gz1, hagl, hRl]
          exact ⟨⟨r - 1, u3.2, (Z.set oa (.rows 3 1 (ints (ag ++ [u3.1])) xs.length)).set ol (.rows 51 1 (R ++ [[.sl [[.int .i64 en, .msl (Z.length + 2) 1, .msl (Z.length + 3) 1, .nils]]]]) xs.length) ++ [.rows 60 4 [[.int .i64 en, .msl (Z.length + 2) 1, .msl (Z.length + 3) 1, .nils]] 0, .rows 3 1 (ints [b0, b1]) 1, .rows 121 2 (encT [q0, q1]) 1], oa, ol, ag ++ [u3.1], xs ++ [⟨en, [b0, b1], [q0, q1], []⟩], R ++ [[.sl [[.int .i64 en, .msl (Z.length + 2) 1, .msl (Z.length + 3) 1, .nils]]]]⟩, (by (try dsimp only); omega), by simp [weaker, Go.PV.look, hn', glist_k]; omega, by simp [hn', encI], DI_next hI hr (fun h => by rw [h] at hn'; simp at hn') (by assumption) hag hdr [.rows 60 4 [[.int .i64 en, .msl (Z.length + 2) 1, .msl (Z.length + 3) 1, .nils]] 0, .rows 3 1 (ints [b0, b1]) 1, .rows 121 2 (encT [q0, q1]) 1] ⟨Z.length + 1, Z.length + 2, Z.length + 3, rfl, (mask_at _ _ _ _ 1).trans rfl, (mask_at _ _ _ _ 2).trans rfl, fun h => absurd rfl h⟩⟩
    | cons x S =>
      dsimp only
      simp -dsimp (maxSteps := 4000000) +contextual (disch := first | omega | decide +kernel) only [↓vsD, vsU, resW, fnRet, cond_true, cond_false, Nat.reduceShiftRight, Nat.reduceAnd, Go.PV.fits, Go.PV.mutOf, Go.PV.splice, Int.reduceToNat, Int.reduceEq, Int.reduceAdd, Int.reduceSub, Int.reduceMul, Int.reduceLE, Int.reduceLT, Int.reduceNeg, Nat.reduceMul, Nat.reduceLeDiff, ne_eq, if_true, if_false, reduceIte, Nat.reduceEqDiff, ↓Nat.reduceLT, Nat.reduceAdd, Nat.reduceBEq, reduceCtorEq, enc_length, encs_length, tyU, tyC, tyB, tyA, tyI, tyZ, tyF, tyP, enc_getD, encs_getD, wrap_i64, enc_set, splice_one, set_last, bin_aeq2, bin_ane2, nx_next, exNextO_codes, hcl, gapp0, gappk, sapp0, sappk, gappn0, gappnk, sappn0, sappnk, ← hu]
      refine ⟨fun hz => ?_, fun hz => ?_⟩
      · refine v_draws _ _ _ _ _ _ [3, 6] [] [(0, 1), (0, 1), (0, 0), (0, 0), (1, 1), (1, 1), (0, 0)] (by decide +kernel) (by decide +kernel) (by decide +kernel) (by decide +kernel) ?_
        simp -dsimp (maxSteps := 4000000) +contextual (disch := first | omega | decide +kernel) only [↓vsD, vsU, resW, fnRet, cond_true, cond_false, Nat.reduceShiftRight, Nat.reduceAnd, Go.PV.fits, Go.PV.mutOf, Go.PV.splice, Int.reduceToNat, Int.reduceEq, Int.reduceAdd, Int.reduceSub, Int.reduceMul, Int.reduceLE, Int.reduceLT, Int.reduceNeg, Nat.reduceMul, Nat.reduceLeDiff, ne_eq, if_true, if_false, reduceIte, Nat.reduceEqDiff, ↓Nat.reduceLT, Nat.reduceAdd, Nat.reduceBEq, reduceCtorEq, enc_length, encs_length, tyU, tyC, tyB, tyA, tyI, tyZ, tyF, tyP, enc_getD, encs_getD, wrap_i64, enc_set, splice_one, set_last, bin_aeq2, bin_ane2, nx_next, exNextO_codes, vdx_none, vkp_go, ↓vd_end, place_nil, place_cons, vdo_eff, vdo_effA, ↓vdm_go, List.take_succ_cons, List.take_zero, List.drop_succ_cons, List.drop_zero, vdo_noeff_s, vdo_noeff_n, vdo_nofloat, vdo_noread, vdo_read, vdo_floatS, vdo_floatA, vde_s, vde_n, vde_c, vdx_s, vdr_s, vdr_b, vdf_m, vdf_p, ↓vd_op, ↓guard_none, ↓guard_some, gval_some, List.forall_mem_cons, List.not_mem_nil, false_implies, implies_true, List.length_append, List.length_replicate, List.replicate_zero, List.replicate_succ, List.contains_nil, List.contains_cons, Bool.or_false, Bool.false_or, Bool.or_self, Bool.or_true, Bool.true_or, vdr_o, vdq_eq, vdw_s, outR_v, rowsAt_none, mapAt_none, lnil, drop0, hcl, gapp0, gappk, sapp0, sappk, gappn0, gappnk, sappn0, sappnk, ← hu2]
        have hdr : Drawn ⟨en, [1099511627776 - u2.1, b1], [q0, q1], (x :: S)⟩ := mkDrawn (by omega) (by simp at hbr ⊢; omega) her hSd
        have hag : ageOk u4.1 := by unfold ageOk; omega
        rcases hxs with ⟨rfl, rfl, rfl⟩ | ⟨n', hn', hpa', hpl', ha1, hl1, sa, sl, gz0, gz1⟩
        · rw [hpa, hpl]
          dsimp only [List.length_nil, glist, List.nil_append]
          refine v_draws _ _ _ _ _ _ [2, 4, 10] [] [(0, 1), (0, 0), (0, 0), (1, 1), (0, 0), (0, 2), (0, 2), (0, 2), (0, 2), (0, 2), (0, 0), (3, 3), (3, 3)] (by decide +kernel) (by decide +kernel) (by decide +kernel) (by decide +kernel) ?_
          simp -dsimp (maxSteps := 4000000) +contextual (disch := first | omega | decide +kernel) only [↓vsD, vsU, resW, fnRet, cond_true, cond_false, Nat.reduceShiftRight, Nat.reduceAnd, Go.PV.fits, Go.PV.mutOf, Go.PV.splice, Int.reduceToNat, Int.reduceEq, Int.reduceAdd, Int.reduceSub, Int.reduceMul, Int.reduceLE, Int.reduceLT, Int.reduceNeg, Nat.reduceMul, Nat.reduceLeDiff, ne_eq, if_true, if_false, reduceIte, Nat.reduceEqDiff, ↓Nat.reduceLT, Nat.reduceAdd, Nat.reduceBEq, reduceCtorEq, enc_length, encs_length, tyU, tyC, tyB, tyA, tyI, tyZ, tyF, tyP, enc_getD, encs_getD, wrap_i64, enc_set, splice_one, set_last, bin_aeq2, bin_ane2, nx_next, exNextO_codes, vdx_none, vkp_go, ↓vd_end, place_nil, place_cons, vdo_eff, vdo_effA, ↓vdm_go, List.take_succ_cons, List.take_zero, List.drop_succ_cons, List.drop_zero, vdo_noeff_s, vdo_noeff_n, vdo_nofloat, vdo_noread, vdo_read, vdo_floatS, vdo_floatA, vde_s, vde_n, vde_c, vdx_s, vdr_s, vdr_b, vdf_m, vdf_p, ↓vd_op, ↓guard_none, ↓guard_some, gval_some, List.forall_mem_cons, List.not_mem_nil, false_implies, implies_true, List.length_append, List.length_replicate, List.replicate_zero, List.replicate_succ, List.contains_nil, List.contains_cons, Bool.or_false, Bool.false_or, Bool.or_self, Bool.or_true, Bool.true_or, vdr_o, vdq_eq, vdw_s, outR_v, rowsAt_none, mapAt_none, lnil, drop0, hcl, ← hu4]
          exact ⟨⟨r - 1, u4.2, [.rows 60 4 [[.int .i64 en, .msl (2) 1, .msl (3) 1, .msl (4) S.length]] 0, .rows 3 1 (ints [1099511627776 - u2.1, b1]) 1, .rows 121 2 (encT [q0, q1]) 1, .rows 63 3 (encS (x :: S)) S.length] ++ [.rows 3 1 (ints [u4.1]) 0, .rows 51 1 [[.sl [[.int .i64 en, .msl (2) 1, .msl (3) 1, .msl (4) S.length]]]] 0], 4, 5, [u4.1], [⟨en, [1099511627776 - u2.1, b1], [q0, q1], (x :: S)⟩], [[.sl [[.int .i64 en, .msl (2) 1, .msl (3) 1, .msl (4) S.length]]]]⟩, (by (try dsimp only); omega), by simp [weaker, Go.PV.look, glist]; omega, rfl, DI_first (by assumption) (by simp at hrm; omega) hag hdr (by decide) rfl rfl ⟨1, 2, 3, rfl, rfl, rfl, fun h => rfl⟩⟩
        · rw [hpa', hpl']
          refine v_draws _ _ _ _ _ _ [2, 4, 10] [] [(0, 1), (0, 0), (0, 0), (1, 1), (0, 0), (0, 2), (0, 2), (0, 2), (0, 2), (0, 2), (0, 0), (3, 3), (3, 3)] (by decide +kernel) (by decide +kernel) (by decide +kernel) (by decide +kernel) ?_
          simp -dsimp (maxSteps := 4000000) +contextual (disch := first | omega | decide +kernel) only [↓vsD, vsU, resW, fnRet, cond_true, cond_false, Nat.reduceShiftRight, Nat.reduceAnd, Go.PV.fits, Go.PV.mutOf, Go.PV.splice, Int.reduceToNat, Int.reduceEq, Int.reduceAdd, Int.reduceSub, Int.reduceMul, Int.reduceLE, Int.reduceLT, Int.reduceNeg, Nat.reduceMul, Nat.reduceLeDiff, ne_eq, if_true, if_false, reduceIte, Nat.reduceEqDiff, ↓Nat.reduceLT, Nat.reduceAdd, Nat.reduceBEq, reduceCtorEq, enc_length, encs_length, tyU, tyC, tyB, tyA, tyI, tyZ, tyF, tyP, enc_getD, encs_getD, wrap_i64, enc_set, splice_one, set_last, bin_aeq2, bin_ane2, nx_next, exNextO_codes, vdx_none, vkp_go, ↓vd_end, place_nil, place_cons, vdo_eff, vdo_effA, ↓vdm_go, List.take_succ_cons, List.take_zero, List.drop_succ_cons, List.drop_zero, vdo_noeff_s, vdo_noeff_n, vdo_nofloat, vdo_noread, vdo_read, vdo_floatS, vdo_floatA, vde_s, vde_n, vde_c, vdx_s, vdr_s, vdr_b, vdf_m, vdf_p, ↓vd_op, ↓guard_none, ↓guard_some, gval_some, List.forall_mem_cons, List.not_mem_nil, false_implies, implies_true, List.length_append, List.length_replicate, List.replicate_zero, List.replicate_succ, List.contains_nil, List.contains_cons, Bool.or_false, Bool.false_or, Bool.or_self, Bool.or_true, Bool.true_or, vdr_o, vdq_eq, vdw_s, outR_v, rowsAt_none, mapAt_none, lnil, drop0, hcl, gapp0, gappk, sapp0, sappk, gappn0, gappnk, sappn0, sappnk, ← hu4, ha1, hl1, sa, sl, gz0, gz1, hagl, hRl]
          exact ⟨⟨r - 1, u4.2, (Z.set oa (.rows 3 1 (ints (ag ++ [u4.1])) xs.length)).set ol (.rows 51 1 (R ++ [[.sl [[.int .i64 en, .msl (Z.length + 2) 1, .msl (Z.length + 3) 1, .msl (Z.length + 4) S.length]]]]) xs.length) ++ [.rows 60 4 [[.int .i64 en, .msl (Z.length + 2) 1, .msl (Z.length + 3) 1, .msl (Z.length + 4) S.length]] 0, .rows 3 1 (ints [1099511627776 - u2.1, b1]) 1, .rows 121 2 (encT [q0, q1]) 1, .rows 63 3 (encS (x :: S)) S.length], oa, ol, ag ++ [u4.1], xs ++ [⟨en, [1099511627776 - u2.1, b1], [q0, q1], (x :: S)⟩], R ++ [[.sl [[.int .i64 en, .msl (Z.length + 2) 1, .msl (Z.length + 3) 1, .msl (Z.length + 4) S.length]]]]⟩, (by (try dsimp only); omega), by simp [weaker, Go.PV.look, hn', glist_k]; omega, by simp [hn', encI], DI_next hI hr (fun h => by rw [h] at hn'; simp at hn') (by assumption) hag hdr [.rows 60 4 [[.int .i64 en, .msl (Z.length + 2) 1, .msl (Z.length + 3) 1, .msl (Z.length + 4) S.length]] 0, .rows 3 1 (ints [1099511627776 - u2.1, b1]) 1, .rows 121 2 (encT [q0, q1]) 1, .rows 63 3 (encS (x :: S)) S.length] ⟨Z.length + 1, Z.length + 2, Z.length + 3, rfl, (mask_at _ _ _ _ 1).trans rfl, (mask_at _ _ _ _ 2).trans rfl, fun h => (mask_at _ _ _ _ 3).trans rfl⟩⟩
      · have hdr : Drawn ⟨en, [b0, b1], [q0, q1], (x :: S)⟩ := mkDrawn (by omega) (by simp at hbr ⊢; omega) her hSd
        have hag : ageOk u3.1 := by unfold ageOk; omega
        rcases hxs with ⟨rfl, rfl, rfl⟩ | ⟨n', hn', hpa', hpl', ha1, hl1, sa, sl, gz0, gz1⟩
        · rw [hpa, hpl]
          dsimp only [List.length_nil, glist, List.nil_append]
          refine v_draws _ _ _ _ _ _ [2, 4, 10] [] [(0, 1), (0, 0), (0, 0), (1, 1), (0, 0), (0, 2), (0, 2), (0, 2), (0, 2), (0, 2), (0, 0), (3, 3), (3, 3)] (by decide +kernel) (by decide +kernel) (by decide +kernel) (by decide +kernel) ?_
          simp -dsimp (maxSteps := 4000000) +contextual (disch := first | omega | decide +kernel) only [↓vsD, vsU, resW, fnRet, cond_true, cond_false, Nat.reduceShiftRight, Nat.reduceAnd, Go.PV.fits, Go.PV.mutOf, Go.PV.splice, Int.reduceToNat, Int.reduceEq, Int.reduceAdd, Int.reduceSub, Int.reduceMul, Int.reduceLE, Int.reduceLT, Int.reduceNeg, Nat.reduceMul, Nat.reduceLeDiff, ne_eq, if_true, if_false, reduceIte, Nat.reduceEqDiff, ↓Nat.reduceLT, Nat.reduceAdd, Nat.reduceBEq, reduceCtorEq, enc_length, encs_length, tyU, tyC, tyB, tyA, tyI, tyZ, tyF, tyP, enc_getD, encs_getD, wrap_i64, enc_set, splice_one, set_last, bin_aeq2, bin_ane2, nx_next, exNextO_codes, vdx_none, vkp_go, ↓vd_end, place_nil, place_cons, vdo_eff, vdo_effA, ↓vdm_go, List.take_succ_cons, List.take_zero, List.drop_succ_cons, List.drop_zero, vdo_noeff_s, vdo_noeff_n, vdo_nofloat, vdo_noread, vdo_read, vdo_floatS, vdo_floatA, vde_s, vde_n, vde_c, vdx_s, vdr_s, vdr_b, vdf_m, vdf_p, ↓vd_op, ↓guard_none, ↓guard_some, gval_some, List.forall_mem_cons, List.not_mem_nil, false_implies, implies_true, List.length_append, List.length_replicate, List.replicate_zero, List.replicate_succ, List.contains_nil, List.contains_cons, Bool.or_false, Bool.false_or, Bool.or_self, Bool.or_true, Bool.true_or, vdr_o, vdq_eq, vdw_s, outR_v, rowsAt_none, mapAt_none, lnil, drop0, hcl, ← hu3]
          exact ⟨⟨r - 1, u3.2, [.rows 60 4 [[.int .i64 en, .msl (2) 1, .msl (3) 1, .msl (4) S.length]] 0, .rows 3 1 (ints [b0, b1]) 1, .rows 121 2 (encT [q0, q1]) 1, .rows 63 3 (encS (x :: S)) S.length] ++ [.rows 3 1 (ints [u3.1]) 0, .rows 51 1 [[.sl [[.int .i64 en, .msl (2) 1, .msl (3) 1, .msl (4) S.length]]]] 0], 4, 5, [u3.1], [⟨en, [b0, b1], [q0, q1], (x :: S)⟩], [[.sl [[.int .i64 en, .msl (2) 1, .msl (3) 1, .msl (4) S.length]]]]⟩, (by (try dsimp only); omega), by simp [weaker, Go.PV.look, glist]; omega, rfl, DI_first (by assumption) (by simp at hrm; omega) hag hdr (by decide) rfl rfl ⟨1, 2, 3, rfl, rfl, rfl, fun h => rfl⟩⟩
        · rw [hpa', hpl']
          refine v_draws _ _ _ _ _ _ [2, 4, 10] [] [(0, 1), (0, 0), (0, 0), (1, 1), (0, 0), (0, 2), (0, 2), (0, 2), (0, 2), (0, 2), (0, 0), (3, 3), (3, 3)] (by decide +kernel) (by decide +kernel) (by decide +kernel) (by decide +kernel) ?_
          simp -dsimp (maxSteps := 4000000) +contextual (disch := first | omega | decide +kernel) only [↓vsD, vsU, resW, fnRet, cond_true, cond_false, Nat.reduceShiftRight, Nat.reduceAnd, Go.PV.fits, Go.PV.mutOf, Go.PV.splice, Int.reduceToNat, Int.reduceEq, Int.reduceAdd, Int.reduceSub, Int.reduceMul, Int.reduceLE, Int.reduceLT, Int.reduceNeg, Nat.reduceMul, Nat.reduceLeDiff, ne_eq, if_true, if_false, reduceIte, Nat.reduceEqDiff, ↓Nat.reduceLT, Nat.reduceAdd, Nat.reduceBEq, reduceCtorEq, enc_length, encs_length, tyU, tyC, tyB, tyA, tyI, tyZ, tyF, tyP, enc_getD, encs_getD, wrap_i64, enc_set, splice_one, set_last, bin_aeq2, bin_ane2, nx_next, exNextO_codes, vdx_none, vkp_go, ↓vd_end, place_nil, place_cons, vdo_eff, vdo_effA, ↓vdm_go, List.take_succ_cons, List.take_zero, List.drop_succ_cons, List.drop_zero, vdo_noeff_s, vdo_noeff_n, vdo_nofloat, vdo_noread, vdo_read, vdo_floatS, vdo_floatA, vde_s, vde_n, vde_c, vdx_s, vdr_s, vdr_b, vdf_m, vdf_p, ↓vd_op, ↓guard_none, ↓guard_some, gval_some, List.forall_mem_cons, List.not_mem_nil, false_implies, implies_true, List.length_append, List.length_replicate, List.replicate_zero, List.replicate_succ, List.contains_nil, List.contains_cons, Bool.or_false, Bool.false_or, Bool.or_self, Bool.or_true, Bool.true_or, vdr_o, vdq_eq, vdw_s, outR_v, rowsAt_none, mapAt_none, lnil, drop0, hcl, gapp0, gappk, sapp0, sappk, gappn0, gappnk, sappn0, sappnk, ← hu3, ha1, hl1, sa, sl, gz0, gz1, hagl, hRl]
          exact ⟨⟨r - 1, u3.2, (Z.set oa (.rows 3 1 (ints (ag ++ [u3.1])) xs.length)).set ol (.rows 51 1 (R ++ [[.sl [[.int .i64 en, .msl (Z.length + 2) 1, .msl (Z.length + 3) 1, .msl (Z.length + 4) S.length]]]]) xs.length) ++ [.rows 60 4 [[.int .i64 en, .msl (Z.length + 2) 1, .msl (Z.length + 3) 1, .msl (Z.length + 4) S.length]] 0, .rows 3 1 (ints [b0, b1]) 1, .rows 121 2 (encT [q0, q1]) 1, .rows 63 3 (encS (x :: S)) S.length], oa, ol, ag ++ [u3.1], xs ++ [⟨en, [b0, b1], [q0, q1], (x :: S)⟩], R ++ [[.sl [[.int .i64 en, .msl (Z.length + 2) 1, .msl (Z.length + 3) 1, .msl (Z.length + 4) S.length]]]]⟩, (by (try dsimp only); omega), by simp [weaker, Go.PV.look, hn', glist_k]; omega, by simp [hn', encI], DI_next hI hr (fun h => by rw [h] at hn'; simp at hn') (by assumption) hag hdr [.rows 60 4 [[.int .i64 en, .msl (Z.length + 2) 1, .msl (Z.length + 3) 1, .msl (Z.length + 4) S.length]] 0, .rows 3 1 (ints [b0, b1]) 1, .rows 121 2 (encT [q0, q1]) 1, .rows 63 3 (encS (x :: S)) S.length] ⟨Z.length + 1, Z.length + 2, Z.length + 3, rfl, (mask_at _ _ _ _ 1).trans rfl, (mask_at _ _ _ _ 2).trans rfl, fun h => (mask_at _ _ _ _ 3).trans rfl⟩⟩
  · simp -dsimp (maxSteps := 4000000) +contextual (disch := first | omega | decide +kernel) only [↓vsD, vsU, resW, fnRet, cond_true, cond_false, Nat.reduceShiftRight, Nat.reduceAnd, Go.PV.fits, Go.PV.mutOf, Go.PV.splice, Int.reduceToNat, Int.reduceEq, Int.reduceAdd, Int.reduceSub, Int.reduceMul, Int.reduceLE, Int.reduceLT, Int.reduceNeg, Nat.reduceMul, Nat.reduceLeDiff, ne_eq, if_true, if_false, reduceIte, Nat.reduceEqDiff, ↓Nat.reduceLT, Nat.reduceAdd, Nat.reduceBEq, reduceCtorEq, enc_length, encs_length, tyU, tyC, tyB, tyA, tyI, tyZ, tyF, tyP, enc_getD, encs_getD, wrap_i64, enc_set, splice_one, set_last, bin_aeq2, bin_ane2, nx_next, exNextO_codes, hcl]
    have hxs : xs ≠ [] := fun h => by rw [h] at hrm; simp at hrm; omega
    have hln : xs.length = xs.length - 1 + 1 := by have := List.length_pos_iff.2 hxs; omega
    have hz := DI_frz hI hxs
    dsimp only at hz
    rw [hln, glist_k, glist_k]
    refine fin1 (p2 := .tup [.sl (ints ag), .sl (encC xs)]) (frz_tup2 (Frz.msl0 (elem := 3) (sz := 1) (by omega) (hI.za hxs) (enc_bel _ _ _)) hz) (codes_bel _ _ _) ⟨ag, xs, k, rfl, rfl, hk, hI.al, List.length_pos_iff.2 hxs, by omega, hI.age, hI.dr⟩
end Go.Proofs.Ythginmfobikdgaa
