/- Chapter 31: the law StoreOrder, walked. -/
import Derived.Test.YthjoehaglonjaaaSuG
set_option linter.unusedSimpArgs false
set_option linter.unusedVariables false
namespace Go.Proofs.Ythjoehaglonjaaa
open Go.PV

/-- The store of pieces. -/
noncomputable def stOf (L : List Pc) : StS := @dite _ (∃ m, Sf m (L.map oneS)) (Classical.propDecidable _) (fun h => Classical.choose h) (fun _ => default)
theorem stOf_of {L : List Pc} {m : StS} (h : Sf m (L.map oneS)) : stOf L = m := by
  have he : ∃ m, Sf m (L.map oneS) := ⟨m, h⟩
  unfold stOf
  rw [dif_pos he]
  exact (Classical.choose_spec he).uniq h
/-- A store's row: nothing was ever put into it, or it holds pieces. -/
noncomputable def rowS (L : List Pc) : List PV := match L with | [] => [.nils, .nils] | p :: L => [.sl (encP (stOf (p :: L)).ps), .sl (encD (stOf (p :: L)).cs)]
theorem rowS_len (L : List Pc) : (rowS L).length = 2 := by cases L <;> rfl
theorem rowS_take (L : List Pc) : (rowS L).take 2 = rowS L := by cases L <;> rfl
theorem rowS_drop (L : List Pc) : (rowS L).drop 2 = [] := by cases L <;> rfl
theorem rowS_pos {L : List Pc} (h : L ≠ []) : rowS L = [.sl (encP (stOf L).ps), .sl (encD (stOf L).cs)] := by
  cases L with
  | nil => exact absurd rfl h
  | cons p L => rfl
theorem rowS_all (L : List Pc) : (rowS L).all PV.cell = true := by cases L <;> rfl
def GoL (L : List Pc) : Prop := FilR L.length (stOf L) L
theorem FilR.go {N : Nat} {S : StS} {L : List Pc} (h : FilR N S L) : GoL L := by
  have e := stOf_of h.s
  unfold GoL
  rw [e]
  exact ⟨Nat.le_refl _, h.s, h.d⟩
theorem GoL.nil : GoL [] := FilR.emp.go
theorem frzn_row {L : List Pc} (h : GoL L) (zs : List Nat) (σ : Store) : Frzn zs σ (.agg (rowS L)) (stV (stOf L)) := by
  cases L with
  | nil =>
    have : stOf [] = ⟨[], []⟩ := stOf_of Sf.empty
    rw [this]
    exact frzn_emp _ _
  | cons p L => exact .keep _
theorem addR {L : List Pc} (h : GoL L) (hl : L.length ≤ 18) {p : Pc} (hp : DrP p) (σ : Store) :
    PCall Try.prog 17 [.agg (rowS L), .agg p.row] σ (fun q τ => q = .tup [.agg [.sl (encP (stOf (L ++ [p])).ps), .sl (encD (stOf (L ++ [p])).cs)], .int .i64 0] ∧ τ = σ) := by
  refine PCall.frz [] (args2 := [stV (stOf L), .agg p.row]) (PCall.mono (fadd_on (h.le (Nat.le_succ _)) (by omega) (Nat.le_refl _) hp _) ?_) rfl (fun j a b h1 h2 => ?_)
  · rintro q τ ⟨⟨m, hm, rfl⟩, rfl⟩
    rw [stOf_of hm.s]
    exact ⟨rfl, rfl⟩
  · match j, h1, h2 with
    | 0, h1, h2 => simp at h1 h2; subst h1 h2; exact frzn_row h _ _
    | 1, h1, h2 => simp at h1 h2; subst h1 h2; exact .keep _
    | j + 2, h1, h2 => simp at h1
theorem mergeR {L K : List Pc} (h : GoL L) (h2 : GoL K) (hl : L.length + K.length ≤ 20) (σ : Store) :
    PCall Try.prog 22 [.agg (rowS L), .agg (rowS K)] σ (fun q τ => q = .tup [.agg [.sl (encP (stOf (L ++ K)).ps), .sl (encD (stOf (L ++ K)).cs)], .int .i64 0] ∧ τ = σ) := by
  refine PCall.frz [] (args2 := [stV (stOf L), stV (stOf K)]) (PCall.mono (fmerge_on h h2 hl _) ?_) rfl (fun j a b h1 h3 => ?_)
  · rintro q τ ⟨⟨m, hm, rfl⟩, rfl⟩
    rw [stOf_of hm.s]
    exact ⟨rfl, rfl⟩
  · match j, h1, h3 with
    | 0, h1, h3 => simp at h1 h3; subst h1 h3; exact frzn_row h _ _
    | 1, h1, h3 => simp at h1 h3; subst h1 h3; exact frzn_row h2 _ _
    | j + 2, h1, h3 => simp at h1
theorem ins_ex (x : Idn) : ∀ r : List Idn, r.Pairwise idlt → ∃ r2 : List Idn, r2.Pairwise idlt ∧ ∀ y, y ∈ r2 ↔ y = x ∨ y ∈ r
  | [], _ => ⟨[x], List.pairwise_singleton _ _, fun y => by simp⟩
  | a :: r, h => by
    have h2 := List.pairwise_cons.1 h
    rcases idlt_tri x a with h3 | rfl | h3
    · exact ⟨x :: a :: r, List.pairwise_cons.2 ⟨fun y hy => by
        rcases List.mem_cons.1 hy with rfl | hy
        · exact h3
        · exact idlt_trans h3 (h2.1 y hy), h⟩, fun y => by simp⟩
    · exact ⟨x :: r, h, fun y => by simp⟩
    · obtain ⟨r2, h4, h5⟩ := ins_ex x r h2.2
      refine ⟨a :: r2, List.pairwise_cons.2 ⟨fun y hy => ?_, h4⟩, fun y => ?_⟩
      · rcases (h5 y).1 hy with rfl | hy
        · exact h3
        · exact h2.1 y hy
      · rw [List.mem_cons, List.mem_cons, h5]
        exact ⟨fun h => h.elim (fun h => .inr (.inl h)) (fun h => h.elim .inl (fun h => .inr (.inr h))), fun h => h.elim (fun h => .inr (.inl h)) (fun h => h.elim .inl (fun h => .inr (.inr h)))⟩
theorem sort_ex : ∀ l : List Idn, ∃ r : List Idn, r.Pairwise idlt ∧ ∀ y, y ∈ r ↔ y ∈ l
  | [] => ⟨[], .nil, fun y => by simp⟩
  | x :: l => by
    obtain ⟨r, h1, h2⟩ := sort_ex l
    obtain ⟨r2, h3, h4⟩ := ins_ex x r h1
    exact ⟨r2, h3, fun y => by rw [h4, h2, List.mem_cons]⟩
theorem sf_ex {a b : StS} (ha : OkS a) (hb : OkS b) : ∃ m, Sf m [a, b] := by
  obtain ⟨r, h1, h2⟩ := sort_ex (idl a ++ idl b)
  exact ⟨_, out_sf ha hb h1 h2⟩
theorem GoL.app {L : List Pc} (h : GoL L) : ∀ K : List Pc, (∀ p ∈ K, DrP p) → GoL (L ++ K) := by
  intro K
  induction K generalizing L with
  | nil => intro _; rw [List.append_nil]; exact h
  | cons p K ih =>
    intro hK
    obtain ⟨m, hm⟩ := sf_ex h.s.ok (oneS_ok (hK p (by simp)).ok).o
    have := ih (L := L ++ [p]) ((h.le (Nat.le_succ _)).push (Nat.le_refl _) (hK p (by simp)) hm).go (fun q hq => hK q (by simp [hq]))
    rwa [List.append_assoc] at this
theorem goL (L : List Pc) (h : ∀ p ∈ L, DrP p) : GoL L := GoL.nil.app L h
theorem stOf_congr {L K : List Pc} (h : GoL L) (h2 : GoL K) (he : ∀ p, p ∈ L ↔ p ∈ K) : stOf L = stOf K := FilR.congr h h2 he
/-- The store of a list that grows. -/
theorem rowS_snoc (L : List Pc) (p : Pc) : [.sl (encP (stOf (L ++ [p])).ps), .sl (encD (stOf (L ++ [p])).cs)] = rowS (L ++ [p]) := (rowS_pos (by simp)).symm

theorem sameR {r1 r2 : List PV} {s1 s2 : StS} (h1 : ∀ zs σ, Frzn zs σ (.agg r1) (stV s1)) (h2 : ∀ zs σ, Frzn zs σ (.agg r2) (stV s2)) (hf : FitS s1) (he : s1 = s2) (σ : Store) :
    PCall Try.prog 19 [.agg r1, .agg r2] σ (fun q τ => q = .bool true ∧ τ = σ) := by
  refine PCall.frz [] (args2 := [stV s1, stV s2]) (PCall.mono (same31_on s1 s2 hf _) ?_) rfl (fun j a b e1 e2 => ?_)
  · rintro q τ ⟨rfl, rfl⟩
    rw [eqB_t he]
    exact ⟨rfl, rfl⟩
  · match j, e1, e2 with
    | 0, e1, e2 => simp at e1 e2; subst e1 e2; exact h1 _ _
    | 1, e1, e2 => simp at e1 e2; subst e1 e2; exact h2 _ _
    | j + 2, e1, e2 => simp at e1
theorem validRow {L : List Pc} (h : GoL L) (hl : L.length ≤ 200) (σ : Store) : PCall Try.prog 15 [.agg (rowS L)] σ (fun q τ => q = .bool true ∧ τ = σ) := by
  refine PCall.frz [] (args2 := [stV (stOf L)]) (PCall.mono (sval_on _ (FilR.fit h hl) _) ?_) rfl (fun j a b e1 e2 => ?_)
  · rintro q τ ⟨rfl, rfl⟩
    rw [stB_t (FilR.ok h hl)]
    exact ⟨rfl, rfl⟩
  · match j, e1, e2 with
    | 0, e1, e2 => simp at e1 e2; subst e1 e2; exact frzn_row h _ _
    | j + 1, e1, e2 => simp at e1
theorem mem_swap {T : List Pc} {i k : Nat} (hi : i < T.length) (hk : k < T.length) (x : Pc) : x ∈ (T.set i (T.getD k default)).set k (T.getD i default) ↔ x ∈ T := by
  have ei : T.getD i default = T[i] := by rw [List.getD_eq_getElem?_getD, List.getElem?_eq_getElem hi]; rfl
  have ek : T.getD k default = T[k] := by rw [List.getD_eq_getElem?_getD, List.getElem?_eq_getElem hk]; rfl
  constructor
  · intro hx
    rcases List.mem_or_eq_of_mem_set hx with hx | rfl
    · rcases List.mem_or_eq_of_mem_set hx with hx | rfl
      · exact hx
      · exact gtD hk
    · exact gtD hi
  · intro hx
    obtain ⟨j, hj, rfl⟩ := List.mem_iff_getElem.1 hx
    rw [List.mem_iff_getElem?]
    by_cases hjk : j = k
    · subst hjk
      by_cases hij : i = j
      · subst hij
        exact ⟨i, by rw [List.getElem?_set_self (by rw [List.length_set]; exact hi), ei]⟩
      · exact ⟨i, by rw [List.getElem?_set_ne (fun e => hij e.symm), List.getElem?_set_self hi, ek]⟩
    · by_cases hji : j = i
      · subst hji
        exact ⟨k, by rw [List.getElem?_set_self (by rw [List.length_set]; exact hk), ei]⟩
      · exact ⟨j, by rw [List.getElem?_set_ne (fun e => hjk e.symm), List.getElem?_set_ne (fun e => hji e.symm), List.getElem?_eq_getElem hj]⟩
theorem encP_set (T : List Pc) (i : Nat) (p : Pc) : (encP T).set i [.int .i64 p.id.1, .int .i64 p.id.2.1, .int .i64 p.id.2.2, .int .u64 p.dig, .sl (encF p.fs)] = encP (T.set i p) := by simp [encP, List.map_set, Pc.row]
structure OrI (T Lb Lp Lq : List Pc) (i : Nat) : Prop where
  hi : i ≤ T.length
  b : ∀ p ∈ Lb, p ∈ T
  p : ∀ p ∈ Lp, p ∈ T
  q : ∀ p ∈ Lq, p ∈ T
  lb : Lb.length ≤ 2 * i
  lp : Lp.length + Lq.length ≤ i
  cb : ∀ j, j < i → T.getD j default ∈ Lb
  cp : ∀ j, j < i → T.getD j default ∈ Lp ∨ T.getD j default ∈ Lq
theorem OrI.step {T Lb Lp Lq : List Pc} {i : Nat} (h : OrI T Lb Lp Lq i) (hi : i < T.length) {M : List Pc} (hM : ∀ p ∈ M, p ∈ T) (hl : M.length ≤ 1) : OrI T (Lb ++ [T.getD i default] ++ M) Lp (Lq ++ [T.getD i default]) (i + 1) := by
  have hx : T.getD i default ∈ T := gtD hi
  refine ⟨hi, fun p hp => ?_, h.p, fun p hp => ?_, ?_, ?_, fun j hj => ?_, fun j hj => ?_⟩
  · rcases List.mem_append.1 hp with hp | hp
    · rcases List.mem_append.1 hp with hp | hp
      · exact h.b p hp
      · rw [List.mem_singleton] at hp; rw [hp]; exact hx
    · exact hM p hp
  · rcases List.mem_append.1 hp with hp | hp
    · exact h.q p hp
    · rw [List.mem_singleton] at hp; rw [hp]; exact hx
  · have := h.lb
    simp only [List.length_append, List.length_cons, List.length_nil]; omega
  · have := h.lp
    simp only [List.length_append, List.length_cons, List.length_nil]; omega
  · rcases Nat.lt_succ_iff_lt_or_eq.1 hj with hj | rfl
    · exact List.mem_append_left _ (List.mem_append_left _ (h.cb j hj))
    · simp
  · rcases Nat.lt_succ_iff_lt_or_eq.1 hj with hj | rfl
    · exact (h.cp j hj).imp id (fun h => List.mem_append_left _ h)
    · exact .inr (by simp)
theorem OrI.mv {T Lb Lp Lq : List Pc} {i : Nat} (h : OrI T Lb Lp Lq i) : OrI T Lb (Lq ++ Lp) [] i :=
  ⟨h.hi, h.b, fun p hp => (List.mem_append.1 hp).elim (h.q p) (h.p p), fun p hp => by simp at hp, h.lb, by have := h.lp; simp only [List.length_append, List.length_nil]; omega, h.cb, fun j hj => .inl (List.mem_append.2 ((h.cp j hj).symm))⟩
noncomputable def boxS (L : List Pc) : Go.PV.Obj := .rows 26 2 [rowS L] 0
set_option maxRecDepth 8000 in
set_option maxHeartbeats 16000000 in
theorem order31_ok (l0 l1 : List Int) (hl0 : okInts .u8 l0) (hl1 : okInts .u8 l1) : PCall Try.prog 5 [.sl (PV.encI .u8 l0), .sl (PV.encI .u8 l1)] [] (fun p _ => p = .bool true) := by
  have n1 : ∀ args σ, nx.f 22 args σ = none := fun _ _ => rfl
  have n2 : ∀ args σ, nx.f 19 args σ = none := fun _ _ => rfl
  have n3 : ∀ args σ, nx.f 10 args σ = none := fun _ _ => rfl
  have n4 : ∀ args σ, nx.f 12 args σ = none := fun _ _ => rfl
  have n5 : ∀ args σ, nx.f 11 args σ = none := fun _ _ => rfl
  have n6 : ∀ args σ, nx.f 17 args σ = none := fun _ _ => rfl
  have n7 : ∀ args σ, nx.f 15 args σ = none := fun _ _ => rfl
  refine PCall.vfrz [] 664634280304479439770704689666981887 149 [.tmp 4] nx_ok mix Try.func5 rfl (by decide) rfl rfl (by simp) ?_
  simp -dsimp only [initFr, List.zipIdx_cons, List.zipIdx_nil, List.map_cons, List.map_nil, Nat.zero_add, Nat.reduceAdd]
  simp -dsimp (maxSteps := 4000000) +contextual (disch := first | omega | decide +kernel) only [↓vsD, vsU, vsE, Bool.or_false, Bool.true_or, resW, fnRet, cond_true, cond_false, Nat.reduceShiftRight, Nat.reduceAnd, Go.PV.fits, Go.PV.mutOf, Go.PV.splice, Int.reduceToNat, Int.reduceEq, Int.reduceAdd, Int.reduceSub, Int.reduceMul, Int.reduceLE, Int.reduceLT, Int.reduceNeg, Nat.reduceMul, Nat.reduceLeDiff, ne_eq, if_true, if_false, reduceIte, Nat.reduceEqDiff, ↓Nat.reduceLT, Nat.reduceAdd, Nat.reduceBEq, reduceCtorEq, nx_next, exNextO_codes, n3]
  refine PCall.mono (awake_on _) ?_
  rintro p σ' ⟨rfl, rfl⟩
  simp -dsimp (maxSteps := 4000000) +contextual (disch := first | omega | decide +kernel) only [↓vsD, vsU, vsE, Bool.or_false, Bool.true_or, resW, fnRet, cond_true, cond_false, Nat.reduceShiftRight, Nat.reduceAnd, Go.PV.fits, Go.PV.mutOf, Go.PV.splice, Int.reduceToNat, Int.reduceEq, Int.reduceAdd, Int.reduceSub, Int.reduceMul, Int.reduceLE, Int.reduceLT, Int.reduceNeg, Nat.reduceMul, Nat.reduceLeDiff, ne_eq, if_true, if_false, reduceIte, Nat.reduceEqDiff, ↓Nat.reduceLT, Nat.reduceAdd, Nat.reduceBEq, reduceCtorEq, nx_next, exNextO_codes, n5]
  refine PCall.mono (newS_on l0 600 _) ?_
  rintro p σ' ⟨rfl, rfl⟩
  obtain ⟨cs, hcs⟩ : ∃ cs, cs = l0.take 600 := ⟨_, rfl⟩
  have hcl : okInts .u8 cs := fun n hn => hl0 n (by rw [hcs] at hn; exact List.mem_of_mem_take hn)
  have hcn : cs.length ≤ 600 := by rw [hcs]; simp; omega
  rw [← hcs]
  simp -dsimp (maxSteps := 4000000) +contextual (disch := first | omega | decide +kernel) only [↓vsD, vsU, vsE, Bool.or_false, Bool.true_or, resW, fnRet, cond_true, cond_false, Nat.reduceShiftRight, Nat.reduceAnd, Go.PV.fits, Go.PV.mutOf, Go.PV.splice, Int.reduceToNat, Int.reduceEq, Int.reduceAdd, Int.reduceSub, Int.reduceMul, Int.reduceLE, Int.reduceLT, Int.reduceNeg, Nat.reduceMul, Nat.reduceLeDiff, ne_eq, if_true, if_false, reduceIte, Nat.reduceEqDiff, ↓Nat.reduceLT, Nat.reduceAdd, Nat.reduceBEq, reduceCtorEq, nx_next, exNextO_codes, n4]
  refine filled_on cs 0 7 (by omega) hcl (by omega) (Nat.zero_le _) 0 rfl ?_
  intro X L kx hX hkx
  have hLl := hX.l
  have hLd := hX.d
  simp -dsimp only [List.set_cons_zero, stV, List.nil_append, List.cons_append]
  simp -dsimp (maxSteps := 4000000) +contextual (disch := first | omega | decide +kernel) only [↓vsD, vsU, vsE, Bool.or_false, Bool.true_or, resW, fnRet, cond_true, cond_false, Nat.reduceShiftRight, Nat.reduceAnd, Go.PV.fits, Go.PV.mutOf, Go.PV.splice, Int.reduceToNat, Int.reduceEq, Int.reduceAdd, Int.reduceSub, Int.reduceMul, Int.reduceLE, Int.reduceLT, Int.reduceNeg, Nat.reduceMul, Nat.reduceLeDiff, ne_eq, if_true, if_false, reduceIte, Nat.reduceEqDiff, ↓Nat.reduceLT, Nat.reduceAdd, Nat.reduceBEq, reduceCtorEq, nx_next, exNextO_codes, rowAt_ptr, rowAtO_some, loadP_B, loadPB_t, loadPB_f, n5]
  refine PCall.mono (newS_on l1 60 _) ?_
  rintro p σ' ⟨rfl, rfl⟩
  obtain ⟨os, hos⟩ : ∃ os, os = l1.take 60 := ⟨_, rfl⟩
  have hol : okInts .u8 os := fun n hn => hl1 n (by rw [hos] at hn; exact List.mem_of_mem_take hn)
  have hon : os.length ≤ 60 := by rw [hos]; simp; omega
  rw [← hos]
  simp -dsimp only [List.nil_append, List.cons_append, List.length_cons, List.length_nil]
  simp -dsimp (maxSteps := 4000000) +contextual (disch := first | omega | decide +kernel) only [↓vsD, vsU, vsE, Bool.or_false, Bool.true_or, resW, fnRet, cond_true, cond_false, Nat.reduceShiftRight, Nat.reduceAnd, Go.PV.fits, Go.PV.mutOf, Go.PV.splice, Int.reduceToNat, Int.reduceEq, Int.reduceAdd, Int.reduceSub, Int.reduceMul, Int.reduceLE, Int.reduceLT, Int.reduceNeg, Nat.reduceMul, Nat.reduceLeDiff, ne_eq, if_true, if_false, reduceIte, Nat.reduceEqDiff, ↓Nat.reduceLT, Nat.reduceAdd, Nat.reduceBEq, reduceCtorEq, nx_next, exNextO_codes, rowAt_ptr, rowAtO_some, loadP_B, loadPB_t, loadPB_f]
  obtain ⟨XB, hXB⟩ : ∃ XB, XB = Go.PV.Obj.rows 26 2 [[.sl (encP X.ps), .sl (encD X.cs)]] 0 := ⟨_, rfl⟩
  rw [← hXB]
  have goT : ∀ i, GoL (L.take i) := fun i => goL _ (fun p hp => hLd p (List.mem_of_mem_take hp))
  have hbN : boxS [] = .rows 26 2 [[.nils, .nils]] 0 := rfl
  refine v_loopS (fun i : Nat => [(5, .ptr 0 0 0 0), (7, .sl (encP L)), (8, .ptr 2 0 0 0), (9, .ptr 3 0 0 0), (10, .ptr 4 0 0 0), (11, .ptr 5 0 0 0), (12, .int .i64 i)])
    (fun i => [codes cs kx, XB, codes os 0, boxS (L.take i), boxS [], boxS []]) (fun i => i ≤ L.length) (fun i => L.length - i) 0 (by simp [weaker, Go.PV.look]) rfl (Nat.zero_le _) ?_
  intro i hi
  by_cases hil : i < L.length
  · have hrow := encP_getD L i hil
    have hpd := hLd _ (gtD (d := default) hil)
    have e1 := take_succD L i hil
    obtain ⟨p, hpe⟩ : ∃ p, p = L.getD i default := ⟨_, rfl⟩
    rw [← hpe] at hrow hpd e1
    have hadd := addR (goT i) (by rw [List.length_take]; omega) hpd
    rw [Pc.row] at hadd
    simp -dsimp only [boxS]
    simp -dsimp (maxSteps := 4000000) +contextual (disch := first | omega | decide +kernel) only [↓vsD, vsU, vsE, Bool.or_false, Bool.true_or, resW, fnRet, cond_true, cond_false, Nat.reduceShiftRight, Nat.reduceAnd, Go.PV.fits, Go.PV.mutOf, Go.PV.splice, Int.reduceToNat, Int.reduceEq, Int.reduceAdd, Int.reduceSub, Int.reduceMul, Int.reduceLE, Int.reduceLT, Int.reduceNeg, Nat.reduceMul, Nat.reduceLeDiff, ne_eq, if_true, if_false, reduceIte, Nat.reduceEqDiff, ↓Nat.reduceLT, Nat.reduceAdd, Nat.reduceBEq, reduceCtorEq, nx_next, exNextO_codes, rowAt_ptr, rowAtO_some, loadP_B, loadPB_t, loadPB_f, encP_length, hrow, rowS_len, rowS_take, n6]
    refine v_draws _ _ _ _ _ _ [5, 9] [] [(0, 0), (0, 0), (0, 0), (0, 0), (0, 0), (0, 0), (1, 1), (1, 1), (1, 2), (0, 0), (2, 2)] (by decide +kernel) (by decide +kernel) (by decide +kernel) (by decide +kernel) ?_
    simp -dsimp (maxSteps := 4000000) +contextual (disch := first | omega | decide +kernel) only [↓vsD, vsU, vsE, Bool.or_false, Bool.true_or, resW, fnRet, cond_true, cond_false, Nat.reduceShiftRight, Nat.reduceAnd, Go.PV.fits, Go.PV.mutOf, Go.PV.splice, Int.reduceToNat, Int.reduceEq, Int.reduceAdd, Int.reduceSub, Int.reduceMul, Int.reduceLE, Int.reduceLT, Int.reduceNeg, Nat.reduceMul, Nat.reduceLeDiff, ne_eq, if_true, if_false, reduceIte, Nat.reduceEqDiff, ↓Nat.reduceLT, Nat.reduceAdd, Nat.reduceBEq, reduceCtorEq, nx_next, exNextO_codes, vdx_none, vkp_go, ↓vd_end, place_nil, place_cons, vdo_eff, vdo_effA, ↓vdm_go, List.take_succ_cons, List.take_zero, List.drop_succ_cons, List.drop_zero, vdo_noeff_s, vdo_noeff_n, vdo_nofloat, vdo_noread, vdo_read, vdo_floatS, vdo_floatA, vde_s, vde_n, vde_c, vdx_s, vdr_s, vdr_b, vdf_m, vdf_p, ↓vd_op, ↓guard_none, ↓guard_some, gval_some, List.forall_mem_cons, List.not_mem_nil, false_implies, implies_true, List.length_append, List.length_replicate, List.replicate_zero, List.replicate_succ, List.contains_nil, List.contains_cons, Bool.or_false, Bool.false_or, Bool.or_self, Bool.or_true, Bool.true_or, vdr_o, vdq_eq, vdw_s, outR_v, rowsAt_none, mapAt_none, lnil, drop0, rowAt_ptr, rowAtO_some, loadP_B, loadPB_t, loadPB_f, encP_length, hrow, rowS_len, rowS_take, n6]
    refine ⟨_, _, hadd _, by simp [outR, rowsAt, rowS_len, rowS_take], ?_⟩
    simp -dsimp (maxSteps := 4000000) +contextual (disch := first | omega | decide +kernel) only [↓vsD, vsU, vsE, Bool.or_false, Bool.true_or, resW, fnRet, cond_true, cond_false, Nat.reduceShiftRight, Nat.reduceAnd, Go.PV.fits, Go.PV.mutOf, Go.PV.splice, Int.reduceToNat, Int.reduceEq, Int.reduceAdd, Int.reduceSub, Int.reduceMul, Int.reduceLE, Int.reduceLT, Int.reduceNeg, Nat.reduceMul, Nat.reduceLeDiff, ne_eq, if_true, if_false, reduceIte, Nat.reduceEqDiff, ↓Nat.reduceLT, Nat.reduceAdd, Nat.reduceBEq, reduceCtorEq, nx_next, exNextO_codes, vdx_none, vkp_go, ↓vd_end, place_nil, place_cons, vdo_eff, vdo_effA, ↓vdm_go, List.take_succ_cons, List.take_zero, List.drop_succ_cons, List.drop_zero, vdo_noeff_s, vdo_noeff_n, vdo_nofloat, vdo_noread, vdo_read, vdo_floatS, vdo_floatA, vde_s, vde_n, vde_c, vdx_s, vdr_s, vdr_b, vdf_m, vdf_p, ↓vd_op, ↓guard_none, ↓guard_some, gval_some, List.forall_mem_cons, List.not_mem_nil, false_implies, implies_true, List.length_append, List.length_replicate, List.replicate_zero, List.replicate_succ, List.contains_nil, List.contains_cons, Bool.or_false, Bool.false_or, Bool.or_self, Bool.or_true, Bool.true_or, vdr_o, vdq_eq, vdw_s, outR_v, rowsAt_none, mapAt_none, lnil, drop0, rowAt_ptr, rowAtO_some, loadP_B, loadPB_t, loadPB_f, rowS_len, rowS_take]
    refine ⟨i + 1, (by (try dsimp only); omega), by simp [weaker, Go.PV.look], ?_, hil⟩
    dsimp only
    rw [e1, boxS, boxS, ← rowS_snoc, List.drop_of_length_le (by rw [rowS_len]; exact Nat.le_refl _)]
  · have hie : i = L.length := by omega
    rw [hie, List.take_length]
    have goL0 : GoL L := by have := goT L.length; rwa [List.take_length] at this
    clear hie hil hi i
    obtain ⟨A, hA⟩ : ∃ A, A = boxS L := ⟨_, rfl⟩
    rw [← hA]
    by_cases hL0 : L = []
    · have e0 : encP L = [] := by rw [hL0]; rfl
      have hl0 : L.length = 0 := by rw [hL0]; rfl
      simp -dsimp (maxSteps := 4000000) +contextual (disch := first | omega | decide +kernel) only [↓vsD, vsU, vsE, Bool.or_false, Bool.true_or, resW, fnRet, cond_true, cond_false, Nat.reduceShiftRight, Nat.reduceAnd, Go.PV.fits, Go.PV.mutOf, Go.PV.splice, Int.reduceToNat, Int.reduceEq, Int.reduceAdd, Int.reduceSub, Int.reduceMul, Int.reduceLE, Int.reduceLT, Int.reduceNeg, Nat.reduceMul, Nat.reduceLeDiff, ne_eq, if_true, if_false, reduceIte, Nat.reduceEqDiff, ↓Nat.reduceLT, Nat.reduceAdd, Nat.reduceBEq, reduceCtorEq, nx_next, exNextO_codes, rowAt_ptr, rowAtO_some, loadP_B, loadPB_t, loadPB_f, e0, hl0]
      refine v_loopS (fun _ : Unit => [(5, .ptr 0 0 0 0), (8, .ptr 2 0 0 0), (9, .ptr 3 0 0 0), (10, .ptr 4 0 0 0), (11, .ptr 5 0 0 0), (14, .nils), (15, .int .i64 0)]) (fun _ => [codes cs kx, XB, codes os 0, A, boxS [], boxS []]) (fun _ => True) (fun _ => 0) () (by simp [weaker, Go.PV.look]) rfl trivial ?_
      intro _ _
      simp -dsimp (maxSteps := 4000000) +contextual (disch := first | omega | decide +kernel) only [↓vsD, vsU, vsE, Bool.or_false, Bool.true_or, resW, fnRet, cond_true, cond_false, Nat.reduceShiftRight, Nat.reduceAnd, Go.PV.fits, Go.PV.mutOf, Go.PV.splice, Int.reduceToNat, Int.reduceEq, Int.reduceAdd, Int.reduceSub, Int.reduceMul, Int.reduceLE, Int.reduceLT, Int.reduceNeg, Nat.reduceMul, Nat.reduceLeDiff, ne_eq, if_true, if_false, reduceIte, Nat.reduceEqDiff, ↓Nat.reduceLT, Nat.reduceAdd, Nat.reduceBEq, reduceCtorEq, nx_next, exNextO_codes, rowAt_ptr, rowAtO_some, loadP_B, loadPB_t, loadPB_f]
      refine v_loopS (fun _ : Unit => [(9, .ptr 3 0 0 0), (10, .ptr 4 0 0 0), (11, .ptr 5 0 0 0), (14, .nils), (17, .ptr 6 0 0 0), (18, .int .i64 0)]) (fun _ => [codes cs kx, XB, codes os 0, A, boxS [], boxS [], boxS []]) (fun _ => True) (fun _ => 0) () (by simp [weaker, Go.PV.look]) rfl trivial ?_
      intro _ _
      rw [hA, hL0]
      have hm := mergeR GoL.nil GoL.nil (by simp)
      have hv := validRow GoL.nil (by simp)
      have h1 := sameR (frzn_row GoL.nil) (frzn_row GoL.nil) (FilR.fit GoL.nil (by simp)) rfl
      have h2 := sameR (frzn_row GoL.nil) (fun zs σ => Frzn.keep (zs := zs) (σ := σ) (stV (stOf ([] ++ [])))) (FilR.fit GoL.nil (by simp)) rfl
      unfold stV at h2
      simp -dsimp only [boxS]
      simp -dsimp (maxSteps := 4000000) +contextual (disch := first | omega | decide +kernel) only [↓vsD, vsU, vsE, Bool.or_false, Bool.true_or, resW, fnRet, cond_true, cond_false, Nat.reduceShiftRight, Nat.reduceAnd, Go.PV.fits, Go.PV.mutOf, Go.PV.splice, Int.reduceToNat, Int.reduceEq, Int.reduceAdd, Int.reduceSub, Int.reduceMul, Int.reduceLE, Int.reduceLT, Int.reduceNeg, Nat.reduceMul, Nat.reduceLeDiff, ne_eq, if_true, if_false, reduceIte, Nat.reduceEqDiff, ↓Nat.reduceLT, Nat.reduceAdd, Nat.reduceBEq, reduceCtorEq, nx_next, exNextO_codes, rowAt_ptr, rowAtO_some, loadP_B, loadPB_t, loadPB_f, n1, rowS_len, rowS_take]
      refine PCall.mono (hm _) ?_
      rintro p σ' ⟨rfl, rfl⟩
      simp -dsimp (maxSteps := 4000000) +contextual (disch := first | omega | decide +kernel) only [↓vsD, vsU, vsE, Bool.or_false, Bool.true_or, resW, fnRet, cond_true, cond_false, Nat.reduceShiftRight, Nat.reduceAnd, Go.PV.fits, Go.PV.mutOf, Go.PV.splice, Int.reduceToNat, Int.reduceEq, Int.reduceAdd, Int.reduceSub, Int.reduceMul, Int.reduceLE, Int.reduceLT, Int.reduceNeg, Nat.reduceMul, Nat.reduceLeDiff, ne_eq, if_true, if_false, reduceIte, Nat.reduceEqDiff, ↓Nat.reduceLT, Nat.reduceAdd, Nat.reduceBEq, reduceCtorEq, nx_next, exNextO_codes, rowAt_ptr, rowAtO_some, loadP_B, loadPB_t, loadPB_f, n7, rowS_len, rowS_take]
      refine PCall.mono (hv _) ?_
      rintro p σ' ⟨rfl, rfl⟩
      simp -dsimp (maxSteps := 4000000) +contextual (disch := first | omega | decide +kernel) only [↓vsD, vsU, vsE, Bool.or_false, Bool.true_or, resW, fnRet, cond_true, cond_false, Nat.reduceShiftRight, Nat.reduceAnd, Go.PV.fits, Go.PV.mutOf, Go.PV.splice, Int.reduceToNat, Int.reduceEq, Int.reduceAdd, Int.reduceSub, Int.reduceMul, Int.reduceLE, Int.reduceLT, Int.reduceNeg, Nat.reduceMul, Nat.reduceLeDiff, ne_eq, if_true, if_false, reduceIte, Nat.reduceEqDiff, ↓Nat.reduceLT, Nat.reduceAdd, Nat.reduceBEq, reduceCtorEq, nx_next, exNextO_codes, rowAt_ptr, rowAtO_some, loadP_B, loadPB_t, loadPB_f, n2, rowS_len, rowS_take]
      refine PCall.mono (h1 _) ?_
      rintro p σ' ⟨rfl, rfl⟩
      simp -dsimp (maxSteps := 4000000) +contextual (disch := first | omega | decide +kernel) only [↓vsD, vsU, vsE, Bool.or_false, Bool.true_or, resW, fnRet, cond_true, cond_false, Nat.reduceShiftRight, Nat.reduceAnd, Go.PV.fits, Go.PV.mutOf, Go.PV.splice, Int.reduceToNat, Int.reduceEq, Int.reduceAdd, Int.reduceSub, Int.reduceMul, Int.reduceLE, Int.reduceLT, Int.reduceNeg, Nat.reduceMul, Nat.reduceLeDiff, ne_eq, if_true, if_false, reduceIte, Nat.reduceEqDiff, ↓Nat.reduceLT, Nat.reduceAdd, Nat.reduceBEq, reduceCtorEq, nx_next, exNextO_codes, rowAt_ptr, rowAtO_some, loadP_B, loadPB_t, loadPB_f, n2, rowS_len, rowS_take]
      refine PCall.mono (h2 _) ?_
      rintro p σ' ⟨rfl, rfl⟩
      simp -dsimp (maxSteps := 4000000) +contextual (disch := first | omega | decide +kernel) only [↓vsD, vsU, vsE, Bool.or_false, Bool.true_or, resW, fnRet, cond_true, cond_false, Nat.reduceShiftRight, Nat.reduceAnd, Go.PV.fits, Go.PV.mutOf, Go.PV.splice, Int.reduceToNat, Int.reduceEq, Int.reduceAdd, Int.reduceSub, Int.reduceMul, Int.reduceLE, Int.reduceLT, Int.reduceNeg, Nat.reduceMul, Nat.reduceLeDiff, ne_eq, if_true, if_false, reduceIte, Nat.reduceEqDiff, ↓Nat.reduceLT, Nat.reduceAdd, Nat.reduceBEq, reduceCtorEq, nx_next, exNextO_codes, rowAt_ptr, rowAtO_some, loadP_B, loadPB_t, loadPB_f]
      exact fin0 (.keep _ (bel_bool _ _)) rfl
    · obtain ⟨p0, L1, hL1⟩ := List.exists_cons_of_ne_nil hL0
      have e0 : encP L = p0.row :: encP L1 := by rw [hL1]; rfl
      have hll1 : (encP L1).length + 1 = L.length := by rw [hL1, encP_length]; rfl
      have hll2 : L.length = L1.length + 1 := by rw [hL1]; rfl
      have hnP : newsOk Try.prog 32 (p0.row :: encP L1) = true := by
        rw [← e0]
        show newsOk _ _ (List.map _ _) = true
        simp [newsOk, PV.cell, tyC, Pc.row]
      simp -dsimp (maxSteps := 4000000) +contextual (disch := first | omega | decide +kernel) only [↓vsD, vsU, vsE, Bool.or_false, Bool.true_or, resW, fnRet, cond_true, cond_false, Nat.reduceShiftRight, Nat.reduceAnd, Go.PV.fits, Go.PV.mutOf, Go.PV.splice, Int.reduceToNat, Int.reduceEq, Int.reduceAdd, Int.reduceSub, Int.reduceMul, Int.reduceLE, Int.reduceLT, Int.reduceNeg, Nat.reduceMul, Nat.reduceLeDiff, ne_eq, if_true, if_false, reduceIte, Nat.reduceEqDiff, ↓Nat.reduceLT, Nat.reduceAdd, Nat.reduceBEq, reduceCtorEq, nx_next, exNextO_codes, rowAt_ptr, rowAtO_some, loadP_B, loadPB_t, loadPB_f, encP_length, e0, hnP, bytesK, lenK]
      rw [← e0]
      refine v_loopS (fun s : Nat × List Pc × Nat => [(5, .ptr 0 0 0 0), (8, .ptr 2 0 0 0), (9, .ptr 3 0 0 0), (10, .ptr 4 0 0 0), (11, .ptr 5 0 0 0), (14, .msl 6 0), (15, .int .i64 s.1)]) (fun s => [codes cs kx, XB, codes os s.2.2, A, boxS [], boxS [], .rows 32 5 (encP s.2.1) 0])
        (fun s => s.1 ≤ s.2.1.length ∧ s.2.1.length = L.length ∧ (∀ p, p ∈ s.2.1 ↔ p ∈ L) ∧ s.2.2 ≤ os.length) (fun s => L.length - s.1) (0, L, 0) (by simp [weaker, Go.PV.look]) rfl ⟨Nat.zero_le _, rfl, fun p => Iff.rfl, Nat.zero_le _⟩ ?_
      rintro ⟨i, T, k2⟩ ⟨hi, hTl, hTm, hk2⟩
      dsimp only at hi hTl hTm hk2 ⊢
      by_cases hil : i < T.length
      · have a0 := nxt_lt hol k2 ((T.length : Int) - i) (by omega)
        have b0 := nxt_le hk2 ((T.length : Int) - i)
        obtain ⟨r, hr⟩ : ∃ r, r = nxt os k2 ((T.length : Int) - i) := ⟨_, rfl⟩
        rw [← hr] at a0 b0
        obtain ⟨c, hc⟩ : ∃ c : Nat, r.1 = (c : Int) := ⟨r.1.toNat, by omega⟩
        have hcT : i + c < T.length := by omega
        have hr1 := encP_getD T i hil
        have hr2 := encP_getD T (i + c) hcT
        have hs1 := encP_set T i (T.getD (i + c) default)
        have hs2 := encP_set (T.set i (T.getD (i + c) default)) (i + c) (T.getD i default)
        have e9 : (i : Int) + (c : Int) = ((i + c : Nat) : Int) := by omega
        have hls : (encP (T.set i (T.getD (i + c) default))).length = T.length := by rw [encP_length, List.length_set]
        have hg5 : ((encP (T.set i (T.getD (i + c) default))).getD (i + c) []).length = 5 := by rw [encP_getD _ _ (by rw [List.length_set]; exact hcT)]; rfl
        have hd5 : List.drop 5 ((encP (T.set i (T.getD (i + c) default))).getD (i + c) []) = [] := List.drop_of_length_le (by rw [hg5]; exact Nat.le_refl _)
        have hms := mem_swap hil hcT
        generalize T.getD i default = x at *
        generalize T.getD (i + c) default = y at *
        simp -dsimp (maxSteps := 4000000) +contextual (disch := first | omega | decide +kernel) only [↓vsD, vsU, vsE, Bool.or_false, Bool.true_or, resW, fnRet, cond_true, cond_false, Nat.reduceShiftRight, Nat.reduceAnd, Go.PV.fits, Go.PV.mutOf, Go.PV.splice, Int.reduceToNat, Int.reduceEq, Int.reduceAdd, Int.reduceSub, Int.reduceMul, Int.reduceLE, Int.reduceLT, Int.reduceNeg, Nat.reduceMul, Nat.reduceLeDiff, ne_eq, if_true, if_false, reduceIte, Nat.reduceEqDiff, ↓Nat.reduceLT, Nat.reduceAdd, Nat.reduceBEq, reduceCtorEq, nx_next, exNextO_codes, rowAt_ptr, rowAtO_some, loadP_B, loadPB_t, loadPB_f, encP_length, hol, ← hr, hc, e9, hr1, hr2]
        refine v_draws _ _ _ _ _ _ [13, 15] [] [(0, 0), (0, 0), (0, 1), (0, 1), (0, 0), (0, 0), (0, 0), (0, 0), (0, 0), (0, 0), (0, 0), (0, 0), (0, 0), (0, 0), (1, 1), (0, 0)] (by decide +kernel) (by decide +kernel) (by decide +kernel) (by decide +kernel) ?_
        simp -dsimp (maxSteps := 4000000) +contextual (disch := first | omega | decide +kernel) only [↓vsD, vsU, vsE, Bool.or_false, Bool.true_or, resW, fnRet, cond_true, cond_false, Nat.reduceShiftRight, Nat.reduceAnd, Go.PV.fits, Go.PV.mutOf, Go.PV.splice, Int.reduceToNat, Int.reduceEq, Int.reduceAdd, Int.reduceSub, Int.reduceMul, Int.reduceLE, Int.reduceLT, Int.reduceNeg, Nat.reduceMul, Nat.reduceLeDiff, ne_eq, if_true, if_false, reduceIte, Nat.reduceEqDiff, ↓Nat.reduceLT, Nat.reduceAdd, Nat.reduceBEq, reduceCtorEq, nx_next, exNextO_codes, vdx_none, vkp_go, ↓vd_end, place_nil, place_cons, vdo_eff, vdo_effA, ↓vdm_go, List.take_succ_cons, List.take_zero, List.drop_succ_cons, List.drop_zero, vdo_noeff_s, vdo_noeff_n, vdo_nofloat, vdo_noread, vdo_read, vdo_floatS, vdo_floatA, vde_s, vde_n, vde_c, vdx_s, vdr_s, vdr_b, vdf_m, vdf_p, ↓vd_op, ↓guard_none, ↓guard_some, gval_some, List.forall_mem_cons, List.not_mem_nil, false_implies, implies_true, List.length_append, List.length_replicate, List.replicate_zero, List.replicate_succ, List.contains_nil, List.contains_cons, Bool.or_false, Bool.false_or, Bool.or_self, Bool.or_true, Bool.true_or, vdr_o, vdq_eq, vdw_s, outR_v, rowsAt_none, mapAt_none, lnil, drop0, rowAt_ptr, rowAtO_some, loadP_B, loadPB_t, loadPB_f, encP_length, hr1, hr2, hs1, hs2, hls, e9, hg5, hd5]
        exact ⟨(i + 1, (T.set i y).set (i + c) x, r.2), (by (try dsimp only); omega), by simp [weaker, Go.PV.look], rfl, by dsimp only; simp only [List.length_set]; omega, by dsimp only; simp only [List.length_set]; exact hTl, fun p => by dsimp only; rw [hms]; exact hTm p, b0⟩
      · have hie : i = T.length := by omega
        simp -dsimp (maxSteps := 4000000) +contextual (disch := first | omega | decide +kernel) only [↓vsD, vsU, vsE, Bool.or_false, Bool.true_or, resW, fnRet, cond_true, cond_false, Nat.reduceShiftRight, Nat.reduceAnd, Go.PV.fits, Go.PV.mutOf, Go.PV.splice, Int.reduceToNat, Int.reduceEq, Int.reduceAdd, Int.reduceSub, Int.reduceMul, Int.reduceLE, Int.reduceLT, Int.reduceNeg, Nat.reduceMul, Nat.reduceLeDiff, ne_eq, if_true, if_false, reduceIte, Nat.reduceEqDiff, ↓Nat.reduceLT, Nat.reduceAdd, Nat.reduceBEq, reduceCtorEq, nx_next, exNextO_codes, rowAt_ptr, rowAtO_some, loadP_B, loadPB_t, loadPB_f, encP_length]
        have hTd : ∀ p ∈ T, DrP p := fun p hp => hLd p ((hTm p).1 hp)
        have gT : ∀ M : List Pc, (∀ p ∈ M, p ∈ T) → GoL M := fun M h => goL M (fun p hp => hTd p (h p hp))
        refine v_loopS (fun s : Nat × List Pc × List Pc × List Pc × Nat => [(8, .ptr 2 0 0 0), (9, .ptr 3 0 0 0), (10, .ptr 4 0 0 0), (11, .ptr 5 0 0 0), (14, .msl 6 0), (17, .ptr 7 0 0 0), (18, .int .i64 s.1)])
          (fun s => [codes cs kx, XB, codes os s.2.2.2.2, A, boxS s.2.1, boxS s.2.2.1, .rows 32 5 (encP T) 0, boxS s.2.2.2.1])
          (fun s => OrI T s.2.1 s.2.2.1 s.2.2.2.1 s.1 ∧ s.2.2.2.2 ≤ os.length) (fun s => T.length - s.1) (0, [], [], [], k2) (by simp [weaker, Go.PV.look]) rfl
          ⟨⟨Nat.zero_le _, fun p h => by simp at h, fun p h => by simp at h, fun p h => by simp at h, Nat.zero_le _, Nat.zero_le _, fun j h => absurd h (Nat.not_lt_zero _), fun j h => absurd h (Nat.not_lt_zero _)⟩, hk2⟩ ?_
        clear hie hil hi hk2
        rintro ⟨i, Lb, Lp, Lq, k2⟩ ⟨hO, hk2⟩
        dsimp only at hO hk2 ⊢
        have hT7 : T.length ≤ 7 := by omega
        have hOb := hO.lb
        have hOp := hO.lp
        have hOi := hO.hi
        by_cases hil : i < T.length
        · have hrow := encP_getD T i hil
          have hxT : T.getD i default ∈ T := gtD hil
          have hxd := hTd _ hxT
          have hst := hO.step hil (M := []) (fun p h => by simp at h) (by simp)
          have hst2 := fun (j : Nat) (hj : j < T.length) => hO.step hil (M := [T.getD j default]) (fun p h => by rw [List.mem_singleton] at h; rw [h]; exact gtD hj) (by simp)
          rw [List.append_nil] at hst
          obtain ⟨x, hx⟩ : ∃ x, x = T.getD i default := ⟨_, rfl⟩
          rw [← hx] at hrow hxT hxd hst
          simp only [← hx] at hst2
          have ad1 := addR (gT Lb hO.b) (by omega) hxd
          have ad2 := addR (gT Lq hO.q) (by omega) hxd
          rw [Pc.row] at ad1 ad2
          have a0 := nxt_lt hol k2 3 (by omega)
          have b0 := nxt_le hk2 3
          obtain ⟨r, hr⟩ : ∃ r, r = nxt os k2 3 := ⟨_, rfl⟩
          rw [← hr] at a0 b0
          simp -dsimp only [boxS]
          simp -dsimp (maxSteps := 4000000) +contextual (disch := first | omega | decide +kernel) only [↓vsD, vsU, vsE, Bool.or_false, Bool.true_or, resW, fnRet, cond_true, cond_false, Nat.reduceShiftRight, Nat.reduceAnd, Go.PV.fits, Go.PV.mutOf, Go.PV.splice, Int.reduceToNat, Int.reduceEq, Int.reduceAdd, Int.reduceSub, Int.reduceMul, Int.reduceLE, Int.reduceLT, Int.reduceNeg, Nat.reduceMul, Nat.reduceLeDiff, ne_eq, if_true, if_false, reduceIte, Nat.reduceEqDiff, ↓Nat.reduceLT, Nat.reduceAdd, Nat.reduceBEq, reduceCtorEq, nx_next, exNextO_codes, rowAt_ptr, rowAtO_some, loadP_B, loadPB_t, loadPB_f, encP_length, hrow, rowS_len, rowS_take, n6]
          refine v_draws _ _ _ _ _ _ [5, 9] [] [(0, 0), (0, 0), (0, 0), (0, 0), (0, 0), (0, 0), (1, 1), (1, 1), (1, 2), (0, 0)] (by decide +kernel) (by decide +kernel) (by decide +kernel) (by decide +kernel) ?_
          simp -dsimp (maxSteps := 4000000) +contextual (disch := first | omega | decide +kernel) only [↓vsD, vsU, vsE, Bool.or_false, Bool.true_or, resW, fnRet, cond_true, cond_false, Nat.reduceShiftRight, Nat.reduceAnd, Go.PV.fits, Go.PV.mutOf, Go.PV.splice, Int.reduceToNat, Int.reduceEq, Int.reduceAdd, Int.reduceSub, Int.reduceMul, Int.reduceLE, Int.reduceLT, Int.reduceNeg, Nat.reduceMul, Nat.reduceLeDiff, ne_eq, if_true, if_false, reduceIte, Nat.reduceEqDiff, ↓Nat.reduceLT, Nat.reduceAdd, Nat.reduceBEq, reduceCtorEq, nx_next, exNextO_codes, vdx_none, vkp_go, ↓vd_end, place_nil, place_cons, vdo_eff, vdo_effA, ↓vdm_go, List.take_succ_cons, List.take_zero, List.drop_succ_cons, List.drop_zero, vdo_noeff_s, vdo_noeff_n, vdo_nofloat, vdo_noread, vdo_read, vdo_floatS, vdo_floatA, vde_s, vde_n, vde_c, vdx_s, vdr_s, vdr_b, vdf_m, vdf_p, ↓vd_op, ↓guard_none, ↓guard_some, gval_some, List.forall_mem_cons, List.not_mem_nil, false_implies, implies_true, List.length_append, List.length_replicate, List.replicate_zero, List.replicate_succ, List.contains_nil, List.contains_cons, Bool.or_false, Bool.false_or, Bool.or_self, Bool.or_true, Bool.true_or, vdr_o, vdq_eq, vdw_s, outR_v, rowsAt_none, mapAt_none, lnil, drop0, rowAt_ptr, rowAtO_some, loadP_B, loadPB_t, loadPB_f, encP_length, hrow, rowS_len, rowS_take, n6]
          refine ⟨_, _, ad1 _, by simp [outR, rowsAt, rowS_len, rowS_take], ?_⟩
          simp -dsimp (maxSteps := 4000000) +contextual (disch := first | omega | decide +kernel) only [↓vsD, vsU, vsE, Bool.or_false, Bool.true_or, resW, fnRet, cond_true, cond_false, Nat.reduceShiftRight, Nat.reduceAnd, Go.PV.fits, Go.PV.mutOf, Go.PV.splice, Int.reduceToNat, Int.reduceEq, Int.reduceAdd, Int.reduceSub, Int.reduceMul, Int.reduceLE, Int.reduceLT, Int.reduceNeg, Nat.reduceMul, Nat.reduceLeDiff, ne_eq, if_true, if_false, reduceIte, Nat.reduceEqDiff, ↓Nat.reduceLT, Nat.reduceAdd, Nat.reduceBEq, reduceCtorEq, nx_next, exNextO_codes, vdx_none, vkp_go, ↓vd_end, place_nil, place_cons, vdo_eff, vdo_effA, ↓vdm_go, List.take_succ_cons, List.take_zero, List.drop_succ_cons, List.drop_zero, vdo_noeff_s, vdo_noeff_n, vdo_nofloat, vdo_noread, vdo_read, vdo_floatS, vdo_floatA, vde_s, vde_n, vde_c, vdx_s, vdr_s, vdr_b, vdf_m, vdf_p, ↓vd_op, ↓guard_none, ↓guard_some, gval_some, List.forall_mem_cons, List.not_mem_nil, false_implies, implies_true, List.length_append, List.length_replicate, List.replicate_zero, List.replicate_succ, List.contains_nil, List.contains_cons, Bool.or_false, Bool.false_or, Bool.or_self, Bool.or_true, Bool.true_or, vdr_o, vdq_eq, vdw_s, outR_v, rowsAt_none, mapAt_none, lnil, drop0, rowAt_ptr, rowAtO_some, loadP_B, loadPB_t, loadPB_f, rowS_len, rowS_take, encP_length, hrow]
          refine v_draws _ _ _ _ _ _ [5, 9] [] [(0, 0), (0, 0), (0, 0), (0, 0), (0, 0), (0, 0), (1, 1), (1, 1), (1, 2), (0, 0)] (by decide +kernel) (by decide +kernel) (by decide +kernel) (by decide +kernel) ?_
          simp -dsimp (maxSteps := 4000000) +contextual (disch := first | omega | decide +kernel) only [↓vsD, vsU, vsE, Bool.or_false, Bool.true_or, resW, fnRet, cond_true, cond_false, Nat.reduceShiftRight, Nat.reduceAnd, Go.PV.fits, Go.PV.mutOf, Go.PV.splice, Int.reduceToNat, Int.reduceEq, Int.reduceAdd, Int.reduceSub, Int.reduceMul, Int.reduceLE, Int.reduceLT, Int.reduceNeg, Nat.reduceMul, Nat.reduceLeDiff, ne_eq, if_true, if_false, reduceIte, Nat.reduceEqDiff, ↓Nat.reduceLT, Nat.reduceAdd, Nat.reduceBEq, reduceCtorEq, nx_next, exNextO_codes, vdx_none, vkp_go, ↓vd_end, place_nil, place_cons, vdo_eff, vdo_effA, ↓vdm_go, List.take_succ_cons, List.take_zero, List.drop_succ_cons, List.drop_zero, vdo_noeff_s, vdo_noeff_n, vdo_nofloat, vdo_noread, vdo_read, vdo_floatS, vdo_floatA, vde_s, vde_n, vde_c, vdx_s, vdr_s, vdr_b, vdf_m, vdf_p, ↓vd_op, ↓guard_none, ↓guard_some, gval_some, List.forall_mem_cons, List.not_mem_nil, false_implies, implies_true, List.length_append, List.length_replicate, List.replicate_zero, List.replicate_succ, List.contains_nil, List.contains_cons, Bool.or_false, Bool.false_or, Bool.or_self, Bool.or_true, Bool.true_or, vdr_o, vdq_eq, vdw_s, outR_v, rowsAt_none, mapAt_none, lnil, drop0, rowAt_ptr, rowAtO_some, loadP_B, loadPB_t, loadPB_f, encP_length, hrow, rowS_len, rowS_take, n6]
          refine ⟨_, _, ad2 _, by simp [outR, rowsAt, rowS_len, rowS_take], ?_⟩
          by_cases h0 : r.1 = 0
          · have a1 := nxt_lt hol r.2 ((i : Int) + 1) (by omega)
            have b1 := nxt_le b0 ((i : Int) + 1)
            obtain ⟨rj, hrj⟩ : ∃ rj, rj = nxt os r.2 ((i : Int) + 1) := ⟨_, rfl⟩
            rw [← hrj] at a1 b1
            obtain ⟨j, hj⟩ : ∃ j : Nat, rj.1 = (j : Int) := ⟨rj.1.toNat, by omega⟩
            have hjT : j < T.length := by omega
            have hrowj := encP_getD T j hjT
            have hyd := hTd _ (gtD (d := default) hjT)
            have hst3 := hst2 j hjT
            obtain ⟨y, hy⟩ : ∃ y, y = T.getD j default := ⟨_, rfl⟩
            rw [← hy] at hrowj hyd hst3
            have ad3 := addR (gT (Lb ++ [x]) hst.b) (by simp only [List.length_append, List.length_cons, List.length_nil]; omega) hyd
            rw [Pc.row] at ad3
            have hB1 : Lb ++ [x] ≠ [] := by simp
            rw [rowS_pos hB1] at ad3
            have c1 := nxt_lt hol rj.2 3 (by omega)
            have c0 := nxt_le b1 3
            obtain ⟨q, hq⟩ : ∃ q, q = nxt os rj.2 3 := ⟨_, rfl⟩
            rw [← hq] at c1 c0
            simp -dsimp (maxSteps := 4000000) +contextual (disch := first | omega | decide +kernel) only [↓vsD, vsU, vsE, Bool.or_false, Bool.true_or, resW, fnRet, cond_true, cond_false, Nat.reduceShiftRight, Nat.reduceAnd, Go.PV.fits, Go.PV.mutOf, Go.PV.splice, Int.reduceToNat, Int.reduceEq, Int.reduceAdd, Int.reduceSub, Int.reduceMul, Int.reduceLE, Int.reduceLT, Int.reduceNeg, Nat.reduceMul, Nat.reduceLeDiff, ne_eq, if_true, if_false, reduceIte, Nat.reduceEqDiff, ↓Nat.reduceLT, Nat.reduceAdd, Nat.reduceBEq, reduceCtorEq, nx_next, exNextO_codes, vdx_none, vkp_go, ↓vd_end, place_nil, place_cons, vdo_eff, vdo_effA, ↓vdm_go, List.take_succ_cons, List.take_zero, List.drop_succ_cons, List.drop_zero, vdo_noeff_s, vdo_noeff_n, vdo_nofloat, vdo_noread, vdo_read, vdo_floatS, vdo_floatA, vde_s, vde_n, vde_c, vdx_s, vdr_s, vdr_b, vdf_m, vdf_p, ↓vd_op, ↓guard_none, ↓guard_some, gval_some, List.forall_mem_cons, List.not_mem_nil, false_implies, implies_true, List.length_append, List.length_replicate, List.replicate_zero, List.replicate_succ, List.contains_nil, List.contains_cons, Bool.or_false, Bool.false_or, Bool.or_self, Bool.or_true, Bool.true_or, vdr_o, vdq_eq, vdw_s, outR_v, rowsAt_none, mapAt_none, lnil, drop0, rowAt_ptr, rowAtO_some, loadP_B, loadPB_t, loadPB_f, rowS_len, rowS_take, encP_length, hrow, hol, ← hr]
            refine v_draws _ _ _ _ _ _ [5, 8, 12] [] [(0, 1), (0, 1), (0, 0), (0, 0), (0, 0), (0, 0), (1, 1), (1, 1), (0, 0), (2, 2), (2, 2), (2, 3), (0, 0)] (by decide +kernel) (by decide +kernel) (by decide +kernel) (by decide +kernel) ?_
            simp -dsimp (maxSteps := 4000000) +contextual (disch := first | omega | decide +kernel) only [↓vsD, vsU, vsE, Bool.or_false, Bool.true_or, resW, fnRet, cond_true, cond_false, Nat.reduceShiftRight, Nat.reduceAnd, Go.PV.fits, Go.PV.mutOf, Go.PV.splice, Int.reduceToNat, Int.reduceEq, Int.reduceAdd, Int.reduceSub, Int.reduceMul, Int.reduceLE, Int.reduceLT, Int.reduceNeg, Nat.reduceMul, Nat.reduceLeDiff, ne_eq, if_true, if_false, reduceIte, Nat.reduceEqDiff, ↓Nat.reduceLT, Nat.reduceAdd, Nat.reduceBEq, reduceCtorEq, nx_next, exNextO_codes, vdx_none, vkp_go, ↓vd_end, place_nil, place_cons, vdo_eff, vdo_effA, ↓vdm_go, List.take_succ_cons, List.take_zero, List.drop_succ_cons, List.drop_zero, vdo_noeff_s, vdo_noeff_n, vdo_nofloat, vdo_noread, vdo_read, vdo_floatS, vdo_floatA, vde_s, vde_n, vde_c, vdx_s, vdr_s, vdr_b, vdf_m, vdf_p, ↓vd_op, ↓guard_none, ↓guard_some, gval_some, List.forall_mem_cons, List.not_mem_nil, false_implies, implies_true, List.length_append, List.length_replicate, List.replicate_zero, List.replicate_succ, List.contains_nil, List.contains_cons, Bool.or_false, Bool.false_or, Bool.or_self, Bool.or_true, Bool.true_or, vdr_o, vdq_eq, vdw_s, outR_v, rowsAt_none, mapAt_none, lnil, drop0, rowAt_ptr, rowAtO_some, loadP_B, loadPB_t, loadPB_f, rowS_len, rowS_take, encP_length, hrow, hol, ← hr, ← hrj, hj, hrowj, n6]
            refine ⟨_, _, ad3 _, by simp [outR, rowsAt, rowS_len, rowS_take], ?_⟩
            by_cases h1 : q.1 = 0
            · have hmg := mergeR (gT (Lq ++ [x]) (hst3).q) (gT Lp (hst3).p) (by simp only [List.length_append, List.length_cons, List.length_nil]; omega)
              have hne : (Lq ++ [x]) ++ Lp ≠ [] := by simp
              have hrw := rowS_pos hne
              have hQ : Lq ++ [x] ≠ [] := by simp
              rw [rowS_pos hQ] at hmg
              simp -dsimp (maxSteps := 4000000) +contextual (disch := first | omega | decide +kernel) only [↓vsD, vsU, vsE, Bool.or_false, Bool.true_or, resW, fnRet, cond_true, cond_false, Nat.reduceShiftRight, Nat.reduceAnd, Go.PV.fits, Go.PV.mutOf, Go.PV.splice, Int.reduceToNat, Int.reduceEq, Int.reduceAdd, Int.reduceSub, Int.reduceMul, Int.reduceLE, Int.reduceLT, Int.reduceNeg, Nat.reduceMul, Nat.reduceLeDiff, ne_eq, if_true, if_false, reduceIte, Nat.reduceEqDiff, ↓Nat.reduceLT, Nat.reduceAdd, Nat.reduceBEq, reduceCtorEq, nx_next, exNextO_codes, vdx_none, vkp_go, ↓vd_end, place_nil, place_cons, vdo_eff, vdo_effA, ↓vdm_go, List.take_succ_cons, List.take_zero, List.drop_succ_cons, List.drop_zero, vdo_noeff_s, vdo_noeff_n, vdo_nofloat, vdo_noread, vdo_read, vdo_floatS, vdo_floatA, vde_s, vde_n, vde_c, vdx_s, vdr_s, vdr_b, vdf_m, vdf_p, ↓vd_op, ↓guard_none, ↓guard_some, gval_some, List.forall_mem_cons, List.not_mem_nil, false_implies, implies_true, List.length_append, List.length_replicate, List.replicate_zero, List.replicate_succ, List.contains_nil, List.contains_cons, Bool.or_false, Bool.false_or, Bool.or_self, Bool.or_true, Bool.true_or, vdr_o, vdq_eq, vdw_s, outR_v, rowsAt_none, mapAt_none, lnil, drop0, rowAt_ptr, rowAtO_some, loadP_B, loadPB_t, loadPB_f, rowS_len, rowS_take, encP_length, hrow, hol, ← hr, ← hq, n1]
              try simp -dsimp only [rowS_drop, rowS_snoc]
              refine PCall.mono (hmg _) ?_
              rintro p σ' ⟨rfl, rfl⟩
              simp -dsimp (maxSteps := 4000000) +contextual (disch := first | omega | decide +kernel) only [↓vsD, vsU, vsE, Bool.or_false, Bool.true_or, resW, fnRet, cond_true, cond_false, Nat.reduceShiftRight, Nat.reduceAnd, Go.PV.fits, Go.PV.mutOf, Go.PV.splice, Int.reduceToNat, Int.reduceEq, Int.reduceAdd, Int.reduceSub, Int.reduceMul, Int.reduceLE, Int.reduceLT, Int.reduceNeg, Nat.reduceMul, Nat.reduceLeDiff, ne_eq, if_true, if_false, reduceIte, Nat.reduceEqDiff, ↓Nat.reduceLT, Nat.reduceAdd, Nat.reduceBEq, reduceCtorEq, nx_next, exNextO_codes, rowAt_ptr, rowAtO_some, loadP_B, loadPB_t, loadPB_f, rowS_len, rowS_take, rowS_drop]
              try simp -dsimp only [rowS_drop]
              have hBB : Lb ++ [x] ++ [y] ≠ [] := by simp
              refine ⟨(i + 1, Lb ++ [x] ++ [y], (Lq ++ [x]) ++ Lp, [], q.2), (by (try dsimp only); omega), by simp [weaker, Go.PV.look], ?_, (hst3).mv, c0⟩
              dsimp only
              simp only [boxS, rowS_drop, rowS_pos hBB, hrw]; rfl
            · simp -dsimp (maxSteps := 4000000) +contextual (disch := first | omega | decide +kernel) only [↓vsD, vsU, vsE, Bool.or_false, Bool.true_or, resW, fnRet, cond_true, cond_false, Nat.reduceShiftRight, Nat.reduceAnd, Go.PV.fits, Go.PV.mutOf, Go.PV.splice, Int.reduceToNat, Int.reduceEq, Int.reduceAdd, Int.reduceSub, Int.reduceMul, Int.reduceLE, Int.reduceLT, Int.reduceNeg, Nat.reduceMul, Nat.reduceLeDiff, ne_eq, if_true, if_false, reduceIte, Nat.reduceEqDiff, ↓Nat.reduceLT, Nat.reduceAdd, Nat.reduceBEq, reduceCtorEq, nx_next, exNextO_codes, vdx_none, vkp_go, ↓vd_end, place_nil, place_cons, vdo_eff, vdo_effA, ↓vdm_go, List.take_succ_cons, List.take_zero, List.drop_succ_cons, List.drop_zero, vdo_noeff_s, vdo_noeff_n, vdo_nofloat, vdo_noread, vdo_read, vdo_floatS, vdo_floatA, vde_s, vde_n, vde_c, vdx_s, vdr_s, vdr_b, vdf_m, vdf_p, ↓vd_op, ↓guard_none, ↓guard_some, gval_some, List.forall_mem_cons, List.not_mem_nil, false_implies, implies_true, List.length_append, List.length_replicate, List.replicate_zero, List.replicate_succ, List.contains_nil, List.contains_cons, Bool.or_false, Bool.false_or, Bool.or_self, Bool.or_true, Bool.true_or, vdr_o, vdq_eq, vdw_s, outR_v, rowsAt_none, mapAt_none, lnil, drop0, rowAt_ptr, rowAtO_some, loadP_B, loadPB_t, loadPB_f, rowS_len, rowS_take, encP_length, hrow, hol, ← hr, ← hq, n1]
              try simp -dsimp only [rowS_drop, rowS_snoc]
              have hBB : Lb ++ [x] ++ [y] ≠ [] := by simp
              have hQ : Lq ++ [x] ≠ [] := by simp
              exact ⟨(i + 1, Lb ++ [x] ++ [y], Lp, Lq ++ [x], q.2), (by (try dsimp only); omega), by simp [weaker, Go.PV.look], by dsimp only; simp only [boxS, rowS_drop, rowS_pos hBB, rowS_pos hQ], hst3, c0⟩
          · have c1 := nxt_lt hol r.2 3 (by omega)
            have c0 := nxt_le b0 3
            obtain ⟨q, hq⟩ : ∃ q, q = nxt os r.2 3 := ⟨_, rfl⟩
            rw [← hq] at c1 c0
            by_cases h1 : q.1 = 0
            · have hmg := mergeR (gT (Lq ++ [x]) (hst).q) (gT Lp (hst).p) (by simp only [List.length_append, List.length_cons, List.length_nil]; omega)
              have hne : (Lq ++ [x]) ++ Lp ≠ [] := by simp
              have hrw := rowS_pos hne
              have hQ : Lq ++ [x] ≠ [] := by simp
              rw [rowS_pos hQ] at hmg
              simp -dsimp (maxSteps := 4000000) +contextual (disch := first | omega | decide +kernel) only [↓vsD, vsU, vsE, Bool.or_false, Bool.true_or, resW, fnRet, cond_true, cond_false, Nat.reduceShiftRight, Nat.reduceAnd, Go.PV.fits, Go.PV.mutOf, Go.PV.splice, Int.reduceToNat, Int.reduceEq, Int.reduceAdd, Int.reduceSub, Int.reduceMul, Int.reduceLE, Int.reduceLT, Int.reduceNeg, Nat.reduceMul, Nat.reduceLeDiff, ne_eq, if_true, if_false, reduceIte, Nat.reduceEqDiff, ↓Nat.reduceLT, Nat.reduceAdd, Nat.reduceBEq, reduceCtorEq, nx_next, exNextO_codes, vdx_none, vkp_go, ↓vd_end, place_nil, place_cons, vdo_eff, vdo_effA, ↓vdm_go, List.take_succ_cons, List.take_zero, List.drop_succ_cons, List.drop_zero, vdo_noeff_s, vdo_noeff_n, vdo_nofloat, vdo_noread, vdo_read, vdo_floatS, vdo_floatA, vde_s, vde_n, vde_c, vdx_s, vdr_s, vdr_b, vdf_m, vdf_p, ↓vd_op, ↓guard_none, ↓guard_some, gval_some, List.forall_mem_cons, List.not_mem_nil, false_implies, implies_true, List.length_append, List.length_replicate, List.replicate_zero, List.replicate_succ, List.contains_nil, List.contains_cons, Bool.or_false, Bool.false_or, Bool.or_self, Bool.or_true, Bool.true_or, vdr_o, vdq_eq, vdw_s, outR_v, rowsAt_none, mapAt_none, lnil, drop0, rowAt_ptr, rowAtO_some, loadP_B, loadPB_t, loadPB_f, rowS_len, rowS_take, encP_length, hrow, hol, ← hr, ← hq, n1]
              try simp -dsimp only [rowS_drop, rowS_snoc]
              refine PCall.mono (hmg _) ?_
              rintro p σ' ⟨rfl, rfl⟩
              simp -dsimp (maxSteps := 4000000) +contextual (disch := first | omega | decide +kernel) only [↓vsD, vsU, vsE, Bool.or_false, Bool.true_or, resW, fnRet, cond_true, cond_false, Nat.reduceShiftRight, Nat.reduceAnd, Go.PV.fits, Go.PV.mutOf, Go.PV.splice, Int.reduceToNat, Int.reduceEq, Int.reduceAdd, Int.reduceSub, Int.reduceMul, Int.reduceLE, Int.reduceLT, Int.reduceNeg, Nat.reduceMul, Nat.reduceLeDiff, ne_eq, if_true, if_false, reduceIte, Nat.reduceEqDiff, ↓Nat.reduceLT, Nat.reduceAdd, Nat.reduceBEq, reduceCtorEq, nx_next, exNextO_codes, rowAt_ptr, rowAtO_some, loadP_B, loadPB_t, loadPB_f, rowS_len, rowS_take, rowS_drop]
              try simp -dsimp only [rowS_drop]
              have hBB : Lb ++ [x] ≠ [] := by simp
              refine ⟨(i + 1, Lb ++ [x], (Lq ++ [x]) ++ Lp, [], q.2), (by (try dsimp only); omega), by simp [weaker, Go.PV.look], ?_, (hst).mv, c0⟩
              dsimp only
              simp only [boxS, rowS_drop, rowS_pos hBB, hrw]; rfl
            · simp -dsimp (maxSteps := 4000000) +contextual (disch := first | omega | decide +kernel) only [↓vsD, vsU, vsE, Bool.or_false, Bool.true_or, resW, fnRet, cond_true, cond_false, Nat.reduceShiftRight, Nat.reduceAnd, Go.PV.fits, Go.PV.mutOf, Go.PV.splice, Int.reduceToNat, Int.reduceEq, Int.reduceAdd, Int.reduceSub, Int.reduceMul, Int.reduceLE, Int.reduceLT, Int.reduceNeg, Nat.reduceMul, Nat.reduceLeDiff, ne_eq, if_true, if_false, reduceIte, Nat.reduceEqDiff, ↓Nat.reduceLT, Nat.reduceAdd, Nat.reduceBEq, reduceCtorEq, nx_next, exNextO_codes, vdx_none, vkp_go, ↓vd_end, place_nil, place_cons, vdo_eff, vdo_effA, ↓vdm_go, List.take_succ_cons, List.take_zero, List.drop_succ_cons, List.drop_zero, vdo_noeff_s, vdo_noeff_n, vdo_nofloat, vdo_noread, vdo_read, vdo_floatS, vdo_floatA, vde_s, vde_n, vde_c, vdx_s, vdr_s, vdr_b, vdf_m, vdf_p, ↓vd_op, ↓guard_none, ↓guard_some, gval_some, List.forall_mem_cons, List.not_mem_nil, false_implies, implies_true, List.length_append, List.length_replicate, List.replicate_zero, List.replicate_succ, List.contains_nil, List.contains_cons, Bool.or_false, Bool.false_or, Bool.or_self, Bool.or_true, Bool.true_or, vdr_o, vdq_eq, vdw_s, outR_v, rowsAt_none, mapAt_none, lnil, drop0, rowAt_ptr, rowAtO_some, loadP_B, loadPB_t, loadPB_f, rowS_len, rowS_take, encP_length, hrow, hol, ← hr, ← hq, n1]
              try simp -dsimp only [rowS_drop, rowS_snoc]
              have hBB : Lb ++ [x] ≠ [] := by simp
              have hQ : Lq ++ [x] ≠ [] := by simp
              exact ⟨(i + 1, Lb ++ [x], Lp, Lq ++ [x], q.2), (by (try dsimp only); omega), by simp [weaker, Go.PV.look], by dsimp only; simp only [boxS, rowS_drop, rowS_pos hBB, rowS_pos hQ], hst, c0⟩
        · have hie : i = T.length := by omega
          have hcb : ∀ p, p ∈ T → p ∈ Lb := fun p hp => by
            obtain ⟨j, hj, rfl⟩ := List.mem_iff_getElem.1 hp
            have := hO.cb j (by omega)
            rwa [List.getD_eq_getElem?_getD, List.getElem?_eq_getElem hj] at this
          have hcp : ∀ p, p ∈ T → p ∈ Lp ++ Lq := fun p hp => by
            obtain ⟨j, hj, rfl⟩ := List.mem_iff_getElem.1 hp
            have := hO.cp j (by omega)
            rw [List.getD_eq_getElem?_getD, List.getElem?_eq_getElem hj] at this
            exact List.mem_append.2 this
          have hpq : ∀ p ∈ Lp ++ Lq, p ∈ T := fun p hp => (List.mem_append.1 hp).elim (hO.p p) (hO.q p)
          have hmg := mergeR (gT Lp hO.p) (gT Lq hO.q) (by omega)
          have hv := validRow goL0 (by omega)
          have s1 := sameR (frzn_row goL0) (frzn_row (gT Lb hO.b)) (FilR.fit goL0 (by omega)) (stOf_congr goL0 (gT Lb hO.b) (fun p => by rw [← hTm]; exact ⟨hcb p, hO.b p⟩))
          have s2 := sameR (frzn_row goL0) (fun zs σ => Frzn.keep (zs := zs) (σ := σ) (stV (stOf (Lp ++ Lq)))) (FilR.fit goL0 (by omega)) (stOf_congr goL0 (gT (Lp ++ Lq) hpq) (fun p => by rw [← hTm]; exact ⟨hcp p, hpq p⟩))
          unfold stV at s2
          rw [hA]
          simp -dsimp only [boxS]
          simp -dsimp (maxSteps := 4000000) +contextual (disch := first | omega | decide +kernel) only [↓vsD, vsU, vsE, Bool.or_false, Bool.true_or, resW, fnRet, cond_true, cond_false, Nat.reduceShiftRight, Nat.reduceAnd, Go.PV.fits, Go.PV.mutOf, Go.PV.splice, Int.reduceToNat, Int.reduceEq, Int.reduceAdd, Int.reduceSub, Int.reduceMul, Int.reduceLE, Int.reduceLT, Int.reduceNeg, Nat.reduceMul, Nat.reduceLeDiff, ne_eq, if_true, if_false, reduceIte, Nat.reduceEqDiff, ↓Nat.reduceLT, Nat.reduceAdd, Nat.reduceBEq, reduceCtorEq, nx_next, exNextO_codes, rowAt_ptr, rowAtO_some, loadP_B, loadPB_t, loadPB_f, encP_length, n1, rowS_len, rowS_take]
          refine PCall.mono (hmg _) ?_
          rintro p σ' ⟨rfl, rfl⟩
          simp -dsimp (maxSteps := 4000000) +contextual (disch := first | omega | decide +kernel) only [↓vsD, vsU, vsE, Bool.or_false, Bool.true_or, resW, fnRet, cond_true, cond_false, Nat.reduceShiftRight, Nat.reduceAnd, Go.PV.fits, Go.PV.mutOf, Go.PV.splice, Int.reduceToNat, Int.reduceEq, Int.reduceAdd, Int.reduceSub, Int.reduceMul, Int.reduceLE, Int.reduceLT, Int.reduceNeg, Nat.reduceMul, Nat.reduceLeDiff, ne_eq, if_true, if_false, reduceIte, Nat.reduceEqDiff, ↓Nat.reduceLT, Nat.reduceAdd, Nat.reduceBEq, reduceCtorEq, nx_next, exNextO_codes, rowAt_ptr, rowAtO_some, loadP_B, loadPB_t, loadPB_f, n7, rowS_len, rowS_take]
          refine PCall.mono (hv _) ?_
          rintro p σ' ⟨rfl, rfl⟩
          simp -dsimp (maxSteps := 4000000) +contextual (disch := first | omega | decide +kernel) only [↓vsD, vsU, vsE, Bool.or_false, Bool.true_or, resW, fnRet, cond_true, cond_false, Nat.reduceShiftRight, Nat.reduceAnd, Go.PV.fits, Go.PV.mutOf, Go.PV.splice, Int.reduceToNat, Int.reduceEq, Int.reduceAdd, Int.reduceSub, Int.reduceMul, Int.reduceLE, Int.reduceLT, Int.reduceNeg, Nat.reduceMul, Nat.reduceLeDiff, ne_eq, if_true, if_false, reduceIte, Nat.reduceEqDiff, ↓Nat.reduceLT, Nat.reduceAdd, Nat.reduceBEq, reduceCtorEq, nx_next, exNextO_codes, rowAt_ptr, rowAtO_some, loadP_B, loadPB_t, loadPB_f, n2, rowS_len, rowS_take]
          refine PCall.mono (s1 _) ?_
          rintro p σ' ⟨rfl, rfl⟩
          simp -dsimp (maxSteps := 4000000) +contextual (disch := first | omega | decide +kernel) only [↓vsD, vsU, vsE, Bool.or_false, Bool.true_or, resW, fnRet, cond_true, cond_false, Nat.reduceShiftRight, Nat.reduceAnd, Go.PV.fits, Go.PV.mutOf, Go.PV.splice, Int.reduceToNat, Int.reduceEq, Int.reduceAdd, Int.reduceSub, Int.reduceMul, Int.reduceLE, Int.reduceLT, Int.reduceNeg, Nat.reduceMul, Nat.reduceLeDiff, ne_eq, if_true, if_false, reduceIte, Nat.reduceEqDiff, ↓Nat.reduceLT, Nat.reduceAdd, Nat.reduceBEq, reduceCtorEq, nx_next, exNextO_codes, rowAt_ptr, rowAtO_some, loadP_B, loadPB_t, loadPB_f, n2, rowS_len, rowS_take]
          try simp -dsimp only [rowS_drop]
          refine PCall.mono (s2 _) ?_
          rintro p σ' ⟨rfl, rfl⟩
          simp -dsimp (maxSteps := 4000000) +contextual (disch := first | omega | decide +kernel) only [↓vsD, vsU, vsE, Bool.or_false, Bool.true_or, resW, fnRet, cond_true, cond_false, Nat.reduceShiftRight, Nat.reduceAnd, Go.PV.fits, Go.PV.mutOf, Go.PV.splice, Int.reduceToNat, Int.reduceEq, Int.reduceAdd, Int.reduceSub, Int.reduceMul, Int.reduceLE, Int.reduceLT, Int.reduceNeg, Nat.reduceMul, Nat.reduceLeDiff, ne_eq, if_true, if_false, reduceIte, Nat.reduceEqDiff, ↓Nat.reduceLT, Nat.reduceAdd, Nat.reduceBEq, reduceCtorEq, nx_next, exNextO_codes, rowAt_ptr, rowAtO_some, loadP_B, loadPB_t, loadPB_f]
          exact fin0 (.keep _ (bel_bool _ _)) rfl
end Go.Proofs.Ythjoehaglonjaaa
