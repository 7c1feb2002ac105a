/- Chapter 31: the law StoreLimits, walked. -/
import Derived.Test.YthjoehaglonjaaaSuM
set_option linter.unusedSimpArgs false
set_option linter.unusedVariables false
namespace Go.Proofs.Ythjoehaglonjaaa
open Go.PV

def xv (n : Nat) (i : Nat) : Int := match i with | 0 => 0 | 1 => 2 * (n : Int) + 1 | 2 => 3 | 3 => 1 | _ => 2 * (n : Int) + 3
theorem xv_new {n i : Nat} (hi : i < 5) (j : Nat) : xv n i ≠ 2 * (j + 1 : Nat) ∧ (0 ≤ xv n i ∧ xv n i ≤ 2 * (n : Int) + 3) := by
  match i, hi with
  | 0, _ => simp only [xv]; omega
  | 1, _ => simp only [xv]; omega
  | 2, _ => simp only [xv]; omega
  | 3, _ => simp only [xv]; omega
  | 4, _ => simp only [xv]; omega
theorem xv_inj {n i j : Nat} (hn : 10 ≤ n) (hi : i < 5) (hj : j < 5) (h : xv n i = xv n j) : i = j := by
  match i, hi, j, hj with
  | 0, _, 0, _ | 1, _, 1, _ | 2, _, 2, _ | 3, _, 3, _ | 4, _, 4, _ => rfl
  | 0, _, 1, _ | 0, _, 2, _ | 0, _, 3, _ | 0, _, 4, _ | 1, _, 0, _ | 1, _, 2, _ | 1, _, 3, _ | 1, _, 4, _ | 2, _, 0, _ | 2, _, 1, _ | 2, _, 3, _ | 2, _, 4, _ | 3, _, 0, _ | 3, _, 1, _ | 3, _, 2, _ | 3, _, 4, _ | 4, _, 0, _ | 4, _, 1, _ | 4, _, 2, _ | 4, _, 3, _ => simp only [xv] at h; omega
theorem xv_row {n i : Nat} (hi : i < 5) : ([[.int .i64 0], [.int .i64 (2 * (n : Int) + 1)], [.int .i64 3], [.int .i64 1], [.int .i64 (2 * (n : Int) + 3)]] : List (List PV)).getD i [] = [.int .i64 (xv n i)] := by
  match i, hi with
  | 0, _ => rfl
  | 1, _ => rfl
  | 2, _ => rfl
  | 3, _ => rfl
  | 4, _ => rfl
structure LiI (n on : Nat) (s : StS) (k : Nat) : Prop where
  ok : OkSt s
  c : s.cs.length ≤ 3
  f : ∀ p ∈ s.ps, FitP p ∧ ∀ x ∈ p.fs, SmC x
  i : ∀ y ∈ idl s, (∃ j, j < n ∧ y = (0, 0, (2 * (j + 1 : Nat) : Int))) ∨ ∃ j, j < k ∧ y = (0, 0, xv n ((j + on) % 5))
theorem LiI.fit {n on : Nat} {s : StS} {k : Nat} (h : LiI n on s k) : FitS s := by
  have := h.ok.n
  exact ⟨by omega, by omega, fun p hp => (h.f p hp).1⟩
theorem LiI.new {n on : Nat} {s : StS} {k : Nat} (h : LiI n on s k) (hn : 10 ≤ n) (hk : k < 5) : (pc1 (xv n ((k + on) % 5)) 9).id ∉ idl s := fun hm => by
  rcases h.i _ hm with ⟨j, hj, e⟩ | ⟨j, hj, e⟩
  · simp only [pc1, Prod.mk.injEq, true_and] at e
    exact (xv_new (Nat.mod_lt _ (by omega)) j).1 e
  · simp only [pc1, Prod.mk.injEq, true_and] at e
    have := xv_inj hn (Nat.mod_lt _ (by omega)) (Nat.mod_lt _ (by omega)) e
    omega
/-- The greatest number so far. -/
structure GrI (l : List Idn) (i : Nat) (g : Int) : Prop where
  a : ∀ j, j < i → (l.getD j default).2.2 ≤ g
  b : g = -1 ∨ ∃ y ∈ l, y.2.2 = g
  c : -1 ≤ g
theorem GrI.step {l : List Idn} {i : Nat} {g : Int} (h : GrI l i g) (hi : i < l.length) : GrI l (i + 1) (max g (l.getD i default).2.2) := by
  refine ⟨fun j hj => ?_, ?_, by have := h.c; omega⟩
  · rcases Nat.lt_succ_iff_lt_or_eq.1 hj with hj | rfl
    · have := h.a j hj; omega
    · omega
  · by_cases hle : (l.getD i default).2.2 ≤ g
    · rw [show max g (l.getD i default).2.2 = g by omega]; exact h.b
    · rw [show max g (l.getD i default).2.2 = (l.getD i default).2.2 by omega]
      exact .inr ⟨_, gtD hi, rfl⟩
theorem minE {r1 r2 s1 s2 : Nat} (h : r1 + r2 = min 256 (s1 + s2 + 1)) : ((r1 : Int) + (r2 : Int)) = if ((s1 : Int) + (s2 : Int) + 1) < 256 then ((s1 : Int) + (s2 : Int) + 1) else 256 := by
  split <;> omega
theorem idl_L (s : StS) {i : Nat} (h : i < s.ps.length) : (idl s).getD i default = (s.ps.getD i default).id := by
  rw [idl, List.getD_eq_getElem?_getD, List.getElem?_append_left (by rw [List.length_map]; exact h), List.getElem?_map, List.getElem?_eq_getElem h, List.getD_eq_getElem?_getD, List.getElem?_eq_getElem h]; rfl
theorem idl_R (s : StS) (i : Nat) : (idl s).getD (s.ps.length + i) default = s.cs.getD i default := by
  rw [idl, List.getD_eq_getElem?_getD, List.getElem?_append_right (by rw [List.length_map]; omega), List.length_map, Nat.add_sub_cancel_left, List.getD_eq_getElem?_getD]
set_option maxRecDepth 8000 in
set_option maxHeartbeats 16000000 in
theorem limits31_ok (a o t : Int) (ha : 0 ≤ a ∧ a ≤ 255) (ho : 0 ≤ o ∧ o ≤ 255) (ht : 0 ≤ t ∧ t ≤ 255) : PCall Try.prog 7 [.int .u8 a, .int .u8 o, .int .u8 t] [] (fun p _ => p = .bool true) := by
  have n1 : ∀ args σ, noE.f 22 args σ = none := fun _ _ => rfl
  have n3 : ∀ args σ, noE.f 10 args σ = none := fun _ _ => rfl
  have n4 : ∀ args σ, noE.f 25 args σ = none := fun _ _ => rfl
  have n5 : ∀ args σ, noE.f 26 args σ = none := fun _ _ => rfl
  have n6 : ∀ args σ, noE.f 17 args σ = none := fun _ _ => rfl
  have n7 : ∀ args σ, noE.f 15 args σ = none := fun _ _ => rfl
  obtain ⟨u, hu, hu8⟩ : ∃ u : Nat, (u : Int) = a.tmod 8 ∧ u < 8 := by
    have h1 := Int.tmod_nonneg 8 ha.1
    have h2 := Int.tmod_lt_of_pos a (show (0 : Int) < 8 by omega)
    exact ⟨(a.tmod 8).toNat, by omega, by omega⟩
  obtain ⟨c, hc, hc4⟩ : ∃ u : Nat, (u : Int) = t.tmod 4 ∧ u < 4 := by
    have h1 := Int.tmod_nonneg 4 ht.1
    have h2 := Int.tmod_lt_of_pos t (show (0 : Int) < 4 by omega)
    exact ⟨(t.tmod 4).toNat, by omega, by omega⟩
  obtain ⟨on, rfl⟩ := Int.eq_ofNat_of_zero_le ho.1
  obtain ⟨n, hn⟩ : ∃ n : Nat, n = 253 + u := ⟨_, rfl⟩
  have e1 : 253 + (u : Int) = (n : Int) := by omega
  refine PCall.vfrz [] 1461501637332232186765527047047540582580565311487 161 [.tmp 6] (noE_ok _) mix Try.func7 rfl (by decide) rfl rfl (by simp) ?_
  simp -dsimp only [initFr, List.zipIdx_cons, List.zipIdx_nil, List.map_cons, List.map_nil, Nat.zero_add, Nat.reduceAdd]
  simp -dsimp (maxSteps := 4000000) +contextual (disch := first | omega | decide +kernel) only [↓vsD, vsU, vsE, Bool.or_false, Bool.true_or, resW, fnRet, cond_true, cond_false, Nat.reduceShiftRight, Nat.reduceAnd, Go.PV.fits, Go.PV.mutOf, Go.PV.splice, Int.reduceToNat, Int.reduceEq, Int.reduceAdd, Int.reduceSub, Int.reduceMul, Int.reduceLE, Int.reduceLT, Int.reduceNeg, Nat.reduceMul, Nat.reduceLeDiff, ne_eq, if_true, if_false, reduceIte, Nat.reduceEqDiff, ↓Nat.reduceLT, Nat.reduceAdd, Nat.reduceBEq, reduceCtorEq, n3]
  refine PCall.mono (awake_on _) ?_
  rintro p σ' ⟨rfl, rfl⟩
  simp -dsimp (maxSteps := 4000000) +contextual (disch := first | omega | decide +kernel) only [↓vsD, vsU, vsE, Bool.or_false, Bool.true_or, resW, fnRet, cond_true, cond_false, Nat.reduceShiftRight, Nat.reduceAnd, Go.PV.fits, Go.PV.mutOf, Go.PV.splice, Int.reduceToNat, Int.reduceEq, Int.reduceAdd, Int.reduceSub, Int.reduceMul, Int.reduceLE, Int.reduceLT, Int.reduceNeg, Nat.reduceMul, Nat.reduceLeDiff, ne_eq, if_true, if_false, reduceIte, Nat.reduceEqDiff, ↓Nat.reduceLT, Nat.reduceAdd, Nat.reduceBEq, reduceCtorEq, n4, ← hu, ← hc, e1]
  refine PCall.mono (full_on n c (by omega) (by omega) _) ?_
  rintro p σ' ⟨rfl, rfl⟩
  have hcn : c ≤ n := by omega
  have hfit : FitS (fullS n c) := ⟨by show (fullP _).length ≤ _; rw [fullP_len]; omega, by show (fullC _ _).length ≤ _; rw [fullC_len]; omega, fun p hp => by obtain ⟨v, rfl⟩ := fullS_pc p hp; exact pc1_fit _ _⟩
  have hsm : ∀ p ∈ (fullS n c).ps, ∀ x ∈ p.fs, SmC x := fun p hp => by obtain ⟨v, rfl⟩ := fullS_pc p hp; exact pc1_sm _ _
  have hmr := merge_on 12 unionOk12 (fullS n c) ⟨[], []⟩ hfit emp_fit hsm (fun p h => by simp at h) (by show (fullC _ _).length + 0 + min _ 0 + 1 ≤ 12; rw [fullC_len]; omega)
  have hsz := fullS_size hcn
  have hmr2 : ∀ σ, PCall Try.prog 22 [stV (fullS n c), .agg [.nils, .nils]] σ (fun q τ => MgRes (fullS n c) ⟨[], []⟩ q ∧ τ = σ) := fun σ =>
    PCall.frz [] (args2 := [stV (fullS n c), stV ⟨[], []⟩]) (hmr _) rfl (fun j a b h1 h2 => by
      match j, h1, h2 with
      | 0, h1, h2 => simp at h1 h2; subst h1 h2; exact .keep _
      | 1, h1, h2 => simp at h1 h2; subst h1 h2; exact frzn_emp _ _
      | j + 2, h1, h2 => simp at h1)
  simp -dsimp (maxSteps := 4000000) +contextual (disch := first | omega | decide +kernel) only [↓vsD, vsU, vsE, Bool.or_false, Bool.true_or, resW, fnRet, cond_true, cond_false, Nat.reduceShiftRight, Nat.reduceAnd, Go.PV.fits, Go.PV.mutOf, Go.PV.splice, Int.reduceToNat, Int.reduceEq, Int.reduceAdd, Int.reduceSub, Int.reduceMul, Int.reduceLE, Int.reduceLT, Int.reduceNeg, Nat.reduceMul, Nat.reduceLeDiff, ne_eq, if_true, if_false, reduceIte, Nat.reduceEqDiff, ↓Nat.reduceLT, Nat.reduceAdd, Nat.reduceBEq, reduceCtorEq, n1]
  refine PCall.mono (hmr2 _) ?_
  rintro q τ ⟨hq, rfl⟩
  by_cases hbig : 256 < n
  · have hno : ¬ OkSt (fullS n c) := fun h => by have := h.n; unfold sizeS at hsz; omega
    rcases hq with ⟨_, rfl⟩ | ⟨h, _⟩
    · unfold stV
      simp -dsimp (maxSteps := 4000000) +contextual (disch := first | omega | decide +kernel) only [↓vsD, vsU, vsE, Bool.or_false, Bool.true_or, resW, fnRet, cond_true, cond_false, Nat.reduceShiftRight, Nat.reduceAnd, Go.PV.fits, Go.PV.mutOf, Go.PV.splice, Int.reduceToNat, Int.reduceEq, Int.reduceAdd, Int.reduceSub, Int.reduceMul, Int.reduceLE, Int.reduceLT, Int.reduceNeg, Nat.reduceMul, Nat.reduceLeDiff, ne_eq, if_true, if_false, reduceIte, Nat.reduceEqDiff, ↓Nat.reduceLT, Nat.reduceAdd, Nat.reduceBEq, reduceCtorEq, rowAt_ptr, rowAtO_some, loadP_B, loadPB_t, loadPB_f]
      exact fin0 (.keep _ (bel_bool _ _)) rfl
    · exact absurd h hno
  · have hok := fullS_ok hcn (by omega)
    rcases hq with ⟨h, _⟩ | ⟨_, _, m, hm, rfl⟩
    · exact absurd ⟨hok, emp_ok⟩ h
    · have hme : m = fullS n c := one_first hok.o (hm.congr (fun s => by simp [or_comm]))
      subst hme
      rw [leastS_small _ (by omega)]
      unfold stV
      simp -dsimp (maxSteps := 4000000) +contextual (disch := first | omega | decide +kernel) only [↓vsD, vsU, vsE, Bool.or_false, Bool.true_or, resW, fnRet, cond_true, cond_false, Nat.reduceShiftRight, Nat.reduceAnd, Go.PV.fits, Go.PV.mutOf, Go.PV.splice, Int.reduceToNat, Int.reduceEq, Int.reduceAdd, Int.reduceSub, Int.reduceMul, Int.reduceLE, Int.reduceLT, Int.reduceNeg, Nat.reduceMul, Nat.reduceLeDiff, ne_eq, if_true, if_false, reduceIte, Nat.reduceEqDiff, ↓Nat.reduceLT, Nat.reduceAdd, Nat.reduceBEq, reduceCtorEq, rowAt_ptr, rowAtO_some, loadP_B, loadPB_t, loadPB_f]
      refine v_loopS (fun s : Nat × StS × Store => [(1, .int .u8 on), (7, .int .i64 n), (8, .ptr 0 0 0 0), (10, .int .i64 s.1)]) (fun s => .rows 26 2 [[.sl (encP s.2.1.ps), .sl (encD s.2.1.cs)]] 0 :: s.2.2)
        (fun s => s.1 ≤ 5 ∧ LiI n on s.2.1 s.1) (fun s => 5 - s.1) (0, fullS n c, []) (by simp [weaker, Go.PV.look]) rfl
        ⟨by omega, hok, by show (fullC _ _).length ≤ 3; rw [fullC_len]; omega, fun p hp => ⟨hfit.2.2 p hp, hsm p hp⟩, fun y hy => .inl (fullS_ids hcn hy)⟩ ?_
      clear hm hok hbig hsz hmr2 hmr hsm hfit
      rintro ⟨k, s, Y⟩ ⟨hk, hI⟩
      dsimp only at hk hI ⊢
      by_cases hk5 : k < 5
      · obtain ⟨i, hi⟩ : ∃ i, i = (k + on) % 5 := ⟨_, rfl⟩
        have hi5 : i < 5 := by rw [hi]; exact Nat.mod_lt _ (by omega)
        have e2 : ((k : Int) + (on : Int)).tmod 5 = (i : Int) := by
          rw [hi, ← Int.natCast_add, Int.tmod_eq_emod_of_nonneg (by omega)]; rfl
        have hxr := xv_row (n := n) hi5
        have hnew := hI.new (by omega) hk5
        rw [← hi] at hnew
        have hxb := (xv_new (n := n) hi5 0).2
        obtain ⟨x, hx⟩ : ∃ x, x = xv n i := ⟨_, rfl⟩
        rw [← hx] at hxr hnew hxb
        have hpo : OkPc (pc1 x 9) := pc1_ok (by unfold numd; omega) (by unfold cntd; omega)
        obtain ⟨q1, q2, q3, q4, q5, q6⟩ := add_new hI.ok hpo hnew
        have hadd : ∀ σ, PCall Try.prog 17 [stV s, .agg (pc1 x 9).row] σ (fun q τ => q = .tup [stV (leastS (mg s (oneS (pc1 x 9)))), .int .i64 0] ∧ τ = σ) := fun σ => by
          refine PCall.mono (add_on s (pc1 x 9) hI.fit (pc1_fit _ _) (fun p hp => (hI.f p hp).2) (pc1_sm _ _) 12 unionOk12 (by have := hI.c; omega) σ) ?_
          rintro q τ ⟨hq, rfl⟩
          rcases hq with ⟨h, _⟩ | ⟨_, h, _⟩ | ⟨_, _, m, hm, rfl⟩
          · exact absurd hI.ok h
          · exact absurd hpo h
          · rw [mg_of hI.ok.o (oneS_ok hpo).o hm]
            exact ⟨rfl, rfl⟩
        obtain ⟨r, hr⟩ : ∃ r, r = leastS (mg s (oneS (pc1 x 9))) := ⟨_, rfl⟩
        rw [← hr] at q1 q2 q3 q4 q5 q6 hadd
        have hpc := pc1_fit x 9
        have hps := pc1_sm x 9
        have hI2 : LiI n on r (k + 1) := by
          refine ⟨q1, Nat.le_trans (nodup_le _ _ (idlt_nodup q1.o.c) q4) hI.c, fun p hp => ?_, fun y hy => ?_⟩
          · rcases q2 p hp with h | rfl
            · exact hI.f p h
            · exact ⟨hpc, hps⟩
          · rcases q3 y hy with h | rfl
            · rcases hI.i y h with h | ⟨j, hj, h⟩
              · exact .inl h
              · exact .inr ⟨j, by omega, h⟩
            · exact .inr ⟨k, by omega, by rw [← hi, ← hx]; rfl⟩
        have hval := sval_on r hI2.fit
        rw [stB_t q1] at hval
        have hp1 := piece1_on x 9
        unfold stV at hadd hval
        have hsn := hI.ok.n
        have hrn := q1.n
        obtain ⟨d, hd⟩ : ∃ d, d = Y.length := ⟨_, rfl⟩
        simp -dsimp (maxSteps := 4000000) +contextual (disch := first | omega | decide +kernel) only [↓vsD, vsU, vsE, Bool.or_false, Bool.true_or, resW, fnRet, cond_true, cond_false, Nat.reduceShiftRight, Nat.reduceAnd, Go.PV.fits, Go.PV.mutOf, Go.PV.splice, Int.reduceToNat, Int.reduceEq, Int.reduceAdd, Int.reduceSub, Int.reduceMul, Int.reduceLE, Int.reduceLT, Int.reduceNeg, Nat.reduceMul, Nat.reduceLeDiff, ne_eq, if_true, if_false, reduceIte, Nat.reduceEqDiff, ↓Nat.reduceLT, Nat.reduceAdd, Nat.reduceBEq, reduceCtorEq, rowAt_ptr, rowAtO_some, loadP_B, loadPB_t, loadPB_f, e2, hxr]
        refine v_draws _ _ _ _ _ _ [2, 3, 7] [] [(0, 1), (0, 0), (0, 0), (0, 0), (2, 2), (2, 2), (2, 3), (0, 0), (3, 3)] (by decide +kernel) (by decide +kernel) (by decide +kernel) (by decide +kernel) ?_
        simp -dsimp (maxSteps := 4000000) +contextual (disch := first | omega | decide +kernel) only [↓vsD, vsU, vsE, Bool.or_false, Bool.true_or, resW, fnRet, cond_true, cond_false, Nat.reduceShiftRight, Nat.reduceAnd, Go.PV.fits, Go.PV.mutOf, Go.PV.splice, Int.reduceToNat, Int.reduceEq, Int.reduceAdd, Int.reduceSub, Int.reduceMul, Int.reduceLE, Int.reduceLT, Int.reduceNeg, Nat.reduceMul, Nat.reduceLeDiff, ne_eq, if_true, if_false, reduceIte, Nat.reduceEqDiff, ↓Nat.reduceLT, Nat.reduceAdd, Nat.reduceBEq, reduceCtorEq, vdx_none, vkp_go, ↓vd_end, place_nil, place_cons, vdo_eff, vdo_effA, ↓vdm_go, List.take_succ_cons, List.take_zero, List.drop_succ_cons, List.drop_zero, vdo_noeff_s, vdo_noeff_n, vdo_nofloat, vdo_noread, vdo_read, vdo_floatS, vdo_floatA, vde_s, vde_n, vde_c, vdx_s, vdr_s, vdr_b, vdf_m, vdf_p, ↓vd_op, ↓guard_none, ↓guard_some, gval_some, List.forall_mem_cons, List.not_mem_nil, false_implies, implies_true, List.length_append, List.length_replicate, List.replicate_zero, List.replicate_succ, List.contains_nil, List.contains_cons, Bool.or_false, Bool.false_or, Bool.or_self, Bool.or_true, Bool.true_or, vdr_o, vdq_eq, vdw_s, outR_v, rowsAt_none, mapAt_none, lnil, drop0, rowAt_ptr, rowAtO_some, loadP_B, loadPB_t, loadPB_f, n5, n6]
        refine ⟨_, _, hp1 _, by simp [outR, rowsAt], ?_⟩
        simp -dsimp (maxSteps := 4000000) +contextual (disch := first | omega | decide +kernel) only [↓vsD, vsU, vsE, Bool.or_false, Bool.true_or, resW, fnRet, cond_true, cond_false, Nat.reduceShiftRight, Nat.reduceAnd, Go.PV.fits, Go.PV.mutOf, Go.PV.splice, Int.reduceToNat, Int.reduceEq, Int.reduceAdd, Int.reduceSub, Int.reduceMul, Int.reduceLE, Int.reduceLT, Int.reduceNeg, Nat.reduceMul, Nat.reduceLeDiff, ne_eq, if_true, if_false, reduceIte, Nat.reduceEqDiff, ↓Nat.reduceLT, Nat.reduceAdd, Nat.reduceBEq, reduceCtorEq, vdx_none, vkp_go, ↓vd_end, place_nil, place_cons, vdo_eff, vdo_effA, ↓vdm_go, List.take_succ_cons, List.take_zero, List.drop_succ_cons, List.drop_zero, vdo_noeff_s, vdo_noeff_n, vdo_nofloat, vdo_noread, vdo_read, vdo_floatS, vdo_floatA, vde_s, vde_n, vde_c, vdx_s, vdr_s, vdr_b, vdf_m, vdf_p, ↓vd_op, ↓guard_none, ↓guard_some, gval_some, List.forall_mem_cons, List.not_mem_nil, false_implies, implies_true, List.length_append, List.length_replicate, List.replicate_zero, List.replicate_succ, List.contains_nil, List.contains_cons, Bool.or_false, Bool.false_or, Bool.or_self, Bool.or_true, Bool.true_or, vdr_o, vdq_eq, vdw_s, outR_v, rowsAt_none, mapAt_none, lnil, drop0, rowAt_ptr, rowAtO_some, loadP_B, loadPB_t, loadPB_f, n5, n6]
        refine ⟨_, _, hadd _, by simp [outR, rowsAt], ?_⟩
        simp -dsimp (maxSteps := 4000000) +contextual (disch := first | omega | decide +kernel) only [↓vsD, vsU, vsE, Bool.or_false, Bool.true_or, resW, fnRet, cond_true, cond_false, Nat.reduceShiftRight, Nat.reduceAnd, Go.PV.fits, Go.PV.mutOf, Go.PV.splice, Int.reduceToNat, Int.reduceEq, Int.reduceAdd, Int.reduceSub, Int.reduceMul, Int.reduceLE, Int.reduceLT, Int.reduceNeg, Nat.reduceMul, Nat.reduceLeDiff, ne_eq, if_true, if_false, reduceIte, Nat.reduceEqDiff, ↓Nat.reduceLT, Nat.reduceAdd, Nat.reduceBEq, reduceCtorEq, vdx_none, vkp_go, ↓vd_end, place_nil, place_cons, vdo_eff, vdo_effA, ↓vdm_go, List.take_succ_cons, List.take_zero, List.drop_succ_cons, List.drop_zero, vdo_noeff_s, vdo_noeff_n, vdo_nofloat, vdo_noread, vdo_read, vdo_floatS, vdo_floatA, vde_s, vde_n, vde_c, vdx_s, vdr_s, vdr_b, vdf_m, vdf_p, ↓vd_op, ↓guard_none, ↓guard_some, gval_some, List.forall_mem_cons, List.not_mem_nil, false_implies, implies_true, List.length_append, List.length_replicate, List.replicate_zero, List.replicate_succ, List.contains_nil, List.contains_cons, Bool.or_false, Bool.false_or, Bool.or_self, Bool.or_true, Bool.true_or, vdr_o, vdq_eq, vdw_s, outR_v, rowsAt_none, mapAt_none, lnil, drop0, rowAt_ptr, rowAtO_some, loadP_B, loadPB_t, loadPB_f, n7]
        refine PCall.mono (hval _) ?_
        rintro q τ ⟨rfl, rfl⟩
        obtain ⟨W, hW0⟩ : ∃ W, W = Y ++ [Go.PV.Obj.rows 26 2 [[.sl (encP s.ps), .sl (encD s.cs)]] 0] := ⟨_, rfl⟩
        obtain ⟨B, hB⟩ : ∃ B, B = Go.PV.Obj.rows 26 2 [[.sl (encP r.ps), .sl (encD r.cs)]] 0 := ⟨_, rfl⟩
        have hW : W[Y.length]? = some (.rows 26 2 [[.sl (encP s.ps), .sl (encD s.cs)]] 0) := by rw [hW0]; simp
        have hfinal : ∀ g, GrI (idl s) (s.ps.length + s.cs.length) g → ∀ b : Bool, (b = true ↔ ∃ j, j < r.ps.length ∧ (r.ps.getD j default).id.2.2 = x) → (b = true ↔ (s.ps.length + s.cs.length < 256 ∨ x < g)) := fun g hG b hb => by
          have hform : ∀ y ∈ idl r, ∃ v, y = (0, 0, v) := fun y hy => by
            rcases hI2.i y hy with ⟨j, _, h⟩ | ⟨j, _, h⟩ <;> exact ⟨_, h⟩
          have hform2 : ∀ y ∈ idl s, ∃ v, y = (0, 0, v) := fun y hy => by
            rcases hI.i y hy with ⟨j, _, h⟩ | ⟨j, _, h⟩ <;> exact ⟨_, h⟩
          have h1 : (∃ j, j < r.ps.length ∧ (r.ps.getD j default).id.2.2 = x) ↔ pc1 x 9 ∈ r.ps := by
            constructor
            · rintro ⟨j, hj, h⟩
              have hm : r.ps.getD j default ∈ r.ps := gtD hj
              rcases q2 _ hm with h2 | h2
              · exfalso
                have h3 := (idl_mem s _).2 (.inl ⟨_, h2, rfl⟩)
                obtain ⟨v, hv⟩ := hform2 _ h3
                rw [hv] at h h3
                dsimp only at h
                rw [h] at h3
                exact hnew h3
              · rw [← h2]; exact hm
            · intro h
              obtain ⟨j, hj, e⟩ := List.mem_iff_getElem.1 h
              exact ⟨j, hj, by rw [List.getD_eq_getElem?_getD, List.getElem?_eq_getElem hj, Option.getD_some, e]; rfl⟩
          rw [hb, h1, q6]
          refine or_congr Iff.rfl ⟨fun ⟨y, hy, hlt⟩ => ?_, fun h => ?_⟩
          · obtain ⟨v, rfl⟩ := hform2 y hy
            obtain ⟨j, hj, e⟩ := List.mem_iff_getElem.1 hy
            have := hG.a j (by rw [idl_length] at hj; exact hj)
            rw [List.getD_eq_getElem?_getD, List.getElem?_eq_getElem hj, Option.getD_some, e] at this
            dsimp only at this
            rcases hlt with h | ⟨_, h | ⟨_, h⟩⟩
            · exact absurd h (Int.lt_irrefl _)
            · exact absurd h (Int.lt_irrefl _)
            · exact Int.lt_of_lt_of_le h this
          · rcases hG.b with h2 | ⟨y, hy, h2⟩
            · omega
            · obtain ⟨v, rfl⟩ := hform2 y hy
              dsimp only at h2
              exact ⟨_, hy, .inr ⟨rfl, .inr ⟨rfl, by rw [h2]; exact h⟩⟩⟩
        rw [← hB, ← hW0]
        by_cases hroom : s.ps.length + s.cs.length < 256
        · rw [hB, hW0]
          simp -dsimp (maxSteps := 4000000) +contextual (disch := first | omega | decide +kernel) only [↓vsD, vsU, vsE, Bool.or_false, Bool.true_or, resW, fnRet, cond_true, cond_false, Nat.reduceShiftRight, Nat.reduceAnd, Go.PV.fits, Go.PV.mutOf, Go.PV.splice, Int.reduceToNat, Int.reduceEq, Int.reduceAdd, Int.reduceSub, Int.reduceMul, Int.reduceLE, Int.reduceLT, Int.reduceNeg, Nat.reduceMul, Nat.reduceLeDiff, ne_eq, if_true, if_false, reduceIte, Nat.reduceEqDiff, ↓Nat.reduceLT, Nat.reduceAdd, Nat.reduceBEq, reduceCtorEq, rowAt_ptr, rowAtO_some, loadP_B, loadPB_t, loadPB_f, gapp0, gappk, sapp0, sappk, gappn0, gappnk, sappn0, sappnk, encP_length, encD_length]
          refine v_loopS (fun s : Nat × Int => [(1, .int .u8 on), (7, .int .i64 n), (8, .ptr 0 0 0 0), (10, .int .i64 k), (11, .int .i64 x), (12, .ptr (Y.length + 1) 0 0 0), (13, .bool true), (14, .int .i64 s.2), (15, .int .i64 s.1)]) (fun _ => B :: W)
            (fun u => u.1 ≤ s.ps.length ∧ GrI (idl s) u.1 u.2) (fun u => s.ps.length - u.1) (0, -1) (by simp [weaker, Go.PV.look]) (by rw [hB, hW0]) ⟨Nat.zero_le _, fun j h => absurd h (Nat.not_lt_zero _), .inl rfl, Int.le_refl _⟩ ?_
          rintro ⟨i, g⟩ ⟨hi, hG⟩
          dsimp only at hi hG ⊢
          by_cases hil : i < s.ps.length
          · have hrow := encP_getD s.ps i hil
            have hst := hG.step (by rw [idl_length]; unfold sizeS; omega)
            rw [idl_L s hil] at hst
            generalize s.ps.getD i default = p at hrow hst
            rw [show max g p.id.2.2 = if g < p.id.2.2 then p.id.2.2 else g by split <;> omega] at hst
            simp -dsimp (maxSteps := 4000000) +contextual (disch := first | omega | decide +kernel) only [↓vsD, vsU, vsE, Bool.or_false, Bool.true_or, resW, fnRet, cond_true, cond_false, Nat.reduceShiftRight, Nat.reduceAnd, Go.PV.fits, Go.PV.mutOf, Go.PV.splice, Int.reduceToNat, Int.reduceEq, Int.reduceAdd, Int.reduceSub, Int.reduceMul, Int.reduceLE, Int.reduceLT, Int.reduceNeg, Nat.reduceMul, Nat.reduceLeDiff, ne_eq, if_true, if_false, reduceIte, Nat.reduceEqDiff, ↓Nat.reduceLT, Nat.reduceAdd, Nat.reduceBEq, reduceCtorEq, rowAt_ptr, rowAtO_some, loadP_B, loadPB_t, loadPB_f, hW, encP_length, encD_length, hrow]
            exact ⟨(i + 1, if g < p.id.2.2 then p.id.2.2 else g), (by (try dsimp only); omega), by simp [weaker, Go.PV.look], rfl, hil, hst⟩
          · obtain rfl : i = s.ps.length := by omega
            simp -dsimp (maxSteps := 4000000) +contextual (disch := first | omega | decide +kernel) only [↓vsD, vsU, vsE, Bool.or_false, Bool.true_or, resW, fnRet, cond_true, cond_false, Nat.reduceShiftRight, Nat.reduceAnd, Go.PV.fits, Go.PV.mutOf, Go.PV.splice, Int.reduceToNat, Int.reduceEq, Int.reduceAdd, Int.reduceSub, Int.reduceMul, Int.reduceLE, Int.reduceLT, Int.reduceNeg, Nat.reduceMul, Nat.reduceLeDiff, ne_eq, if_true, if_false, reduceIte, Nat.reduceEqDiff, ↓Nat.reduceLT, Nat.reduceAdd, Nat.reduceBEq, reduceCtorEq, rowAt_ptr, rowAtO_some, loadP_B, loadPB_t, loadPB_f, hW, encP_length, encD_length]
            refine v_loopS (fun s : Nat × Int => [(1, .int .u8 on), (7, .int .i64 n), (8, .ptr 0 0 0 0), (10, .int .i64 k), (11, .int .i64 x), (12, .ptr (Y.length + 1) 0 0 0), (13, .bool true), (14, .int .i64 s.2), (16, .int .i64 s.1)]) (fun _ => B :: W)
              (fun u => u.1 ≤ s.cs.length ∧ GrI (idl s) (s.ps.length + u.1) u.2) (fun u => s.cs.length - u.1) (0, g) (by simp [weaker, Go.PV.look]) rfl ⟨Nat.zero_le _, hG⟩ ?_
            clear hG hil hi
            rintro ⟨i, g⟩ ⟨hi, hG⟩
            dsimp only at hi hG ⊢
            by_cases hil : i < s.cs.length
            · have hrow := encD_getD s.cs i hil
              have hst := hG.step (by rw [idl_length]; unfold sizeS; omega)
              rw [idl_R s i] at hst
              generalize s.cs.getD i default = p at hrow hst
              rw [show max g p.2.2 = if g < p.2.2 then p.2.2 else g by split <;> omega] at hst
              simp -dsimp (maxSteps := 4000000) +contextual (disch := first | omega | decide +kernel) only [↓vsD, vsU, vsE, Bool.or_false, Bool.true_or, resW, fnRet, cond_true, cond_false, Nat.reduceShiftRight, Nat.reduceAnd, Go.PV.fits, Go.PV.mutOf, Go.PV.splice, Int.reduceToNat, Int.reduceEq, Int.reduceAdd, Int.reduceSub, Int.reduceMul, Int.reduceLE, Int.reduceLT, Int.reduceNeg, Nat.reduceMul, Nat.reduceLeDiff, ne_eq, if_true, if_false, reduceIte, Nat.reduceEqDiff, ↓Nat.reduceLT, Nat.reduceAdd, Nat.reduceBEq, reduceCtorEq, rowAt_ptr, rowAtO_some, loadP_B, loadPB_t, loadPB_f, hW, encP_length, encD_length, hrow]
              exact ⟨(i + 1, if g < p.2.2 then p.2.2 else g), (by (try dsimp only); omega), by simp [weaker, Go.PV.look], rfl, hil, hst⟩
            · obtain rfl : i = s.cs.length := by omega
              simp -dsimp (maxSteps := 4000000) +contextual (disch := first | omega | decide +kernel) only [↓vsD, vsU, vsE, Bool.or_false, Bool.true_or, resW, fnRet, cond_true, cond_false, Nat.reduceShiftRight, Nat.reduceAnd, Go.PV.fits, Go.PV.mutOf, Go.PV.splice, Int.reduceToNat, Int.reduceEq, Int.reduceAdd, Int.reduceSub, Int.reduceMul, Int.reduceLE, Int.reduceLT, Int.reduceNeg, Nat.reduceMul, Nat.reduceLeDiff, ne_eq, if_true, if_false, reduceIte, Nat.reduceEqDiff, ↓Nat.reduceLT, Nat.reduceAdd, Nat.reduceBEq, reduceCtorEq, rowAt_ptr, rowAtO_some, loadP_B, loadPB_t, loadPB_f, hW, encP_length, encD_length]
              refine v_loopS (fun s : Nat × Bool => [(1, .int .u8 on), (7, .int .i64 n), (8, .ptr 0 0 0 0), (10, .int .i64 k), (11, .int .i64 x), (12, .ptr (Y.length + 1) 0 0 0), (13, .bool true), (14, .int .i64 g), (17, .bool s.2), (18, .int .i64 s.1)]) (fun _ => B :: W)
                (fun u => u.1 ≤ r.ps.length ∧ (u.2 = true ↔ ∃ j, j < u.1 ∧ (r.ps.getD j default).id.2.2 = x)) (fun u => r.ps.length - u.1) (0, false) (by simp [weaker, Go.PV.look]) rfl ⟨Nat.zero_le _, fun h => by simp at h, fun ⟨j, h, _⟩ => absurd h (Nat.not_lt_zero _)⟩ ?_
              clear hil hi
              rintro ⟨i, b⟩ ⟨hi, hb⟩
              dsimp only at hi hb ⊢
              by_cases hil : i < r.ps.length
              · have hrow := encP_getD r.ps i hil
                have hnx : (∃ j, j < i + 1 ∧ (r.ps.getD j default).id.2.2 = x) ↔ ((∃ j, j < i ∧ (r.ps.getD j default).id.2.2 = x) ∨ (r.ps.getD i default).id.2.2 = x) := by
                  constructor
                  · rintro ⟨j, hj, h⟩
                    rcases Nat.lt_succ_iff_lt_or_eq.1 hj with hj | rfl
                    · exact .inl ⟨j, hj, h⟩
                    · exact .inr h
                  · rintro (⟨j, hj, h⟩ | h)
                    · exact ⟨j, by omega, h⟩
                    · exact ⟨i, by omega, h⟩
                generalize r.ps.getD i default = p at hrow hnx
                rw [hB]
                cases b with
                | true =>
                  simp -dsimp (maxSteps := 4000000) +contextual (disch := first | omega | decide +kernel) only [↓vsD, vsU, vsE, Bool.or_false, Bool.true_or, resW, fnRet, cond_true, cond_false, Nat.reduceShiftRight, Nat.reduceAnd, Go.PV.fits, Go.PV.mutOf, Go.PV.splice, Int.reduceToNat, Int.reduceEq, Int.reduceAdd, Int.reduceSub, Int.reduceMul, Int.reduceLE, Int.reduceLT, Int.reduceNeg, Nat.reduceMul, Nat.reduceLeDiff, ne_eq, if_true, if_false, reduceIte, Nat.reduceEqDiff, ↓Nat.reduceLT, Nat.reduceAdd, Nat.reduceBEq, reduceCtorEq, rowAt_ptr, rowAtO_some, loadP_B, loadPB_t, loadPB_f, encP_length, encD_length, hrow]
                  exact ⟨(i + 1, true), (by (try dsimp only); omega), by simp [weaker, Go.PV.look], rfl, hil, fun _ => hnx.2 (.inl (hb.1 rfl)), fun _ => rfl⟩
                | false =>
                  have hnb : ¬ ∃ j, j < i ∧ (r.ps.getD j default).id.2.2 = x := fun h => by have := hb.2 h; cases this
                  simp -dsimp (maxSteps := 4000000) +contextual (disch := first | omega | decide +kernel) only [↓vsD, vsU, vsE, Bool.or_false, Bool.true_or, resW, fnRet, cond_true, cond_false, Nat.reduceShiftRight, Nat.reduceAnd, Go.PV.fits, Go.PV.mutOf, Go.PV.splice, Int.reduceToNat, Int.reduceEq, Int.reduceAdd, Int.reduceSub, Int.reduceMul, Int.reduceLE, Int.reduceLT, Int.reduceNeg, Nat.reduceMul, Nat.reduceLeDiff, ne_eq, if_true, if_false, reduceIte, Nat.reduceEqDiff, ↓Nat.reduceLT, Nat.reduceAdd, Nat.reduceBEq, reduceCtorEq, rowAt_ptr, rowAtO_some, loadP_B, loadPB_t, loadPB_f, encP_length, encD_length, hrow]
                  exact ⟨fun h => ⟨(i + 1, true), (by (try dsimp only); omega), by simp [weaker, Go.PV.look], rfl, hil, fun _ => hnx.2 (.inr h), fun _ => rfl⟩, fun h => ⟨(i + 1, false), (by (try dsimp only); omega), by simp [weaker, Go.PV.look], rfl, hil, fun h2 => by simp at h2, fun h2 => by rcases hnx.1 h2 with h2 | h2; exact absurd h2 hnb; exact absurd h2 h⟩⟩
              · obtain rfl : i = r.ps.length := by omega
                have hkey := hfinal g hG b hb
                have e5 : ((r.ps.length : Int) + (r.cs.length : Int)) = if ((s.ps.length : Int) + (s.cs.length : Int) + 1) < 256 then ((s.ps.length : Int) + (s.cs.length : Int) + 1) else 256 := minE q5
                rw [hB]
                by_cases hxg : x < g
                · have hbt : b = true := hkey.2 (.inr hxg)
                  subst hbt
                  simp -dsimp (maxSteps := 4000000) +contextual (disch := first | omega | decide +kernel) only [↓vsD, vsU, vsE, Bool.or_false, Bool.true_or, resW, fnRet, cond_true, cond_false, Nat.reduceShiftRight, Nat.reduceAnd, Go.PV.fits, Go.PV.mutOf, Go.PV.splice, Int.reduceToNat, Int.reduceEq, Int.reduceAdd, Int.reduceSub, Int.reduceMul, Int.reduceLE, Int.reduceLT, Int.reduceNeg, Nat.reduceMul, Nat.reduceLeDiff, ne_eq, if_true, if_false, reduceIte, Nat.reduceEqDiff, ↓Nat.reduceLT, Nat.reduceAdd, Nat.reduceBEq, reduceCtorEq, rowAt_ptr, rowAtO_some, loadP_B, loadPB_t, loadPB_f, hW, encP_length, encD_length]
                  exact ⟨(k + 1, r, W), (by (try dsimp only); omega), by simp [weaker, Go.PV.look], rfl, by dsimp only; omega, hI2⟩
                · have hbt : b = true := by exact hkey.2 (.inl hroom)
                  subst hbt
                  simp -dsimp (maxSteps := 4000000) +contextual (disch := first | omega | decide +kernel) only [↓vsD, vsU, vsE, Bool.or_false, Bool.true_or, resW, fnRet, cond_true, cond_false, Nat.reduceShiftRight, Nat.reduceAnd, Go.PV.fits, Go.PV.mutOf, Go.PV.splice, Int.reduceToNat, Int.reduceEq, Int.reduceAdd, Int.reduceSub, Int.reduceMul, Int.reduceLE, Int.reduceLT, Int.reduceNeg, Nat.reduceMul, Nat.reduceLeDiff, ne_eq, if_true, if_false, reduceIte, Nat.reduceEqDiff, ↓Nat.reduceLT, Nat.reduceAdd, Nat.reduceBEq, reduceCtorEq, rowAt_ptr, rowAtO_some, loadP_B, loadPB_t, loadPB_f, hW, encP_length, encD_length]
                  exact ⟨(k + 1, r, W), (by (try dsimp only); omega), by simp [weaker, Go.PV.look], rfl, by dsimp only; omega, hI2⟩
        · rw [hB, hW0]
          simp -dsimp (maxSteps := 4000000) +contextual (disch := first | omega | decide +kernel) only [↓vsD, vsU, vsE, Bool.or_false, Bool.true_or, resW, fnRet, cond_true, cond_false, Nat.reduceShiftRight, Nat.reduceAnd, Go.PV.fits, Go.PV.mutOf, Go.PV.splice, Int.reduceToNat, Int.reduceEq, Int.reduceAdd, Int.reduceSub, Int.reduceMul, Int.reduceLE, Int.reduceLT, Int.reduceNeg, Nat.reduceMul, Nat.reduceLeDiff, ne_eq, if_true, if_false, reduceIte, Nat.reduceEqDiff, ↓Nat.reduceLT, Nat.reduceAdd, Nat.reduceBEq, reduceCtorEq, rowAt_ptr, rowAtO_some, loadP_B, loadPB_t, loadPB_f, gapp0, gappk, sapp0, sappk, gappn0, gappnk, sappn0, sappnk, encP_length, encD_length]
          refine v_loopS (fun s : Nat × Int => [(1, .int .u8 on), (7, .int .i64 n), (8, .ptr 0 0 0 0), (10, .int .i64 k), (11, .int .i64 x), (12, .ptr (Y.length + 1) 0 0 0), (13, .bool false), (14, .int .i64 s.2), (15, .int .i64 s.1)]) (fun _ => B :: W)
            (fun u => u.1 ≤ s.ps.length ∧ GrI (idl s) u.1 u.2) (fun u => s.ps.length - u.1) (0, -1) (by simp [weaker, Go.PV.look]) (by rw [hB, hW0]) ⟨Nat.zero_le _, fun j h => absurd h (Nat.not_lt_zero _), .inl rfl, Int.le_refl _⟩ ?_
          rintro ⟨i, g⟩ ⟨hi, hG⟩
          dsimp only at hi hG ⊢
          by_cases hil : i < s.ps.length
          · have hrow := encP_getD s.ps i hil
            have hst := hG.step (by rw [idl_length]; unfold sizeS; omega)
            rw [idl_L s hil] at hst
            generalize s.ps.getD i default = p at hrow hst
            rw [show max g p.id.2.2 = if g < p.id.2.2 then p.id.2.2 else g by split <;> omega] at hst
            simp -dsimp (maxSteps := 4000000) +contextual (disch := first | omega | decide +kernel) only [↓vsD, vsU, vsE, Bool.or_false, Bool.true_or, resW, fnRet, cond_true, cond_false, Nat.reduceShiftRight, Nat.reduceAnd, Go.PV.fits, Go.PV.mutOf, Go.PV.splice, Int.reduceToNat, Int.reduceEq, Int.reduceAdd, Int.reduceSub, Int.reduceMul, Int.reduceLE, Int.reduceLT, Int.reduceNeg, Nat.reduceMul, Nat.reduceLeDiff, ne_eq, if_true, if_false, reduceIte, Nat.reduceEqDiff, ↓Nat.reduceLT, Nat.reduceAdd, Nat.reduceBEq, reduceCtorEq, rowAt_ptr, rowAtO_some, loadP_B, loadPB_t, loadPB_f, hW, encP_length, encD_length, hrow]
            exact ⟨(i + 1, if g < p.id.2.2 then p.id.2.2 else g), (by (try dsimp only); omega), by simp [weaker, Go.PV.look], rfl, hil, hst⟩
          · obtain rfl : i = s.ps.length := by omega
            simp -dsimp (maxSteps := 4000000) +contextual (disch := first | omega | decide +kernel) only [↓vsD, vsU, vsE, Bool.or_false, Bool.true_or, resW, fnRet, cond_true, cond_false, Nat.reduceShiftRight, Nat.reduceAnd, Go.PV.fits, Go.PV.mutOf, Go.PV.splice, Int.reduceToNat, Int.reduceEq, Int.reduceAdd, Int.reduceSub, Int.reduceMul, Int.reduceLE, Int.reduceLT, Int.reduceNeg, Nat.reduceMul, Nat.reduceLeDiff, ne_eq, if_true, if_false, reduceIte, Nat.reduceEqDiff, ↓Nat.reduceLT, Nat.reduceAdd, Nat.reduceBEq, reduceCtorEq, rowAt_ptr, rowAtO_some, loadP_B, loadPB_t, loadPB_f, hW, encP_length, encD_length]
            refine v_loopS (fun s : Nat × Int => [(1, .int .u8 on), (7, .int .i64 n), (8, .ptr 0 0 0 0), (10, .int .i64 k), (11, .int .i64 x), (12, .ptr (Y.length + 1) 0 0 0), (13, .bool false), (14, .int .i64 s.2), (16, .int .i64 s.1)]) (fun _ => B :: W)
              (fun u => u.1 ≤ s.cs.length ∧ GrI (idl s) (s.ps.length + u.1) u.2) (fun u => s.cs.length - u.1) (0, g) (by simp [weaker, Go.PV.look]) rfl ⟨Nat.zero_le _, hG⟩ ?_
            clear hG hil hi
            rintro ⟨i, g⟩ ⟨hi, hG⟩
            dsimp only at hi hG ⊢
            by_cases hil : i < s.cs.length
            · have hrow := encD_getD s.cs i hil
              have hst := hG.step (by rw [idl_length]; unfold sizeS; omega)
              rw [idl_R s i] at hst
              generalize s.cs.getD i default = p at hrow hst
              rw [show max g p.2.2 = if g < p.2.2 then p.2.2 else g by split <;> omega] at hst
              simp -dsimp (maxSteps := 4000000) +contextual (disch := first | omega | decide +kernel) only [↓vsD, vsU, vsE, Bool.or_false, Bool.true_or, resW, fnRet, cond_true, cond_false, Nat.reduceShiftRight, Nat.reduceAnd, Go.PV.fits, Go.PV.mutOf, Go.PV.splice, Int.reduceToNat, Int.reduceEq, Int.reduceAdd, Int.reduceSub, Int.reduceMul, Int.reduceLE, Int.reduceLT, Int.reduceNeg, Nat.reduceMul, Nat.reduceLeDiff, ne_eq, if_true, if_false, reduceIte, Nat.reduceEqDiff, ↓Nat.reduceLT, Nat.reduceAdd, Nat.reduceBEq, reduceCtorEq, rowAt_ptr, rowAtO_some, loadP_B, loadPB_t, loadPB_f, hW, encP_length, encD_length, hrow]
              exact ⟨(i + 1, if g < p.2.2 then p.2.2 else g), (by (try dsimp only); omega), by simp [weaker, Go.PV.look], rfl, hil, hst⟩
            · obtain rfl : i = s.cs.length := by omega
              simp -dsimp (maxSteps := 4000000) +contextual (disch := first | omega | decide +kernel) only [↓vsD, vsU, vsE, Bool.or_false, Bool.true_or, resW, fnRet, cond_true, cond_false, Nat.reduceShiftRight, Nat.reduceAnd, Go.PV.fits, Go.PV.mutOf, Go.PV.splice, Int.reduceToNat, Int.reduceEq, Int.reduceAdd, Int.reduceSub, Int.reduceMul, Int.reduceLE, Int.reduceLT, Int.reduceNeg, Nat.reduceMul, Nat.reduceLeDiff, ne_eq, if_true, if_false, reduceIte, Nat.reduceEqDiff, ↓Nat.reduceLT, Nat.reduceAdd, Nat.reduceBEq, reduceCtorEq, rowAt_ptr, rowAtO_some, loadP_B, loadPB_t, loadPB_f, hW, encP_length, encD_length]
              refine v_loopS (fun s : Nat × Bool => [(1, .int .u8 on), (7, .int .i64 n), (8, .ptr 0 0 0 0), (10, .int .i64 k), (11, .int .i64 x), (12, .ptr (Y.length + 1) 0 0 0), (13, .bool false), (14, .int .i64 g), (17, .bool s.2), (18, .int .i64 s.1)]) (fun _ => B :: W)
                (fun u => u.1 ≤ r.ps.length ∧ (u.2 = true ↔ ∃ j, j < u.1 ∧ (r.ps.getD j default).id.2.2 = x)) (fun u => r.ps.length - u.1) (0, false) (by simp [weaker, Go.PV.look]) rfl ⟨Nat.zero_le _, fun h => by simp at h, fun ⟨j, h, _⟩ => absurd h (Nat.not_lt_zero _)⟩ ?_
              clear hil hi
              rintro ⟨i, b⟩ ⟨hi, hb⟩
              dsimp only at hi hb ⊢
              by_cases hil : i < r.ps.length
              · have hrow := encP_getD r.ps i hil
                have hnx : (∃ j, j < i + 1 ∧ (r.ps.getD j default).id.2.2 = x) ↔ ((∃ j, j < i ∧ (r.ps.getD j default).id.2.2 = x) ∨ (r.ps.getD i default).id.2.2 = x) := by
                  constructor
                  · rintro ⟨j, hj, h⟩
                    rcases Nat.lt_succ_iff_lt_or_eq.1 hj with hj | rfl
                    · exact .inl ⟨j, hj, h⟩
                    · exact .inr h
                  · rintro (⟨j, hj, h⟩ | h)
                    · exact ⟨j, by omega, h⟩
                    · exact ⟨i, by omega, h⟩
                generalize r.ps.getD i default = p at hrow hnx
                rw [hB]
                cases b with
                | true =>
                  simp -dsimp (maxSteps := 4000000) +contextual (disch := first | omega | decide +kernel) only [↓vsD, vsU, vsE, Bool.or_false, Bool.true_or, resW, fnRet, cond_true, cond_false, Nat.reduceShiftRight, Nat.reduceAnd, Go.PV.fits, Go.PV.mutOf, Go.PV.splice, Int.reduceToNat, Int.reduceEq, Int.reduceAdd, Int.reduceSub, Int.reduceMul, Int.reduceLE, Int.reduceLT, Int.reduceNeg, Nat.reduceMul, Nat.reduceLeDiff, ne_eq, if_true, if_false, reduceIte, Nat.reduceEqDiff, ↓Nat.reduceLT, Nat.reduceAdd, Nat.reduceBEq, reduceCtorEq, rowAt_ptr, rowAtO_some, loadP_B, loadPB_t, loadPB_f, encP_length, encD_length, hrow]
                  exact ⟨(i + 1, true), (by (try dsimp only); omega), by simp [weaker, Go.PV.look], rfl, hil, fun _ => hnx.2 (.inl (hb.1 rfl)), fun _ => rfl⟩
                | false =>
                  have hnb : ¬ ∃ j, j < i ∧ (r.ps.getD j default).id.2.2 = x := fun h => by have := hb.2 h; cases this
                  simp -dsimp (maxSteps := 4000000) +contextual (disch := first | omega | decide +kernel) only [↓vsD, vsU, vsE, Bool.or_false, Bool.true_or, resW, fnRet, cond_true, cond_false, Nat.reduceShiftRight, Nat.reduceAnd, Go.PV.fits, Go.PV.mutOf, Go.PV.splice, Int.reduceToNat, Int.reduceEq, Int.reduceAdd, Int.reduceSub, Int.reduceMul, Int.reduceLE, Int.reduceLT, Int.reduceNeg, Nat.reduceMul, Nat.reduceLeDiff, ne_eq, if_true, if_false, reduceIte, Nat.reduceEqDiff, ↓Nat.reduceLT, Nat.reduceAdd, Nat.reduceBEq, reduceCtorEq, rowAt_ptr, rowAtO_some, loadP_B, loadPB_t, loadPB_f, encP_length, encD_length, hrow]
                  exact ⟨fun h => ⟨(i + 1, true), (by (try dsimp only); omega), by simp [weaker, Go.PV.look], rfl, hil, fun _ => hnx.2 (.inr h), fun _ => rfl⟩, fun h => ⟨(i + 1, false), (by (try dsimp only); omega), by simp [weaker, Go.PV.look], rfl, hil, fun h2 => by simp at h2, fun h2 => by rcases hnx.1 h2 with h2 | h2; exact absurd h2 hnb; exact absurd h2 h⟩⟩
              · obtain rfl : i = r.ps.length := by omega
                have hkey := hfinal g hG b hb
                have e5 : ((r.ps.length : Int) + (r.cs.length : Int)) = if ((s.ps.length : Int) + (s.cs.length : Int) + 1) < 256 then ((s.ps.length : Int) + (s.cs.length : Int) + 1) else 256 := minE q5
                rw [hB]
                by_cases hxg : x < g
                · have hbt : b = true := hkey.2 (.inr hxg)
                  subst hbt
                  simp -dsimp (maxSteps := 4000000) +contextual (disch := first | omega | decide +kernel) only [↓vsD, vsU, vsE, Bool.or_false, Bool.true_or, resW, fnRet, cond_true, cond_false, Nat.reduceShiftRight, Nat.reduceAnd, Go.PV.fits, Go.PV.mutOf, Go.PV.splice, Int.reduceToNat, Int.reduceEq, Int.reduceAdd, Int.reduceSub, Int.reduceMul, Int.reduceLE, Int.reduceLT, Int.reduceNeg, Nat.reduceMul, Nat.reduceLeDiff, ne_eq, if_true, if_false, reduceIte, Nat.reduceEqDiff, ↓Nat.reduceLT, Nat.reduceAdd, Nat.reduceBEq, reduceCtorEq, rowAt_ptr, rowAtO_some, loadP_B, loadPB_t, loadPB_f, hW, encP_length, encD_length]
                  exact ⟨(k + 1, r, W), (by (try dsimp only); omega), by simp [weaker, Go.PV.look], rfl, by dsimp only; omega, hI2⟩
                · have hbt : b = false := by cases b with | true => exact absurd (hkey.1 rfl) (fun h => h.elim hroom hxg) | false => rfl
                  subst hbt
                  simp -dsimp (maxSteps := 4000000) +contextual (disch := first | omega | decide +kernel) only [↓vsD, vsU, vsE, Bool.or_false, Bool.true_or, resW, fnRet, cond_true, cond_false, Nat.reduceShiftRight, Nat.reduceAnd, Go.PV.fits, Go.PV.mutOf, Go.PV.splice, Int.reduceToNat, Int.reduceEq, Int.reduceAdd, Int.reduceSub, Int.reduceMul, Int.reduceLE, Int.reduceLT, Int.reduceNeg, Nat.reduceMul, Nat.reduceLeDiff, ne_eq, if_true, if_false, reduceIte, Nat.reduceEqDiff, ↓Nat.reduceLT, Nat.reduceAdd, Nat.reduceBEq, reduceCtorEq, rowAt_ptr, rowAtO_some, loadP_B, loadPB_t, loadPB_f, hW, encP_length, encD_length]
                  exact ⟨(k + 1, r, W), (by (try dsimp only); omega), by simp [weaker, Go.PV.look], rfl, by dsimp only; omega, hI2⟩
      · obtain rfl : k = 5 := by omega
        simp -dsimp (maxSteps := 4000000) +contextual (disch := first | omega | decide +kernel) only [↓vsD, vsU, vsE, Bool.or_false, Bool.true_or, resW, fnRet, cond_true, cond_false, Nat.reduceShiftRight, Nat.reduceAnd, Go.PV.fits, Go.PV.mutOf, Go.PV.splice, Int.reduceToNat, Int.reduceEq, Int.reduceAdd, Int.reduceSub, Int.reduceMul, Int.reduceLE, Int.reduceLT, Int.reduceNeg, Nat.reduceMul, Nat.reduceLeDiff, ne_eq, if_true, if_false, reduceIte, Nat.reduceEqDiff, ↓Nat.reduceLT, Nat.reduceAdd, Nat.reduceBEq, reduceCtorEq, rowAt_ptr, rowAtO_some, loadP_B, loadPB_t, loadPB_f]
        exact fin0 (.keep _ (bel_bool _ _)) rfl
end Go.Proofs.Ythjoehaglonjaaa
