/- Chapter 32, the walks: the sort of no targets. -/
import Derived.Test.YthginmfobikdgaaWtC
import Derived.Test.YthginmfobikdgaaSoA
set_option linter.unusedSimpArgs false
set_option linter.unusedVariables false
namespace Go.Proofs.Ythginmfobikdgaa
open Go.PV

theorem insT_nil (G : FuncId) (σ : Store) : PCall Try.prog 150 [.nils, .int .i64 0, .int .i64 0, .func (.func G) [] []] σ (fun p σ' => p = .tup [] ∧ σ' = σ) := by
  refine PCall.vraw [] 17179886591 53 [] (noE_ok _) mix Try.func150 rfl (by decide) rfl rfl (by simp) ?_
  simp -dsimp only [initFr, List.zipIdx_cons, List.zipIdx_nil, List.map_cons, List.map_nil, Nat.zero_add, Nat.reduceAdd]
  simp -dsimp (maxSteps := 4000000) +contextual (disch := first | omega | decide +kernel) only [↓vsD, vsU, resW, fnRet, cond_true, cond_false, Nat.reduceShiftRight, Nat.reduceAnd, Go.PV.fits, Go.PV.mutOf, Go.PV.splice, Int.reduceToNat, Int.reduceEq, Int.reduceAdd, Int.reduceSub, Int.reduceMul, Int.reduceLE, Int.reduceLT, Int.reduceNeg, Nat.reduceMul, Nat.reduceLeDiff, ne_eq, if_true, if_false, reduceIte, Nat.reduceEqDiff, ↓Nat.reduceLT, Nat.reduceAdd, Nat.reduceBEq, reduceCtorEq, enc_length, encs_length, tyU, tyC, tyB, tyA, tyI, tyZ, tyF, tyP, enc_getD, encs_getD, wrap_i64, enc_set, splice_one, set_last, bin_aeq2, bin_ane2]
  refine v_loopS (fun _ : Unit => [(2, .int .i64 0), (8, .int .i64 1)]) (fun _ => σ) (fun _ => True) (fun _ => 0) () (by simp [weaker, Go.PV.look]) rfl trivial ?_
  intro _ _
  simp -dsimp (maxSteps := 4000000) +contextual (disch := first | omega | decide +kernel) only [↓vsD, vsU, resW, fnRet, cond_true, cond_false, Nat.reduceShiftRight, Nat.reduceAnd, Go.PV.fits, Go.PV.mutOf, Go.PV.splice, Int.reduceToNat, Int.reduceEq, Int.reduceAdd, Int.reduceSub, Int.reduceMul, Int.reduceLE, Int.reduceLT, Int.reduceNeg, Nat.reduceMul, Nat.reduceLeDiff, ne_eq, if_true, if_false, reduceIte, Nat.reduceEqDiff, ↓Nat.reduceLT, Nat.reduceAdd, Nat.reduceBEq, reduceCtorEq, enc_length, encs_length, tyU, tyC, tyB, tyA, tyI, tyZ, tyF, tyP, enc_getD, encs_getD, wrap_i64, enc_set, splice_one, set_last, bin_aeq2, bin_ane2]
theorem pdqT_nil (G : FuncId) (r : Int) (σ : Store) : PCall Try.prog 129 [.nils, .int .i64 0, .int .i64 0, .int .i64 r, .func (.func G) [] []] σ (fun p σ' => p = .tup [] ∧ σ' = σ) := by
  refine PCall.vraw [] 42535296023574879666274036850519703551 148 [] (noE_ok _) mix Try.func129 rfl (by decide) rfl rfl (by simp) ?_
  simp -dsimp only [initFr, List.zipIdx_cons, List.zipIdx_nil, List.map_cons, List.map_nil, Nat.zero_add, Nat.reduceAdd]
  simp -dsimp (maxSteps := 4000000) +contextual (disch := first | omega | decide +kernel) only [↓vsD, vsU, resW, fnRet, cond_true, cond_false, Nat.reduceShiftRight, Nat.reduceAnd, Go.PV.fits, Go.PV.mutOf, Go.PV.splice, Int.reduceToNat, Int.reduceEq, Int.reduceAdd, Int.reduceSub, Int.reduceMul, Int.reduceLE, Int.reduceLT, Int.reduceNeg, Nat.reduceMul, Nat.reduceLeDiff, ne_eq, if_true, if_false, reduceIte, Nat.reduceEqDiff, ↓Nat.reduceLT, Nat.reduceAdd, Nat.reduceBEq, reduceCtorEq, enc_length, encs_length, tyU, tyC, tyB, tyA, tyI, tyZ, tyF, tyP, enc_getD, encs_getD, wrap_i64, enc_set, splice_one, set_last, bin_aeq2, bin_ane2]
  refine v_loopS (fun _ : Unit => [(0, .nils), (1, .int .i64 0), (2, .int .i64 0), (4, .func (.func G) [] [])]) (fun _ => σ) (fun _ => True) (fun _ => 0) () (by simp [weaker, Go.PV.look]) rfl trivial ?_
  intro _ _
  simp -dsimp (maxSteps := 4000000) +contextual (disch := first | omega | decide +kernel) only [↓vsD, vsU, resW, fnRet, cond_true, cond_false, Nat.reduceShiftRight, Nat.reduceAnd, Go.PV.fits, Go.PV.mutOf, Go.PV.splice, Int.reduceToNat, Int.reduceEq, Int.reduceAdd, Int.reduceSub, Int.reduceMul, Int.reduceLE, Int.reduceLT, Int.reduceNeg, Nat.reduceMul, Nat.reduceLeDiff, ne_eq, if_true, if_false, reduceIte, Nat.reduceEqDiff, ↓Nat.reduceLT, Nat.reduceAdd, Nat.reduceBEq, reduceCtorEq, enc_length, encs_length, tyU, tyC, tyB, tyA, tyI, tyZ, tyF, tyP, enc_getD, encs_getD, wrap_i64, enc_set, splice_one, set_last, bin_aeq2, bin_ane2]
  refine PCall.mono (insT_nil G σ) ?_
  rintro p σ' ⟨rfl, rfl⟩
  simp -dsimp (maxSteps := 4000000) +contextual (disch := first | omega | decide +kernel) only [↓vsD, vsU, resW, fnRet, cond_true, cond_false, Nat.reduceShiftRight, Nat.reduceAnd, Go.PV.fits, Go.PV.mutOf, Go.PV.splice, Int.reduceToNat, Int.reduceEq, Int.reduceAdd, Int.reduceSub, Int.reduceMul, Int.reduceLE, Int.reduceLT, Int.reduceNeg, Nat.reduceMul, Nat.reduceLeDiff, ne_eq, if_true, if_false, reduceIte, Nat.reduceEqDiff, ↓Nat.reduceLT, Nat.reduceAdd, Nat.reduceBEq, reduceCtorEq, enc_length, encs_length, tyU, tyC, tyB, tyA, tyI, tyZ, tyF, tyP, enc_getD, encs_getD, wrap_i64, enc_set, splice_one, set_last, bin_aeq2, bin_ane2]
theorem sortT_nil (G : FuncId) (σ : Store) : PCall Try.prog 120 [.nils, .func (.func G) [] []] σ (fun p σ' => p = .tup [] ∧ σ' = σ) := by
  refine PCall.vraw [] 31 14 [] (noE_ok _) mix Try.func120 rfl (by decide) rfl rfl (by simp) ?_
  simp -dsimp only [initFr, List.zipIdx_cons, List.zipIdx_nil, List.map_cons, List.map_nil, Nat.zero_add, Nat.reduceAdd]
  simp -dsimp (maxSteps := 4000000) +contextual (disch := first | omega | decide +kernel) only [↓vsD, vsU, resW, fnRet, cond_true, cond_false, Nat.reduceShiftRight, Nat.reduceAnd, Go.PV.fits, Go.PV.mutOf, Go.PV.splice, Int.reduceToNat, Int.reduceEq, Int.reduceAdd, Int.reduceSub, Int.reduceMul, Int.reduceLE, Int.reduceLT, Int.reduceNeg, Nat.reduceMul, Nat.reduceLeDiff, ne_eq, if_true, if_false, reduceIte, Nat.reduceEqDiff, ↓Nat.reduceLT, Nat.reduceAdd, Nat.reduceBEq, reduceCtorEq, enc_length, encs_length, tyU, tyC, tyB, tyA, tyI, tyZ, tyF, tyP, enc_getD, encs_getD, wrap_i64, enc_set, splice_one, set_last, bin_aeq2, bin_ane2, Go.IntWalk.u64_in]
  refine PCall.mono (blen_ok 0 (by omega) σ) ?_
  rintro p σ' ⟨⟨r, rfl⟩, rfl⟩
  simp -dsimp (maxSteps := 4000000) +contextual (disch := first | omega | decide +kernel) only [↓vsD, vsU, resW, fnRet, cond_true, cond_false, Nat.reduceShiftRight, Nat.reduceAnd, Go.PV.fits, Go.PV.mutOf, Go.PV.splice, Int.reduceToNat, Int.reduceEq, Int.reduceAdd, Int.reduceSub, Int.reduceMul, Int.reduceLE, Int.reduceLT, Int.reduceNeg, Nat.reduceMul, Nat.reduceLeDiff, ne_eq, if_true, if_false, reduceIte, Nat.reduceEqDiff, ↓Nat.reduceLT, Nat.reduceAdd, Nat.reduceBEq, reduceCtorEq, enc_length, encs_length, tyU, tyC, tyB, tyA, tyI, tyZ, tyF, tyP, enc_getD, encs_getD, wrap_i64, enc_set, splice_one, set_last, bin_aeq2, bin_ane2]
  refine PCall.mono (pdqT_nil G r σ') ?_
  rintro p σ' ⟨rfl, rfl⟩
  simp -dsimp (maxSteps := 4000000) +contextual (disch := first | omega | decide +kernel) only [↓vsD, vsU, resW, fnRet, cond_true, cond_false, Nat.reduceShiftRight, Nat.reduceAnd, Go.PV.fits, Go.PV.mutOf, Go.PV.splice, Int.reduceToNat, Int.reduceEq, Int.reduceAdd, Int.reduceSub, Int.reduceMul, Int.reduceLE, Int.reduceLT, Int.reduceNeg, Nat.reduceMul, Nat.reduceLeDiff, ne_eq, if_true, if_false, reduceIte, Nat.reduceEqDiff, ↓Nat.reduceLT, Nat.reduceAdd, Nat.reduceBEq, reduceCtorEq, enc_length, encs_length, tyU, tyC, tyB, tyA, tyI, tyZ, tyF, tyP, enc_getD, encs_getD, wrap_i64, enc_set, splice_one, set_last, bin_aeq2, bin_ane2]
theorem mixV_bel (k : Nat) (ws : List Int) (den : Int) (l : List FC) : Bel k (.agg (mixV ws den l)) := bel_agg (fun p hp => by
  simp only [mixV, List.mem_cons, List.not_mem_nil, or_false] at hp
  rcases hp with rfl | rfl | rfl
  · exact bel_ints _ _
  · exact bel_int _ _ _
  · exact bel_sl (encF_bel _ _))
/-! Sites, where there are none. -/
set_option maxHeartbeats 8000000 in
theorem sites_none (ws : List Int) (den : Int) (l : List FC) (hll : l.length < 2 ^ 40) (hn : ∀ x ∈ l, x.sites = []) (σ : Store) :
    PCall Try.prog 94 [.agg (mixV ws den l)] [] (fun p _ => p = .sl (encS [])) := by
  unfold mixV
  refine PCall.vfrz [] 83076752213570688585389525169340415 145 [.tmp 2] wk2_ok mix Try.func94 rfl (by decide) rfl rfl (by simp) ?_
  simp -dsimp only [initFr, List.zipIdx_cons, List.zipIdx_nil, List.map_cons, List.map_nil, Nat.zero_add, Nat.reduceAdd]
  simp -dsimp (maxSteps := 4000000) +contextual (disch := first | omega | decide +kernel) only [↓vsD, vsU, resW, fnRet, cond_true, cond_false, Nat.reduceShiftRight, Nat.reduceAnd, Go.PV.fits, Go.PV.mutOf, Go.PV.splice, Int.reduceToNat, Int.reduceEq, Int.reduceAdd, Int.reduceSub, Int.reduceMul, Int.reduceLE, Int.reduceLT, Int.reduceNeg, Nat.reduceMul, Nat.reduceLeDiff, ne_eq, if_true, if_false, reduceIte, Nat.reduceEqDiff, ↓Nat.reduceLT, Nat.reduceAdd, Nat.reduceBEq, reduceCtorEq, enc_length, encs_length, tyU, tyC, tyB, tyA, tyI, tyZ, tyF, tyP, enc_getD, encs_getD, wrap_i64, enc_set, splice_one, set_last, bin_aeq2, bin_ane2, wk1_aged, wk1_rage, wk1_counted, wk1_power, wk1_rpower, wk1_valid, wk1_rvalid, wk2_add, exAddO_sum, wk2_over, encF_length]
  refine v_loopS (fun s : Nat × Store => [(1, .ptr 0 0 0 0), (3, .map 1), (4, .nils), (20, .sl (encF l)), (21, .int .i64 l.length), (22, .int .i64 s.1)]) (fun s => .rows 127 3 [[.sl (ints ws), .int .i64 den, .sl (encF l)]] 0 :: .map [] :: s.2) (fun s => s.1 ≤ l.length) (fun s => l.length - s.1) (0, []) (by simp [weaker, Go.PV.look]) rfl (by simp) ?_
  rintro ⟨k, g⟩ hk
  dsimp only at hk ⊢
  by_cases hkl : k < l.length
  · obtain ⟨x, hx⟩ : ∃ x, x = l.getD k default := ⟨_, rfl⟩
    have hxm : x ∈ l := by rw [hx, List.getD_eq_getElem?_getD, List.getElem?_eq_getElem hkl]; simp
    have hxs : (encS x.sites).length = 0 := by rw [hn x hxm]; rfl
    simp -dsimp (maxSteps := 4000000) +contextual (disch := first | omega | decide +kernel) only [↓vsD, vsU, resW, fnRet, cond_true, cond_false, Nat.reduceShiftRight, Nat.reduceAnd, Go.PV.fits, Go.PV.mutOf, Go.PV.splice, Int.reduceToNat, Int.reduceEq, Int.reduceAdd, Int.reduceSub, Int.reduceMul, Int.reduceLE, Int.reduceLT, Int.reduceNeg, Nat.reduceMul, Nat.reduceLeDiff, ne_eq, if_true, if_false, reduceIte, Nat.reduceEqDiff, ↓Nat.reduceLT, Nat.reduceAdd, Nat.reduceBEq, reduceCtorEq, enc_length, encs_length, tyU, tyC, tyB, tyA, tyI, tyZ, tyF, tyP, enc_getD, encs_getD, wrap_i64, enc_set, splice_one, set_last, bin_aeq2, bin_ane2, wk1_aged, wk1_rage, wk1_counted, wk1_power, wk1_rpower, wk1_valid, wk1_rvalid, wk2_add, exAddO_sum, wk2_over, encF_length, encF_getD, ← hx, hxs]
    refine v_loopS (fun _ : Unit => [(1, .ptr 0 0 0 0), (3, .map 1), (4, .nils), (20, .sl (encF l)), (21, .int .i64 l.length), (22, .int .i64 k), (29, .int .i64 0), (30, .int .i64 0)]) (fun _ => .rows 127 3 [[.sl (ints ws), .int .i64 den, .sl (encF l)]] 0 :: .map [] :: (g ++ [.rows 60 4 [[.int .i64 x.ent, .sl (ints x.blocks), .sl (encT x.edges), .sl (encS x.sites)]] 0])) (fun _ => True) (fun _ => 0) () (by simp [weaker, Go.PV.look]) (by simp) trivial ?_
    intro _ _
    simp -dsimp (maxSteps := 4000000) +contextual (disch := first | omega | decide +kernel) only [↓vsD, vsU, resW, fnRet, cond_true, cond_false, Nat.reduceShiftRight, Nat.reduceAnd, Go.PV.fits, Go.PV.mutOf, Go.PV.splice, Int.reduceToNat, Int.reduceEq, Int.reduceAdd, Int.reduceSub, Int.reduceMul, Int.reduceLE, Int.reduceLT, Int.reduceNeg, Nat.reduceMul, Nat.reduceLeDiff, ne_eq, if_true, if_false, reduceIte, Nat.reduceEqDiff, ↓Nat.reduceLT, Nat.reduceAdd, Nat.reduceBEq, reduceCtorEq, enc_length, encs_length, tyU, tyC, tyB, tyA, tyI, tyZ, tyF, tyP, enc_getD, encs_getD, wrap_i64, enc_set, splice_one, set_last, bin_aeq2, bin_ane2, wk1_aged, wk1_rage, wk1_counted, wk1_power, wk1_rpower, wk1_valid, wk1_rvalid, wk2_add, exAddO_sum, wk2_over]
    exact ⟨(k + 1, _), (by (try dsimp only); omega), (by simp [weaker, Go.PV.look]), rfl, by dsimp only; omega⟩
  have hkk : k = l.length := by omega
  subst hkk
  simp -dsimp (maxSteps := 4000000) +contextual (disch := first | omega | decide +kernel) only [↓vsD, vsU, resW, fnRet, cond_true, cond_false, Nat.reduceShiftRight, Nat.reduceAnd, Go.PV.fits, Go.PV.mutOf, Go.PV.splice, Int.reduceToNat, Int.reduceEq, Int.reduceAdd, Int.reduceSub, Int.reduceMul, Int.reduceLE, Int.reduceLT, Int.reduceNeg, Nat.reduceMul, Nat.reduceLeDiff, ne_eq, if_true, if_false, reduceIte, Nat.reduceEqDiff, ↓Nat.reduceLT, Nat.reduceAdd, Nat.reduceBEq, reduceCtorEq, enc_length, encs_length, tyU, tyC, tyB, tyA, tyI, tyZ, tyF, tyP, enc_getD, encs_getD, wrap_i64, enc_set, splice_one, set_last, bin_aeq2, bin_ane2, wk1_aged, wk1_rage, wk1_counted, wk1_power, wk1_rpower, wk1_valid, wk1_rvalid, wk2_add, exAddO_sum, wk2_over, encF_length]
  refine PCall.mono (sortT_nil _ _) ?_
  rintro p σ' ⟨rfl, rfl⟩
  simp -dsimp (maxSteps := 4000000) +contextual (disch := first | omega | decide +kernel) only [↓vsD, vsU, resW, fnRet, cond_true, cond_false, Nat.reduceShiftRight, Nat.reduceAnd, Go.PV.fits, Go.PV.mutOf, Go.PV.splice, Int.reduceToNat, Int.reduceEq, Int.reduceAdd, Int.reduceSub, Int.reduceMul, Int.reduceLE, Int.reduceLT, Int.reduceNeg, Nat.reduceMul, Nat.reduceLeDiff, ne_eq, if_true, if_false, reduceIte, Nat.reduceEqDiff, ↓Nat.reduceLT, Nat.reduceAdd, Nat.reduceBEq, reduceCtorEq, enc_length, encs_length, tyU, tyC, tyB, tyA, tyI, tyZ, tyF, tyP, enc_getD, encs_getD, wrap_i64, enc_set, splice_one, set_last, bin_aeq2, bin_ane2, wk1_aged, wk1_rage, wk1_counted, wk1_power, wk1_rpower, wk1_valid, wk1_rvalid, wk2_add, exAddO_sum, wk2_over]
  refine v_loopS (fun _ : Unit => [(12, .nils), (77, .int .i64 0), (78, .int .i64 0)]) (fun _ => .rows 127 3 [[.sl (ints ws), .int .i64 den, .sl (encF l)]] 0 :: .map [] :: g) (fun _ => True) (fun _ => 0) () (by simp [weaker, Go.PV.look]) (by simp) trivial ?_
  intro _ _
  simp -dsimp (maxSteps := 4000000) +contextual (disch := first | omega | decide +kernel) only [↓vsD, vsU, resW, fnRet, cond_true, cond_false, Nat.reduceShiftRight, Nat.reduceAnd, Go.PV.fits, Go.PV.mutOf, Go.PV.splice, Int.reduceToNat, Int.reduceEq, Int.reduceAdd, Int.reduceSub, Int.reduceMul, Int.reduceLE, Int.reduceLT, Int.reduceNeg, Nat.reduceMul, Nat.reduceLeDiff, ne_eq, if_true, if_false, reduceIte, Nat.reduceEqDiff, ↓Nat.reduceLT, Nat.reduceAdd, Nat.reduceBEq, reduceCtorEq, enc_length, encs_length, tyU, tyC, tyB, tyA, tyI, tyZ, tyF, tyP, enc_getD, encs_getD, wrap_i64, enc_set, splice_one, set_last, bin_aeq2, bin_ane2, wk1_aged, wk1_rage, wk1_counted, wk1_power, wk1_rpower, wk1_valid, wk1_rvalid, wk2_add, exAddO_sum, wk2_over]
  exact fin0 .nils rfl
theorem sites_on (ws : List Int) (den : Int) (l : List FC) (hll : l.length < 2 ^ 40) (hn : ∀ x ∈ l, x.sites = []) (σ : Store) :
    PCall Try.prog 94 [.agg (mixV ws den l)] σ (fun p σ' => p = .sl (encS []) ∧ σ' = σ) :=
  PCall.lift (sites_none ws den l hll hn []) (by simp only [List.forall_mem_cons, List.not_mem_nil, false_implies, implies_true, and_true]; exact mixV_bel _ _ _ _) (fun p h => ⟨by rw [h]; exact bel_sites _ _, h, rfl⟩)

/-! The counts of a function. -/
def countsF (ws : List Int) (den : Int) (l : List FC) (S : List Site) : FC :=
  { ent := eachF FC.ent ws l den
    blocks := (List.range (l.getD 0 default).blocks.length).map fun b => eachF (fun x => x.blocks.getD b 0) ws l den
    edges := (List.range (l.getD 0 default).edges.length).map fun b => (eachF (fun x => edge x b 0) ws l den, eachF (fun x => edge x b 1) ws l den)
    sites := S }
/-- Counts in their ranges. -/
structure FC.Ok (x : FC) (nb ne : Nat) : Prop where
  ent : -1 ≤ x.ent ∧ x.ent ≤ 1099511627776
  blocks : ∀ n ∈ x.blocks, -1 ≤ n ∧ n ≤ 1099511627776
  edges : ∀ e ∈ x.edges, (-1 ≤ e.1 ∧ e.1 ≤ 1099511627776) ∧ (-1 ≤ e.2 ∧ e.2 ≤ 1099511627776)
  sites : ∀ s ∈ x.sites, ∀ t ∈ s.tg, 0 ≤ t.2 ∧ t.2 ≤ 1099511627776
  nb : x.blocks.length = nb
  ne : x.edges.length = ne
  few : x.sites.length < 2 ^ 30 ∧ ∀ s ∈ x.sites, s.tg.length < 2 ^ 30
theorem FC.Ok.block {x : FC} {nb ne : Nat} (h : x.Ok nb ne) {b : Nat} (hb : b < nb) : x.blocks.getD b 0 ≤ 1099511627776 := (h.blocks _ (getD_mem (by rw [h.nb]; exact hb))).2
theorem FC.Ok.edge {x : FC} {nb ne : Nat} (h : x.Ok nb ne) {b : Nat} (hb : b < ne) (w : Nat) : edge x b w ≤ 1099511627776 := by
  have hm : x.edges.getD b (0, 0) ∈ x.edges := by
    rw [List.getD_eq_getElem?_getD, List.getElem?_eq_getElem (by rw [h.ne]; exact hb)]; simp
  have := h.edges _ hm
  unfold Go.Proofs.Ythginmfobikdgaa.edge
  split
  · exact this.1.2
  · exact this.2.2

end Go.Proofs.Ythginmfobikdgaa
