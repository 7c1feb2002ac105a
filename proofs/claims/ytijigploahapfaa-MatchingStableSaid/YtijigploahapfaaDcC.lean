/- The dice: Prefer. -/
import Derived.Test.YtijigploahapfaaDcB
set_option linter.unusedSimpArgs false
namespace Go.Proofs.Ytijigploahapfaa
open Go.PV

/-- A list, where there are other objects. -/
theorem list_on {σ : Store} {K : PV → Store → Prop} (o : Nat) (l : List Int) (k n : Nat) (ho : σ[o]? = some (codes l k)) (hl : okInts .u8 l) (hll : l.length < 2 ^ 40) (hk : k ≤ l.length) (hn : n ≤ 256)
    (hK : ∀ li k', okList n li → k' ≤ l.length → K (.sl (ints li)) (σ.set o (codes l k'))) : PCall Try.prog 49 [.ptr o 0 0 0, .int .i64 n] σ K := by
  refine PCall.use_on [o] (list_ok l k n hl hll hk hn) (by simp) rfl (fun j o' hj => ?_) (fun X hX => ?_) (MvL.cons (.ptr 0 o 0 0 0 rfl) (MvL.cons (.keep _ (bel_int _ _ _)) (MvL.nil _))) ?_
  · match j with
    | 0 => simp at hj; rw [← hj]; exact ho
    | j + 1 => simp at hj
  · rw [List.mem_singleton] at hX
    rw [hX]; exact codes_bel _ _ _
  · rintro p σ2 ⟨li, k', h1, rfl, rfl, h2⟩
    refine ⟨bel_ints _ _, rfl, fun X hX => ?_, hK li k' h1 h2⟩
    rw [List.mem_singleton] at hX
    rw [hX]; exact codes_bel _ _ _
theorem encs_append (k : IntKind) (l : List (List Int)) (x : List Int) : encII k l ++ [[PV.sl (encI k x)]] = encII k (l ++ [x]) := by simp [encII]

def preferK (l : List Int) (most : Nat) (p : PV) (σ' : Store) : Prop :=
  ∃ rows cols k', okPrefs rows cols ∧ rows.length ≤ most ∧ cols.length ≤ most ∧ p = .tup [.sl (intss rows), .sl (intss cols)] ∧ σ' = [codes l k'] ∧ k' ≤ l.length

set_option maxHeartbeats 8000000 in
set_option maxRecDepth 20000 in
theorem prefer_ok (l : List Int) (k0 most : Nat) (hl : okInts .u8 l) (hll : l.length < 2 ^ 40) (hk0 : k0 ≤ l.length) (hmost : most ≤ 200) :
    PCall Try.prog 22 [.ptr 0 0 0 0, .int .i64 most] [codes l k0] (fun p σ' => preferK l most p σ') := by
  refine PCall.walk [] mix Try.func22 rfl (by decide) (by simp [Try.f22]) fun Q hQ => ?_
  simp only [Try.f22, List.toList_toArray] at hQ
  simp only [Try.f22, initFr, List.zipIdx_cons, List.zipIdx_nil, List.map_cons, List.map_nil, Nat.zero_add, Nat.reduceAdd]
  have hw : IntKind.i64.wrap ((most : Int) + 1) = (most : Int) + 1 := wrap_i64 _ (by omega) (by omega)
  obtain ⟨C, hC⟩ : ∃ C : Nat → Go.PV.Obj, C = codes l := ⟨_, rfl⟩
  rw [← hC]
  simp only [pk_nil, pk_skip, pk_seq, pk_block, pk_region, pk_cond, pk_exit, pk_endB, pk_again, pk_ret, pe_nil, pe_code, pe_again, pe_endB, po_nil, po_cons, pog_true, pog_false, por_val, por_call, pc_bool, Go.PV.guardP, Go.PV.fits, Go.PV.putF, Go.PV.setF, Go.PV.look, Go.PV.evO, Go.PV.ofVal, Go.PV.mutOf, List.contains_nil, List.contains_cons, evC, pickC, nilC, binC, intC, isShift, shiftC, strC, boolC, unC, convC, extC, fieldC, fieldAddrC, idxC, indexC, loadC, lenC, maxC, minC, allocC, boxC, storeC, makeC, sliceC, buildC, buildSliceC, appTC, appC, rowsC, callC, builtinC, Option.isSome_some, Int.reduceToNat, Int.reduceEq, Int.reduceAdd, Int.reduceSub, Int.reduceMul, List.getD_cons_zero, List.getD_cons_succ, Int.reduceLE, Int.reduceLT, Int.reduceNeg, Bool.and_self, Bool.true_and, Bool.and_true, Nat.reduceMul, Int.cast_ofNat_Int, decide_true, decide_false, beq_self_eq_true, Bool.true_beq, Bool.false_beq, Nat.le_refl, Nat.reduceLeDiff, List.length_cons, List.length_nil, ne_eq, not_false_eq_true, Nat.succ_ne_self, Nat.one_ne_zero, true_and, and_true, if_true, if_false, Bool.false_eq_true, reduceIte, Nat.reduceEqDiff, Nat.reduceLT, Nat.reduceAdd, Nat.reduceBEq, reduceCtorEq, Bool.not_true, Bool.not_false, Bool.true_eq_false, decide_eq_true_eq, Option.bind_some, Option.bind_none, List.toList_toArray, List.getElem?_toArray, List.getElem?_cons_zero, List.getElem?_cons_succ, List.map_cons, List.map_nil, Option.map_some, Option.map_none, hw]
  refine next_on 0 l k0 _ (by rw [hC]; rfl) hl hll hk0 (by omega) ?_
  have hr := nxt_lt hl k0 ((most : Int) + 1) (by omega)
  have hr2 := nxt_le hk0 ((most : Int) + 1)
  obtain ⟨r, hre⟩ : ∃ r, r = nxt l k0 ((most : Int) + 1) := ⟨_, rfl⟩
  rw [← hre] at hr hr2 ⊢
  obtain ⟨n, hn⟩ : ∃ n : Nat, r.1 = n := ⟨r.1.toNat, by omega⟩
  rw [← hC]
  simp only [hn, pk_nil, pk_skip, pk_seq, pk_block, pk_region, pk_cond, pk_exit, pk_endB, pk_again, pk_ret, pe_nil, pe_code, pe_again, pe_endB, po_nil, po_cons, pog_true, pog_false, por_val, por_call, pc_bool, Go.PV.guardP, Go.PV.fits, Go.PV.putF, Go.PV.setF, Go.PV.look, Go.PV.evO, Go.PV.ofVal, Go.PV.mutOf, List.contains_nil, List.contains_cons, evC, pickC, nilC, binC, intC, isShift, shiftC, strC, boolC, unC, convC, extC, fieldC, fieldAddrC, idxC, indexC, loadC, lenC, maxC, minC, allocC, boxC, storeC, makeC, sliceC, buildC, buildSliceC, appTC, appC, rowsC, callC, builtinC, Option.isSome_some, Int.reduceToNat, Int.reduceEq, Int.reduceAdd, Int.reduceSub, Int.reduceMul, List.getD_cons_zero, List.getD_cons_succ, Int.reduceLE, Int.reduceLT, Int.reduceNeg, Bool.and_self, Bool.true_and, Bool.and_true, Nat.reduceMul, Int.cast_ofNat_Int, decide_true, decide_false, beq_self_eq_true, Bool.true_beq, Bool.false_beq, Nat.le_refl, Nat.reduceLeDiff, List.length_cons, List.length_nil, ne_eq, not_false_eq_true, Nat.succ_ne_self, Nat.one_ne_zero, true_and, and_true, if_true, if_false, Bool.false_eq_true, reduceIte, Nat.reduceEqDiff, Nat.reduceLT, Nat.reduceAdd, Nat.reduceBEq, reduceCtorEq, Bool.not_true, Bool.not_false, Bool.true_eq_false, decide_eq_true_eq, Option.bind_some, Option.bind_none, List.toList_toArray, List.getElem?_toArray, List.getElem?_cons_zero, List.getElem?_cons_succ, List.map_cons, List.map_nil, Option.map_some, Option.map_none, hw, List.set_cons_zero]
  refine next_on 0 l r.2 _ (by rw [hC]; rfl) hl hll hr2 (by omega) ?_
  have hs := nxt_lt hl r.2 ((most : Int) + 1) (by omega)
  have hs2 := nxt_le hr2 ((most : Int) + 1)
  obtain ⟨s, hse⟩ : ∃ s, s = nxt l r.2 ((most : Int) + 1) := ⟨_, rfl⟩
  rw [← hse] at hs hs2 ⊢
  obtain ⟨m, hm⟩ : ∃ m : Nat, s.1 = m := ⟨s.1.toNat, by omega⟩
  rw [← hC]
  simp only [hm, pk_nil, pk_skip, pk_seq, pk_block, pk_region, pk_cond, pk_exit, pk_endB, pk_again, pk_ret, pe_nil, pe_code, pe_again, pe_endB, po_nil, po_cons, pog_true, pog_false, por_val, por_call, pc_bool, Go.PV.guardP, Go.PV.fits, Go.PV.putF, Go.PV.setF, Go.PV.look, Go.PV.evO, Go.PV.ofVal, Go.PV.mutOf, List.contains_nil, List.contains_cons, evC, pickC, nilC, binC, intC, isShift, shiftC, strC, boolC, unC, convC, extC, fieldC, fieldAddrC, idxC, indexC, loadC, lenC, maxC, minC, allocC, boxC, storeC, makeC, sliceC, buildC, buildSliceC, appTC, appC, rowsC, callC, builtinC, Option.isSome_some, Int.reduceToNat, Int.reduceEq, Int.reduceAdd, Int.reduceSub, Int.reduceMul, List.getD_cons_zero, List.getD_cons_succ, Int.reduceLE, Int.reduceLT, Int.reduceNeg, Bool.and_self, Bool.true_and, Bool.and_true, Nat.reduceMul, Int.cast_ofNat_Int, decide_true, decide_false, beq_self_eq_true, Bool.true_beq, Bool.false_beq, Nat.le_refl, Nat.reduceLeDiff, List.length_cons, List.length_nil, ne_eq, not_false_eq_true, Nat.succ_ne_self, Nat.one_ne_zero, true_and, and_true, if_true, if_false, Bool.false_eq_true, reduceIte, Nat.reduceEqDiff, Nat.reduceLT, Nat.reduceAdd, Nat.reduceBEq, reduceCtorEq, Bool.not_true, Bool.not_false, Bool.true_eq_false, decide_eq_true_eq, Option.bind_some, Option.bind_none, List.toList_toArray, List.getElem?_toArray, List.getElem?_cons_zero, List.getElem?_cons_succ, List.map_cons, List.map_nil, Option.map_some, Option.map_none, List.set_cons_zero]
  have hb1 : 24 ≤ maxBytes := by unfold maxBytes; omega
  have hm2 : 1 ≤ maxLen := by unfold maxLen; omega
  obtain ⟨S, hS⟩ : ∃ S : List (List Int) → PV → Store → Prop, S = fun a stk more => (a = [] ∧ stk = .nils ∧ more = []) ∨ ∃ v, stk = .msl 1 v ∧ more = [.rows 51 1 (intss a) v] := ⟨_, rfl⟩
  refine pk_loop _ _ _ _ (fun k fr σ' => ∃ (i k1 : Nat) (rs : List (List Int)) (stk : PV) (more : Store), k + i = n ∧ k1 ≤ l.length ∧ okSide m rs ∧ rs.length = i ∧ fr = [(0, .ptr 0 0 0 0), (4, stk), (5, .nils), (6, .int .i64 n), (7, .int .i64 m), (8, .int .i64 i)] ∧ σ' = C k1 :: more ∧ S rs stk more) n
    [(0, .ptr 0 0 0 0), (4, .nils), (5, .nils), (6, .int .i64 n), (7, .int .i64 m), (8, .int .i64 (0 : Nat))] (by simp [weaker, Go.PV.look]) ⟨0, s.2, [], .nils, [], by omega, hs2, fun _ h => by simp at h, rfl, rfl, rfl, by rw [hS]; exact .inl ⟨rfl, rfl, rfl⟩⟩ ?_
  rintro k fr σ' ⟨i, k1, rs, stk, more, hi, hk1, hrs, hrl, rfl, rfl, hrel⟩ R hR
  have hbi : (i + 1) * 24 ≤ maxBytes := by unfold maxBytes; omega
  have hmi : i + 1 ≤ maxLen := by unfold maxLen; omega
  by_cases hlt : i < n
  · have h1 : ((i : Int) < (n : Int)) := by omega
    simp only [h1, pk_nil, pk_skip, pk_seq, pk_block, pk_region, pk_cond, pk_exit, pk_endB, pk_again, pk_ret, pe_nil, pe_code, pe_again, pe_endB, po_nil, po_cons, pog_true, pog_false, por_val, por_call, pc_bool, Go.PV.guardP, Go.PV.fits, Go.PV.putF, Go.PV.setF, Go.PV.look, Go.PV.evO, Go.PV.ofVal, Go.PV.mutOf, List.contains_nil, List.contains_cons, evC, pickC, nilC, binC, intC, isShift, shiftC, strC, boolC, unC, convC, extC, fieldC, fieldAddrC, idxC, indexC, loadC, lenC, maxC, minC, allocC, boxC, storeC, makeC, sliceC, buildC, buildSliceC, appTC, appC, rowsC, callC, builtinC, Option.isSome_some, Int.reduceToNat, Int.reduceEq, Int.reduceAdd, Int.reduceSub, Int.reduceMul, List.getD_cons_zero, List.getD_cons_succ, Int.reduceLE, Int.reduceLT, Int.reduceNeg, Bool.and_self, Bool.true_and, Bool.and_true, Nat.reduceMul, Int.cast_ofNat_Int, decide_true, decide_false, beq_self_eq_true, Bool.true_beq, Bool.false_beq, Nat.le_refl, Nat.reduceLeDiff, List.length_cons, List.length_nil, ne_eq, not_false_eq_true, Nat.succ_ne_self, Nat.one_ne_zero, true_and, and_true, if_true, if_false, Bool.false_eq_true, reduceIte, Nat.reduceEqDiff, Nat.reduceLT, Nat.reduceAdd, Nat.reduceBEq, reduceCtorEq, Bool.not_true, Bool.not_false, Bool.true_eq_false, decide_eq_true_eq, Option.bind_some, Option.bind_none, List.toList_toArray, List.getElem?_toArray, List.getElem?_cons_zero, List.getElem?_cons_succ, List.map_cons, List.map_nil, Option.map_some, Option.map_none]
    refine list_on 0 l k1 m (by rw [hC]; rfl) hl hll hk1 (by omega) (fun li k2 hli hk2 => ?_)
    rw [← hC]
    have hnew : okSide m (rs ++ [li]) := fun x hx => by
      rcases List.mem_append.1 hx with h | h
      · exact hrs x h
      · rw [List.mem_singleton] at h; rw [h]; exact hli
    rw [hS] at hrel
    rcases hrel with ⟨ha, rfl, rfl⟩ | ⟨v, rfl, rfl⟩
    · simp only [h1, pk_nil, pk_skip, pk_seq, pk_block, pk_region, pk_cond, pk_exit, pk_endB, pk_again, pk_ret, pe_nil, pe_code, pe_again, pe_endB, po_nil, po_cons, pog_true, pog_false, por_val, por_call, pc_bool, Go.PV.guardP, Go.PV.fits, Go.PV.putF, Go.PV.setF, Go.PV.look, Go.PV.evO, Go.PV.ofVal, Go.PV.mutOf, List.contains_nil, List.contains_cons, evC, pickC, nilC, binC, intC, isShift, shiftC, strC, boolC, unC, convC, extC, fieldC, fieldAddrC, idxC, indexC, loadC, lenC, maxC, minC, allocC, boxC, storeC, makeC, sliceC, buildC, buildSliceC, appTC, appC, rowsC, callC, builtinC, Option.isSome_some, Int.reduceToNat, Int.reduceEq, Int.reduceAdd, Int.reduceSub, Int.reduceMul, List.getD_cons_zero, List.getD_cons_succ, Int.reduceLE, Int.reduceLT, Int.reduceNeg, Bool.and_self, Bool.true_and, Bool.and_true, Nat.reduceMul, Int.cast_ofNat_Int, decide_true, decide_false, beq_self_eq_true, Bool.true_beq, Bool.false_beq, Nat.le_refl, Nat.reduceLeDiff, List.length_cons, List.length_nil, ne_eq, not_false_eq_true, Nat.succ_ne_self, Nat.one_ne_zero, true_and, and_true, if_true, if_false, Bool.false_eq_true, reduceIte, Nat.reduceEqDiff, Nat.reduceLT, Nat.reduceAdd, Nat.reduceBEq, reduceCtorEq, Bool.not_true, Bool.not_false, Bool.true_eq_false, decide_eq_true_eq, Option.bind_some, Option.bind_none, List.toList_toArray, List.getElem?_toArray, List.getElem?_cons_zero, List.getElem?_cons_succ, List.map_cons, List.map_nil, Option.map_some, Option.map_none, u_intss, z_ints, c_ints, b_ints, rowsP, cellsV, PV.cell, newsOk, List.all_cons, List.all_nil, wrap_succ i (by omega), hb1, hm2, List.set_cons_zero]
      refine hR _ _ (k - 1) [(0, .ptr 0 0 0 0), (4, .msl 1 0), (5, .nils), (6, .int .i64 n), (7, .int .i64 m), (8, .int .i64 ((i + 1 : Nat) : Int))] (by omega) (by simp [weaker, Go.PV.look]) ⟨i + 1, k2, rs ++ [li], _, _, by omega, hk2, hnew, by simp [hrl], rfl, rfl, ?_⟩
      rw [hS]
      refine .inr ⟨0, rfl, ?_⟩
      rw [ha]; rfl
    · simp only [h1, pk_nil, pk_skip, pk_seq, pk_block, pk_region, pk_cond, pk_exit, pk_endB, pk_again, pk_ret, pe_nil, pe_code, pe_again, pe_endB, po_nil, po_cons, pog_true, pog_false, por_val, por_call, pc_bool, Go.PV.guardP, Go.PV.fits, Go.PV.putF, Go.PV.setF, Go.PV.look, Go.PV.evO, Go.PV.ofVal, Go.PV.mutOf, List.contains_nil, List.contains_cons, evC, pickC, nilC, binC, intC, isShift, shiftC, strC, boolC, unC, convC, extC, fieldC, fieldAddrC, idxC, indexC, loadC, lenC, maxC, minC, allocC, boxC, storeC, makeC, sliceC, buildC, buildSliceC, appTC, appC, rowsC, callC, builtinC, Option.isSome_some, Int.reduceToNat, Int.reduceEq, Int.reduceAdd, Int.reduceSub, Int.reduceMul, List.getD_cons_zero, List.getD_cons_succ, Int.reduceLE, Int.reduceLT, Int.reduceNeg, Bool.and_self, Bool.true_and, Bool.and_true, Nat.reduceMul, Int.cast_ofNat_Int, decide_true, decide_false, beq_self_eq_true, Bool.true_beq, Bool.false_beq, Nat.le_refl, Nat.reduceLeDiff, List.length_cons, List.length_nil, ne_eq, not_false_eq_true, Nat.succ_ne_self, Nat.one_ne_zero, true_and, and_true, if_true, if_false, Bool.false_eq_true, reduceIte, Nat.reduceEqDiff, Nat.reduceLT, Nat.reduceAdd, Nat.reduceBEq, reduceCtorEq, Bool.not_true, Bool.not_false, Bool.true_eq_false, decide_eq_true_eq, Option.bind_some, Option.bind_none, List.toList_toArray, List.getElem?_toArray, List.getElem?_cons_zero, List.getElem?_cons_succ, List.map_cons, List.map_nil, Option.map_some, Option.map_none, u_intss, z_ints, c_ints, b_ints, rowsP, cellsV, PV.cell, newsOk, List.all_cons, List.all_nil, wrap_succ i (by omega), encs_length, hrl, hbi, hmi, List.set_cons_zero, List.set_cons_succ]
      refine hR _ _ (k - 1) [(0, .ptr 0 0 0 0), (4, .msl 1 (v + 1)), (5, .nils), (6, .int .i64 n), (7, .int .i64 m), (8, .int .i64 ((i + 1 : Nat) : Int))] (by omega) (by simp [weaker, Go.PV.look]) ⟨i + 1, k2, rs ++ [li], _, _, by omega, hk2, hnew, by simp [hrl], rfl, rfl, ?_⟩
      rw [hS]
      refine .inr ⟨v + 1, rfl, ?_⟩
      simp only [intss, ints, encs_append]
  have h1 : ¬ ((i : Int) < (n : Int)) := by omega
  have hin : i = n := by omega
  rw [hin] at hrl
  simp only [h1, pk_nil, pk_skip, pk_seq, pk_block, pk_region, pk_cond, pk_exit, pk_endB, pk_again, pk_ret, pe_nil, pe_code, pe_again, pe_endB, po_nil, po_cons, pog_true, pog_false, por_val, por_call, pc_bool, Go.PV.guardP, Go.PV.fits, Go.PV.putF, Go.PV.setF, Go.PV.look, Go.PV.evO, Go.PV.ofVal, Go.PV.mutOf, List.contains_nil, List.contains_cons, evC, pickC, nilC, binC, intC, isShift, shiftC, strC, boolC, unC, convC, extC, fieldC, fieldAddrC, idxC, indexC, loadC, lenC, maxC, minC, allocC, boxC, storeC, makeC, sliceC, buildC, buildSliceC, appTC, appC, rowsC, callC, builtinC, Option.isSome_some, Int.reduceToNat, Int.reduceEq, Int.reduceAdd, Int.reduceSub, Int.reduceMul, List.getD_cons_zero, List.getD_cons_succ, Int.reduceLE, Int.reduceLT, Int.reduceNeg, Bool.and_self, Bool.true_and, Bool.and_true, Nat.reduceMul, Int.cast_ofNat_Int, decide_true, decide_false, beq_self_eq_true, Bool.true_beq, Bool.false_beq, Nat.le_refl, Nat.reduceLeDiff, List.length_cons, List.length_nil, ne_eq, not_false_eq_true, Nat.succ_ne_self, Nat.one_ne_zero, true_and, and_true, if_true, if_false, Bool.false_eq_true, reduceIte, Nat.reduceEqDiff, Nat.reduceLT, Nat.reduceAdd, Nat.reduceBEq, reduceCtorEq, Bool.not_true, Bool.not_false, Bool.true_eq_false, decide_eq_true_eq, Option.bind_some, Option.bind_none, List.toList_toArray, List.getElem?_toArray, List.getElem?_cons_zero, List.getElem?_cons_succ, List.map_cons, List.map_nil, Option.map_some, Option.map_none]
  clear hR R
  obtain ⟨T, hT⟩ : ∃ T : List (List Int) → PV → Store → Prop, T = fun a stk2 more2 => (a = [] ∧ stk2 = .nils ∧ more2 = more) ∨ ∃ v, stk2 = .msl (more.length + 1) v ∧ more2 = more ++ [.rows 51 1 (intss a) v] := ⟨_, rfl⟩
  refine pk_loop _ _ _ _ (fun k fr σ' => ∃ (j k1 : Nat) (cs : List (List Int)) (stk2 : PV) (more2 : Store), k + j = m ∧ k1 ≤ l.length ∧ okSide n cs ∧ cs.length = j ∧ fr = [(0, .ptr 0 0 0 0), (4, stk), (5, stk2), (6, .int .i64 n), (7, .int .i64 m), (9, .int .i64 j)] ∧ σ' = C k1 :: more2 ∧ T cs stk2 more2) m
    [(0, .ptr 0 0 0 0), (4, stk), (5, .nils), (6, .int .i64 n), (7, .int .i64 m), (9, .int .i64 (0 : Nat))] (by simp [weaker, Go.PV.look]) ⟨0, k1, [], .nils, more, by omega, hk1, fun _ h => by simp at h, rfl, rfl, rfl, by rw [hT]; exact .inl ⟨rfl, rfl, rfl⟩⟩ ?_
  clear hk1 k1 hbi hmi h1
  rintro k fr σ' ⟨j, k1, cs, stk2, more2, hj, hk1, hcs, hcl, rfl, rfl, hrel2⟩ R hR
  have hbj : (j + 1) * 24 ≤ maxBytes := by unfold maxBytes; omega
  have hmj : j + 1 ≤ maxLen := by unfold maxLen; omega
  by_cases hlt : j < m
  · have h1 : ((j : Int) < (m : Int)) := by omega
    simp only [h1, pk_nil, pk_skip, pk_seq, pk_block, pk_region, pk_cond, pk_exit, pk_endB, pk_again, pk_ret, pe_nil, pe_code, pe_again, pe_endB, po_nil, po_cons, pog_true, pog_false, por_val, por_call, pc_bool, Go.PV.guardP, Go.PV.fits, Go.PV.putF, Go.PV.setF, Go.PV.look, Go.PV.evO, Go.PV.ofVal, Go.PV.mutOf, List.contains_nil, List.contains_cons, evC, pickC, nilC, binC, intC, isShift, shiftC, strC, boolC, unC, convC, extC, fieldC, fieldAddrC, idxC, indexC, loadC, lenC, maxC, minC, allocC, boxC, storeC, makeC, sliceC, buildC, buildSliceC, appTC, appC, rowsC, callC, builtinC, Option.isSome_some, Int.reduceToNat, Int.reduceEq, Int.reduceAdd, Int.reduceSub, Int.reduceMul, List.getD_cons_zero, List.getD_cons_succ, Int.reduceLE, Int.reduceLT, Int.reduceNeg, Bool.and_self, Bool.true_and, Bool.and_true, Nat.reduceMul, Int.cast_ofNat_Int, decide_true, decide_false, beq_self_eq_true, Bool.true_beq, Bool.false_beq, Nat.le_refl, Nat.reduceLeDiff, List.length_cons, List.length_nil, ne_eq, not_false_eq_true, Nat.succ_ne_self, Nat.one_ne_zero, true_and, and_true, if_true, if_false, Bool.false_eq_true, reduceIte, Nat.reduceEqDiff, Nat.reduceLT, Nat.reduceAdd, Nat.reduceBEq, reduceCtorEq, Bool.not_true, Bool.not_false, Bool.true_eq_false, decide_eq_true_eq, Option.bind_some, Option.bind_none, List.toList_toArray, List.getElem?_toArray, List.getElem?_cons_zero, List.getElem?_cons_succ, List.map_cons, List.map_nil, Option.map_some, Option.map_none]
    refine list_on 0 l k1 n (by rw [hC]; rfl) hl hll hk1 (by omega) (fun li k2 hli hk2 => ?_)
    rw [← hC]
    have hnew : okSide n (cs ++ [li]) := fun x hx => by
      rcases List.mem_append.1 hx with h | h
      · exact hcs x h
      · rw [List.mem_singleton] at h; rw [h]; exact hli
    rw [hT] at hrel2
    rcases hrel2 with ⟨ha, rfl, rfl⟩ | ⟨v, rfl, rfl⟩
    · simp only [h1, pk_nil, pk_skip, pk_seq, pk_block, pk_region, pk_cond, pk_exit, pk_endB, pk_again, pk_ret, pe_nil, pe_code, pe_again, pe_endB, po_nil, po_cons, pog_true, pog_false, por_val, por_call, pc_bool, Go.PV.guardP, Go.PV.fits, Go.PV.putF, Go.PV.setF, Go.PV.look, Go.PV.evO, Go.PV.ofVal, Go.PV.mutOf, List.contains_nil, List.contains_cons, evC, pickC, nilC, binC, intC, isShift, shiftC, strC, boolC, unC, convC, extC, fieldC, fieldAddrC, idxC, indexC, loadC, lenC, maxC, minC, allocC, boxC, storeC, makeC, sliceC, buildC, buildSliceC, appTC, appC, rowsC, callC, builtinC, Option.isSome_some, Int.reduceToNat, Int.reduceEq, Int.reduceAdd, Int.reduceSub, Int.reduceMul, List.getD_cons_zero, List.getD_cons_succ, Int.reduceLE, Int.reduceLT, Int.reduceNeg, Bool.and_self, Bool.true_and, Bool.and_true, Nat.reduceMul, Int.cast_ofNat_Int, decide_true, decide_false, beq_self_eq_true, Bool.true_beq, Bool.false_beq, Nat.le_refl, Nat.reduceLeDiff, List.length_cons, List.length_nil, ne_eq, not_false_eq_true, Nat.succ_ne_self, Nat.one_ne_zero, true_and, and_true, if_true, if_false, Bool.false_eq_true, reduceIte, Nat.reduceEqDiff, Nat.reduceLT, Nat.reduceAdd, Nat.reduceBEq, reduceCtorEq, Bool.not_true, Bool.not_false, Bool.true_eq_false, decide_eq_true_eq, Option.bind_some, Option.bind_none, List.toList_toArray, List.getElem?_toArray, List.getElem?_cons_zero, List.getElem?_cons_succ, List.map_cons, List.map_nil, Option.map_some, Option.map_none, u_intss, z_ints, c_ints, b_ints, rowsP, cellsV, PV.cell, newsOk, List.all_cons, List.all_nil, wrap_succ j (by omega), hb1, hm2, List.set_cons_zero, List.cons_append]
      refine hR _ _ (k - 1) [(0, .ptr 0 0 0 0), (4, stk), (5, .msl (more2.length + 1) 0), (6, .int .i64 n), (7, .int .i64 m), (9, .int .i64 ((j + 1 : Nat) : Int))] (by omega) (by simp [weaker, Go.PV.look]) ⟨j + 1, k2, cs ++ [li], _, _, by omega, hk2, hnew, by simp [hcl], rfl, rfl, ?_⟩
      rw [hT]
      refine .inr ⟨0, rfl, ?_⟩
      rw [ha]; rfl
    · simp only [h1, pk_nil, pk_skip, pk_seq, pk_block, pk_region, pk_cond, pk_exit, pk_endB, pk_again, pk_ret, pe_nil, pe_code, pe_again, pe_endB, po_nil, po_cons, pog_true, pog_false, por_val, por_call, pc_bool, Go.PV.guardP, Go.PV.fits, Go.PV.putF, Go.PV.setF, Go.PV.look, Go.PV.evO, Go.PV.ofVal, Go.PV.mutOf, List.contains_nil, List.contains_cons, evC, pickC, nilC, binC, intC, isShift, shiftC, strC, boolC, unC, convC, extC, fieldC, fieldAddrC, idxC, indexC, loadC, lenC, maxC, minC, allocC, boxC, storeC, makeC, sliceC, buildC, buildSliceC, appTC, appC, rowsC, callC, builtinC, Option.isSome_some, Int.reduceToNat, Int.reduceEq, Int.reduceAdd, Int.reduceSub, Int.reduceMul, List.getD_cons_zero, List.getD_cons_succ, Int.reduceLE, Int.reduceLT, Int.reduceNeg, Bool.and_self, Bool.true_and, Bool.and_true, Nat.reduceMul, Int.cast_ofNat_Int, decide_true, decide_false, beq_self_eq_true, Bool.true_beq, Bool.false_beq, Nat.le_refl, Nat.reduceLeDiff, List.length_cons, List.length_nil, ne_eq, not_false_eq_true, Nat.succ_ne_self, Nat.one_ne_zero, true_and, and_true, if_true, if_false, Bool.false_eq_true, reduceIte, Nat.reduceEqDiff, Nat.reduceLT, Nat.reduceAdd, Nat.reduceBEq, reduceCtorEq, Bool.not_true, Bool.not_false, Bool.true_eq_false, decide_eq_true_eq, Option.bind_some, Option.bind_none, List.toList_toArray, List.getElem?_toArray, List.getElem?_cons_zero, List.getElem?_cons_succ, List.map_cons, List.map_nil, Option.map_some, Option.map_none, u_intss, z_ints, c_ints, b_ints, rowsP, cellsV, PV.cell, newsOk, List.all_cons, List.all_nil, wrap_succ j (by omega), encs_length, hcl, hbj, hmj, List.set_cons_zero, List.set_cons_succ, List.getElem?_cons_succ, List.getElem?_concat_length, set_last]
      refine hR _ _ (k - 1) [(0, .ptr 0 0 0 0), (4, stk), (5, .msl (more.length + 1) (v + 1)), (6, .int .i64 n), (7, .int .i64 m), (9, .int .i64 ((j + 1 : Nat) : Int))] (by omega) (by simp [weaker, Go.PV.look]) ⟨j + 1, k2, cs ++ [li], _, _, by omega, hk2, hnew, by simp [hcl], rfl, rfl, ?_⟩
      rw [hT]
      refine .inr ⟨v + 1, rfl, ?_⟩
      simp only [intss, ints, encs_append]
  have h1 : ¬ ((j : Int) < (m : Int)) := by omega
  have hjm : j = m := by omega
  rw [hjm] at hcl
  simp only [h1, pk_nil, pk_skip, pk_seq, pk_block, pk_region, pk_cond, pk_exit, pk_endB, pk_again, pk_ret, pe_nil, pe_code, pe_again, pe_endB, po_nil, po_cons, pog_true, pog_false, por_val, por_call, pc_bool, Go.PV.guardP, Go.PV.fits, Go.PV.putF, Go.PV.setF, Go.PV.look, Go.PV.evO, Go.PV.ofVal, Go.PV.mutOf, List.contains_nil, List.contains_cons, evC, pickC, nilC, binC, intC, isShift, shiftC, strC, boolC, unC, convC, extC, fieldC, fieldAddrC, idxC, indexC, loadC, lenC, maxC, minC, allocC, boxC, storeC, makeC, sliceC, buildC, buildSliceC, appTC, appC, rowsC, callC, builtinC, Option.isSome_some, Int.reduceToNat, Int.reduceEq, Int.reduceAdd, Int.reduceSub, Int.reduceMul, List.getD_cons_zero, List.getD_cons_succ, Int.reduceLE, Int.reduceLT, Int.reduceNeg, Bool.and_self, Bool.true_and, Bool.and_true, Nat.reduceMul, Int.cast_ofNat_Int, decide_true, decide_false, beq_self_eq_true, Bool.true_beq, Bool.false_beq, Nat.le_refl, Nat.reduceLeDiff, List.length_cons, List.length_nil, ne_eq, not_false_eq_true, Nat.succ_ne_self, Nat.one_ne_zero, true_and, and_true, if_true, if_false, Bool.false_eq_true, reduceIte, Nat.reduceEqDiff, Nat.reduceLT, Nat.reduceAdd, Nat.reduceBEq, reduceCtorEq, Bool.not_true, Bool.not_false, Bool.true_eq_false, decide_eq_true_eq, Option.bind_some, Option.bind_none, List.toList_toArray, List.getElem?_toArray, List.getElem?_cons_zero, List.getElem?_cons_succ, List.map_cons, List.map_nil, Option.map_some, Option.map_none]
  refine (hQ _ _ ?_).1
  simp only [resW, pk_nil, pk_skip, pk_seq, pk_block, pk_region, pk_cond, pk_exit, pk_endB, pk_again, pk_ret, pe_nil, pe_code, pe_again, pe_endB, po_nil, po_cons, pog_true, pog_false, por_val, por_call, pc_bool, Go.PV.guardP, Go.PV.fits, Go.PV.putF, Go.PV.setF, Go.PV.look, Go.PV.evO, Go.PV.ofVal, Go.PV.mutOf, List.contains_nil, List.contains_cons, evC, pickC, nilC, binC, intC, isShift, shiftC, strC, boolC, unC, convC, extC, fieldC, fieldAddrC, idxC, indexC, loadC, lenC, maxC, minC, allocC, boxC, storeC, makeC, sliceC, buildC, buildSliceC, appTC, appC, rowsC, callC, builtinC, Option.isSome_some, Int.reduceToNat, Int.reduceEq, Int.reduceAdd, Int.reduceSub, Int.reduceMul, List.getD_cons_zero, List.getD_cons_succ, Int.reduceLE, Int.reduceLT, Int.reduceNeg, Bool.and_self, Bool.true_and, Bool.and_true, Nat.reduceMul, Int.cast_ofNat_Int, decide_true, decide_false, beq_self_eq_true, Bool.true_beq, Bool.false_beq, Nat.le_refl, Nat.reduceLeDiff, List.length_cons, List.length_nil, ne_eq, not_false_eq_true, Nat.succ_ne_self, Nat.one_ne_zero, true_and, and_true, if_true, if_false, Bool.false_eq_true, reduceIte, Nat.reduceEqDiff, Nat.reduceLT, Nat.reduceAdd, Nat.reduceBEq, reduceCtorEq, Bool.not_true, Bool.not_false, Bool.true_eq_false, decide_eq_true_eq, Option.bind_some, Option.bind_none, List.toList_toArray, List.getElem?_toArray, List.getElem?_cons_zero, List.getElem?_cons_succ, List.map_cons, List.map_nil, Option.map_some, Option.map_none, fnRet]
  rw [hS] at hrel
  rw [hT] at hrel2
  have f1 : Frz 1 (C k1 :: more2) stk (.sl (intss rs)) := by
    rcases hrel with ⟨ha, rfl, rfl⟩ | ⟨v, rfl, rfl⟩
    · rw [ha]; exact .nils
    · refine Frz.msl0 (elem := 51) (sz := 1) (Nat.le_refl _) ?_ (encs_bel _ _ _)
      rcases hrel2 with ⟨_, _, rfl⟩ | ⟨v2, _, rfl⟩ <;> rfl
  have f2 : Frz 1 (C k1 :: more2) stk2 (.sl (intss cs)) := by
    rcases hrel2 with ⟨ha, rfl, rfl⟩ | ⟨v2, rfl, rfl⟩
    · rw [ha]; exact .nils
    · refine Frz.msl0 (elem := 51) (sz := 1) (by omega) ?_ (encs_bel _ _ _)
      rw [List.getElem?_cons_succ, List.getElem?_concat_length]
  refine ⟨_, frz_tup2 f1 f2, fun o ho => ?_, rs, cs, k1, ⟨by omega, by omega, by rw [hcl]; exact hrs, by rw [hrl]; exact hcs⟩, by omega, by omega, rfl, by rw [hC]; rfl, hk1⟩
  have : o = 0 := by simp at ho; omega
  rw [this]
  exact ⟨_, rfl, .inr (by rw [hC]; exact codes_bel _ _ _)⟩
end Go.Proofs.Ytijigploahapfaa
