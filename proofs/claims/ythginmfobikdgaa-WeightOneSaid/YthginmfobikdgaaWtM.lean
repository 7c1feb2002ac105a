/- Chapter 32, the walks: sites. -/
import Derived.Test.YthginmfobikdgaaWtL
set_option linter.unusedSimpArgs false
set_option linter.unusedVariables false
namespace Go.Proofs.Ythginmfobikdgaa
open Go.PV

theorem okK3 (a b c : Int) : okKind Try.prog 175 (some (.struct #[{ name := "block", type := 3, offset := 0, embedded := false, tag := "", pkgPath := "warmpath/weight", byteOffset := 0 }, { name := "instr", type := 3, offset := 1, embedded := false, tag := "", pkgPath := "warmpath/weight", byteOffset := 8 }, { name := "fn", type := 3, offset := 2, embedded := false, tag := "", pkgPath := "warmpath/weight", byteOffset := 16 }])) (.agg [.int .i64 a, .int .i64 b, .int .i64 c]) = true := by kernel_rfl
theorem mxB (a : Nat) (h : a ≤ 1099511627776) : (a ≤ maxBytes) = True := eq_true (by unfold maxBytes; omega)
theorem mxL (a : Nat) (h : a ≤ 1099511627776) : (a ≤ maxLen) = True := eq_true (by unfold maxLen; omega)
theorem zeroS : zeroP Try.prog 176 = some .nilp := by kernel_rfl
theorem ptrS : isPtrT Try.prog 176 = true := by kernel_rfl
theorem mget_some (es : List Ent) (k : K3) (o : Nat) (t : Int) (hn : (es.map (·.1)).Nodup) (h : (k, o, t) ∈ es) : (findP (.agg [.int .i64 k.1, .int .i64 k.2.1, .int .i64 k.2.2]) (encE es) 0).isSome = true ∧ mgetP (encE es) (.agg [.int .i64 k.1, .int .i64 k.2.1, .int .i64 k.2.2]) .nilp = .ptr (o + 2) 0 0 0 := by
  obtain ⟨j, hj⟩ := findE_some es k o t hn h 0
  unfold kRow at hj
  exact ⟨by rw [hj]; rfl, by unfold mgetP; rw [hj]⟩
theorem mget_none (es : List Ent) (k : K3) (h : k ∉ es.map (·.1)) : (findP (.agg [.int .i64 k.1, .int .i64 k.2.1, .int .i64 k.2.2]) (encE es) 0).isSome = true ∧ mgetP (encE es) (.agg [.int .i64 k.1, .int .i64 k.2.1, .int .i64 k.2.2]) .nilp = .nilp ∧
    ∀ q, mputP (encE es) (.agg [.int .i64 k.1, .int .i64 k.2.1, .int .i64 k.2.2]) (.ptr q 0 0 0) = encE es ++ [(.agg [.int .i64 k.1, .int .i64 k.2.1, .int .i64 k.2.2], .ptr q 0 0 0)] := by
  have hj := findE_none es k h 0
  unfold kRow at hj
  exact ⟨by rw [hj]; rfl, by unfold mgetP; rw [hj], fun q => by unfold mputP; rw [hj]⟩
theorem findE_app (es : List Ent) (k : K3) (q : PV) (h : k ∉ es.map (·.1)) : ∀ i, ∃ j, findP (.agg (kRow k)) (encE es ++ [(.agg (kRow k), q)]) i = some (some (j, q)) := by
  induction es with
  | nil =>
    intro i
    have hs := sameK_row k k
    rw [decide_eq_true rfl] at hs
    exact ⟨i, by simp only [encE, List.map_nil, List.nil_append, findP, hs]⟩
  | cons e es ih =>
    intro i
    simp only [List.map_cons, List.mem_cons, not_or] at h
    have hs := sameK_row k e.1
    rw [decide_eq_false h.1] at hs
    obtain ⟨j, hj⟩ := ih h.2 (i + 1)
    exact ⟨j, by simp only [encE, List.map_cons, List.cons_append, findP, hs]; exact hj⟩
theorem mget_app (es : List Ent) (k : K3) (h : k ∉ es.map (·.1)) (q : PV) : (findP (.agg [.int .i64 k.1, .int .i64 k.2.1, .int .i64 k.2.2]) (encE es ++ [(.agg [.int .i64 k.1, .int .i64 k.2.1, .int .i64 k.2.2], q)]) 0).isSome = true ∧ mgetP (encE es ++ [(.agg [.int .i64 k.1, .int .i64 k.2.1, .int .i64 k.2.2], q)]) (.agg [.int .i64 k.1, .int .i64 k.2.1, .int .i64 k.2.2]) .nilp = q := by
  obtain ⟨j, hj⟩ := findE_app es k q h 0
  unfold kRow at hj
  exact ⟨by rw [hj]; rfl, by unfold mgetP; rw [hj]⟩

def glst (o : Nat) : Nat → PV
  | 0 => .nils
  | k + 1 => .msl o k

theorem mapD (out : List (Site × Nat)) (i : Nat) (h : i < out.length) : (out.map (·.1)).getD i default = (out.getD i default).1 := by
  simp [List.getD_eq_getElem?_getD, h]
theorem stepS_same {out : List (Site × Nat)} {i : Nat} (hi : out.length = i + 1) {lu : Site × Nat} (hlu : lu = out.getD i default) (k : K3) (n : Int) (hn : ¬ n ≤ 0) (hb : lu.1.blk = k.1) (h2 : lu.1.ins = k.2.1) :
    List.map (fun x : Site × Nat => x.1) (out.set i (⟨k.1, k.2.1, lu.1.tg ++ [(k.2.2, n)]⟩, lu.2)) = stepS (out.map (·.1)) k n := by
  have hm : (out.map (·.1)).length - 1 = i := by rw [List.length_map, hi]; rfl
  have hd := mapD out i (by omega)
  rw [← hlu] at hd
  unfold stepS
  rw [hm, hd, if_neg hn, if_pos ⟨fun e => by rw [List.map_eq_nil_iff] at e; rw [e] at hi; simp at hi, hb, h2⟩, List.map_set]
theorem stepS_new {out : List (Site × Nat)} {i : Nat} (hi : out.length = i + 1) {lu : Site × Nat} (hlu : lu = out.getD i default) (k : K3) (n : Int) (hn : ¬ n ≤ 0) (h : ¬ (lu.1.blk = k.1 ∧ lu.1.ins = k.2.1)) (o : Nat) :
    List.map (fun x : Site × Nat => x.1) (out ++ [(⟨k.1, k.2.1, [(k.2.2, n)]⟩, o)]) = stepS (out.map (·.1)) k n := by
  have hm : (out.map (·.1)).length - 1 = i := by rw [List.length_map, hi]; rfl
  have hd := mapD out i (by omega)
  rw [← hlu] at hd
  unfold stepS
  rw [hm, hd, if_neg hn, if_neg (fun e => h e.2), List.map_append]
  rfl
theorem stepS_tg (out : List Site) (k : K3) (n : Int) (m : Nat) (h : ∀ s ∈ out, s.tg.length ≤ m) : ∀ s ∈ stepS out k n, s.tg.length ≤ m + 1 := by
  unfold stepS
  intro s hs
  split at hs
  · have := h s hs; omega
  · split at hs
    · rename_i hc
      rcases List.mem_or_eq_of_mem_set hs with hs | rfl
      · have := h s hs; omega
      · have hl : out.length - 1 < out.length := by
          have := List.length_pos_iff.2 hc.1
          omega
        have := h (out.getD (out.length - 1) default) (by rw [List.getD_eq_getElem?_getD, List.getElem?_eq_getElem hl]; simp)
        simp only [List.length_append, List.length_singleton]; omega
    · simp only [List.mem_append, List.mem_singleton] at hs
      rcases hs with hs | rfl
      · have := h s hs; omega
      · simp
theorem outF_tg (den : Int) (Lm : List (K3 × Int)) (L : List K3) : ∀ s ∈ outF den Lm L, s.tg.length ≤ L.length := by
  have h : ∀ (L : List K3) (out : List Site) (m : Nat), (∀ s ∈ out, s.tg.length ≤ m) → ∀ s ∈ L.foldl (fun out k => stepS out k (min (tOf Lm k / den) 1099511627776)) out, s.tg.length ≤ m + L.length := by
    intro L
    induction L with
    | nil => intro out m h; simpa using h
    | cons k L ih =>
      intro out m h s hs
      have := ih _ (m + 1) (stepS_tg out k _ m h) s hs
      simp only [List.length_cons]; omega
  intro s hs
  have := h L [] 0 (by simp) s hs
  omega
theorem frz_sites {σ : Store} {uo : Nat} {out : List (Site × Nat)} {el : Nat} (hr : σ[uo + 2]? = some (.rows el 3 (encU out) (out.length - 1))) (ht : ∀ u ∈ out, σ[u.2 + 2]? = some (.rows 65 2 (encT u.1.tg) (u.1.tg.length - 1))) :
    Frz 0 σ (.msl (uo + 2) (out.length - 1)) (.sl (encS (out.map (·.1)))) := by
  have hrow : ∀ (i : Nat) (row : List PV), (encU out)[i]? = some row → ∃ u, u ∈ out ∧ row = [.int .i64 u.1.blk, .int .i64 u.1.ins, .msl (u.2 + 2) (u.1.tg.length - 1)] ∧ (encS (out.map (·.1))).getD i [] = [.int .i64 u.1.blk, .int .i64 u.1.ins, .sl (encT u.1.tg)] := fun i row hi => by
    unfold encU at hi
    rw [List.getElem?_map, Option.map_eq_some_iff] at hi
    obtain ⟨u, hu, rfl⟩ := hi
    refine ⟨u, List.mem_of_getElem? hu, rfl, ?_⟩
    unfold encS
    rw [List.getD_eq_getElem?_getD, List.getElem?_map, List.getElem?_map, hu]; rfl
  refine .msl _ _ _ _ _ _ (Nat.zero_le _) hr (by simp [encS, encU]) (fun i row hi => ?_) (fun i row j p hi hj => ?_)
  · obtain ⟨u, hu, e1, e2⟩ := hrow i row hi
    rw [e1, e2]; rfl
  · obtain ⟨u, hu, e1, e2⟩ := hrow i row hi
    rw [e2]
    rw [e1] at hj
    match j, hj with
    | 0, hj => cases hj; exact .keep _ (bel_int _ _ _)
    | 1, hj => cases hj; exact .keep _ (bel_int _ _ _)
    | 2, hj => cases hj; exact Frz.msl0 (Nat.zero_le _) (ht u hu) (encT_bel _ _)

set_option maxHeartbeats 16000000 in
theorem sites_w (KS : List K3) (hKS : KS.length ≤ 12) (ws : List Int) (den : Int) (l : List FC) (hll : l.length < 2 ^ 40) (hlw : l.length ≤ ws.length) (hw : ∀ w ∈ ws, 0 ≤ w ∧ w ≤ 65536) (hwl : ws.length < 2 ^ 40) (hd : 1 ≤ den)
    (hcnt : ∀ x ∈ l, ∀ s ∈ x.sites, ∀ t ∈ s.tg, 0 ≤ t.2 ∧ t.2 ≤ 1099511627776) (hks : ∀ x ∈ l, ∀ s ∈ x.sites, ∀ t ∈ s.tg, (s.blk, s.ins, t.1) ∈ KS) (hfew : ∀ x ∈ l, x.sites.length < 2 ^ 30 ∧ ∀ s ∈ x.sites, s.tg.length < 2 ^ 30) :
    PCall Try.prog 94 [.agg (mixV ws den l)] [] (fun p _ => p = .sl (encS (sitesF den (addAll ws l l.length)))) := by
  unfold mixV
  refine PCall.vfrz [] 83076752213570688585389525169340415 145 [.tmp 2] wk2_ok mix Try.func94 rfl (by decide) rfl rfl (by simp) ?_
  simp -dsimp only [initFr, List.zipIdx_cons, List.zipIdx_nil, List.map_cons, List.map_nil, Nat.zero_add, Nat.reduceAdd]
  simp -dsimp (maxSteps := 4000000) +contextual (disch := first | omega | decide +kernel) only [↓vsD, vsU, resW, fnRet, cond_true, cond_false, Nat.reduceShiftRight, Nat.reduceAnd, Go.PV.fits, Go.PV.mutOf, Go.PV.splice, Int.reduceToNat, Int.reduceEq, Int.reduceAdd, Int.reduceSub, Int.reduceMul, Int.reduceLE, Int.reduceLT, Int.reduceNeg, Nat.reduceMul, Nat.reduceLeDiff, ne_eq, if_true, if_false, reduceIte, Nat.reduceEqDiff, ↓Nat.reduceLT, Nat.reduceAdd, Nat.reduceBEq, reduceCtorEq, enc_length, encs_length, tyU, tyC, tyB, tyA, tyI, tyZ, tyF, tyP, enc_getD, encs_getD, wrap_i64, enc_set, splice_one, set_last, bin_aeq2, bin_ane2, wk1_aged, wk1_rage, wk1_counted, wk1_power, wk1_rpower, wk1_valid, wk1_rvalid, wk2_add, exAddO_sum, wk2_over, encF_length]
  obtain ⟨A, hA⟩ : ∃ A : Go.PV.Obj, A = .rows 127 3 [[.sl (ints ws), .int .i64 den, .sl (encF l)]] 0 := ⟨_, rfl⟩
  refine v_loopS (fun s : Nat × Store × List Ent × Nat => [(1, .ptr 0 0 0 0), (3, .map 1), (4, glst (s.2.2.2 + 2) s.2.2.1.length), (20, .sl (encF l)), (21, .int .i64 l.length), (22, .int .i64 s.1)])
    (fun s => .rows 127 3 [[.sl (ints ws), .int .i64 den, .sl (encF l)]] 0 :: .map (encE s.2.2.1) :: s.2.1) (fun s => s.1 ≤ l.length ∧ SI KS s.2.1 s.2.2.1 s.2.2.2 ∧ totE s.2.2.1 = addAll ws l s.1) (fun s => l.length - s.1) (0, [], [], 0) (by simp [weaker, Go.PV.look, glst]) rfl ⟨by simp, .nil, rfl⟩ ?_
  rintro ⟨i, Q, es, oo⟩ ⟨hi, hI, hT⟩
  dsimp only at hi hI hT ⊢
  by_cases hil : i < l.length
  · obtain ⟨x, hx⟩ : ∃ x, x = l.getD i default := ⟨_, rfl⟩
    have hxm : x ∈ l := by rw [hx, List.getD_eq_getElem?_getD, List.getElem?_eq_getElem hil]; simp
    have hxf := (hfew x hxm).1
    have hxs := (hfew x hxm).2
    have hxc := hcnt x hxm
    have hxk := hks x hxm
    obtain ⟨w, hwi⟩ : ∃ w, w = ws.getD i 0 := ⟨_, rfl⟩
    have hwr := hw _ (getD_mem (show i < ws.length by omega))
    rw [← hwi] at hwr
    have hiw : i < ws.length := by omega
    simp -dsimp (maxSteps := 4000000) +contextual (disch := first | omega | decide +kernel) only [↓vsD, vsU, resW, fnRet, cond_true, cond_false, Nat.reduceShiftRight, Nat.reduceAnd, Go.PV.fits, Go.PV.mutOf, Go.PV.splice, Int.reduceToNat, Int.reduceEq, Int.reduceAdd, Int.reduceSub, Int.reduceMul, Int.reduceLE, Int.reduceLT, Int.reduceNeg, Nat.reduceMul, Nat.reduceLeDiff, ne_eq, if_true, if_false, reduceIte, Nat.reduceEqDiff, ↓Nat.reduceLT, Nat.reduceAdd, Nat.reduceBEq, reduceCtorEq, enc_length, encs_length, tyU, tyC, tyB, tyA, tyI, tyZ, tyF, tyP, enc_getD, encs_getD, wrap_i64, enc_set, splice_one, set_last, bin_aeq2, bin_ane2, wk1_aged, wk1_rage, wk1_counted, wk1_power, wk1_rpower, wk1_valid, wk1_rvalid, wk2_add, exAddO_sum, wk2_over, encF_length, encF_getD, encS_length, ← hx, gapp0, gappk, sapp0, sappk, gappn0, gappnk, sappn0, sappnk]
    refine v_loopS (fun s : Nat × Store × List Ent × Nat => [(1, .ptr 0 0 0 0), (3, .map 1), (4, glst (s.2.2.2 + 2) s.2.2.1.length), (5, .int .i64 i), (20, .sl (encF l)), (21, .int .i64 l.length), (22, .int .i64 i), (28, .sl (encS x.sites)), (29, .int .i64 x.sites.length), (30, .int .i64 s.1)])
      (fun s => .rows 127 3 [[.sl (ints ws), .int .i64 den, .sl (encF l)]] 0 :: .map (encE s.2.2.1) :: s.2.1) (fun s => s.1 ≤ x.sites.length ∧ SI KS s.2.1 s.2.2.1 s.2.2.2 ∧ totE s.2.2.1 = addSt w (x.sites.take s.1) (addAll ws l i)) (fun s => x.sites.length - s.1) (0, _, es, oo) (by simp [weaker, Go.PV.look]) rfl ⟨by simp, hI.app _, hT⟩ ?_
    rintro ⟨j, Q, es, oo⟩ ⟨hj, hI, hT⟩
    dsimp only at hj hI hT ⊢
    by_cases hjl : j < x.sites.length
    · obtain ⟨s, hs⟩ : ∃ s, s = x.sites.getD j default := ⟨_, rfl⟩
      have hsm : s ∈ x.sites := by rw [hs, List.getD_eq_getElem?_getD, List.getElem?_eq_getElem hjl]; simp
      have hst := hxs s hsm
      have hsc := hxc s hsm
      have hsk := hxk s hsm
      simp -dsimp (maxSteps := 4000000) +contextual (disch := first | omega | decide +kernel) only [↓vsD, vsU, resW, fnRet, cond_true, cond_false, Nat.reduceShiftRight, Nat.reduceAnd, Go.PV.fits, Go.PV.mutOf, Go.PV.splice, Int.reduceToNat, Int.reduceEq, Int.reduceAdd, Int.reduceSub, Int.reduceMul, Int.reduceLE, Int.reduceLT, Int.reduceNeg, Nat.reduceMul, Nat.reduceLeDiff, ne_eq, if_true, if_false, reduceIte, Nat.reduceEqDiff, ↓Nat.reduceLT, Nat.reduceAdd, Nat.reduceBEq, reduceCtorEq, enc_length, encs_length, tyU, tyC, tyB, tyA, tyI, tyZ, tyF, tyP, enc_getD, encs_getD, wrap_i64, enc_set, splice_one, set_last, bin_aeq2, bin_ane2, wk1_aged, wk1_rage, wk1_counted, wk1_power, wk1_rpower, wk1_valid, wk1_rvalid, wk2_add, exAddO_sum, wk2_over, encS_length, encS_getD, encT_length, ← hs, gapp0, gappk, sapp0, sappk, gappn0, gappnk, sappn0, sappnk]
      refine v_loopS (fun r : Nat × Store × List Ent × Nat => [(1, .ptr 0 0 0 0), (3, .map 1), (4, glst (r.2.2.2 + 2) r.2.2.1.length), (5, .int .i64 i), (8, .ptr (Q.length + 2) 0 0 0), (20, .sl (encF l)), (21, .int .i64 l.length), (22, .int .i64 i), (28, .sl (encS x.sites)), (29, .int .i64 x.sites.length), (30, .int .i64 j), (35, .sl (encT s.tg)), (36, .int .i64 s.tg.length), (37, .int .i64 r.1)])
        (fun r => .rows 127 3 [[.sl (ints ws), .int .i64 den, .sl (encF l)]] 0 :: .map (encE r.2.2.1) :: r.2.1) (fun r => r.1 ≤ s.tg.length ∧ SI KS r.2.1 r.2.2.1 r.2.2.2 ∧ totE r.2.2.1 = addTg s.blk s.ins w (s.tg.take r.1) (addSt w (x.sites.take j) (addAll ws l i)) ∧ r.2.1[Q.length]? = some (.rows 63 3 [[.int .i64 s.blk, .int .i64 s.ins, .sl (encT s.tg)]] 0)) (fun r => s.tg.length - r.1)
        (0, _, es, oo) (by simp [weaker, Go.PV.look]) rfl ⟨by simp, hI.app _, hT, (by simp only [List.getElem?_cons_succ, List.getElem?_cons_zero, gapp0, gappk, gappn0, gappnk, List.cons_append, List.nil_append, List.getElem?_concat_length])⟩ ?_
      rintro ⟨t, R, es, oo⟩ ⟨ht, hI, hT, h8⟩
      dsimp only at ht hI hT h8 ⊢
      obtain ⟨p8, hp8⟩ : ∃ p8, p8 = Q.length := ⟨_, rfl⟩
      rw [← hp8] at h8 ⊢
      have h8' : ∀ X, (R ++ X)[p8]? = some (.rows 63 3 [[.int .i64 s.blk, .int .i64 s.ins, .sl (encT s.tg)]] 0) := fun X => by
        rw [List.getElem?_append_left (List.getElem?_eq_some_iff.1 h8).1, h8]
      by_cases htl : t < s.tg.length
      · obtain ⟨tt, htt⟩ : ∃ tt, tt = s.tg.getD t (0, 0) := ⟨_, rfl⟩
        have htm : tt ∈ s.tg := by rw [htt, List.getD_eq_getElem?_getD, List.getElem?_eq_getElem htl]; simp
        have htc := hsc tt htm
        have htk := hsk tt htm
        have hTn := addTg_succ s.blk s.ins w s.tg (addSt w (x.sites.take j) (addAll ws l i)) t htl
        rw [← hT, ← htt] at hTn
        by_cases hmem : (s.blk, s.ins, tt.1) ∈ es.map (·.1)
        · obtain ⟨o, t0, hent⟩ := mem_ent hmem
          obtain ⟨hS, hG⟩ := mget_some es _ o t0 hI.keys hent
          dsimp only at hS hG
          have hq := hI.sums _ o t0 hent
          have hq0 := hq.2
          have hol := (List.getElem?_eq_some_iff.1 hq.1).1
          have hQo : ∀ X, (R ++ X)[o]? = some (.rows 170 2 [[.bool true, .int .i64 t0]] 0) := fun X => by rw [List.getElem?_append_left hol, hq.1]; rfl
          have so : ∀ X y, (R ++ X).set o y = R.set o y ++ X := fun X y => List.set_append_left _ _ hol
          have hd8 : o ≠ p8 := fun e => by
            have h9 := hq.1
            rw [e, h8] at h9
            simp [sumO] at h9
          have so8 : ∀ X y, o ≠ p8 → (R.set o y ++ X)[p8]? = some (.rows 63 3 [[.int .i64 s.blk, .int .i64 s.ins, .sl (encT s.tg)]] 0) := fun X y hne => by
            rw [List.getElem?_append_left (by simpa using (List.getElem?_eq_some_iff.1 h8).1), List.getElem?_set_ne hne, h8]
          have go : ∀ X y, (R.set o y ++ X)[R.length]? = X[0]? := fun X y => by have := gapp0 (R.set o y) X; simpa using this
          have go1 : ∀ X y c, (R.set o y ++ X)[R.length + c]? = X[c]? := fun X y c => by have := gappk (R.set o y) X c; simpa using this
          simp -dsimp (maxSteps := 4000000) +contextual (disch := first | omega | decide +kernel) only [↓vsD, vsU, resW, fnRet, cond_true, cond_false, Nat.reduceShiftRight, Nat.reduceAnd, Go.PV.fits, Go.PV.mutOf, Go.PV.splice, Int.reduceToNat, Int.reduceEq, Int.reduceAdd, Int.reduceSub, Int.reduceMul, Int.reduceLE, Int.reduceLT, Int.reduceNeg, Nat.reduceMul, Nat.reduceLeDiff, ne_eq, if_true, if_false, reduceIte, Nat.reduceEqDiff, ↓Nat.reduceLT, Nat.reduceAdd, Nat.reduceBEq, reduceCtorEq, enc_length, encs_length, tyU, tyC, tyB, tyA, tyI, tyZ, tyF, tyP, enc_getD, encs_getD, wrap_i64, enc_set, splice_one, set_last, bin_aeq2, bin_ane2, wk1_aged, wk1_rage, wk1_counted, wk1_power, wk1_rpower, wk1_valid, wk1_rvalid, wk2_add, exAddO_sum, wk2_over, List.append_assoc, List.length_append, encS_length, encS_getD, encT_length, encT_getD, ← htt, gapp0, gappk, sapp0, sappk, gappn0, gappnk, sappn0, sappnk, h8', okK3, zeroS, ptrS, hS, hG]
          refine v_draws _ _ _ _ _ _ [10] [] [(0, 0), (0, 0), (0, 0), (0, 0), (0, 0), (0, 0), (0, 0), (0, 0), (0, 0), (0, 0), (0, 0)] (by decide +kernel) (by decide +kernel) (by decide +kernel) (by decide +kernel) ?_
          simp -dsimp (maxSteps := 4000000) +contextual (disch := first | omega | decide +kernel) only [↓vsD, vsU, resW, fnRet, cond_true, cond_false, Nat.reduceShiftRight, Nat.reduceAnd, Go.PV.fits, Go.PV.mutOf, Go.PV.splice, Int.reduceToNat, Int.reduceEq, Int.reduceAdd, Int.reduceSub, Int.reduceMul, Int.reduceLE, Int.reduceLT, Int.reduceNeg, Nat.reduceMul, Nat.reduceLeDiff, ne_eq, if_true, if_false, reduceIte, Nat.reduceEqDiff, ↓Nat.reduceLT, Nat.reduceAdd, Nat.reduceBEq, reduceCtorEq, enc_length, encs_length, tyU, tyC, tyB, tyA, tyI, tyZ, tyF, tyP, enc_getD, encs_getD, wrap_i64, enc_set, splice_one, set_last, bin_aeq2, bin_ane2, wk1_aged, wk1_rage, wk1_counted, wk1_power, wk1_rpower, wk1_valid, wk1_rvalid, wk2_add, exAddO_sum, wk2_over, vdx_none, vkp_go, ↓vd_end, place_nil, place_cons, vdo_eff, vdo_effA, ↓vdm_go, List.take_succ_cons, List.take_zero, List.drop_succ_cons, List.drop_zero, vdo_noeff_s, vdo_noeff_n, vdo_nofloat, vdo_noread, vdo_read, vdo_floatS, vdo_floatA, vde_s, vde_n, vde_c, vdx_s, vdr_s, vdr_b, vdf_m, vdf_p, ↓vd_op, ↓guard_none, ↓guard_some, gval_some, List.forall_mem_cons, List.not_mem_nil, false_implies, implies_true, List.length_append, List.length_replicate, List.replicate_zero, List.replicate_succ, List.contains_nil, List.contains_cons, Bool.or_false, Bool.false_or, Bool.or_self, Bool.or_true, Bool.true_or, vdr_o, vdq_eq, vdw_s, outR_v, rowsAt_none, mapAt_none, lnil, drop0, List.append_assoc, gapp0, gappk, sapp0, sappk, gappn0, gappnk, sappn0, sappnk, h8', okK3, zeroS, ptrS, hS, hG, hQo, so, go, go1, enc_length, ← hwi]
          exact ⟨(t + 1, R.set o (sumO true (addT t0 tt.2 w)) ++ [.rows 65 2 [[.int .i64 tt.1, .int .i64 tt.2]] 0, .rows 175 3 [[.int .i64 s.blk, .int .i64 s.ins, .int .i64 tt.1]] 0], updE es (s.blk, s.ins, tt.1) (addT t0 tt.2 w), oo), (by (try dsimp only); omega), by simp [weaker, Go.PV.look, updE_length], by dsimp only; rw [encE_upd], by dsimp only; omega, hI.upd hent htc.1 hwr.1 _, by rw [← putL_upd es _ tt.2 w o t0 hI.keys hent]; exact hTn.symm, so8 _ _ hd8⟩
        · obtain ⟨hS, hG, hP⟩ := mget_none es _ hmem
          dsimp only at hS hG hP
          have hA := fun q => mget_app es _ hmem q
          dsimp only at hA
          have hS1 := fun q => (hA q).1
          have hG1 := fun q => (hA q).2
          cases hes : es with
          | nil =>
            subst hes
            simp only [List.length_nil, glst] at *
            simp -dsimp (maxSteps := 4000000) +contextual (disch := first | omega | decide +kernel) only [↓vsD, vsU, resW, fnRet, cond_true, cond_false, Nat.reduceShiftRight, Nat.reduceAnd, Go.PV.fits, Go.PV.mutOf, Go.PV.splice, Int.reduceToNat, Int.reduceEq, Int.reduceAdd, Int.reduceSub, Int.reduceMul, Int.reduceLE, Int.reduceLT, Int.reduceNeg, Nat.reduceMul, Nat.reduceLeDiff, ne_eq, if_true, if_false, reduceIte, Nat.reduceEqDiff, ↓Nat.reduceLT, Nat.reduceAdd, Nat.reduceBEq, reduceCtorEq, enc_length, encs_length, tyU, tyC, tyB, tyA, tyI, tyZ, tyF, tyP, enc_getD, encs_getD, wrap_i64, enc_set, splice_one, set_last, bin_aeq2, bin_ane2, wk1_aged, wk1_rage, wk1_counted, wk1_power, wk1_rpower, wk1_valid, wk1_rvalid, wk2_add, exAddO_sum, wk2_over, List.append_assoc, List.length_append, encS_length, encS_getD, encT_length, encT_getD, ← htt, gapp0, gappk, sapp0, sappk, gappn0, gappnk, sappn0, sappnk, h8', okK3, zeroS, ptrS, hS, hG, hP]
            refine v_draws _ _ _ _ _ _ [10] [] [(0, 0), (0, 0), (0, 0), (0, 0), (0, 0), (0, 0), (0, 0), (0, 0), (0, 0), (0, 0), (0, 0)] (by decide +kernel) (by decide +kernel) (by decide +kernel) (by decide +kernel) ?_
            simp -dsimp (maxSteps := 4000000) +contextual (disch := first | omega | decide +kernel) only [↓vsD, vsU, resW, fnRet, cond_true, cond_false, Nat.reduceShiftRight, Nat.reduceAnd, Go.PV.fits, Go.PV.mutOf, Go.PV.splice, Int.reduceToNat, Int.reduceEq, Int.reduceAdd, Int.reduceSub, Int.reduceMul, Int.reduceLE, Int.reduceLT, Int.reduceNeg, Nat.reduceMul, Nat.reduceLeDiff, ne_eq, if_true, if_false, reduceIte, Nat.reduceEqDiff, ↓Nat.reduceLT, Nat.reduceAdd, Nat.reduceBEq, reduceCtorEq, enc_length, encs_length, tyU, tyC, tyB, tyA, tyI, tyZ, tyF, tyP, enc_getD, encs_getD, wrap_i64, enc_set, splice_one, set_last, bin_aeq2, bin_ane2, wk1_aged, wk1_rage, wk1_counted, wk1_power, wk1_rpower, wk1_valid, wk1_rvalid, wk2_add, exAddO_sum, wk2_over, vdx_none, vkp_go, ↓vd_end, place_nil, place_cons, vdo_eff, vdo_effA, ↓vdm_go, List.take_succ_cons, List.take_zero, List.drop_succ_cons, List.drop_zero, vdo_noeff_s, vdo_noeff_n, vdo_nofloat, vdo_noread, vdo_read, vdo_floatS, vdo_floatA, vde_s, vde_n, vde_c, vdx_s, vdr_s, vdr_b, vdf_m, vdf_p, ↓vd_op, ↓guard_none, ↓guard_some, gval_some, List.forall_mem_cons, List.not_mem_nil, false_implies, implies_true, List.length_append, List.length_replicate, List.replicate_zero, List.replicate_succ, List.contains_nil, List.contains_cons, Bool.or_false, Bool.false_or, Bool.or_self, Bool.or_true, Bool.true_or, vdr_o, vdq_eq, vdw_s, outR_v, rowsAt_none, mapAt_none, lnil, drop0, List.append_assoc, gapp0, gappk, sapp0, sappk, gappn0, gappnk, sappn0, sappnk, h8', okK3, zeroS, ptrS, hS1, hG1, enc_length, ← hwi]
            exact ⟨(t + 1, R ++ [.rows 65 2 [[.int .i64 tt.1, .int .i64 tt.2]] 0, .rows 175 3 [[.int .i64 s.blk, .int .i64 s.ins, .int .i64 tt.1]] 0, sumO true (addT 0 tt.2 w), .rows 175 3 (encK [(s.blk, s.ins, tt.1)]) 0], [((s.blk, s.ins, tt.1), R.length + 2, addT 0 tt.2 w)], R.length + 3), (by (try dsimp only); omega), by simp [weaker, Go.PV.look, glst], rfl, by dsimp only; omega, SI.new0 htk htc.1 hwr.1 _ _, by rw [hTn]; rfl, h8' _⟩
          | cons e0 es0 =>
            have hln : es.length = es0.length + 1 := by rw [hes]; rfl
            have hord := hI.ord (by rw [hes]; simp)
            have hool := (List.getElem?_eq_some_iff.1 hord).1
            rw [← hes, hln]
            rw [hln, Nat.add_sub_cancel] at hord
            have hQo : ∀ X, (R ++ X)[oo]? = some (.rows 175 3 (encK (es.map (·.1))) es0.length) := fun X => by rw [List.getElem?_append_left hool, hord]
            have so : ∀ X y, (R ++ X).set oo y = R.set oo y ++ X := fun X y => List.set_append_left _ _ hool
            have go : ∀ X y, (R.set oo y ++ X)[R.length]? = X[0]? := fun X y => by have := gapp0 (R.set oo y) X; simpa using this
            have go1 : ∀ X y c, (R.set oo y ++ X)[R.length + c]? = X[c]? := fun X y c => by have := gappk (R.set oo y) X c; simpa using this
            have gs1 : ∀ X y z c, (R.set oo y ++ X).set (R.length + c) z = R.set oo y ++ X.set c z := fun X y z c => by simp
            have hml : (es.map (·.1)).length = es0.length + 1 := by simp [hln]
            have hm12 : es0.length + 1 ≤ 12 := by have := hI.len; omega
            simp only [glst]
            simp -dsimp (maxSteps := 4000000) +contextual (disch := first | omega | decide +kernel) only [↓vsD, vsU, resW, fnRet, cond_true, cond_false, Nat.reduceShiftRight, Nat.reduceAnd, Go.PV.fits, Go.PV.mutOf, Go.PV.splice, Int.reduceToNat, Int.reduceEq, Int.reduceAdd, Int.reduceSub, Int.reduceMul, Int.reduceLE, Int.reduceLT, Int.reduceNeg, Nat.reduceMul, Nat.reduceLeDiff, ne_eq, if_true, if_false, reduceIte, Nat.reduceEqDiff, ↓Nat.reduceLT, Nat.reduceAdd, Nat.reduceBEq, reduceCtorEq, enc_length, encs_length, tyU, tyC, tyB, tyA, tyI, tyZ, tyF, tyP, enc_getD, encs_getD, wrap_i64, enc_set, splice_one, set_last, bin_aeq2, bin_ane2, wk1_aged, wk1_rage, wk1_counted, wk1_power, wk1_rpower, wk1_valid, wk1_rvalid, wk2_add, exAddO_sum, wk2_over, List.append_assoc, List.length_append, encS_length, encS_getD, encT_length, encT_getD, ← htt, gapp0, gappk, sapp0, sappk, gappn0, gappnk, sappn0, sappnk, h8', okK3, zeroS, ptrS, hS, hG, hP, hQo, so, encK_length, hml, mxB, mxL]
            refine v_draws _ _ _ _ _ _ [10] [] [(0, 0), (0, 0), (0, 0), (0, 0), (0, 0), (0, 0), (0, 0), (0, 0), (0, 0), (0, 0), (0, 0)] (by decide +kernel) (by decide +kernel) (by decide +kernel) (by decide +kernel) ?_
            simp -dsimp (maxSteps := 4000000) +contextual (disch := first | omega | decide +kernel) only [↓vsD, vsU, resW, fnRet, cond_true, cond_false, Nat.reduceShiftRight, Nat.reduceAnd, Go.PV.fits, Go.PV.mutOf, Go.PV.splice, Int.reduceToNat, Int.reduceEq, Int.reduceAdd, Int.reduceSub, Int.reduceMul, Int.reduceLE, Int.reduceLT, Int.reduceNeg, Nat.reduceMul, Nat.reduceLeDiff, ne_eq, if_true, if_false, reduceIte, Nat.reduceEqDiff, ↓Nat.reduceLT, Nat.reduceAdd, Nat.reduceBEq, reduceCtorEq, enc_length, encs_length, tyU, tyC, tyB, tyA, tyI, tyZ, tyF, tyP, enc_getD, encs_getD, wrap_i64, enc_set, splice_one, set_last, bin_aeq2, bin_ane2, wk1_aged, wk1_rage, wk1_counted, wk1_power, wk1_rpower, wk1_valid, wk1_rvalid, wk2_add, exAddO_sum, wk2_over, vdx_none, vkp_go, ↓vd_end, place_nil, place_cons, vdo_eff, vdo_effA, ↓vdm_go, List.take_succ_cons, List.take_zero, List.drop_succ_cons, List.drop_zero, vdo_noeff_s, vdo_noeff_n, vdo_nofloat, vdo_noread, vdo_read, vdo_floatS, vdo_floatA, vde_s, vde_n, vde_c, vdx_s, vdr_s, vdr_b, vdf_m, vdf_p, ↓vd_op, ↓guard_none, ↓guard_some, gval_some, List.forall_mem_cons, List.not_mem_nil, false_implies, implies_true, List.length_append, List.length_replicate, List.replicate_zero, List.replicate_succ, List.contains_nil, List.contains_cons, Bool.or_false, Bool.false_or, Bool.or_self, Bool.or_true, Bool.true_or, vdr_o, vdq_eq, vdw_s, outR_v, rowsAt_none, mapAt_none, lnil, drop0, List.append_assoc, gapp0, gappk, sapp0, sappk, gappn0, gappnk, sappn0, sappnk, h8', okK3, zeroS, ptrS, hS1, hG1, go, go1, gs1, enc_length, ← hwi]
            have hd8 : oo ≠ p8 := fun e => by rw [e, h8] at hord; simp at hord
            exact ⟨(t + 1, R.set oo (.rows 175 3 (encK (es.map (·.1) ++ [(s.blk, s.ins, tt.1)])) es.length) ++ [.rows 65 2 [[.int .i64 tt.1, .int .i64 tt.2]] 0, .rows 175 3 [[.int .i64 s.blk, .int .i64 s.ins, .int .i64 tt.1]] 0, sumO true (addT 0 tt.2 w)], es ++ [((s.blk, s.ins, tt.1), R.length + 2, addT 0 tt.2 w)], oo), (by (try dsimp only); omega), by simp [weaker, Go.PV.look, glst, hln], by simp [encE, encK, kRow, hln], by dsimp only; omega, hI.new (by rw [hes]; simp) htk hmem htc.1 hwr.1 _ _, by rw [← putL_new es _ tt.2 w (R.length + 2) hmem]; exact hTn.symm, by
              rw [List.getElem?_append_left (by simpa using (List.getElem?_eq_some_iff.1 h8).1), List.getElem?_set_ne hd8, h8]⟩
      · have htz : t = s.tg.length := by omega
        simp -dsimp (maxSteps := 4000000) +contextual (disch := first | omega | decide +kernel) only [↓vsD, vsU, resW, fnRet, cond_true, cond_false, Nat.reduceShiftRight, Nat.reduceAnd, Go.PV.fits, Go.PV.mutOf, Go.PV.splice, Int.reduceToNat, Int.reduceEq, Int.reduceAdd, Int.reduceSub, Int.reduceMul, Int.reduceLE, Int.reduceLT, Int.reduceNeg, Nat.reduceMul, Nat.reduceLeDiff, ne_eq, if_true, if_false, reduceIte, Nat.reduceEqDiff, ↓Nat.reduceLT, Nat.reduceAdd, Nat.reduceBEq, reduceCtorEq, enc_length, encs_length, tyU, tyC, tyB, tyA, tyI, tyZ, tyF, tyP, enc_getD, encs_getD, wrap_i64, enc_set, splice_one, set_last, bin_aeq2, bin_ane2, wk1_aged, wk1_rage, wk1_counted, wk1_power, wk1_rpower, wk1_valid, wk1_rvalid, wk2_add, exAddO_sum, wk2_over, encT_length]
        rw [htz, List.take_length] at hT
        have hTs := addSt_succ w x.sites (addAll ws l i) j hjl
        rw [← hs] at hTs
        exact ⟨(j + 1, R, es, oo), (by (try dsimp only); omega), (by simp [weaker, Go.PV.look]), rfl, by dsimp only; omega, hI, by rw [hT, hTs]⟩
    · have hjz : j = x.sites.length := by omega
      simp -dsimp (maxSteps := 4000000) +contextual (disch := first | omega | decide +kernel) only [↓vsD, vsU, resW, fnRet, cond_true, cond_false, Nat.reduceShiftRight, Nat.reduceAnd, Go.PV.fits, Go.PV.mutOf, Go.PV.splice, Int.reduceToNat, Int.reduceEq, Int.reduceAdd, Int.reduceSub, Int.reduceMul, Int.reduceLE, Int.reduceLT, Int.reduceNeg, Nat.reduceMul, Nat.reduceLeDiff, ne_eq, if_true, if_false, reduceIte, Nat.reduceEqDiff, ↓Nat.reduceLT, Nat.reduceAdd, Nat.reduceBEq, reduceCtorEq, enc_length, encs_length, tyU, tyC, tyB, tyA, tyI, tyZ, tyF, tyP, enc_getD, encs_getD, wrap_i64, enc_set, splice_one, set_last, bin_aeq2, bin_ane2, wk1_aged, wk1_rage, wk1_counted, wk1_power, wk1_rpower, wk1_valid, wk1_rvalid, wk2_add, exAddO_sum, wk2_over, encS_length]
      rw [hjz, List.take_length] at hT
      exact ⟨(i + 1, Q, es, oo), (by (try dsimp only); omega), (by simp [weaker, Go.PV.look]), rfl, by dsimp only; omega, hI, by rw [hT, hwi, hx]; rfl⟩
  have hiz : i = l.length := by omega
  subst hiz
  obtain ⟨v0, hv0⟩ : ∃ v0, v0 = es.length := ⟨_, rfl⟩
  cases hes : es with
  | nil =>
    subst hes
    simp only [List.length_nil, glst]
    simp -dsimp (maxSteps := 4000000) +contextual (disch := first | omega | decide +kernel) only [↓vsD, vsU, resW, fnRet, cond_true, cond_false, Nat.reduceShiftRight, Nat.reduceAnd, Go.PV.fits, Go.PV.mutOf, Go.PV.splice, Int.reduceToNat, Int.reduceEq, Int.reduceAdd, Int.reduceSub, Int.reduceMul, Int.reduceLE, Int.reduceLT, Int.reduceNeg, Nat.reduceMul, Nat.reduceLeDiff, ne_eq, if_true, if_false, reduceIte, Nat.reduceEqDiff, ↓Nat.reduceLT, Nat.reduceAdd, Nat.reduceBEq, reduceCtorEq, enc_length, encs_length, tyU, tyC, tyB, tyA, tyI, tyZ, tyF, tyP, enc_getD, encs_getD, wrap_i64, enc_set, splice_one, set_last, bin_aeq2, bin_ane2, wk1_aged, wk1_rage, wk1_counted, wk1_power, wk1_rpower, wk1_valid, wk1_rvalid, wk2_add, exAddO_sum, wk2_over, encF_length]
    refine PCall.mono (sortT_nil _ _) ?_
    rintro p σ' ⟨rfl, rfl⟩
    simp -dsimp (maxSteps := 4000000) +contextual (disch := first | omega | decide +kernel) only [↓vsD, vsU, resW, fnRet, cond_true, cond_false, Nat.reduceShiftRight, Nat.reduceAnd, Go.PV.fits, Go.PV.mutOf, Go.PV.splice, Int.reduceToNat, Int.reduceEq, Int.reduceAdd, Int.reduceSub, Int.reduceMul, Int.reduceLE, Int.reduceLT, Int.reduceNeg, Nat.reduceMul, Nat.reduceLeDiff, ne_eq, if_true, if_false, reduceIte, Nat.reduceEqDiff, ↓Nat.reduceLT, Nat.reduceAdd, Nat.reduceBEq, reduceCtorEq, enc_length, encs_length, tyU, tyC, tyB, tyA, tyI, tyZ, tyF, tyP, enc_getD, encs_getD, wrap_i64, enc_set, splice_one, set_last, bin_aeq2, bin_ane2, wk1_aged, wk1_rage, wk1_counted, wk1_power, wk1_rpower, wk1_valid, wk1_rvalid, wk2_add, exAddO_sum, wk2_over]
    refine v_loopS (fun _ : Unit => [(12, .nils), (77, .int .i64 0), (78, .int .i64 0)]) (fun _ => .rows 127 3 [[.sl (ints ws), .int .i64 den, .sl (encF l)]] 0 :: .map (encE []) :: Q) (fun _ => True) (fun _ => 0) () (by simp [weaker, Go.PV.look]) (by simp) trivial ?_
    intro _ _
    simp -dsimp (maxSteps := 4000000) +contextual (disch := first | omega | decide +kernel) only [↓vsD, vsU, resW, fnRet, cond_true, cond_false, Nat.reduceShiftRight, Nat.reduceAnd, Go.PV.fits, Go.PV.mutOf, Go.PV.splice, Int.reduceToNat, Int.reduceEq, Int.reduceAdd, Int.reduceSub, Int.reduceMul, Int.reduceLE, Int.reduceLT, Int.reduceNeg, Nat.reduceMul, Nat.reduceLeDiff, ne_eq, if_true, if_false, reduceIte, Nat.reduceEqDiff, ↓Nat.reduceLT, Nat.reduceAdd, Nat.reduceBEq, reduceCtorEq, enc_length, encs_length, tyU, tyC, tyB, tyA, tyI, tyZ, tyF, tyP, enc_getD, encs_getD, wrap_i64, enc_set, splice_one, set_last, bin_aeq2, bin_ane2, wk1_aged, wk1_rage, wk1_counted, wk1_power, wk1_rpower, wk1_valid, wk1_rvalid, wk2_add, exAddO_sum, wk2_over]
    refine fin0 (p2 := .sl (encS [])) .nils ?_
    rw [← hT]; rfl
  | cons e0 es0 =>
    have hln : es.length = es0.length + 1 := by rw [hes]; rfl
    have hord := hI.ord (by rw [hes]; simp)
    rw [← hes, hln]
    rw [hln, Nat.add_sub_cancel] at hord
    have hool := (List.getElem?_eq_some_iff.1 hord).1
    have hml : (es.map (·.1)).length = es0.length + 1 := by simp [hln]
    have hm12 : es0.length + 1 ≤ 12 := by have := hI.len; omega
    simp only [glst]
    simp -dsimp (maxSteps := 4000000) +contextual (disch := first | omega | decide +kernel) only [↓vsD, vsU, resW, fnRet, cond_true, cond_false, Nat.reduceShiftRight, Nat.reduceAnd, Go.PV.fits, Go.PV.mutOf, Go.PV.splice, Int.reduceToNat, Int.reduceEq, Int.reduceAdd, Int.reduceSub, Int.reduceMul, Int.reduceLE, Int.reduceLT, Int.reduceNeg, Nat.reduceMul, Nat.reduceLeDiff, ne_eq, if_true, if_false, reduceIte, Nat.reduceEqDiff, ↓Nat.reduceLT, Nat.reduceAdd, Nat.reduceBEq, reduceCtorEq, enc_length, encs_length, tyU, tyC, tyB, tyA, tyI, tyZ, tyF, tyP, enc_getD, encs_getD, wrap_i64, enc_set, splice_one, set_last, bin_aeq2, bin_ane2, wk1_aged, wk1_rage, wk1_counted, wk1_power, wk1_rpower, wk1_valid, wk1_rvalid, wk2_add, exAddO_sum, wk2_over, encF_length]
    refine PCall.mono (sortT_ok (oo + 2) es0.length (es.map (·.1)) _ (show Q[oo]? = _ from hord) hml (by omega)) ?_
    rintro p σ' ⟨rfl, L, hLp, hLs, rfl⟩
    have hLe : L = sortK (es.map (·.1)) := srt_unique hLp hLs hI.keys
    have hLl : L.length = es0.length + 1 := by rw [hLp.length_eq, hml]
    have hQo : (Q.set oo (.rows 175 3 (encK L) es0.length))[oo]? = some (.rows 175 3 (encK L) es0.length) := List.getElem?_set_self hool
    simp -dsimp (maxSteps := 4000000) +contextual (disch := first | omega | decide +kernel) only [↓vsD, vsU, resW, fnRet, cond_true, cond_false, Nat.reduceShiftRight, Nat.reduceAnd, Go.PV.fits, Go.PV.mutOf, Go.PV.splice, Int.reduceToNat, Int.reduceEq, Int.reduceAdd, Int.reduceSub, Int.reduceMul, Int.reduceLE, Int.reduceLT, Int.reduceNeg, Nat.reduceMul, Nat.reduceLeDiff, ne_eq, if_true, if_false, reduceIte, Nat.reduceEqDiff, ↓Nat.reduceLT, Nat.reduceAdd, Nat.reduceBEq, reduceCtorEq, enc_length, encs_length, tyU, tyC, tyB, tyA, tyI, tyZ, tyF, tyP, enc_getD, encs_getD, wrap_i64, enc_set, splice_one, set_last, bin_aeq2, bin_ane2, wk1_aged, wk1_rage, wk1_counted, wk1_power, wk1_rpower, wk1_valid, wk1_rvalid, wk2_add, exAddO_sum, wk2_over, hQo, encK_length, hLl]
    obtain ⟨Lm, hLm⟩ : ∃ Lm, Lm = addAll ws l l.length := ⟨_, rfl⟩
    refine v_loopS (fun s : Nat × Store × Nat × List (Site × Nat) => [(1, .ptr 0 0 0 0), (3, .map 1), (12, glst (s.2.2.1 + 2) s.2.2.2.length), (76, .msl (oo + 2) es0.length), (77, .int .i64 (es0.length + 1)), (78, .int .i64 s.1)])
      (fun s => .rows 127 3 [[.sl (ints ws), .int .i64 den, .sl (encF l)]] 0 :: .map (encE es) :: s.2.1) (fun s => s.1 ≤ es0.length + 1 ∧ SO es oo L es0.length s.2.1 s.2.2.1 s.2.2.2 ∧ s.2.2.2.map (·.1) = outF den Lm (L.take s.1)) (fun s => es0.length + 1 - s.1) (0, Q.set oo (.rows 175 3 (encK L) es0.length), 0, []) (by simp [weaker, Go.PV.look, glst]) rfl ⟨by simp, SO.start hI hord, rfl⟩ ?_
    rintro ⟨i, Q, uo, out⟩ ⟨hi, hO, hF⟩
    dsimp only at hi hO hF ⊢
    by_cases hil : i < es0.length + 1
    · obtain ⟨k, hk⟩ : ∃ k, k = L.getD i default := ⟨_, rfl⟩
      have hkm : k ∈ es.map (·.1) := hLp.mem_iff.1 (by rw [hk, List.getD_eq_getElem?_getD, List.getElem?_eq_getElem (by omega)]; simp)
      obtain ⟨o, t0, hent⟩ := mem_ent hkm
      obtain ⟨hS, hG⟩ := mget_some es k o t0 hI.keys hent
      have hq := hO.sums k o t0 hent
      have hq0 := hq.2
      have hol := (List.getElem?_eq_some_iff.1 hq.1).1
      have hQo : ∀ X, (Q ++ X)[o]? = some (.rows 170 2 [[.bool true, .int .i64 t0]] 0) := fun X => by rw [List.getElem?_append_left hol, hq.1]; rfl
      have hQoo : Q[oo]? = some (.rows 175 3 (encK L) es0.length) := hO.ord
      obtain ⟨n, hn⟩ : ∃ n, n = min (t0 / den) 1099511627776 := ⟨_, rfl⟩
      have hiL : i < L.length := by omega
      have hFn := outF_succ den Lm L i hiL
      rw [← hF, ← hk] at hFn
      have htof : tOf Lm k = t0 := by rw [hLm, ← hT]; exact tOf_mem hI.keys hent
      rw [htof, ← hn] at hFn
      cases hou : out with
      | nil =>
        subst hou
        simp only [List.length_nil, glst]
        simp -dsimp (maxSteps := 4000000) +contextual (disch := first | omega | decide +kernel) only [↓vsD, vsU, resW, fnRet, cond_true, cond_false, Nat.reduceShiftRight, Nat.reduceAnd, Go.PV.fits, Go.PV.mutOf, Go.PV.splice, Int.reduceToNat, Int.reduceEq, Int.reduceAdd, Int.reduceSub, Int.reduceMul, Int.reduceLE, Int.reduceLT, Int.reduceNeg, Nat.reduceMul, Nat.reduceLeDiff, ne_eq, if_true, if_false, reduceIte, Nat.reduceEqDiff, ↓Nat.reduceLT, Nat.reduceAdd, Nat.reduceBEq, reduceCtorEq, enc_length, encs_length, tyU, tyC, tyB, tyA, tyI, tyZ, tyF, tyP, enc_getD, encs_getD, wrap_i64, enc_set, splice_one, set_last, bin_aeq2, bin_ane2, wk1_aged, wk1_rage, wk1_counted, wk1_power, wk1_rpower, wk1_valid, wk1_rvalid, wk2_add, exAddO_sum, wk2_over, List.append_assoc, List.length_append, gapp0, gappk, sapp0, sappk, gappn0, gappnk, sappn0, sappnk, hQoo, encK_length, encK_getD, hLl, ← hk, okK3, zeroS, ptrS, hS, hG, hQo, ← hn]
        refine ⟨fun hn0 => ⟨(i + 1, Q ++ [.rows 175 3 [[.int .i64 k.1, .int .i64 k.2.1, .int .i64 k.2.2]] 0], uo, []), (by (try dsimp only); omega), by simp [weaker, Go.PV.look, glst], rfl, by dsimp only; omega, hO.app _, by rw [hFn, stepS, if_pos hn0]⟩, fun hn0 => ?_⟩
        refine v_draws _ _ _ _ _ _ [10, 13] [] [(0, 1), (0, 0), (0, 0), (0, 0), (0, 0), (0, 0), (0, 0), (0, 0), (0, 0), (0, 0), (0, 0), (1, 1), (1, 1), (0, 0)] (by decide +kernel) (by decide +kernel) (by decide +kernel) (by decide +kernel) ?_
        simp -dsimp (maxSteps := 4000000) +contextual (disch := first | omega | decide +kernel) only [↓vsD, vsU, resW, fnRet, cond_true, cond_false, Nat.reduceShiftRight, Nat.reduceAnd, Go.PV.fits, Go.PV.mutOf, Go.PV.splice, Int.reduceToNat, Int.reduceEq, Int.reduceAdd, Int.reduceSub, Int.reduceMul, Int.reduceLE, Int.reduceLT, Int.reduceNeg, Nat.reduceMul, Nat.reduceLeDiff, ne_eq, if_true, if_false, reduceIte, Nat.reduceEqDiff, ↓Nat.reduceLT, Nat.reduceAdd, Nat.reduceBEq, reduceCtorEq, enc_length, encs_length, tyU, tyC, tyB, tyA, tyI, tyZ, tyF, tyP, enc_getD, encs_getD, wrap_i64, enc_set, splice_one, set_last, bin_aeq2, bin_ane2, wk1_aged, wk1_rage, wk1_counted, wk1_power, wk1_rpower, wk1_valid, wk1_rvalid, wk2_add, exAddO_sum, wk2_over, vdx_none, vkp_go, ↓vd_end, place_nil, place_cons, vdo_eff, vdo_effA, ↓vdm_go, List.take_succ_cons, List.take_zero, List.drop_succ_cons, List.drop_zero, vdo_noeff_s, vdo_noeff_n, vdo_nofloat, vdo_noread, vdo_read, vdo_floatS, vdo_floatA, vde_s, vde_n, vde_c, vdx_s, vdr_s, vdr_b, vdf_m, vdf_p, ↓vd_op, ↓guard_none, ↓guard_some, gval_some, List.forall_mem_cons, List.not_mem_nil, false_implies, implies_true, List.length_append, List.length_replicate, List.replicate_zero, List.replicate_succ, List.contains_nil, List.contains_cons, Bool.or_false, Bool.false_or, Bool.or_self, Bool.or_true, Bool.true_or, vdr_o, vdq_eq, vdw_s, outR_v, rowsAt_none, mapAt_none, lnil, drop0, List.append_assoc, List.length_append, gapp0, gappk, sapp0, sappk, gappn0, gappnk, sappn0, sappnk]
        exact ⟨(i + 1, Q ++ [.rows 175 3 [[.int .i64 k.1, .int .i64 k.2.1, .int .i64 k.2.2]] 0, .rows 63 3 [[.int .i64 k.1, .int .i64 k.2.1, .msl (Q.length + 4) 0]] 0, .rows 65 2 (encT [(k.2.2, n)]) 0], Q.length + 1, [(⟨k.1, k.2.1, [(k.2.2, n)]⟩, Q.length + 2)]), (by (try dsimp only); omega), by simp [weaker, Go.PV.look, glst], rfl, by dsimp only; omega, hO.first _ _ _ _ rfl, by rw [hFn, stepS, if_neg hn0, if_neg (fun h => h.1 rfl)]; rfl⟩
      | cons u0 us =>
        have hol2 : out.length = us.length + 1 := by rw [hou]; rfl
        have hor := hO.row (by rw [hou]; simp)
        rw [hol2, Nat.add_sub_cancel] at hor
        rw [← hou, hol2]
        have huol := (List.getElem?_eq_some_iff.1 hor).1
        obtain ⟨lu, hlu⟩ : ∃ lu, lu = out.getD us.length default := ⟨_, rfl⟩
        have hlum : lu ∈ out := by rw [hlu, List.getD_eq_getElem?_getD, List.getElem?_eq_getElem (by omega)]; simp
        have hlut := (hO.tgs lu hlum).1
        have hlun := (hO.tgs lu hlum).2
        have htl := (List.getElem?_eq_some_iff.1 hlut).1
        have hQu : ∀ X, (Q ++ X)[uo]? = some (.rows 63 3 (encU out) us.length) := fun X => by rw [List.getElem?_append_left huol, hor]
        have hQt : ∀ X, (Q ++ X)[lu.2]? = some (.rows 65 2 (encT lu.1.tg) (lu.1.tg.length - 1)) := fun X => by rw [List.getElem?_append_left htl, hlut]
        have hul : us.length < out.length := by omega
        have hub : us.length + 1 ≤ 12 := by
          have h1 := outF_len den Lm (L.take i)
          rw [← hF, List.length_map, List.length_take] at h1
          omega
        have hue := encU_getD out us.length hul
        rw [← hlu] at hue
        have hul2 : (encU out).length = us.length + 1 := by rw [encU_length, hol2]
        have e1 : ((us.length + 1 : Nat) : Int) - 1 = us.length := by omega
        have e2 : (((us.length + 1 + 1 : Nat) : Int) - 1).toNat = us.length + 1 := by omega
        have e3 : ((us.length + 1 + 1 : Nat) : Int) - 1 = ((us.length + 1 : Nat) : Int) := by omega
        have hdt : lu.2 ≠ uo := fun e => by rw [e, hor] at hlut; simp at hlut
        have su : ∀ X y, (Q ++ X).set uo y = Q.set uo y ++ X := fun X y => List.set_append_left _ _ huol
        have su2 : ∀ X y z, (Q.set uo y ++ X).set uo z = Q.set uo z ++ X := fun X y z => by rw [List.set_append_left _ _ (by simpa using huol), List.set_set]
        have gu : ∀ X y, (Q.set uo y ++ X)[uo]? = some y := fun X y => by rw [List.getElem?_append_left (by simpa using huol), List.getElem?_set_self huol]
        have gu0 : ∀ X y o, (Q.set o y ++ X)[Q.length]? = X[0]? := fun X y o => by have := gapp0 (Q.set o y) X; simpa using this
        have guk : ∀ X y o c, (Q.set o y ++ X)[Q.length + c]? = X[c]? := fun X y o c => by have := gappk (Q.set o y) X c; simpa using this
        have gl : ∀ r, (encU out ++ [r]).getD (us.length + 1) [] = r := fun r => by rw [List.getD_eq_getElem?_getD, ← hul2, List.getElem?_concat_length]; rfl
        have sl : ∀ r r', (encU out ++ [r]).set (us.length + 1) r' = encU out ++ [r'] := fun r r' => by rw [← hul2, List.set_append_right _ _ (Nat.le_refl _), Nat.sub_self]; rfl
        have st : ∀ X y, (Q ++ X).set lu.2 y = Q.set lu.2 y ++ X := fun X y => List.set_append_left _ _ htl
        have st2 : ∀ X y z, (Q.set lu.2 y ++ X).set uo z = (Q.set lu.2 y).set uo z ++ X := fun X y z => List.set_append_left _ _ (by simpa using huol)
        have gt : ∀ X y, (Q.set lu.2 y ++ X)[uo]? = some (.rows 63 3 (encU out) us.length) := fun X y => by rw [List.getElem?_append_left (by simpa using huol), List.getElem?_set_ne hdt, hor]
        have htg : lu.1.tg.length - 1 + 1 = lu.1.tg.length := by have := List.length_pos_iff.2 hlun; omega
        have htg12 : lu.1.tg.length ≤ 1000 := by
          have h1 := outF_tg den Lm (L.take i) lu.1 (by rw [← hF]; exact List.mem_map.2 ⟨lu, hlum, rfl⟩)
          rw [List.length_take] at h1
          omega
        simp only [glst]
        simp -dsimp (maxSteps := 4000000) +contextual (disch := first | omega | decide +kernel) only [↓vsD, vsU, resW, fnRet, cond_true, cond_false, Nat.reduceShiftRight, Nat.reduceAnd, Go.PV.fits, Go.PV.mutOf, Go.PV.splice, Int.reduceToNat, Int.reduceEq, Int.reduceAdd, Int.reduceSub, Int.reduceMul, Int.reduceLE, Int.reduceLT, Int.reduceNeg, Nat.reduceMul, Nat.reduceLeDiff, ne_eq, if_true, if_false, reduceIte, Nat.reduceEqDiff, ↓Nat.reduceLT, Nat.reduceAdd, Nat.reduceBEq, reduceCtorEq, enc_length, encs_length, tyU, tyC, tyB, tyA, tyI, tyZ, tyF, tyP, enc_getD, encs_getD, wrap_i64, enc_set, splice_one, set_last, bin_aeq2, bin_ane2, wk1_aged, wk1_rage, wk1_counted, wk1_power, wk1_rpower, wk1_valid, wk1_rvalid, wk2_add, exAddO_sum, wk2_over, List.append_assoc, List.length_append, gapp0, gappk, sapp0, sappk, gappn0, gappnk, sappn0, sappnk, hQoo, encK_length, encK_getD, hLl, ← hk, okK3, zeroS, ptrS, hS, hG, hQo, ← hn, hQu, hul2, e1, hue, su, su2, gu, gu0, guk, gl, mxB, mxL]
        refine ⟨fun hn0 => ?_, fun hn0 => ⟨fun hb => ⟨fun hi2 => ?_, fun hi2 => ?_⟩, fun hb => ?_⟩⟩
        · exact ⟨(i + 1, Q ++ [.rows 175 3 [[.int .i64 k.1, .int .i64 k.2.1, .int .i64 k.2.2]] 0], uo, out), (by (try dsimp only); omega), by simp [weaker, Go.PV.look, glst, hol2], rfl, by dsimp only; omega, hO.app _, by rw [hFn, stepS, if_pos hn0]⟩
        · refine v_draws _ _ _ _ _ _ [10, 13] [] [(0, 1), (0, 0), (0, 0), (0, 0), (0, 0), (0, 0), (0, 0), (0, 0), (0, 0), (0, 0), (0, 0), (1, 1), (1, 1), (0, 0)] (by decide +kernel) (by decide +kernel) (by decide +kernel) (by decide +kernel) ?_
          simp -dsimp (maxSteps := 4000000) +contextual (disch := first | omega | decide +kernel) only [↓vsD, vsU, resW, fnRet, cond_true, cond_false, Nat.reduceShiftRight, Nat.reduceAnd, Go.PV.fits, Go.PV.mutOf, Go.PV.splice, Int.reduceToNat, Int.reduceEq, Int.reduceAdd, Int.reduceSub, Int.reduceMul, Int.reduceLE, Int.reduceLT, Int.reduceNeg, Nat.reduceMul, Nat.reduceLeDiff, ne_eq, if_true, if_false, reduceIte, Nat.reduceEqDiff, ↓Nat.reduceLT, Nat.reduceAdd, Nat.reduceBEq, reduceCtorEq, enc_length, encs_length, tyU, tyC, tyB, tyA, tyI, tyZ, tyF, tyP, enc_getD, encs_getD, wrap_i64, enc_set, splice_one, set_last, bin_aeq2, bin_ane2, wk1_aged, wk1_rage, wk1_counted, wk1_power, wk1_rpower, wk1_valid, wk1_rvalid, wk2_add, exAddO_sum, wk2_over, vdx_none, vkp_go, ↓vd_end, place_nil, place_cons, vdo_eff, vdo_effA, ↓vdm_go, List.take_succ_cons, List.take_zero, List.drop_succ_cons, List.drop_zero, vdo_noeff_s, vdo_noeff_n, vdo_nofloat, vdo_noread, vdo_read, vdo_floatS, vdo_floatA, vde_s, vde_n, vde_c, vdx_s, vdr_s, vdr_b, vdf_m, vdf_p, ↓vd_op, ↓guard_none, ↓guard_some, gval_some, List.forall_mem_cons, List.not_mem_nil, false_implies, implies_true, List.length_append, List.length_replicate, List.replicate_zero, List.replicate_succ, List.contains_nil, List.contains_cons, Bool.or_false, Bool.false_or, Bool.or_self, Bool.or_true, Bool.true_or, vdr_o, vdq_eq, vdw_s, outR_v, rowsAt_none, mapAt_none, lnil, drop0, List.append_assoc, List.length_append, gapp0, gappk, sapp0, sappk, gappn0, gappnk, sappn0, sappnk, hQu, hue, hul2, hQt, st, st2, gt, gu0, guk, encT_length, htg, mxB, mxL]
          have hstore : ((Q.set lu.2 (.rows 65 2 (encT lu.1.tg ++ [[.int .i64 k.2.2, .int .i64 n]]) lu.1.tg.length)).set uo (.rows 63 3 ((encU out).set us.length [.int .i64 lu.1.blk, .int .i64 lu.1.ins, .msl (lu.2 + 2) lu.1.tg.length]) us.length)) =
              ((Q.set lu.2 (.rows 65 2 (encT (lu.1.tg ++ [(k.2.2, n)])) lu.1.tg.length)).set uo (.rows 63 3 (encU (out.set us.length (⟨k.1, k.2.1, lu.1.tg ++ [(k.2.2, n)]⟩, lu.2))) us.length)) := by
            rw [hb, hi2]
            simp [encT, encU, List.map_set]
          exact ⟨(i + 1, _, uo, out.set us.length (⟨k.1, k.2.1, lu.1.tg ++ [(k.2.2, n)]⟩, lu.2)), (by (try dsimp only); omega), by simp [weaker, Go.PV.look, glst, hol2], by dsimp only; rw [hstore], by dsimp only; omega, hO.same hol2 hlu k n _, by rw [hFn]; exact stepS_same hol2 hlu k n hn0 hb hi2⟩
        · refine v_draws _ _ _ _ _ _ [10, 13] [] [(0, 1), (0, 0), (0, 0), (0, 0), (0, 0), (0, 0), (0, 0), (0, 0), (0, 0), (0, 0), (0, 0), (1, 1), (1, 1), (0, 0)] (by decide +kernel) (by decide +kernel) (by decide +kernel) (by decide +kernel) ?_
          simp -dsimp (maxSteps := 4000000) +contextual (disch := first | omega | decide +kernel) only [↓vsD, vsU, resW, fnRet, cond_true, cond_false, Nat.reduceShiftRight, Nat.reduceAnd, Go.PV.fits, Go.PV.mutOf, Go.PV.splice, Int.reduceToNat, Int.reduceEq, Int.reduceAdd, Int.reduceSub, Int.reduceMul, Int.reduceLE, Int.reduceLT, Int.reduceNeg, Nat.reduceMul, Nat.reduceLeDiff, ne_eq, if_true, if_false, reduceIte, Nat.reduceEqDiff, ↓Nat.reduceLT, Nat.reduceAdd, Nat.reduceBEq, reduceCtorEq, enc_length, encs_length, tyU, tyC, tyB, tyA, tyI, tyZ, tyF, tyP, enc_getD, encs_getD, wrap_i64, enc_set, splice_one, set_last, bin_aeq2, bin_ane2, wk1_aged, wk1_rage, wk1_counted, wk1_power, wk1_rpower, wk1_valid, wk1_rvalid, wk2_add, exAddO_sum, wk2_over, vdx_none, vkp_go, ↓vd_end, place_nil, place_cons, vdo_eff, vdo_effA, ↓vdm_go, List.take_succ_cons, List.take_zero, List.drop_succ_cons, List.drop_zero, vdo_noeff_s, vdo_noeff_n, vdo_nofloat, vdo_noread, vdo_read, vdo_floatS, vdo_floatA, vde_s, vde_n, vde_c, vdx_s, vdr_s, vdr_b, vdf_m, vdf_p, ↓vd_op, ↓guard_none, ↓guard_some, gval_some, List.forall_mem_cons, List.not_mem_nil, false_implies, implies_true, List.length_append, List.length_replicate, List.replicate_zero, List.replicate_succ, List.contains_nil, List.contains_cons, Bool.or_false, Bool.false_or, Bool.or_self, Bool.or_true, Bool.true_or, vdr_o, vdq_eq, vdw_s, outR_v, rowsAt_none, mapAt_none, lnil, drop0, List.append_assoc, List.length_append, gapp0, gappk, sapp0, sappk, gappn0, gappnk, sappn0, sappnk, su, su2, gu, gu0, guk, gl, sl, hul2, List.getD_cons_zero, e2, e3]
          have hE : encU (out ++ [(⟨k.1, k.2.1, [(k.2.2, n)]⟩, Q.length + 1)]) = encU out ++ [[.int .i64 k.1, .int .i64 k.2.1, .msl (Q.length + 1 + 2) 0]] := by simp [encU]
          exact ⟨(i + 1, _, uo, out ++ [(⟨k.1, k.2.1, [(k.2.2, n)]⟩, Q.length + 1)]), (by (try dsimp only); omega), by simp [weaker, Go.PV.look, glst, hol2], by dsimp only; rw [List.length_set, hE, hol2]; rfl, by dsimp only; omega, hO.more (by rw [hou]; simp) k n _, by rw [hFn]; exact stepS_new hol2 hlu k n hn0 (fun h => hi2 h.2) _⟩
        · refine v_draws _ _ _ _ _ _ [10, 13] [] [(0, 1), (0, 0), (0, 0), (0, 0), (0, 0), (0, 0), (0, 0), (0, 0), (0, 0), (0, 0), (0, 0), (1, 1), (1, 1), (0, 0)] (by decide +kernel) (by decide +kernel) (by decide +kernel) (by decide +kernel) ?_
          simp -dsimp (maxSteps := 4000000) +contextual (disch := first | omega | decide +kernel) only [↓vsD, vsU, resW, fnRet, cond_true, cond_false, Nat.reduceShiftRight, Nat.reduceAnd, Go.PV.fits, Go.PV.mutOf, Go.PV.splice, Int.reduceToNat, Int.reduceEq, Int.reduceAdd, Int.reduceSub, Int.reduceMul, Int.reduceLE, Int.reduceLT, Int.reduceNeg, Nat.reduceMul, Nat.reduceLeDiff, ne_eq, if_true, if_false, reduceIte, Nat.reduceEqDiff, ↓Nat.reduceLT, Nat.reduceAdd, Nat.reduceBEq, reduceCtorEq, enc_length, encs_length, tyU, tyC, tyB, tyA, tyI, tyZ, tyF, tyP, enc_getD, encs_getD, wrap_i64, enc_set, splice_one, set_last, bin_aeq2, bin_ane2, wk1_aged, wk1_rage, wk1_counted, wk1_power, wk1_rpower, wk1_valid, wk1_rvalid, wk2_add, exAddO_sum, wk2_over, vdx_none, vkp_go, ↓vd_end, place_nil, place_cons, vdo_eff, vdo_effA, ↓vdm_go, List.take_succ_cons, List.take_zero, List.drop_succ_cons, List.drop_zero, vdo_noeff_s, vdo_noeff_n, vdo_nofloat, vdo_noread, vdo_read, vdo_floatS, vdo_floatA, vde_s, vde_n, vde_c, vdx_s, vdr_s, vdr_b, vdf_m, vdf_p, ↓vd_op, ↓guard_none, ↓guard_some, gval_some, List.forall_mem_cons, List.not_mem_nil, false_implies, implies_true, List.length_append, List.length_replicate, List.replicate_zero, List.replicate_succ, List.contains_nil, List.contains_cons, Bool.or_false, Bool.false_or, Bool.or_self, Bool.or_true, Bool.true_or, vdr_o, vdq_eq, vdw_s, outR_v, rowsAt_none, mapAt_none, lnil, drop0, List.append_assoc, List.length_append, gapp0, gappk, sapp0, sappk, gappn0, gappnk, sappn0, sappnk, su, su2, gu, gu0, guk, gl, sl, hul2, List.getD_cons_zero, e2, e3]
          have hE : encU (out ++ [(⟨k.1, k.2.1, [(k.2.2, n)]⟩, Q.length + 1)]) = encU out ++ [[.int .i64 k.1, .int .i64 k.2.1, .msl (Q.length + 1 + 2) 0]] := by simp [encU]
          exact ⟨(i + 1, _, uo, out ++ [(⟨k.1, k.2.1, [(k.2.2, n)]⟩, Q.length + 1)]), (by (try dsimp only); omega), by simp [weaker, Go.PV.look, glst, hol2], by dsimp only; rw [List.length_set, hE, hol2]; rfl, by dsimp only; omega, hO.more (by rw [hou]; simp) k n _, by rw [hFn]; exact stepS_new hol2 hlu k n hn0 (fun h => hb h.1) _⟩
    · have hiz : i = es0.length + 1 := by omega
      rw [hiz, ← hLl, List.take_length, hLe, hLm] at hF
      have hFE : encS (sitesF den (addAll ws l l.length)) = encS (out.map (·.1)) := by
        rw [hF, ← totE_keys, hT]; rfl
      cases hou : out with
      | nil =>
        simp only [List.length_nil, glst]
        simp -dsimp (maxSteps := 4000000) +contextual (disch := first | omega | decide +kernel) only [↓vsD, vsU, resW, fnRet, cond_true, cond_false, Nat.reduceShiftRight, Nat.reduceAnd, Go.PV.fits, Go.PV.mutOf, Go.PV.splice, Int.reduceToNat, Int.reduceEq, Int.reduceAdd, Int.reduceSub, Int.reduceMul, Int.reduceLE, Int.reduceLT, Int.reduceNeg, Nat.reduceMul, Nat.reduceLeDiff, ne_eq, if_true, if_false, reduceIte, Nat.reduceEqDiff, ↓Nat.reduceLT, Nat.reduceAdd, Nat.reduceBEq, reduceCtorEq, enc_length, encs_length, tyU, tyC, tyB, tyA, tyI, tyZ, tyF, tyP, enc_getD, encs_getD, wrap_i64, enc_set, splice_one, set_last, bin_aeq2, bin_ane2, wk1_aged, wk1_rage, wk1_counted, wk1_power, wk1_rpower, wk1_valid, wk1_rvalid, wk2_add, exAddO_sum, wk2_over]
        refine fin0 (p2 := .sl (encS (out.map (·.1)))) (by rw [hou]; exact .nils) (by rw [hFE])
      | cons u0 us =>
        have hol2 : out.length = us.length + 1 := by rw [hou]; rfl
        have hor := hO.row (by rw [hou]; simp)
        rw [← hou, hol2]
        simp only [glst]
        simp -dsimp (maxSteps := 4000000) +contextual (disch := first | omega | decide +kernel) only [↓vsD, vsU, resW, fnRet, cond_true, cond_false, Nat.reduceShiftRight, Nat.reduceAnd, Go.PV.fits, Go.PV.mutOf, Go.PV.splice, Int.reduceToNat, Int.reduceEq, Int.reduceAdd, Int.reduceSub, Int.reduceMul, Int.reduceLE, Int.reduceLT, Int.reduceNeg, Nat.reduceMul, Nat.reduceLeDiff, ne_eq, if_true, if_false, reduceIte, Nat.reduceEqDiff, ↓Nat.reduceLT, Nat.reduceAdd, Nat.reduceBEq, reduceCtorEq, enc_length, encs_length, tyU, tyC, tyB, tyA, tyI, tyZ, tyF, tyP, enc_getD, encs_getD, wrap_i64, enc_set, splice_one, set_last, bin_aeq2, bin_ane2, wk1_aged, wk1_rage, wk1_counted, wk1_power, wk1_rpower, wk1_valid, wk1_rvalid, wk2_add, exAddO_sum, wk2_over]
        refine fin0 (p2 := .sl (encS (out.map (·.1)))) (by have := frz_sites (σ := .rows 127 3 [[.sl (ints ws), .int .i64 den, .sl (encF l)]] 0 :: .map (encE es) :: Q) (by simpa using hor) (fun u hu => by simpa using (hO.tgs u hu).1); rwa [hol2] at this) (by rw [hFE])
end Go.Proofs.Ythginmfobikdgaa
