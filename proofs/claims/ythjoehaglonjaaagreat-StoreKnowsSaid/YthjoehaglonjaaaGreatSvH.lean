/- Chapter 31: the law StoreKnows, walked. -/
import Derived.Test.YthjoehaglonjaaaGreatSvG
import Derived.Test.YthjoehaglonjaaaGreatSuP
import Derived.Test.YthjoehaglonjaaaGreatSuL
set_option linter.unusedSimpArgs false
set_option linter.unusedVariables false
namespace Go.Proofs.YthjoehaglonjaaaGreat
open Go.PV

theorem bel_totR (k : Nat) (s : StS) (r : Int) : Bel k (.tup [cntV (totR s r).1, .int .i64 (totR s r).2.1, .int .i64 (totR s r).2.2]) := bel_tup (fun q hq => by
  simp only [List.mem_cons, List.not_mem_nil, or_false] at hq
  rcases hq with rfl | rfl | rfl
  · exact bel_cnt _ _
  · exact bel_int _ _ _
  · exact bel_int _ _ _)
theorem total_on (s : StS) (r : Int) (hs : SmP s) (σ : Store) : PCall Tryz.prog 9 [stV s, .int .i64 r] σ (fun q τ => q = .tup [cntV (totR s r).1, .int .i64 (totR s r).2.1, .int .i64 (totR s r).2.2] ∧ τ = σ) :=
  PCall.lift (total_w s r hs) (bel2 (bel_st _ _) (bel_int _ _ _)) (fun q h => ⟨by rw [h]; exact bel_totR _ _ _, h, rfl⟩)
theorem DrF.one {x : FC} (h : DrF x) : One1 x.sites ∧ x.sites.length ≤ 1 := by
  rcases h.s with hs | ⟨b, i, c, _, _, hc, hs⟩
  · rw [hs]; exact ⟨fun s h => by simp at h, by simp⟩
  · rw [hs]
    refine ⟨fun s h => ?_, by simp⟩
    rw [List.mem_singleton] at h
    subst h
    exact ⟨c, rfl, hc.1, by omega⟩
theorem smP_of {S : StS} (hn : S.ps.length ≤ 40) (hc : S.cs.length ≤ 40) (hd : ∀ p ∈ S.ps, DrP p) : SmP S :=
  ⟨hn, hc, fun p hp => (hd p hp).fit, fun p hp x hx => ((hd p hp).f x hx).one⟩
/-- A list of pieces, in an object where it is not empty. -/
def PcR (Y : Store) (L : List Pc) (V : PV) : Prop := (L = [] ∧ V = .nils) ∨ (L ≠ [] ∧ ∃ o v, V = .msl (o + 5) v ∧ Y[o]? = some (.rows 38 5 (encP L) v))
theorem PcR.app {Y : Store} {L : List Pc} {V : PV} (h : PcR Y L V) (X : Store) : PcR (Y ++ X) L V := by
  rcases h with h | ⟨h0, o, v, h1, h2⟩
  · exact .inl h
  · exact .inr ⟨h0, o, v, h1, by rw [List.getElem?_append_left (List.getElem?_eq_some_iff.1 h2).1, h2]⟩
/-- Two lists lie apart. -/
def PcA (V W : PV) : Prop := ∀ o v u w, V = .msl o v → W = .msl u w → o ≠ u
theorem PcR.set {Y : Store} {L : List Pc} {V : PV} (h : PcR Y L V) {o : Nat} (hne : ∀ u w, V = .msl u w → u ≠ o + 5) (B : Go.PV.Obj) : PcR (Y.set o B) L V := by
  rcases h with h | ⟨h0, u, v, h1, h2⟩
  · exact .inl h
  · exact .inr ⟨h0, u, v, h1, by rw [List.getElem?_set_ne (fun e => hne _ _ h1 (by rw [e])), h2]⟩
theorem PcR.lt {Y : Store} {L : List Pc} {V : PV} (h : PcR Y L V) {u w : Nat} (e : V = .msl u w) : u < Y.length + 5 := by
  rcases h with ⟨_, h⟩ | ⟨_, o, v, h1, h2⟩
  · rw [h] at e; cases e
  · rw [h1] at e
    cases e
    have := (List.getElem?_eq_some_iff.1 h2).1
    omega
theorem PcR.new (Y X : Store) (p : Pc) (v : Nat) (h : X[0]? = some (.rows 38 5 (encP [p]) v)) : PcR (Y ++ X) [p] (.msl (Y.length + 5) v) :=
  .inr ⟨by simp, Y.length, v, rfl, by rw [List.getElem?_append_right (Nat.le_refl _), Nat.sub_self, h]⟩
theorem PcR.ext {Y : Store} {L : List Pc} {o v : Nat} (hl : o < Y.length) (p : Pc) (h0 : L ≠ []) : PcR (Y.set o (.rows 38 5 (encP L ++ [p.row]) (v + 1))) (L ++ [p]) (.msl (o + 5) (v + 1)) :=
  .inr ⟨by simp, o, v + 1, rfl, by rw [List.getElem?_set_self hl]; simp [encP]⟩
theorem PcR.frz {σ Y : Store} {zs : List Nat} {L : List Pc} {V : PV} (h : PcR Y L V) (hz : ∀ o, o < Y.length → o + 5 ∈ zs) (hs : ∀ o, o < Y.length → σ[o + 5]? = Y[o]?) : Frzn zs σ V (.sl (encP L)) := by
  rcases h with ⟨rfl, rfl⟩ | ⟨_, o, v, rfl, h2⟩
  · exact .nils
  · have hl := (List.getElem?_eq_some_iff.1 h2).1
    exact Frzn.msl0 (hz o hl) (by rw [hs o hl, h2])
set_option maxRecDepth 8000 in
set_option maxHeartbeats 16000000 in
theorem knows31_ok (l0 pk0 : List Int) (hl0 : okInts .u8 l0) (hpk0 : okInts .u8 pk0) : PCall Tryz.prog 3 [.sl (PV.encI .u8 l0), .sl (PV.encI .u8 pk0)] [] (fun p _ => p = .bool true) := by
  have n1 : ∀ args σ, nx.f 9 args σ = none := fun _ _ => rfl
  have n2 : ∀ args σ, nx.f 10 args σ = none := fun _ _ => rfl
  have n3 : ∀ args σ, nx.f 5 args σ = none := fun _ _ => rfl
  have n4 : ∀ args σ, nx.f 7 args σ = none := fun _ _ => rfl
  have n5 : ∀ args σ, nx.f 6 args σ = none := fun _ _ => rfl
  refine PCall.vfrz [] 220855883200342943286019939014867840416086697135076879023040064768704511 238 [.tmp 4] nx_ok mix Tryz.func3 rfl (by decide) rfl rfl (by simp) ?_
  simp -dsimp only [initFr, List.zipIdx_cons, List.zipIdx_nil, List.map_cons, List.map_nil, Nat.zero_add, Nat.reduceAdd]
  simp -dsimp (maxSteps := 4000000) +contextual (disch := first | omega | decide +kernel) only [↓vsD, vsU, vsE, resW, fnRet, cond_true, cond_false, Go.PV.fits, Go.PV.mutOf, Go.PV.splice, if_true, if_false, ↓Nat.reduceLT, simprocAttr, nx_next, exNextO_codes, n3]
  refine PCall.mono (awake_on _) ?_
  rintro p σ' ⟨rfl, rfl⟩
  simp -dsimp (maxSteps := 4000000) +contextual (disch := first | omega | decide +kernel) only [↓vsD, vsU, vsE, resW, fnRet, cond_true, cond_false, Go.PV.fits, Go.PV.mutOf, Go.PV.splice, if_true, if_false, ↓Nat.reduceLT, simprocAttr, nx_next, exNextO_codes, n5]
  refine PCall.mono (newS_on l0 600 _) ?_
  rintro p σ' ⟨rfl, rfl⟩
  obtain ⟨cs, hcs⟩ : ∃ cs, cs = l0.take 600 := ⟨_, rfl⟩
  have hcl : okInts .u8 cs := fun n hn => hl0 n (by rw [hcs] at hn; exact List.mem_of_mem_take hn)
  have hcn : cs.length ≤ 600 := by rw [hcs]; simp; omega
  rw [← hcs]
  simp -dsimp (maxSteps := 4000000) +contextual (disch := first | omega | decide +kernel) only [↓vsD, vsU, vsE, resW, fnRet, cond_true, cond_false, Go.PV.fits, Go.PV.mutOf, Go.PV.splice, if_true, if_false, ↓Nat.reduceLT, simprocAttr, nx_next, exNextO_codes, n4]
  refine filled_on cs 0 8 (by omega) hcl (by omega) (Nat.zero_le _) 0 rfl ?_
  intro S LS kx hS hkx
  simp -dsimp only [List.set_cons_zero, stV, List.nil_append, List.cons_append]
  simp -dsimp (maxSteps := 4000000) +contextual (disch := first | omega | decide +kernel) only [↓vsD, vsU, vsE, resW, fnRet, cond_true, cond_false, Go.PV.fits, Go.PV.mutOf, Go.PV.splice, if_true, if_false, ↓Nat.reduceLT, simprocAttr, nx_next, exNextO_codes, rowAt_ptr, rowAtO_some, loadP_B, loadPB_t, loadPB_f, n5]
  refine PCall.mono (newS_on pk0 20 _) ?_
  rintro p σ' ⟨rfl, rfl⟩
  obtain ⟨os, hos⟩ : ∃ os, os = pk0.take 20 := ⟨_, rfl⟩
  have hol : okInts .u8 os := fun n hn => hpk0 n (by rw [hos] at hn; exact List.mem_of_mem_take hn)
  have hon : os.length ≤ 20 := by rw [hos]; simp; omega
  rw [← hos]
  have hSn : sizeS S ≤ 8 := hS.sz
  have hSo : OkSt S := hS.ok (by omega)
  have hSd := hS.dr
  unfold sizeS at hSn
  simp -dsimp (maxSteps := 4000000) +contextual (disch := first | omega | decide +kernel) only [↓vsD, vsU, vsE, resW, fnRet, cond_true, cond_false, Go.PV.fits, Go.PV.mutOf, Go.PV.splice, if_true, if_false, ↓Nat.reduceLT, simprocAttr, nx_next, exNextO_codes, rowAt_ptr, rowAtO_some, loadP_B, loadPB_t, loadPB_f]
  refine v_loopS (fun s : Nat × List Pc × List Pc × PV × PV × Nat × Store => [(6, .ptr 1 0 0 0), (8, .ptr 2 0 0 0), (9, .ptr 3 0 0 0), (10, .ptr 4 0 0 0), (11, .int .i64 s.1)])
    (fun s => codes cs kx :: .rows 29 2 [[.sl (encP S.ps), .sl (encD S.cs)]] 0 :: .rows 29 2 [[s.2.2.2.1, .nils]] 0 :: .rows 29 2 [[s.2.2.2.2.1, .nils]] 0 :: codes os s.2.2.2.2.2.1 :: s.2.2.2.2.2.2)
    (fun s => s.1 ≤ S.ps.length ∧ PartL (S.ps.take s.1) s.2.1 s.2.2.1 ∧ PcR s.2.2.2.2.2.2 s.2.1 s.2.2.2.1 ∧ PcR s.2.2.2.2.2.2 s.2.2.1 s.2.2.2.2.1 ∧ PcA s.2.2.2.1 s.2.2.2.2.1 ∧ s.2.2.2.2.2.1 ≤ os.length) (fun s => S.ps.length - s.1) (0, [], [], .nils, .nils, 0, []) (by simp [weaker, Go.PV.look]) rfl ⟨Nat.zero_le _, .nil, .inl ⟨rfl, rfl⟩, .inl ⟨rfl, rfl⟩, (fun o v u w h => by cases h), Nat.zero_le _⟩ ?_
  rintro ⟨k, A, B, VA, VB, m, Y⟩ ⟨hk, hP, hVA, hVB, hap, hm⟩
  dsimp only at hk hP hVA hVB hap hm ⊢
  by_cases hkn : k < S.ps.length
  · have a0 := nxt_lt hol m 2 (by omega)
    have b0 := nxt_le hm 2
    obtain ⟨r, hr⟩ : ∃ r, r = nxt os m 2 := ⟨_, rfl⟩
    rw [← hr] at a0 b0
    have hrow := encP_getD S.ps k hkn
    have ht := take_succD S.ps k hkn
    obtain ⟨p, hp⟩ : ∃ p, p = S.ps.getD k default := ⟨_, rfl⟩
    rw [← hp] at hrow ht
    simp -dsimp (maxSteps := 4000000) +contextual (disch := first | omega | decide +kernel) only [↓vsD, vsU, vsE, resW, fnRet, cond_true, cond_false, Go.PV.fits, Go.PV.mutOf, Go.PV.splice, if_true, if_false, ↓Nat.reduceLT, simprocAttr, nx_next, exNextO_codes, rowAt_ptr, rowAtO_some, loadP_B, loadPB_t, loadPB_f, encP_length, hol, ← hr]
    refine ⟨fun h => ?_, fun h => ?_⟩
    · rcases hVA with ⟨h0, rfl⟩ | ⟨h0, o, v, rfl, hVo⟩
      · subst h0
        refine v_draws _ _ _ _ _ _ [8, 10] [] [(0, 0), (0, 0), (0, 0), (0, 0), (0, 0), (0, 0), (0, 0), (0, 0), (0, 0), (1, 1), (0, 0)] (by decide +kernel) (by decide +kernel) (by decide +kernel) (by decide +kernel) ?_
        simp -dsimp (maxSteps := 4000000) +contextual (disch := first | omega | decide +kernel) only [↓vsD, vsU, vsE, resW, fnRet, cond_true, cond_false, Go.PV.fits, Go.PV.mutOf, Go.PV.splice, if_true, if_false, ↓Nat.reduceLT, simprocAttr, nx_next, exNextO_codes, vdA, ↓vd_end, ↓vdm_go, ↓vd_op, ↓guard_none, ↓guard_some, false_implies, implies_true, rowAt_ptr, rowAtO_some, loadP_B, loadPB_t, loadPB_f, gapp0, gappk, sapp0, sappk, gappn0, gappnk, sappn0, sappnk, encP_length, hrow, bytesK, lenK]
        refine ⟨(k + 1, [p], B, .msl (Y.length + 5) 0, VB, r.2, Y ++ [_]), (by (try dsimp only); omega), (by simp [weaker, Go.PV.look]), rfl, hkn, ?_, PcR.new Y _ p 0 rfl, hVB.app _, fun o v u w h1 h2 => ?_, b0⟩
        · dsimp only
          rw [ht]
          exact .l p hP
        · cases h1
          have := hVB.lt h2
          omega
      · have hVl := (List.getElem?_eq_some_iff.1 hVo).1
        have hAl := hP.sub1.length_le
        rw [List.length_take] at hAl
        have hV2 : PcR (Y.set o (.rows 38 5 (encP A ++ [p.row]) (v + 1))) B VB := hVB.set (fun u w e => (fun h => hap _ _ _ _ rfl e h.symm)) _
        refine v_draws _ _ _ _ _ _ [8, 10] [] [(0, 0), (0, 0), (0, 0), (0, 0), (0, 0), (0, 0), (0, 0), (0, 0), (0, 0), (1, 1), (0, 0)] (by decide +kernel) (by decide +kernel) (by decide +kernel) (by decide +kernel) ?_
        simp -dsimp (maxSteps := 4000000) +contextual (disch := first | omega | decide +kernel) only [↓vsD, vsU, vsE, resW, fnRet, cond_true, cond_false, Go.PV.fits, Go.PV.mutOf, Go.PV.splice, if_true, if_false, ↓Nat.reduceLT, simprocAttr, nx_next, exNextO_codes, vdA, ↓vd_end, ↓vdm_go, ↓vd_op, ↓guard_none, ↓guard_some, false_implies, implies_true, rowAt_ptr, rowAtO_some, loadP_B, loadPB_t, loadPB_f, gapp0, gappk, sapp0, sappk, gappn0, gappnk, sappn0, sappnk, encP_length, hrow, bytesK, lenK, hVo]
        refine ⟨(k + 1, A ++ [p], B, .msl (o + 5) (v + 1), VB, r.2, _), (by (try dsimp only); omega), (by simp [weaker, Go.PV.look]), rfl, hkn, ?_, PcR.ext hVl p h0, hV2, fun o1 v1 u w h1 h2 => ?_, b0⟩
        · dsimp only
          rw [ht]
          exact .l p hP
        · cases h1
          exact hap _ _ _ _ rfl h2
    · rcases hVB with ⟨h0, rfl⟩ | ⟨h0, o, v, rfl, hVo⟩
      · subst h0
        refine v_draws _ _ _ _ _ _ [8, 10] [] [(0, 0), (0, 0), (0, 0), (0, 0), (0, 0), (0, 0), (0, 0), (0, 0), (0, 0), (1, 1), (0, 0)] (by decide +kernel) (by decide +kernel) (by decide +kernel) (by decide +kernel) ?_
        simp -dsimp (maxSteps := 4000000) +contextual (disch := first | omega | decide +kernel) only [↓vsD, vsU, vsE, resW, fnRet, cond_true, cond_false, Go.PV.fits, Go.PV.mutOf, Go.PV.splice, if_true, if_false, ↓Nat.reduceLT, simprocAttr, nx_next, exNextO_codes, vdA, ↓vd_end, ↓vdm_go, ↓vd_op, ↓guard_none, ↓guard_some, false_implies, implies_true, rowAt_ptr, rowAtO_some, loadP_B, loadPB_t, loadPB_f, gapp0, gappk, sapp0, sappk, gappn0, gappnk, sappn0, sappnk, encP_length, hrow, bytesK, lenK]
        refine ⟨(k + 1, A, [p], VA, .msl (Y.length + 5) 0, r.2, Y ++ [_]), (by (try dsimp only); omega), (by simp [weaker, Go.PV.look]), rfl, hkn, ?_, hVA.app _, PcR.new Y _ p 0 rfl, fun o v u w h1 h2 => ?_, b0⟩
        · dsimp only
          rw [ht]
          exact .r p hP
        · cases h2
          have := hVA.lt h1
          omega
      · have hVl := (List.getElem?_eq_some_iff.1 hVo).1
        have hAl := hP.sub2.length_le
        rw [List.length_take] at hAl
        have hV2 : PcR (Y.set o (.rows 38 5 (encP B ++ [p.row]) (v + 1))) A VA := hVA.set (fun u w e => hap _ _ _ _ e rfl) _
        refine v_draws _ _ _ _ _ _ [8, 10] [] [(0, 0), (0, 0), (0, 0), (0, 0), (0, 0), (0, 0), (0, 0), (0, 0), (0, 0), (1, 1), (0, 0)] (by decide +kernel) (by decide +kernel) (by decide +kernel) (by decide +kernel) ?_
        simp -dsimp (maxSteps := 4000000) +contextual (disch := first | omega | decide +kernel) only [↓vsD, vsU, vsE, resW, fnRet, cond_true, cond_false, Go.PV.fits, Go.PV.mutOf, Go.PV.splice, if_true, if_false, ↓Nat.reduceLT, simprocAttr, nx_next, exNextO_codes, vdA, ↓vd_end, ↓vdm_go, ↓vd_op, ↓guard_none, ↓guard_some, false_implies, implies_true, rowAt_ptr, rowAtO_some, loadP_B, loadPB_t, loadPB_f, gapp0, gappk, sapp0, sappk, gappn0, gappnk, sappn0, sappnk, encP_length, hrow, bytesK, lenK, hVo]
        refine ⟨(k + 1, A, B ++ [p], VA, .msl (o + 5) (v + 1), r.2, _), (by (try dsimp only); omega), (by simp [weaker, Go.PV.look]), rfl, hkn, ?_, hV2, PcR.ext hVl p h0, fun o1 v1 u w h1 h2 => ?_, b0⟩
        · dsimp only
          rw [ht]
          exact .r p hP
        · cases h2
          exact hap _ _ _ _ h1 rfl
  · obtain rfl : k = S.ps.length := by omega
    rw [List.take_length] at hP
    simp -dsimp (maxSteps := 4000000) +contextual (disch := first | omega | decide +kernel) only [↓vsD, vsU, vsE, resW, fnRet, cond_true, cond_false, Go.PV.fits, Go.PV.mutOf, Go.PV.splice, if_true, if_false, ↓Nat.reduceLT, simprocAttr, nx_next, exNextO_codes, rowAt_ptr, rowAtO_some, loadP_B, loadPB_t, loadPB_f, encP_length]
    obtain ⟨sb, hsb⟩ : ∃ sb, sb = Go.PV.Obj.rows 29 2 [[.sl (encP S.ps), .sl (encD S.cs)]] 0 := ⟨_, rfl⟩
    rw [← hsb]
    obtain ⟨Q, hQ⟩ : ∃ Q : Store, Q = codes cs kx :: sb :: .rows 29 2 [[VA, .nils]] 0 :: .rows 29 2 [[VB, .nils]] 0 :: codes os m :: Y := ⟨_, rfl⟩
    rw [← hQ]
    obtain ⟨zs, hzs⟩ : ∃ zs : List Nat, zs = 2 :: 3 :: (List.range Y.length).map (· + 5) := ⟨_, rfl⟩
    have z2 : 2 ∈ zs := by rw [hzs]; simp
    have z3 : 3 ∈ zs := by rw [hzs]; simp
    have z5 : ∀ o, o < Y.length → o + 5 ∈ zs := fun o h => by rw [hzs]; simp [h]
    have z1 : 1 ∉ zs := by rw [hzs]; simp
    have q5 : ∀ o, o < Y.length → Q[o + 5]? = Y[o]? := fun o h => by rw [hQ]; rfl
    obtain ⟨W, hW⟩ : ∃ W, W = killZ zs Q := ⟨_, rfl⟩
    have w1 : W[1]? = some sb := by rw [hW, killZ_get, if_neg z1, hQ]; rfl
    have hf : ∀ (o : Nat) (V : PV) (L : List Pc), o ∈ zs → Q[o]? = some (.rows 29 2 [[V, .nils]] 0) → PcR Y L V → Frzn zs Q (.ptr o 0 0 0) (.iptr [.sl (encP L), .sl []] 0) := fun o V L hz hq hV => by
      refine .ptr o 0 0 0 _ _ _ [V, .nils] _ hz hq rfl rfl (fun j p hj => ?_)
      match j, hj with
      | 0, hj => simp at hj; subst hj; exact hV.frz z5 q5
      | 1, hj => simp at hj; subst hj; exact .nils
      | j + 2, hj => simp at hj
    refine v_loopF (fun s : Nat × Store => [(6, .ptr 1 0 0 0), (8, .iptr [.sl (encP A), .sl []] 0), (9, .iptr [.sl (encP B), .sl []] 0), (12, .int .i64 s.1)]) (fun s => W ++ s.2) (fun s => s.1 ≤ 3) (fun s => 3 - s.1) (0, []) ⟨zs, by rw [hW]; simp, fun tv htv => ?_⟩ (by simp) ?_
    · simp only [List.mem_cons, List.not_mem_nil, or_false] at htv
      rcases htv with rfl | rfl | rfl | rfl
      · exact .keep _
      · exact hf 2 VA A z2 (by rw [hQ]; rfl) hVA
      · exact hf 3 VB B z3 (by rw [hQ]; rfl) hVB
      · exact .keep _
    rintro ⟨r, Z⟩ hr
    dsimp only at hr ⊢
    have hw1 := (List.getElem?_eq_some_iff.1 w1).1
    rw [hsb] at w1
    have wA : ∀ X : Store, (W ++ X)[1]? = some (.rows 29 2 [[.sl (encP S.ps), .sl (encD S.cs)]] 0) := fun X => by rw [List.getElem?_append_left hw1, w1]
    by_cases hr3 : r < 3
    · have kn := knows_plain hSo hP (by omega) r
      have t1 := total_on S r (smP_of (by omega) (by omega) hSd)
      have t2 := total_on ⟨A, []⟩ r (smP_of (by have := hP.sub1.length_le; show A.length ≤ 40; omega) (by simp) (fun p hp => hSd p (hP.sub1.subset hp)))
      have t3 := total_on ⟨B, []⟩ r (smP_of (by have := hP.sub2.length_le; show B.length ≤ 40; omega) (by simp) (fun p hp => hSd p (hP.sub2.subset hp)))
      unfold stV cntV at t1 t2 t3
      dsimp only at t2 t3
      rw [show encD [] = [] from rfl] at t2 t3
      have hno := kn.no
      have hn := kn.n
      have hsm := kn.sm
      have hf4 := kn.f
      obtain ⟨x, hx⟩ : ∃ x, x = totR S r := ⟨_, rfl⟩
      obtain ⟨y, hy⟩ : ∃ y, y = totR ⟨A, []⟩ r := ⟨_, rfl⟩
      obtain ⟨z, hz⟩ : ∃ z, z = totR ⟨B, []⟩ r := ⟨_, rfl⟩
      rw [← hx] at t1
      rw [← hy] at t2
      rw [← hz] at t3
      rw [← hx, ← hy, ← hz] at hno hf4
      rw [← hx, ← hy, ← hz] at hn
      rw [← hy, ← hz] at hsm
      obtain ⟨xf, xn, xe⟩ := x
      obtain ⟨yf, yn, ye⟩ := y
      obtain ⟨zf, zn, ze⟩ := z
      dsimp only at t1 t2 t3 hno hn hsm hf4
      simp -dsimp (maxSteps := 4000000) +contextual (disch := first | omega | decide +kernel) only [↓vsD, vsU, vsE, resW, fnRet, cond_true, cond_false, Go.PV.fits, Go.PV.mutOf, Go.PV.splice, if_true, if_false, ↓Nat.reduceLT, simprocAttr, nx_next, exNextO_codes, rowAt_ptr, rowAtO_some, loadP_B, loadPB_t, loadPB_f, wA, n1]
      refine PCall.mono (t1 _) ?_
      rintro q1 τ1 ⟨rfl, rfl⟩
      simp -dsimp (maxSteps := 4000000) +contextual (disch := first | omega | decide +kernel) only [↓vsD, vsU, vsE, resW, fnRet, cond_true, cond_false, Go.PV.fits, Go.PV.mutOf, Go.PV.splice, if_true, if_false, ↓Nat.reduceLT, simprocAttr, nx_next, exNextO_codes, rowAt_ptr, rowAtO_some, loadP_B, loadPB_t, loadPB_f, gapp0, gappk, sapp0, sappk, gappn0, gappnk, sappn0, sappnk, List.append_assoc, List.length_append, wA, n1]
      refine PCall.mono (t2 _) ?_
      rintro q1 τ1 ⟨rfl, rfl⟩
      simp -dsimp (maxSteps := 4000000) +contextual (disch := first | omega | decide +kernel) only [↓vsD, vsU, vsE, resW, fnRet, cond_true, cond_false, Go.PV.fits, Go.PV.mutOf, Go.PV.splice, if_true, if_false, ↓Nat.reduceLT, simprocAttr, nx_next, exNextO_codes, rowAt_ptr, rowAtO_some, loadP_B, loadPB_t, loadPB_f, gapp0, gappk, sapp0, sappk, gappn0, gappnk, sappn0, sappnk, List.append_assoc, List.length_append, wA, n1]
      refine PCall.mono (t3 _) ?_
      rintro q1 τ1 ⟨rfl, rfl⟩
      have leaf : ∀ (fr : Fr) (m : Nat) (V : Store), (∃ X : Store, V = W ++ (Z ++ X)) → m = 3 - r → weaker [(6, .ptr 1 0 0 0), (8, .iptr [.sl (encP A), .sl []] 0), (9, .iptr [.sl (encP B), .sl []] 0), (12, .int .i64 ((r : Int) + 1))] fr →
          backF (fun s : Nat × Store => [(6, .ptr 1 0 0 0), (8, .iptr [.sl (encP A), .sl []] 0), (9, .iptr [.sl (encP B), .sl []] 0), (12, .int .i64 s.1)]) (fun s => W ++ s.2) (fun s => s.1 ≤ 3) (fun s => 3 - s.1) m fr V := fun fr m V ⟨X, hV⟩ hm h => by
        subst hm
        refine ⟨(r + 1, Z ++ X), by dsimp only; omega, ?_, by dsimp only; omega⟩
        rw [hV]
        exact frzTo_weaker h
      by_cases h34 : xe = 34
      · obtain ⟨rfl, rfl⟩ := hno h34
        subst h34
        simp -dsimp (maxSteps := 4000000) +contextual (disch := first | omega | decide +kernel) only [↓vsD, vsU, vsE, resW, fnRet, cond_true, cond_false, Go.PV.fits, Go.PV.mutOf, Go.PV.splice, if_true, if_false, ↓Nat.reduceLT, simprocAttr, nx_next, exNextO_codes, rowAt_ptr, rowAtO_some, loadP_B, loadPB_t, loadPB_f, gapp0, gappk, sapp0, sappk, gappn0, gappnk, sappn0, sappnk, List.append_assoc, List.length_append, wA, n1]
        exact leaf _ _ _ ⟨_, rfl⟩ rfl (by simp [weaker, Go.PV.look])
      · by_cases hx0 : xe = 0
        · have hnn := hn hx0
          subst hx0
          by_cases hy0 : ye = 0
          · by_cases hz0 : ze = 0
            · subst hy0 hz0
              obtain ⟨g1, g2, g3, g4⟩ := hf4 rfl rfl rfl
              simp -dsimp (maxSteps := 4000000) +contextual (disch := first | omega | decide +kernel) only [↓vsD, vsU, vsE, resW, fnRet, cond_true, cond_false, Go.PV.fits, Go.PV.mutOf, Go.PV.splice, if_true, if_false, ↓Nat.reduceLT, simprocAttr, nx_next, exNextO_codes, rowAt_ptr, rowAtO_some, loadP_B, loadPB_t, loadPB_f, gapp0, gappk, sapp0, sappk, gappn0, gappnk, sappn0, sappnk, List.append_assoc, List.length_append, wA, n1, encF_length]
              obtain ⟨V, hV⟩ : ∃ V, V = W ++ (Z ++ [Go.PV.Obj.rows 36 1 [[.sl (encF xf)]] 0, .rows 36 1 [[.sl (encF yf)]] 0, .rows 36 1 [[.sl (encF zf)]] 0]) := ⟨_, rfl⟩
              have v13 : V[W.length + Z.length]? = some (.rows 36 1 [[.sl (encF xf)]] 0) := by rw [hV, gappk, gapp0]; rfl
              have v16 : V[W.length + (Z.length + 1)]? = some (.rows 36 1 [[.sl (encF yf)]] 0) := by rw [hV, gappk, gappk]; rfl
              have v19 : V[W.length + (Z.length + 2)]? = some (.rows 36 1 [[.sl (encF zf)]] 0) := by rw [hV, gappk, gappk]; rfl
              have hVe : ∃ X : Store, V = W ++ (Z ++ X) := ⟨_, hV⟩
              rw [← hV]
              clear hV
              refine v_loopS (fun i : Nat => [(6, .ptr 1 0 0 0), (8, .iptr [.sl (encP A), .sl []] 0), (9, .iptr [.sl (encP B), .sl []] 0), (12, .int .i64 r), (13, .ptr (W.length + Z.length) 0 0 0), (16, .ptr (W.length + (Z.length + 1)) 0 0 0), (19, .ptr (W.length + (Z.length + 2)) 0 0 0), (22, .int .i64 i)]) (fun _ => V) (fun i => i ≤ xf.length) (fun i => xf.length - i) 0 (by simp [weaker, Go.PV.look]) rfl (Nat.zero_le _) ?_
              intro i hi
              by_cases hix : i < xf.length
              · obtain ⟨⟨e1, e2, e3⟩, b1, b2, b3, bj⟩ := g4 i hix
                have hx1 := encF_getD xf i hix
                have hy1 := encF_getD yf i (by omega)
                have hz1 := encF_getD zf i (by omega)
                generalize xf.getD i default = fx at *
                generalize yf.getD i default = fy at *
                generalize zf.getD i default = fz at *
                have hs1 := fun σ => sumR_ok fy.ent fz.ent e2.2 e3.2 σ
                rw [show (if fy.ent < 0 then fz.ent else if fz.ent < 0 then fy.ent else min (fy.ent + fz.ent) 1099511627776) = fx.ent from e1.symm] at hs1
                clear e1 e2 e3 hno hn hsm hf4 hnn
                simp -dsimp (maxSteps := 4000000) +contextual (disch := first | omega | decide +kernel) only [↓vsD, vsU, vsE, resW, fnRet, cond_true, cond_false, Go.PV.fits, Go.PV.mutOf, Go.PV.splice, if_true, if_false, ↓Nat.reduceLT, simprocAttr, nx_next, exNextO_codes, rowAt_ptr, rowAtO_some, loadP_B, loadPB_t, loadPB_f, v13, encF_length]
                refine v_draws _ _ _ _ _ _ [18] [] [(0, 1), (0, 1), (0, 1), (0, 1), (0, 1), (0, 1), (0, 0), (0, 0), (0, 0), (0, 0), (0, 0), (0, 0), (0, 0), (0, 0), (0, 0), (0, 0), (0, 0), (0, 0), (0, 0), (1, 1), (1, 1), (1, 1), (1, 1), (1, 1), (1, 1), (1, 1), (1, 1), (1, 1), (1, 1), (1, 1), (1, 1), (1, 1), (1, 1), (1, 1), (1, 1), (1, 1), (1, 1), (1, 1), (1, 1), (1, 1), (1, 1), (1, 1), (1, 1), (1, 1), (1, 1), (1, 1), (1, 1), (1, 1), (1, 1), (1, 1), (1, 1), (1, 1), (1, 1), (1, 1)] (by decide +kernel) (by decide +kernel) (by decide +kernel) (by decide +kernel) ?_
                simp -dsimp (maxSteps := 4000000) +contextual (disch := first | omega | decide +kernel) only [↓vsD, vsU, vsE, resW, fnRet, cond_true, cond_false, Go.PV.fits, Go.PV.mutOf, Go.PV.splice, if_true, if_false, ↓Nat.reduceLT, simprocAttr, nx_next, exNextO_codes, vdA, ↓vd_end, ↓vdm_go, ↓vd_op, ↓guard_none, ↓guard_some, false_implies, implies_true, rowAt_ptr, rowAtO_some, loadP_B, loadPB_t, loadPB_f, v13, v16, v19, encF_length, hx1, hy1, hz1, n2]
                refine ⟨_, _, hs1 _, by simp [rowsAt, outR, v13, v16, v19], ?_⟩
                simp -dsimp (maxSteps := 4000000) +contextual (disch := first | omega | decide +kernel) only [↓vsD, vsU, vsE, resW, fnRet, cond_true, cond_false, Go.PV.fits, Go.PV.mutOf, Go.PV.splice, if_true, if_false, ↓Nat.reduceLT, simprocAttr, nx_next, exNextO_codes, vdA, ↓vd_end, ↓vdm_go, ↓vd_op, ↓guard_none, ↓guard_some, false_implies, implies_true, rowAt_ptr, rowAtO_some, loadP_B, loadPB_t, loadPB_f, v13, v16, v19, encF_length, hx1, hy1, hz1, n2, ints_len]
                refine v_loopS (fun j : Nat => [(6, .ptr 1 0 0 0), (8, .iptr [.sl (encP A), .sl []] 0), (9, .iptr [.sl (encP B), .sl []] 0), (12, .int .i64 r), (13, .ptr (W.length + Z.length) 0 0 0), (16, .ptr (W.length + (Z.length + 1)) 0 0 0), (19, .ptr (W.length + (Z.length + 2)) 0 0 0), (22, .int .i64 i), (23, .int .i64 j)]) (fun _ => V) (fun j => j ≤ fx.blocks.length) (fun j => fx.blocks.length - j) 0 (by simp [weaker, Go.PV.look]) rfl (Nat.zero_le _) ?_
                intro j hj
                by_cases hjx : j < fx.blocks.length
                · obtain ⟨d1, d2, d3⟩ := bj j hjx
                  have i1 := ints_getD fx.blocks j hjx
                  have i2 := ints_getD fy.blocks j (by omega)
                  have i3 := ints_getD fz.blocks j (by omega)
                  generalize fx.blocks.getD j 0 = bx at *
                  generalize fy.blocks.getD j 0 = bw at *
                  generalize fz.blocks.getD j 0 = bz at *
                  have hs2 := fun σ => sumR_ok bw bz d2.2 d3.2 σ
                  rw [show (if bw < 0 then bz else if bz < 0 then bw else min (bw + bz) 1099511627776) = bx from d1.symm] at hs2
                  clear bj g4 hs1 d1 d2 d3
                  simp -dsimp (maxSteps := 4000000) +contextual (disch := first | omega | decide +kernel) only [↓vsD, vsU, vsE, resW, fnRet, cond_true, cond_false, Go.PV.fits, Go.PV.mutOf, Go.PV.splice, if_true, if_false, ↓Nat.reduceLT, simprocAttr, nx_next, exNextO_codes, rowAt_ptr, rowAtO_some, loadP_B, loadPB_t, loadPB_f, v13, encF_length, hx1, ints_len]
                  refine v_draws _ _ _ _ _ _ [27] [] [(0, 1), (0, 1), (0, 1), (0, 1), (0, 1), (0, 1), (0, 1), (0, 1), (0, 1), (0, 0), (0, 0), (0, 0), (0, 0), (0, 0), (0, 0), (0, 0), (0, 0), (0, 0), (0, 0), (0, 0), (0, 0), (0, 0), (0, 0), (0, 0), (0, 0), (0, 0), (0, 0), (0, 0), (1, 1)] (by decide +kernel) (by decide +kernel) (by decide +kernel) (by decide +kernel) ?_
                  simp -dsimp (maxSteps := 4000000) +contextual (disch := first | omega | decide +kernel) only [↓vsD, vsU, vsE, resW, fnRet, cond_true, cond_false, Go.PV.fits, Go.PV.mutOf, Go.PV.splice, if_true, if_false, ↓Nat.reduceLT, simprocAttr, nx_next, exNextO_codes, vdA, ↓vd_end, ↓vdm_go, ↓vd_op, ↓guard_none, ↓guard_some, false_implies, implies_true, rowAt_ptr, rowAtO_some, loadP_B, loadPB_t, loadPB_f, v13, v16, v19, encF_length, hx1, hy1, hz1, n2, ints_len, i1, i2, i3]
                  refine ⟨_, _, hs2 _, by simp [rowsAt, outR, v13, v16, v19], ?_⟩
                  simp -dsimp (maxSteps := 4000000) +contextual (disch := first | omega | decide +kernel) only [↓vsD, vsU, vsE, resW, fnRet, cond_true, cond_false, Go.PV.fits, Go.PV.mutOf, Go.PV.splice, if_true, if_false, ↓Nat.reduceLT, simprocAttr, nx_next, exNextO_codes, vdA, ↓vd_end, ↓vdm_go, ↓vd_op, ↓guard_none, ↓guard_some, false_implies, implies_true, rowAt_ptr, rowAtO_some, loadP_B, loadPB_t, loadPB_f]
                  exact ⟨j + 1, (by (try dsimp only); omega), (by simp [weaker, Go.PV.look]), rfl, hjx⟩
                · obtain rfl : j = fx.blocks.length := by omega
                  clear bj g4 hs1
                  simp -dsimp (maxSteps := 4000000) +contextual (disch := first | omega | decide +kernel) only [↓vsD, vsU, vsE, resW, fnRet, cond_true, cond_false, Go.PV.fits, Go.PV.mutOf, Go.PV.splice, if_true, if_false, ↓Nat.reduceLT, simprocAttr, nx_next, exNextO_codes, rowAt_ptr, rowAtO_some, loadP_B, loadPB_t, loadPB_f, v13, encF_length, hx1, ints_len]
                  exact ⟨i + 1, (by (try dsimp only); omega), (by simp [weaker, Go.PV.look]), rfl, hix⟩
              · obtain rfl : i = xf.length := by omega
                simp -dsimp (maxSteps := 4000000) +contextual (disch := first | omega | decide +kernel) only [↓vsD, vsU, vsE, resW, fnRet, cond_true, cond_false, Go.PV.fits, Go.PV.mutOf, Go.PV.splice, if_true, if_false, ↓Nat.reduceLT, simprocAttr, nx_next, exNextO_codes, rowAt_ptr, rowAtO_some, loadP_B, loadPB_t, loadPB_f, v13, encF_length]
                exact leaf _ _ _ hVe rfl (by simp [weaker, Go.PV.look])
            · subst hy0
              simp -dsimp (maxSteps := 4000000) +contextual (disch := first | omega | decide +kernel) only [↓vsD, vsU, vsE, resW, fnRet, cond_true, cond_false, Go.PV.fits, Go.PV.mutOf, Go.PV.splice, if_true, if_false, ↓Nat.reduceLT, simprocAttr, nx_next, exNextO_codes, rowAt_ptr, rowAtO_some, loadP_B, loadPB_t, loadPB_f, gapp0, gappk, sapp0, sappk, gappn0, gappnk, sappn0, sappnk, List.append_assoc, List.length_append, wA, n1]
              exact leaf _ _ _ ⟨_, rfl⟩ rfl (by simp [weaker, Go.PV.look])
          · simp -dsimp (maxSteps := 4000000) +contextual (disch := first | omega | decide +kernel) only [↓vsD, vsU, vsE, resW, fnRet, cond_true, cond_false, Go.PV.fits, Go.PV.mutOf, Go.PV.splice, if_true, if_false, ↓Nat.reduceLT, simprocAttr, nx_next, exNextO_codes, rowAt_ptr, rowAtO_some, loadP_B, loadPB_t, loadPB_f, gapp0, gappk, sapp0, sappk, gappn0, gappnk, sappn0, sappnk, List.append_assoc, List.length_append, wA, n1]
            exact leaf _ _ _ ⟨_, rfl⟩ rfl (by simp [weaker, Go.PV.look])
        · simp -dsimp (maxSteps := 4000000) +contextual (disch := first | omega | decide +kernel) only [↓vsD, vsU, vsE, resW, fnRet, cond_true, cond_false, Go.PV.fits, Go.PV.mutOf, Go.PV.splice, if_true, if_false, ↓Nat.reduceLT, simprocAttr, nx_next, exNextO_codes, rowAt_ptr, rowAtO_some, loadP_B, loadPB_t, loadPB_f, gapp0, gappk, sapp0, sappk, gappn0, gappnk, sappn0, sappnk, List.append_assoc, List.length_append, wA, n1]
          exact leaf _ _ _ ⟨_, rfl⟩ rfl (by simp [weaker, Go.PV.look])
    · simp -dsimp (maxSteps := 4000000) +contextual (disch := first | omega | decide +kernel) only [↓vsD, vsU, vsE, resW, fnRet, cond_true, cond_false, Go.PV.fits, Go.PV.mutOf, Go.PV.splice, if_true, if_false, ↓Nat.reduceLT, simprocAttr, nx_next, exNextO_codes, rowAt_ptr, rowAtO_some, loadP_B, loadPB_t, loadPB_f]
      exact fin0 (.keep _ (bel_bool _ _)) rfl
end Go.Proofs.YthjoehaglonjaaaGreat
