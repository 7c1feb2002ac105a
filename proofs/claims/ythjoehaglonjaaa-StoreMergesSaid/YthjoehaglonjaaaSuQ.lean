/- Chapter 31: the law StoreMerges, walked. -/
import Derived.Test.YthjoehaglonjaaaSuO
import Derived.Test.YthjoehaglonjaaaSuP
set_option linter.unusedSimpArgs false
set_option linter.unusedVariables false
namespace Go.Proofs.Ythjoehaglonjaaa
open Go.PV

/-! What the change may lead to. -/
structure OdR (N : Nat) (S : StS) : Prop where
  z : 2 * S.cs.length + S.ps.length ≤ N + 2
  f : ∀ p ∈ S.ps, FitP p ∧ ∀ x ∈ p.fs, SmC x
theorem OdR.fit {N : Nat} {S : StS} (h : OdR N S) (hn : N ≤ 100) : FitS S := by
  have := h.z
  exact ⟨by omega, by omega, fun p hp => (h.f p hp).1⟩
theorem oddC_ok {l : List Int} (hl : okInts .u8 l) {k : Nat} (hk : k ≤ l.length) {x : FC} (hx : DrF x) : SmC (oddC l k x).1 ∧ (oddC l k x).2 ≤ l.length := by
  have h1 := hx.b
  have h2 := hx.e
  have h3 := hx.sm
  have c0 := nxt_le hk 6
  have c1 := nxt_le c0 2
  have c2 := nxt_le c1 2
  have sm : ∀ y : FC, y.blocks.length ≤ 3 → y.edges.length ≤ 3 → y.sites = x.sites → SmC y := fun y q1 q2 q3 => ⟨by omega, by omega, by rw [q3]; exact h3.2.2.1, by rw [q3]; exact h3.2.2.2⟩
  unfold oddC
  split
  · exact ⟨sm _ (by dsimp only; omega) (by dsimp only; omega) rfl, intC_le c0⟩
  · split
    · exact ⟨sm _ (by dsimp only; rw [List.length_set]; omega) (by dsimp only; omega) rfl, intC_le c1⟩
    · split
      · exact ⟨sm _ (by dsimp only; omega) (by dsimp only; rw [List.length_set]; omega) rfl, intC_le c2⟩
      · split
        · exact ⟨sm _ (by dsimp only; rw [List.length_append]; simp; omega) (by dsimp only; omega) rfl, c0⟩
        · split
          · exact ⟨sm _ (by dsimp only; omega) (by dsimp only; rw [List.length_append]; simp; omega) rfl, c0⟩
          · exact ⟨h3, c0⟩
theorem oddS_ok {l : List Int} (hl : okInts .u8 l) {k : Nat} (hk : k ≤ l.length) {N : Nat} {S : StS} {L : List Pc} (hS : FilR N S L) : OdR N (oddS l k S).1 ∧ (oddS l k S).2 ≤ l.length := by
  have ht := hS.s.two
  have hll := hS.l
  have hd := hS.dr
  have hdf : ∀ p ∈ S.ps, FitP p ∧ ∀ x ∈ p.fs, SmC x := fun p hp => ⟨(hd p hp).fit, (hd p hp).sm⟩
  have c0 := nxt_le hk 5
  have hself : OdR N S := ⟨by omega, hdf⟩
  unfold oddS
  split
  · have hp := pieceF_ok hl c0
    refine ⟨⟨by dsimp only; rw [List.length_append]; simp; omega, fun p hp2 => ?_⟩, hp.2⟩
    rcases List.mem_append.1 hp2 with h | h
    · exact hdf p h
    · rw [List.mem_singleton] at h
      rw [h]; exact ⟨hp.1.fit, hp.1.sm⟩
  · split
    · exact ⟨⟨by dsimp only; rw [List.length_append]; simp; omega, hdf⟩, nxt_le (nxt_le (nxt_le c0 3) 2) 2⟩
    · split
      · split
        · exact ⟨hself, c0⟩
        · rename_i hz
          have a1 := nxt_lt hl (nxt l k 5).2 S.ps.length (by omega)
          have c1 := nxt_le c0 (S.ps.length : Int)
          refine ⟨⟨by dsimp only; rw [List.length_set]; omega, fun p hp => ?_⟩, intC_le c1⟩
          rcases List.mem_or_eq_of_mem_set hp with h | rfl
          · exact hdf p h
          · have hm : S.ps.getD (nxt l (nxt l k 5).2 S.ps.length).1.toNat default ∈ S.ps := gtD (show (nxt l (nxt l k 5).2 S.ps.length).1.toNat < S.ps.length by omega)
            exact ⟨(hdf _ hm).1, (hdf _ hm).2⟩
      · split
        · split
          · exact ⟨hself, c0⟩
          · rename_i hz
            have a1 := nxt_lt hl (nxt l k 5).2 S.ps.length (by omega)
            have c1 := nxt_le c0 (S.ps.length : Int)
            have hm : S.ps.getD (nxt l (nxt l k 5).2 S.ps.length).1.toNat default ∈ S.ps := gtD (show (nxt l (nxt l k 5).2 S.ps.length).1.toNat < S.ps.length by omega)
            have hpd := hd _ hm
            have hxd := hpd.f _ (gtD (d := default) (i := 0) (by have := hpd.n; omega))
            have hoc := oddC_ok hl c1 hxd
            refine ⟨⟨by dsimp only; rw [List.length_set]; omega, fun p hp => ?_⟩, hoc.2⟩
            rcases List.mem_or_eq_of_mem_set hp with h | rfl
            · exact hdf p h
            · have hsm : ∀ y ∈ (S.ps.getD (nxt l (nxt l k 5).2 S.ps.length).1.toNat default).fs.set 0 (oddC l (nxt l (nxt l k 5).2 S.ps.length).2 ((S.ps.getD (nxt l (nxt l k 5).2 S.ps.length).1.toNat default).fs.getD 0 default)).1, SmC y := fun y hy => by
                rcases List.mem_or_eq_of_mem_set hy with h | rfl
                · exact hpd.sm y h
                · exact hoc.1
              exact ⟨⟨by show (List.set _ _ _).length < _; rw [List.length_set]; have := hpd.n; omega, fun y hy => (hsm y hy).fit⟩, hsm⟩
        · exact ⟨hself, c0⟩
theorem bel_stx (k : Nat) (S : StS) : ∀ p ∈ [stV S], Bel k p := fun p hp => by
  rw [List.mem_singleton] at hp; rw [hp]; exact bel_st _ _
theorem odd_on (l : List Int) (k : Nat) (hl : okInts .u8 l) (hll : l.length < 2 ^ 40) (hk : k ≤ l.length) {N : Nat} {S : StS} {L : List Pc} (hS : FilR N S L) (hn : N ≤ 100) {σ : Store} {K : PV → Store → Prop} (o : Nat) (ho : σ[o]? = some (codes l k))
    (hK : K (stV (oddS l k S).1) (σ.set o (codes l (oddS l k S).2))) : PCall Try.prog 13 [.ptr o 0 0 0, stV S] σ K :=
  codes_onX o l k _ _ _ (odd_w l k hl hll hk S hS.dr (by have := hS.sz; unfold sizeS at this; omega) (by have := hS.sz; unfold sizeS at this; omega)) (bel_stx _ _) (bel_st _ _) ho hK

/-- Both merge alike. -/
structure MgP (N : Nat) (a b : StS) : Prop where
  fa : FitS a
  fb : FitS b
  sa : ∀ p ∈ a.ps, ∀ x ∈ p.fs, SmC x
  sb : ∀ p ∈ b.ps, ∀ x ∈ p.fs, SmC x
  z : 2 * a.cs.length + a.ps.length + (2 * b.cs.length + b.ps.length) ≤ 20
noncomputable def mgV (a b : StS) : StS × Int := @ite _ (OkSt a ∧ OkSt b) (Classical.propDecidable _) (mg a b, 0) (⟨[], []⟩, 20)
theorem mgV_t {a b : StS} (h : OkSt a ∧ OkSt b) : mgV a b = (mg a b, 0) := by unfold mgV; rw [if_pos h]
theorem mgV_f {a b : StS} (h : ¬ (OkSt a ∧ OkSt b)) : mgV a b = (⟨[], []⟩, 20) := by unfold mgV; rw [if_neg h]
theorem MgP.size {a b : StS} {N : Nat} (h : MgP N a b) : sizeS a + sizeS b ≤ 20 := by have := h.z; unfold sizeS; omega
theorem mgV_size {a b : StS} {N : Nat} (h : MgP N a b) : sizeS (mgV a b).1 ≤ 20 := by
  by_cases ho : OkSt a ∧ OkSt b
  · rw [mgV_t ho]
    have := (mg_sf ho.1.o ho.2.o).size
    simp only [List.flatMap_cons, List.flatMap_nil, List.append_nil, List.length_append, idl_length] at this
    have := h.size
    dsimp only; omega
  · rw [mgV_f ho]; simp [sizeS]
theorem mgV_fit {a b : StS} {N : Nat} (h : MgP N a b) : FitS (mgV a b).1 := by
  have hz := mgV_size h
  unfold sizeS at hz
  refine ⟨by omega, by omega, fun p hp => ?_⟩
  by_cases ho : OkSt a ∧ OkSt b
  · rw [mgV_t ho] at hp
    obtain ⟨s, hs, hps⟩ := (mg_sf ho.1.o ho.2.o).src hp
    simp only [List.mem_cons, List.not_mem_nil, or_false] at hs
    rcases hs with rfl | rfl
    · exact h.fa.2.2 p hps
    · exact h.fb.2.2 p hps
  · rw [mgV_f ho] at hp; simp at hp
theorem merV {a b : StS} {N : Nat} (h : MgP N a b) (σ : Store) : PCall Try.prog 22 [stV a, stV b] σ (fun q τ => q = .tup [.agg [.sl (encP (mgV a b).1.ps), .sl (encD (mgV a b).1.cs)], .int .i64 (mgV a b).2] ∧ τ = σ) := by
  refine PCall.mono (merge_on 12 unionOk12 a b h.fa h.fb h.sa h.sb (by have := h.z; omega) σ) ?_
  rintro q τ ⟨hq, rfl⟩
  rcases hq with ⟨hno, rfl⟩ | ⟨h1, h2, m, hm, rfl⟩
  · rw [mgV_f hno]; exact ⟨rfl, rfl⟩
  · have e := mg_of h1.o h2.o hm
    have hz := mgV_size h
    rw [mgV_t ⟨h1, h2⟩] at hz ⊢
    dsimp only at hz
    rw [e, leastS_small _ (by omega)]; exact ⟨rfl, rfl⟩
theorem rmerV {a b : StS} {N : Nat} (h : MgP N a b) (σ : Store) : PCall Try.prog 23 [stV a, stV b] σ (fun q τ => q = .tup [.agg [.sl (encP (mgV a b).1.ps), .sl (encD (mgV a b).1.cs)], .int .i64 (mgV a b).2] ∧ τ = σ) := by
  refine PCall.mono (rmerge_on a b h.fa h.fb h.sa h.sb (by have := h.size; omega) σ) ?_
  rintro q τ ⟨hq, rfl⟩
  rcases hq with ⟨hno, rfl⟩ | ⟨h1, h2, m, hm, rfl⟩
  · rw [mgV_f hno]; exact ⟨rfl, rfl⟩
  · rw [mg_of h1.o h2.o hm, mgV_t ⟨h1, h2⟩]; exact ⟨rfl, rfl⟩
theorem mgP_of {N M : Nat} {a b : StS} (h1 : OdR N a) (h2 : OdR M b) (hn : N + M ≤ 16) : MgP 0 a b :=
  ⟨h1.fit (by omega), h2.fit (by omega), fun p hp => (h1.f p hp).2, fun p hp => (h2.f p hp).2, by have := h1.z; have := h2.z; omega⟩
theorem FilR.odr {N : Nat} {S : StS} {L : List Pc} (h : FilR N S L) : OdR N S := ⟨by have := h.s.two; have := h.l; omega, fun p hp => ⟨(h.dr p hp).fit, (h.dr p hp).sm⟩⟩
set_option maxRecDepth 8000 in
set_option maxHeartbeats 8000000 in
theorem merges31_ok (l0 : List Int) (hl0 : okInts .u8 l0) : PCall Try.prog 4 [.sl (PV.encI .u8 l0)] [] (fun p _ => p = .bool true) := by
  have n1 : ∀ args σ, noE.f 22 args σ = none := fun _ _ => rfl
  have n2 : ∀ args σ, noE.f 19 args σ = none := fun _ _ => rfl
  have n3 : ∀ args σ, noE.f 10 args σ = none := fun _ _ => rfl
  have n4 : ∀ args σ, noE.f 12 args σ = none := fun _ _ => rfl
  have n5 : ∀ args σ, noE.f 11 args σ = none := fun _ _ => rfl
  have n6 : ∀ args σ, noE.f 13 args σ = none := fun _ _ => rfl
  have n7 : ∀ args σ, noE.f 23 args σ = none := fun _ _ => rfl
  refine PCall.vfrz [] 2361183274420171489279 73 [.tmp 2] (noE_ok _) mix Try.func4 rfl (by decide) rfl rfl (by simp) ?_
  simp -dsimp only [initFr, List.zipIdx_cons, List.zipIdx_nil, List.map_cons, List.map_nil, Nat.zero_add, Nat.reduceAdd]
  simp -dsimp (maxSteps := 4000000) +contextual (disch := first | omega | decide +kernel) only [↓vsD, vsU, vsE, resW, fnRet, cond_true, cond_false, Nat.reduceShiftRight, Nat.reduceAnd, Go.PV.fits, Go.PV.mutOf, Go.PV.splice, Int.reduceToNat, Int.reduceEq, Int.reduceAdd, Int.reduceSub, Int.reduceMul, Int.reduceLE, Int.reduceLT, Int.reduceNeg, Nat.reduceMul, Nat.reduceLeDiff, if_true, if_false, reduceIte, Nat.reduceEqDiff, ↓Nat.reduceLT, Nat.reduceAdd, Nat.reduceBEq, reduceCtorEq, n3]
  refine PCall.mono (awake_on _) ?_
  rintro p σ' ⟨rfl, rfl⟩
  simp -dsimp (maxSteps := 4000000) +contextual (disch := first | omega | decide +kernel) only [↓vsD, vsU, vsE, resW, fnRet, cond_true, cond_false, Nat.reduceShiftRight, Nat.reduceAnd, Go.PV.fits, Go.PV.mutOf, Go.PV.splice, Int.reduceToNat, Int.reduceEq, Int.reduceAdd, Int.reduceSub, Int.reduceMul, Int.reduceLE, Int.reduceLT, Int.reduceNeg, Nat.reduceMul, Nat.reduceLeDiff, if_true, if_false, reduceIte, Nat.reduceEqDiff, ↓Nat.reduceLT, Nat.reduceAdd, Nat.reduceBEq, reduceCtorEq, n5]
  refine PCall.mono (newS_on l0 700 _) ?_
  rintro p σ' ⟨rfl, rfl⟩
  obtain ⟨cs, hcs⟩ : ∃ cs, cs = l0.take 700 := ⟨_, rfl⟩
  have hcl : okInts .u8 cs := fun n hn => hl0 n (by rw [hcs] at hn; exact List.mem_of_mem_take hn)
  have hcn : cs.length ≤ 700 := by rw [hcs]; simp; omega
  rw [← hcs]
  simp -dsimp (maxSteps := 4000000) +contextual (disch := first | omega | decide +kernel) only [↓vsD, vsU, vsE, resW, fnRet, cond_true, cond_false, Nat.reduceShiftRight, Nat.reduceAnd, Go.PV.fits, Go.PV.mutOf, Go.PV.splice, Int.reduceToNat, Int.reduceEq, Int.reduceAdd, Int.reduceSub, Int.reduceMul, Int.reduceLE, Int.reduceLT, Int.reduceNeg, Nat.reduceMul, Nat.reduceLeDiff, if_true, if_false, reduceIte, Nat.reduceEqDiff, ↓Nat.reduceLT, Nat.reduceAdd, Nat.reduceBEq, reduceCtorEq, n4]
  refine filled_on cs 0 6 (by omega) hcl (by omega) (Nat.zero_le _) 0 rfl ?_
  intro X LX kx hX hkx
  simp -dsimp only [List.set_cons_zero, stV, List.nil_append, List.cons_append]
  simp -dsimp (maxSteps := 4000000) +contextual (disch := first | omega | decide +kernel) only [↓vsD, vsU, vsE, resW, fnRet, cond_true, cond_false, Nat.reduceShiftRight, Nat.reduceAnd, Go.PV.fits, Go.PV.mutOf, Go.PV.splice, Int.reduceToNat, Int.reduceEq, Int.reduceAdd, Int.reduceSub, Int.reduceMul, Int.reduceLE, Int.reduceLT, Int.reduceNeg, Nat.reduceMul, Nat.reduceLeDiff, if_true, if_false, reduceIte, Nat.reduceEqDiff, ↓Nat.reduceLT, Nat.reduceAdd, Nat.reduceBEq, reduceCtorEq, rowAt_ptr, rowAtO_some, loadP_B, loadPB_t, loadPB_f, n4]
  refine filled_on cs kx 6 (by omega) hcl (by omega) hkx 0 rfl ?_
  intro Y LY ky hY hky
  simp -dsimp only [List.set_cons_zero, stV, List.nil_append, List.cons_append]
  simp -dsimp (maxSteps := 4000000) +contextual (disch := first | omega | decide +kernel) only [↓vsD, vsU, vsE, resW, fnRet, cond_true, cond_false, Nat.reduceShiftRight, Nat.reduceAnd, Go.PV.fits, Go.PV.mutOf, Go.PV.splice, Int.reduceToNat, Int.reduceEq, Int.reduceAdd, Int.reduceSub, Int.reduceMul, Int.reduceLE, Int.reduceLT, Int.reduceNeg, Nat.reduceMul, Nat.reduceLeDiff, if_true, if_false, reduceIte, Nat.reduceEqDiff, ↓Nat.reduceLT, Nat.reduceAdd, Nat.reduceBEq, reduceCtorEq, rowAt_ptr, rowAtO_some, loadP_B, loadPB_t, loadPB_f]
  have o1 := oddS_ok hcl hky hY
  have o2 := oddS_ok hcl o1.2 hX
  have w1 := odd_w cs ky hcl (by omega) hky Y hY.dr (by have := hY.sz; unfold sizeS at this; omega) (by have := hY.sz; unfold sizeS at this; omega)
  have w2 := odd_w cs (oddS cs ky Y).2 hcl (by omega) o1.2 X hX.dr (by have := hX.sz; unfold sizeS at this; omega) (by have := hX.sz; unfold sizeS at this; omega)
  have d1 : ∀ σ : Store, σ[0]? = some (codes cs ky) → PCall Try.prog 13 [.ptr 0 0 0 0, .agg [.sl (encP Y.ps), .sl (encD Y.cs)]] σ (fun q τ => q = .agg [.sl (encP (oddS cs ky Y).1.ps), .sl (encD (oddS cs ky Y).1.cs)] ∧ τ = σ.set 0 (codes cs (oddS cs ky Y).2)) := fun σ h =>
    codes_onX 0 cs ky _ _ _ w1 (bel_stx _ Y) (bel_st _ _) h ⟨rfl, rfl⟩
  have d2 : ∀ σ : Store, σ[0]? = some (codes cs (oddS cs ky Y).2) → PCall Try.prog 13 [.ptr 0 0 0 0, .agg [.sl (encP X.ps), .sl (encD X.cs)]] σ (fun q τ => q = .agg [.sl (encP (oddS cs (oddS cs ky Y).2 X).1.ps), .sl (encD (oddS cs (oddS cs ky Y).2 X).1.cs)] ∧ τ = σ.set 0 (codes cs (oddS cs (oddS cs ky Y).2 X).2)) := fun σ h =>
    codes_onX 0 cs _ _ _ _ w2 (bel_stx _ X) (bel_st _ _) h ⟨rfl, rfl⟩
  obtain ⟨Y2, hY2⟩ : ∃ Y2, Y2 = oddS cs ky Y := ⟨_, rfl⟩
  rw [← hY2] at o1 o2 d1 d2
  obtain ⟨X2, hX2⟩ : ∃ X2, X2 = oddS cs Y2.2 X := ⟨_, rfl⟩
  rw [← hX2] at o2 d2
  refine v_draws _ _ _ _ _ _ [6, 10] [] [(0, 2), (0, 2), (0, 2), (0, 2), (0, 0), (0, 0), (0, 0), (1, 2), (0, 1), (0, 1), (0, 0), (0, 2), (2, 2), (2, 2), (2, 2), (0, 2)] (by decide +kernel) (by decide +kernel) (by decide +kernel) (by decide +kernel) ?_
  simp -dsimp (maxSteps := 4000000) +contextual (disch := first | omega | decide +kernel) only [↓vsD, vsU, vsE, resW, fnRet, cond_true, cond_false, Nat.reduceShiftRight, Nat.reduceAnd, Go.PV.fits, Go.PV.mutOf, Go.PV.splice, Int.reduceToNat, Int.reduceEq, Int.reduceAdd, Int.reduceSub, Int.reduceMul, Int.reduceLE, Int.reduceLT, Int.reduceNeg, Nat.reduceMul, Nat.reduceLeDiff, if_true, if_false, reduceIte, Nat.reduceEqDiff, ↓Nat.reduceLT, Nat.reduceAdd, Nat.reduceBEq, reduceCtorEq, vdA, ↓vd_end, ↓vdm_go, ↓vd_op, ↓guard_none, ↓guard_some, false_implies, implies_true, rowAt_ptr, rowAtO_some, loadP_B, loadPB_t, loadPB_f, n6]
  refine ⟨_, _, d1 _ rfl, by simp [outR, rowsAt], ?_⟩
  simp -dsimp (maxSteps := 4000000) +contextual (disch := first | omega | decide +kernel) only [↓vsD, vsU, vsE, resW, fnRet, cond_true, cond_false, Nat.reduceShiftRight, Nat.reduceAnd, Go.PV.fits, Go.PV.mutOf, Go.PV.splice, Int.reduceToNat, Int.reduceEq, Int.reduceAdd, Int.reduceSub, Int.reduceMul, Int.reduceLE, Int.reduceLT, Int.reduceNeg, Nat.reduceMul, Nat.reduceLeDiff, if_true, if_false, reduceIte, Nat.reduceEqDiff, ↓Nat.reduceLT, Nat.reduceAdd, Nat.reduceBEq, reduceCtorEq, vdA, ↓vd_end, ↓vdm_go, ↓vd_op, ↓guard_none, ↓guard_some, false_implies, implies_true, rowAt_ptr, rowAtO_some, loadP_B, loadPB_t, loadPB_f, n6]
  refine ⟨_, _, d2 _ rfl, by simp [outR, rowsAt], ?_⟩
  simp -dsimp (maxSteps := 4000000) +contextual (disch := first | omega | decide +kernel) only [↓vsD, vsU, vsE, resW, fnRet, cond_true, cond_false, Nat.reduceShiftRight, Nat.reduceAnd, Go.PV.fits, Go.PV.mutOf, Go.PV.splice, Int.reduceToNat, Int.reduceEq, Int.reduceAdd, Int.reduceSub, Int.reduceMul, Int.reduceLE, Int.reduceLT, Int.reduceNeg, Nat.reduceMul, Nat.reduceLeDiff, if_true, if_false, reduceIte, Nat.reduceEqDiff, ↓Nat.reduceLT, Nat.reduceAdd, Nat.reduceBEq, reduceCtorEq, vdA, ↓vd_end, ↓vdm_go, ↓vd_op, ↓guard_none, ↓guard_some, false_implies, implies_true, rowAt_ptr, rowAtO_some, loadP_B, loadPB_t, loadPB_f, n6]
  have q1 : MgP 0 X Y := mgP_of hX.odr hY.odr (by omega)
  have q2 : MgP 0 X Y2.1 := mgP_of hX.odr o1.1 (by omega)
  have q3 : MgP 0 X2.1 Y := mgP_of o2.1 hY.odr (by omega)
  obtain ⟨ab, hab⟩ : ∃ ab : List (StS × StS), ab = [(X, Y), (X, Y2.1), (X2.1, Y)] := ⟨_, rfl⟩
  have hq : ∀ p ∈ ab, MgP 0 p.1 p.2 := fun p hp => by
    rw [hab] at hp; simp only [List.mem_cons, List.not_mem_nil, or_false] at hp
    rcases hp with rfl | rfl | rfl
    · exact q1
    · exact q2
    · exact q3
  have hal : ab.length = 3 := by rw [hab]; rfl
  obtain ⟨R, hR⟩ : ∃ R, R = ab.map (fun p => [PV.sl (encP p.1.ps), .sl (encD p.1.cs), .sl (encP p.2.ps), .sl (encD p.2.cs)]) := ⟨_, rfl⟩
  have hRe : R = [[.sl (encP X.ps), .sl (encD X.cs), .sl (encP Y.ps), .sl (encD Y.cs)], [.sl (encP X.ps), .sl (encD X.cs), .sl (encP Y2.1.ps), .sl (encD Y2.1.cs)], [.sl (encP X2.1.ps), .sl (encD X2.1.cs), .sl (encP Y.ps), .sl (encD Y.cs)]] := by rw [hR, hab]; rfl
  have hRl : R.length = 3 := by rw [hR, List.length_map, hal]
  refine v_loopS (fun s : Nat × Store => [(43, .int .i64 (s.1 : Int)), (42, .int .i64 3), (41, .sl R), (3, .ptr 0 0 0 0)]) (fun s => codes cs X2.2 :: .rows 26 2 [[.sl (encP X.ps), .sl (encD X.cs)]] 0 :: .rows 26 2 [[.sl (encP Y.ps), .sl (encD Y.cs)]] 0 :: s.2) (fun s => s.1 ≤ 3) (fun s => 3 - s.1) (0, []) (by rw [hRe]; simp [weaker, Go.PV.look]) (by simp) (Nat.zero_le _) ?_
  rintro ⟨k, Z⟩ hk
  dsimp only at hk ⊢
  by_cases hk3 : k < 3
  · obtain ⟨p, hp, hpk⟩ : ∃ p, p ∈ ab ∧ R[k]? = some [PV.sl (encP p.1.ps), .sl (encD p.1.cs), .sl (encP p.2.ps), .sl (encD p.2.cs)] := by
      have h : k < ab.length := by omega
      refine ⟨ab[k], List.getElem_mem h, ?_⟩
      rw [hR, List.getElem?_map, List.getElem?_eq_getElem h]; rfl
    have hg : R.getD k [] = [PV.sl (encP p.1.ps), .sl (encD p.1.cs), .sl (encP p.2.ps), .sl (encD p.2.cs)] := by
      rw [List.getD_eq_getElem?_getD, hpk]; rfl
    obtain ⟨a, b⟩ := p
    have hm := hq _ hp
    dsimp only at hm hpk hg
    simp -dsimp (maxSteps := 4000000) +contextual (disch := first | omega | decide +kernel) only [↓vsD, vsU, vsE, resW, fnRet, cond_true, cond_false, Nat.reduceShiftRight, Nat.reduceAnd, Go.PV.fits, Go.PV.mutOf, Go.PV.splice, Int.reduceToNat, Int.reduceEq, Int.reduceAdd, Int.reduceSub, Int.reduceMul, Int.reduceLE, Int.reduceLT, Int.reduceNeg, Nat.reduceMul, Nat.reduceLeDiff, if_true, if_false, reduceIte, Nat.reduceEqDiff, ↓Nat.reduceLT, Nat.reduceAdd, Nat.reduceBEq, reduceCtorEq, rowAt_ptr, rowAtO_some, loadP_B, loadPB_t, loadPB_f, hpk, hg, n1, n2, n7]
    refine PCall.mono (merV hm _) ?_
    rintro p σ' ⟨rfl, rfl⟩
    simp -dsimp (maxSteps := 4000000) +contextual (disch := first | omega | decide +kernel) only [↓vsD, vsU, vsE, resW, fnRet, cond_true, cond_false, Nat.reduceShiftRight, Nat.reduceAnd, Go.PV.fits, Go.PV.mutOf, Go.PV.splice, Int.reduceToNat, Int.reduceEq, Int.reduceAdd, Int.reduceSub, Int.reduceMul, Int.reduceLE, Int.reduceLT, Int.reduceNeg, Nat.reduceMul, Nat.reduceLeDiff, if_true, if_false, reduceIte, Nat.reduceEqDiff, ↓Nat.reduceLT, Nat.reduceAdd, Nat.reduceBEq, reduceCtorEq, rowAt_ptr, rowAtO_some, loadP_B, loadPB_t, loadPB_f, gapp0, gappk, sapp0, sappk, gappn0, gappnk, sappn0, sappnk, List.append_assoc, List.length_append, n1, n2, n7]
    refine PCall.mono (rmerV hm _) ?_
    rintro p σ' ⟨rfl, rfl⟩
    simp -dsimp (maxSteps := 4000000) +contextual (disch := first | omega | decide +kernel) only [↓vsD, vsU, vsE, resW, fnRet, cond_true, cond_false, Nat.reduceShiftRight, Nat.reduceAnd, Go.PV.fits, Go.PV.mutOf, Go.PV.splice, Int.reduceToNat, Int.reduceEq, Int.reduceAdd, Int.reduceSub, Int.reduceMul, Int.reduceLE, Int.reduceLT, Int.reduceNeg, Nat.reduceMul, Nat.reduceLeDiff, if_true, if_false, reduceIte, Nat.reduceEqDiff, ↓Nat.reduceLT, Nat.reduceAdd, Nat.reduceBEq, reduceCtorEq, rowAt_ptr, rowAtO_some, loadP_B, loadPB_t, loadPB_f, gapp0, gappk, sapp0, sappk, gappn0, gappnk, sappn0, sappnk, List.append_assoc, List.length_append, n1, n2, n7]
    refine PCall.mono (same31_on (mgV a b).1 (mgV a b).1 (mgV_fit hm) _) ?_
    rintro p σ' ⟨rfl, rfl⟩
    rw [eqB_t rfl]
    simp -dsimp (maxSteps := 4000000) +contextual (disch := first | omega | decide +kernel) only [↓vsD, vsU, vsE, resW, fnRet, cond_true, cond_false, Nat.reduceShiftRight, Nat.reduceAnd, Go.PV.fits, Go.PV.mutOf, Go.PV.splice, Int.reduceToNat, Int.reduceEq, Int.reduceAdd, Int.reduceSub, Int.reduceMul, Int.reduceLE, Int.reduceLT, Int.reduceNeg, Nat.reduceMul, Nat.reduceLeDiff, if_true, if_false, reduceIte, Nat.reduceEqDiff, ↓Nat.reduceLT, Nat.reduceAdd, Nat.reduceBEq, reduceCtorEq, rowAt_ptr, rowAtO_some, loadP_B, loadPB_t, loadPB_f, gapp0, gappk, sapp0, sappk, gappn0, gappnk, sappn0, sappnk, List.append_assoc, List.length_append, n1, n2, n7]
    exact ⟨(k + 1, Z ++ [_, _, _]), (by (try dsimp only); omega), by simp [weaker, Go.PV.look], rfl, by dsimp only; omega⟩
  · have hk0 : k = 3 := by omega
    subst hk0
    simp -dsimp (maxSteps := 4000000) +contextual (disch := first | omega | decide +kernel) only [↓vsD, vsU, vsE, resW, fnRet, cond_true, cond_false, Nat.reduceShiftRight, Nat.reduceAnd, Go.PV.fits, Go.PV.mutOf, Go.PV.splice, Int.reduceToNat, Int.reduceEq, Int.reduceAdd, Int.reduceSub, Int.reduceMul, Int.reduceLE, Int.reduceLT, Int.reduceNeg, Nat.reduceMul, Nat.reduceLeDiff, if_true, if_false, reduceIte, Nat.reduceEqDiff, ↓Nat.reduceLT, Nat.reduceAdd, Nat.reduceBEq, reduceCtorEq, rowAt_ptr, rowAtO_some, loadP_B, loadPB_t, loadPB_f, n1, n2]
    exact fin0 (.keep _ (bel_bool _ _)) rfl
end Go.Proofs.Ythjoehaglonjaaa
