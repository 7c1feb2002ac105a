/- Chapter 38, the walks: the law on any weights. -/
import Derived.Test.YthginmfobikdgaaGvB
import Derived.Test.YthginmfobikdgaaGvD
import Derived.Test.YthginmfobikdgaaPlH
set_option linter.unusedSimpArgs false
set_option linter.unusedVariables false
namespace Go.Proofs.Ythginmfobikdgaa
open Go.PV

theorem newsI2 (l : List Int) : newsOk Try.prog 3 (ints l) = true := by
  show newsOk _ _ (List.map _ _) = true
  simp [newsOk, PV.cell, tyC]
structure ZZ where
  sz : List Int
  en : PV
  cl : List CallI
  pg : Int
  od : List Int
def ZZ.row (z : ZZ) : List PV := [.sl (ints z.sz), z.en, .sl (encL z.cl), .int .i64 z.pg, .sl (ints z.od)]
structure ZZ.ok (z : ZZ) : Prop where
  e1 : PV.cell z.en = true
  e2 : Bel 0 z.en
  s : z.sz.length ≤ 100
  c : z.cl.length ≤ 100
  o : z.od.length ≤ 100
def All2 {α : Type} (R : α → α → Prop) : List α → List α → Prop
  | [], [] => True
  | a :: l, b :: m => R a b ∧ All2 R l m
  | _, _ => False
theorem All2.len {α : Type} {R : α → α → Prop} : ∀ {l m : List α}, All2 R l m → m.length = l.length
  | [], [], _ => rfl
  | a :: l, b :: m, h => by rw [List.length_cons, List.length_cons, All2.len h.2]
  | [], b :: m, h => h.elim
  | a :: l, [], h => h.elim
theorem All2.at {α : Type} {R : α → α → Prop} {d : α} : ∀ {l m : List α}, All2 R l m → ∀ (i : Nat) (a : α), l[i]? = some a → R a (m.getD i d)
  | [], [], _, i, a, h => by simp at h
  | a :: l, b :: m, h, 0, a', h2 => by
    simp at h2
    subst h2
    exact h.1
  | a :: l, b :: m, h, i + 1, a', h2 => by
    have := All2.at (d := d) h.2 i a' (by simpa using h2)
    simpa using this
  | [], b :: m, h, _, _, _ => h.elim
  | a :: l, [], h, _, _, _ => h.elim
theorem frzn_rows {zs : List Nat} {σ : Store} {rows rows2 : List (List PV)} (h : All2 (All2 (Frzn zs σ)) rows rows2) : Frzn zs σ (.sl rows) (.sl rows2) :=
  .sl rows rows2 h.len (fun i row hi => (h.at (d := []) i row hi).len) (fun i row j p hi hj => (h.at (d := []) i row hi).at (d := .unk) j p hj)
/-- What is drawn, among other objects. -/
theorem draw38_on {σ : Store} {K : PV → Store → Prop} (o : Nat) (cs : List Int) (k0 : Nat) (a b : Nat) (ho : σ[o]? = some (codes cs k0)) (ha : 1 ≤ a) (hab : a ≤ b) (hb : b ≤ 64) (hcl : okInts .u8 cs) (hcn : cs.length < 2 ^ 40) (hk0 : k0 ≤ cs.length)
    (hK : ∀ (sizes : List Int) (calls : List CallI) (page : Int) (k : Nat), k ≤ cs.length → a ≤ sizes.length → sizes.length ≤ b → calls.length ≤ 12 → K (.tup [.sl (ints sizes), .agg [.nils, .sl (encL calls)], .int .i64 page]) (σ.set o (codes cs k))) :
    PCall Try.prog 39 [.ptr o 0 0 0, .int .i64 a, .int .i64 b] σ K := by
  refine PCall.use_on [o] (draw38_w cs k0 a b ha hab hb hcl hcn hk0) (by simp) rfl (fun j o' hj => ?_) (fun X hX => ?_) (MvL.cons (.ptr 0 o 0 0 0 rfl) (MvL.cons (.keep _ (bel_int _ _ _)) (MvL.cons (.keep _ (bel_int _ _ _)) (MvL.nil _)))) ?_
  · match j with
    | 0 => simp at hj; rw [← hj]; exact ho
    | j + 1 => simp at hj
  · rw [List.mem_singleton] at hX
    rw [hX]; exact codes_bel _ _ _
  · rintro p σ2 ⟨sizes, calls, page, k, rfl, rfl, hk, h1, h2, _, h3, _⟩
    refine ⟨bel_tup (fun p hp => ?_), rfl, fun X hX => ?_, hK sizes calls page k hk h1 h2 h3⟩
    · simp only [List.mem_cons, List.not_mem_nil, or_false] at hp
      rcases hp with rfl | rfl | rfl
      · exact bel_ints _ _
      · exact graphV_bel .nils calls (bel_nils _)
      · exact bel_int _ _ _
    · rw [List.mem_singleton] at hX
      rw [hX]; exact codes_bel _ _ _
theorem nextD_on {σ : Store} (o : Nat) (l : List Int) (k : Nat) (n : Int) (ho : σ[o]? = some (codes l k)) (hl : okInts .u8 l) (hll : l.length < 2 ^ 40) (hk : k ≤ l.length) (hn : n < 2 ^ 62) :
    PCall Try.prog 26 [.ptr o 0 0 0, .int .i64 n] σ (fun p σ' => p = .int .i64 (nxt l k n).1 ∧ σ' = σ.set o (codes l (nxt l k n).2)) := next_on o l k n ho hl hll hk hn ⟨rfl, rfl⟩
theorem intD_on {σ : Store} (o : Nat) (l : List Int) (k : Nat) (ho : σ[o]? = some (codes l k)) (hl : okInts .u8 l) (hll : l.length < 2 ^ 40) (hk : k ≤ l.length) :
    PCall Try.prog 30 [.ptr o 0 0 0] σ (fun p σ' => p = .int .i64 (intC l k).1 ∧ σ' = σ.set o (codes l (intC l k).2)) := by
  refine PCall.use_on [o] (int_ok l k hl hll hk) (by simp) rfl (fun j o' hj => ?_) (fun X hX => ?_) (MvL.cons (.ptr 0 o 0 0 0 rfl) (MvL.nil _)) ?_
  · match j with
    | 0 => simp at hj; rw [← hj]; exact ho
    | j + 1 => simp at hj
  · rw [List.mem_singleton] at hX
    rw [hX]; exact codes_bel _ _ _
  · rintro p σ2 ⟨rfl, rfl⟩
    refine ⟨bel_int _ _ _, rfl, fun X hX => ?_, rfl, rfl⟩
    rw [List.mem_singleton] at hX
    rw [hX]; exact codes_bel _ _ _
instance : Inhabited ZZ := ⟨⟨[], .nils, [], 0, []⟩⟩
def zzL (sz0 od0 : List Int) (E0 : PV) (cl0 : List CallI) (pg0 : Int) (sizes : List Int) (calls : List CallI) (page : Int) (m bad : List Int) (odd : List CallI) (x : Int) : List ZZ :=
  [⟨sz0, E0, cl0, pg0, od0⟩, ⟨sizes, .nils, calls, page, m⟩, ⟨sizes, .nils, calls, page, od0⟩, ⟨bad, .nils, calls, page, m⟩, ⟨sizes, .nils, odd, page, m⟩, ⟨sizes, .nils, calls, pg0, m⟩, ⟨sizes, .nils, calls, x, m⟩]
theorem zzL_ok {sz0 od0 : List Int} {E0 : PV} {cl0 : List CallI} {pg0 : Int} {sizes : List Int} {calls : List CallI} {page : Int} {m bad : List Int} {odd : List CallI} {x : Int} (h1 : sz0.length ≤ 100) (h2 : od0.length ≤ 100) (e1 : PV.cell E0 = true) (e2 : Bel 0 E0) (h3 : cl0.length ≤ 100) (h4 : sizes.length ≤ 100) (h5 : calls.length ≤ 100) (h6 : m.length ≤ 100) (h7 : bad.length ≤ 100) (h8 : odd.length ≤ 100) : ∀ z ∈ zzL sz0 od0 E0 cl0 pg0 sizes calls page m bad odd x, z.ok := by
  unfold zzL
  simp only [List.forall_mem_cons, List.not_mem_nil, false_implies, implies_true, and_true]
  exact ⟨⟨e1, e2, h1, h3, h2⟩, ⟨rfl, bel_nils _, h4, h5, h6⟩, ⟨rfl, bel_nils _, h4, h5, h2⟩, ⟨rfl, bel_nils _, h7, h5, h6⟩, ⟨rfl, bel_nils _, h4, h8, h6⟩, ⟨rfl, bel_nils _, h4, h5, h6⟩, ⟨rfl, bel_nils _, h4, h5, h6⟩⟩
theorem zz_row (zz : List ZZ) (t : Nat) (h : t < zz.length) : (zz.map ZZ.row).getD t [] = [.sl (ints (zz.getD t default).sz), (zz.getD t default).en, .sl (encL (zz.getD t default).cl), .int .i64 (zz.getD t default).pg, .sl (ints (zz.getD t default).od)] := by
  simp [List.getD_eq_getElem?_getD, List.getElem?_eq_getElem h, ZZ.row]
theorem encL_setI (l : List CallI) (i : Nat) (a b c d e : Int) : (encL l).set i [.int .i64 a, .int .i64 b, .int .i64 c, .int .i64 d, .int .i64 e] = encL (l.set i ⟨a, b, c, d, e⟩) := by simp [encL, List.map_set, CallI.row]
set_option maxRecDepth 8000 in
set_option maxHeartbeats 32000000 in
theorem weighs_ok (l0 : List Int) (hl0 : okInts .u8 l0) (sz0 : List Int) (ents : List Int) (cl0 : List CallI) (pg0 : Int) (od0 : List Int) :
    PCall Try.prog 10 [.sl (PV.encI .u8 l0), .sl (ints sz0), .agg [.sl (ints ents), .sl (encL cl0)], .int .i64 pg0, .sl (ints od0)] [] (fun p _ => p = .bool true) := by
  have k0 : ∀ args σ, noE.f 38 args σ = none := fun _ _ => rfl
  refine PCall.vfrz [] 3138550868035879828167327699726422570579789597605185454079 193 [.tmp 10] (noE_ok _) mix Try.func10 rfl (by decide) rfl rfl (by simp) ?_
  simp -dsimp only [initFr, List.zipIdx_cons, List.zipIdx_nil, List.map_cons, List.map_nil, Nat.zero_add, Nat.reduceAdd]
  simp -dsimp (maxSteps := 4000000) +contextual (disch := first | omega | decide +kernel) only [↓vsD, vsU, Bool.or_false, Bool.true_or, resW, fnRet, cond_true, cond_false, Nat.reduceShiftRight, Nat.reduceAnd, Go.PV.fits, Go.PV.mutOf, Go.PV.splice, Int.reduceToNat, Int.reduceEq, Int.reduceAdd, Int.reduceSub, Int.reduceMul, Int.reduceLE, Int.reduceLT, Int.reduceNeg, Nat.reduceMul, Nat.reduceLeDiff, ne_eq, if_true, if_false, reduceIte, Nat.reduceEqDiff, ↓Nat.reduceLT, Nat.reduceAdd, Nat.reduceBEq, reduceCtorEq, enc_length, encs_length, tyU, tyC, tyB, tyA, tyI, tyZ, tyF, tyP, enc_getD, encs_getD, wrap_i64, enc_set, splice_one, set_last, bin_snn, bin_snm, bin_sns, bin_tnn, bin_tnm, bin_tns, enc_length, encL_length, k0]
  refine PCall.mono (awake38_on _) ?_
  rintro p σ' ⟨rfl, rfl⟩
  by_cases hs0 : 100 < sz0.length
  · simp -dsimp (maxSteps := 4000000) +contextual (disch := first | omega | decide +kernel) only [↓vsD, vsU, Bool.or_false, Bool.true_or, resW, fnRet, cond_true, cond_false, Nat.reduceShiftRight, Nat.reduceAnd, Go.PV.fits, Go.PV.mutOf, Go.PV.splice, Int.reduceToNat, Int.reduceEq, Int.reduceAdd, Int.reduceSub, Int.reduceMul, Int.reduceLE, Int.reduceLT, Int.reduceNeg, Nat.reduceMul, Nat.reduceLeDiff, ne_eq, if_true, if_false, reduceIte, Nat.reduceEqDiff, ↓Nat.reduceLT, Nat.reduceAdd, Nat.reduceBEq, reduceCtorEq, enc_length, encs_length, tyU, tyC, tyB, tyA, tyI, tyZ, tyF, tyP, enc_getD, encs_getD, wrap_i64, enc_set, splice_one, set_last, bin_snn, bin_snm, bin_sns, bin_tnn, bin_tnm, bin_tns, enc_length, encL_length, k0]
    exact fin0 (.keep _ (bel_bool _ _)) rfl
  by_cases hc0 : 100 < cl0.length
  · simp -dsimp (maxSteps := 4000000) +contextual (disch := first | omega | decide +kernel) only [↓vsD, vsU, Bool.or_false, Bool.true_or, resW, fnRet, cond_true, cond_false, Nat.reduceShiftRight, Nat.reduceAnd, Go.PV.fits, Go.PV.mutOf, Go.PV.splice, Int.reduceToNat, Int.reduceEq, Int.reduceAdd, Int.reduceSub, Int.reduceMul, Int.reduceLE, Int.reduceLT, Int.reduceNeg, Nat.reduceMul, Nat.reduceLeDiff, ne_eq, if_true, if_false, reduceIte, Nat.reduceEqDiff, ↓Nat.reduceLT, Nat.reduceAdd, Nat.reduceBEq, reduceCtorEq, enc_length, encs_length, tyU, tyC, tyB, tyA, tyI, tyZ, tyF, tyP, enc_getD, encs_getD, wrap_i64, enc_set, splice_one, set_last, bin_snn, bin_snm, bin_sns, bin_tnn, bin_tnm, bin_tns, enc_length, encL_length, k0]
    exact fin0 (.keep _ (bel_bool _ _)) rfl
  by_cases ho0 : 100 < od0.length
  · simp -dsimp (maxSteps := 4000000) +contextual (disch := first | omega | decide +kernel) only [↓vsD, vsU, Bool.or_false, Bool.true_or, resW, fnRet, cond_true, cond_false, Nat.reduceShiftRight, Nat.reduceAnd, Go.PV.fits, Go.PV.mutOf, Go.PV.splice, Int.reduceToNat, Int.reduceEq, Int.reduceAdd, Int.reduceSub, Int.reduceMul, Int.reduceLE, Int.reduceLT, Int.reduceNeg, Nat.reduceMul, Nat.reduceLeDiff, ne_eq, if_true, if_false, reduceIte, Nat.reduceEqDiff, ↓Nat.reduceLT, Nat.reduceAdd, Nat.reduceBEq, reduceCtorEq, enc_length, encs_length, tyU, tyC, tyB, tyA, tyI, tyZ, tyF, tyP, enc_getD, encs_getD, wrap_i64, enc_set, splice_one, set_last, bin_snn, bin_snm, bin_sns, bin_tnn, bin_tnm, bin_tns, enc_length, encL_length, k0]
    exact fin0 (.keep _ (bel_bool _ _)) rfl
  simp -dsimp (maxSteps := 4000000) +contextual (disch := first | omega | decide +kernel) only [↓vsD, vsU, Bool.or_false, Bool.true_or, resW, fnRet, cond_true, cond_false, Nat.reduceShiftRight, Nat.reduceAnd, Go.PV.fits, Go.PV.mutOf, Go.PV.splice, Int.reduceToNat, Int.reduceEq, Int.reduceAdd, Int.reduceSub, Int.reduceMul, Int.reduceLE, Int.reduceLT, Int.reduceNeg, Nat.reduceMul, Nat.reduceLeDiff, ne_eq, if_true, if_false, reduceIte, Nat.reduceEqDiff, ↓Nat.reduceLT, Nat.reduceAdd, Nat.reduceBEq, reduceCtorEq, enc_length, encs_length, tyU, tyC, tyB, tyA, tyI, tyZ, tyF, tyP, enc_getD, encs_getD, wrap_i64, enc_set, splice_one, set_last, bin_snn, bin_snm, bin_sns, bin_tnn, bin_tnm, bin_tns, enc_length, encL_length, k0]
  refine PCall.mono (newC_on l0 200 _) ?_
  rintro p σ' ⟨rfl, rfl⟩
  obtain ⟨cs, hcs⟩ : ∃ cs, cs = l0.take 200 := ⟨_, rfl⟩
  have hcl : okInts .u8 cs := fun n hn => hl0 n (by rw [hcs] at hn; exact List.mem_of_mem_take hn)
  have hcn : cs.length ≤ 200 := by rw [hcs]; simp; omega
  rw [← hcs]
  simp -dsimp (maxSteps := 4000000) +contextual (disch := first | omega | decide +kernel) only [↓vsD, vsU, Bool.or_false, Bool.true_or, resW, fnRet, cond_true, cond_false, Nat.reduceShiftRight, Nat.reduceAnd, Go.PV.fits, Go.PV.mutOf, Go.PV.splice, Int.reduceToNat, Int.reduceEq, Int.reduceAdd, Int.reduceSub, Int.reduceMul, Int.reduceLE, Int.reduceLT, Int.reduceNeg, Nat.reduceMul, Nat.reduceLeDiff, ne_eq, if_true, if_false, reduceIte, Nat.reduceEqDiff, ↓Nat.reduceLT, Nat.reduceAdd, Nat.reduceBEq, reduceCtorEq, enc_length, encs_length, tyU, tyC, tyB, tyA, tyI, tyZ, tyF, tyP, enc_getD, encs_getD, wrap_i64, enc_set, splice_one, set_last, bin_snn, bin_snm, bin_sns, bin_tnn, bin_tnm, bin_tns, List.cons_append, List.nil_append]
  refine draw38_on 1 cs 0 1 8 rfl (by omega) (by omega) (by omega) hcl (by omega) (by omega) (fun sizes calls page k1 hk1 hn1 hn8 hc12 => ?_)
  simp -dsimp (maxSteps := 4000000) +contextual (disch := first | omega | decide +kernel) only [↓vsD, vsU, Bool.or_false, Bool.true_or, resW, fnRet, cond_true, cond_false, Nat.reduceShiftRight, Nat.reduceAnd, Go.PV.fits, Go.PV.mutOf, Go.PV.splice, Int.reduceToNat, Int.reduceEq, Int.reduceAdd, Int.reduceSub, Int.reduceMul, Int.reduceLE, Int.reduceLT, Int.reduceNeg, Nat.reduceMul, Nat.reduceLeDiff, ne_eq, if_true, if_false, reduceIte, Nat.reduceEqDiff, ↓Nat.reduceLT, Nat.reduceAdd, Nat.reduceBEq, reduceCtorEq, enc_length, encs_length, tyU, tyC, tyB, tyA, tyI, tyZ, tyF, tyP, enc_getD, encs_getD, wrap_i64, enc_set, splice_one, set_last, bin_snn, bin_snm, bin_sns, bin_tnn, bin_tnm, bin_tns, List.set_cons_succ]
  refine order38_on 1 cs k1 sizes.length rfl (by omega) (by omega) hcl (by omega) hk1 (fun m k2 hk2 hmp => ?_)
  have hml : m.length = sizes.length := by rw [hmp.length_eq, natI_length]
  obtain ⟨x0, q0, hsz⟩ : ∃ x0 q0, ints sizes = [PV.int .i64 x0] :: q0 := by
    cases sizes with
    | nil => simp at hn1
    | cons x q => exact ⟨x, ints q, rfl⟩
  have hq0 : q0.length + 1 = sizes.length := by
    have := enc_length .i64 sizes
    rw [show PV.encI .i64 sizes = ints sizes from rfl, hsz] at this
    simpa using this
  have hnw := newsI2 sizes
  rw [hsz] at hnw
  have d3 := nxt_lt hcl k2 (sizes.length : Int) (by omega)
  have g3 := nxt_le hk2 (sizes.length : Int)
  obtain ⟨i3, hi3⟩ : ∃ i : Nat, (i : Int) = (nxt cs k2 (sizes.length : Int)).1 := ⟨(nxt cs k2 (sizes.length : Int)).1.toNat, by omega⟩
  simp -dsimp (maxSteps := 4000000) +contextual (disch := first | omega | decide +kernel) only [↓vsD, vsU, Bool.or_false, Bool.true_or, resW, fnRet, cond_true, cond_false, Nat.reduceShiftRight, Nat.reduceAnd, Go.PV.fits, Go.PV.mutOf, Go.PV.splice, Int.reduceToNat, Int.reduceEq, Int.reduceAdd, Int.reduceSub, Int.reduceMul, Int.reduceLE, Int.reduceLT, Int.reduceNeg, Nat.reduceMul, Nat.reduceLeDiff, ne_eq, if_true, if_false, reduceIte, Nat.reduceEqDiff, ↓Nat.reduceLT, Nat.reduceAdd, Nat.reduceBEq, reduceCtorEq, enc_length, encs_length, tyU, tyC, tyB, tyA, tyI, tyZ, tyF, tyP, enc_getD, encs_getD, wrap_i64, enc_set, splice_one, set_last, bin_snn, bin_snm, bin_sns, bin_tnn, bin_tnm, bin_tns, List.set_cons_succ, hsz, hnw, bytesOk, lenOk]
  rw [hq0, ← hsz]
  refine PCall.mono (nextD_on 1 cs k2 sizes.length rfl hcl (by omega) hk2 (by omega)) ?_
  rintro p σ' ⟨rfl, rfl⟩
  simp -dsimp (maxSteps := 4000000) +contextual (disch := first | omega | decide +kernel) only [↓vsD, vsU, Bool.or_false, Bool.true_or, resW, fnRet, cond_true, cond_false, Nat.reduceShiftRight, Nat.reduceAnd, Go.PV.fits, Go.PV.mutOf, Go.PV.splice, Int.reduceToNat, Int.reduceEq, Int.reduceAdd, Int.reduceSub, Int.reduceMul, Int.reduceLE, Int.reduceLT, Int.reduceNeg, Nat.reduceMul, Nat.reduceLeDiff, ne_eq, if_true, if_false, reduceIte, Nat.reduceEqDiff, ↓Nat.reduceLT, Nat.reduceAdd, Nat.reduceBEq, reduceCtorEq, enc_length, encs_length, tyU, tyC, tyB, tyA, tyI, tyZ, tyF, tyP, enc_getD, encs_getD, wrap_i64, enc_set, splice_one, set_last, bin_snn, bin_snm, bin_sns, bin_tnn, bin_tnm, bin_tns, List.set_cons_succ]
  obtain ⟨k3, hk3⟩ : ∃ k3, k3 = (nxt cs k2 (sizes.length : Int)).2 := ⟨_, rfl⟩
  rw [← hk3] at g3 ⊢
  rw [← hi3] at d3 ⊢
  refine PCall.mono (intD_on 1 cs k3 rfl hcl (by omega) g3) ?_
  rintro p σ' ⟨rfl, rfl⟩
  have g4 := intC_le (l := cs) g3
  obtain ⟨x4, hx4⟩ : ∃ x, x = (intC cs k3).1 := ⟨_, rfl⟩
  obtain ⟨k4, hk4⟩ : ∃ k, k = (intC cs k3).2 := ⟨_, rfl⟩
  rw [← hk4] at g4 ⊢
  rw [← hx4]
  clear hx4 hk4 hk3 hi3 hnw
  have hsn : i3 < sizes.length := by omega
  obtain ⟨bad, hbad⟩ : ∃ bad, bad = sizes.set i3 x4 := ⟨_, rfl⟩
  have hbl : bad.length = sizes.length := by rw [hbad, List.length_set]
  have kN : ∀ args σ, noE.f 26 args σ = none := fun _ _ => rfl
  have kI : ∀ args σ, noE.f 30 args σ = none := fun _ _ => rfl
  by_cases hc : calls = []
  subst hc
  have e0 : encL [] = [] := rfl
  simp -dsimp (maxSteps := 4000000) +contextual (disch := first | omega | decide +kernel) only [↓vsD, vsU, Bool.or_false, Bool.true_or, resW, fnRet, cond_true, cond_false, Nat.reduceShiftRight, Nat.reduceAnd, Go.PV.fits, Go.PV.mutOf, Go.PV.splice, Int.reduceToNat, Int.reduceEq, Int.reduceAdd, Int.reduceSub, Int.reduceMul, Int.reduceLE, Int.reduceLT, Int.reduceNeg, Nat.reduceMul, Nat.reduceLeDiff, ne_eq, if_true, if_false, reduceIte, Nat.reduceEqDiff, ↓Nat.reduceLT, Nat.reduceAdd, Nat.reduceBEq, reduceCtorEq, enc_length, encs_length, tyU, tyC, tyB, tyA, tyI, tyZ, tyF, tyP, enc_getD, encs_getD, wrap_i64, enc_set, splice_one, set_last, bin_snn, bin_snm, bin_sns, bin_tnn, bin_tnm, bin_tns, List.set_cons_succ, enc_length, e0, ← hbad, kN, kI]
  obtain ⟨odd, hodd⟩ : ∃ odd : List CallI, odd = [] := ⟨_, rfl⟩
  have hoddl : odd.length ≤ 12 := by rw [hodd]; exact Nat.zero_le _
  obtain ⟨cl1, hcl1⟩ : ∃ cl1 : List CallI, cl1 = [] := ⟨_, rfl⟩
  have hcl1n : cl1.length ≤ 12 := by rw [hcl1]; exact Nat.zero_le _
  obtain ⟨kk, hkk⟩ : ∃ kk, kk = k4 := ⟨_, rfl⟩
  have gk := g4
  rw [← hkk] at gk ⊢
  rotate_left
  have hcn0 : newsOk Try.prog 78 (encL calls) = true := by
    show newsOk _ _ (List.map _ _) = true
    simp [newsOk, PV.cell, tyC, CallI.row]
  obtain ⟨r0, rq, hr0⟩ : ∃ r0 rq, encL calls = r0 :: rq := by
    cases calls with
    | nil => exact absurd rfl hc
    | cons c q => exact ⟨_, _, rfl⟩
  have hrl : rq.length + 1 = calls.length := by
    have := encL_length calls
    rw [hr0, List.length_cons] at this
    omega
  rw [hr0] at hcn0
  have g5 := nxt_le g4 (calls.length : Int)
  have d5 := nxt_lt hcl k4 (calls.length : Int) (by omega)
  simp -dsimp (maxSteps := 4000000) +contextual (disch := first | omega | decide +kernel) only [↓vsD, vsU, Bool.or_false, Bool.true_or, resW, fnRet, cond_true, cond_false, Nat.reduceShiftRight, Nat.reduceAnd, Go.PV.fits, Go.PV.mutOf, Go.PV.splice, Int.reduceToNat, Int.reduceEq, Int.reduceAdd, Int.reduceSub, Int.reduceMul, Int.reduceLE, Int.reduceLT, Int.reduceNeg, Nat.reduceMul, Nat.reduceLeDiff, ne_eq, if_true, if_false, reduceIte, Nat.reduceEqDiff, ↓Nat.reduceLT, Nat.reduceAdd, Nat.reduceBEq, reduceCtorEq, enc_length, encs_length, tyU, tyC, tyB, tyA, tyI, tyZ, tyF, tyP, enc_getD, encs_getD, wrap_i64, enc_set, splice_one, set_last, bin_snn, bin_snm, bin_sns, bin_tnn, bin_tnm, bin_tns, List.set_cons_succ, enc_length, ← hbad, hr0, hcn0, bytesOk, lenOk, kN, kI]
  refine v_draws _ _ _ _ _ _ [6] [] [(0, 1), (0, 1), (0, 0), (0, 0), (0, 0), (0, 0), (0, 0), (1, 1), (1, 1)] (by decide +kernel) (by decide +kernel) (by decide +kernel) (by decide +kernel) ?_
  simp -dsimp (maxSteps := 4000000) +contextual (disch := first | omega | decide +kernel) only [↓vsD, vsU, Bool.or_false, Bool.true_or, resW, fnRet, cond_true, cond_false, Nat.reduceShiftRight, Nat.reduceAnd, Go.PV.fits, Go.PV.mutOf, Go.PV.splice, Int.reduceToNat, Int.reduceEq, Int.reduceAdd, Int.reduceSub, Int.reduceMul, Int.reduceLE, Int.reduceLT, Int.reduceNeg, Nat.reduceMul, Nat.reduceLeDiff, ne_eq, if_true, if_false, reduceIte, Nat.reduceEqDiff, ↓Nat.reduceLT, Nat.reduceAdd, Nat.reduceBEq, reduceCtorEq, enc_length, encs_length, tyU, tyC, tyB, tyA, tyI, tyZ, tyF, tyP, enc_getD, encs_getD, wrap_i64, enc_set, splice_one, set_last, bin_snn, bin_snm, bin_sns, bin_tnn, bin_tnm, bin_tns, vdx_none, vkp_go, ↓vd_end, place_nil, place_cons, vdo_eff, vdo_effA, ↓vdm_go, List.take_succ_cons, List.take_zero, List.drop_succ_cons, List.drop_zero, vdo_noeff_s, vdo_noeff_n, vdo_nofloat, vdo_noread, vdo_read, vdo_floatS, vdo_floatA, vde_s, vde_n, vde_c, vdx_s, vdr_s, vdr_b, vdf_m, vdf_p, ↓vd_op, ↓guard_none, ↓guard_some, gval_some, List.forall_mem_cons, List.not_mem_nil, false_implies, implies_true, List.length_append, List.length_replicate, List.replicate_zero, List.replicate_succ, List.contains_nil, List.contains_cons, Bool.or_false, Bool.false_or, Bool.or_self, Bool.or_true, Bool.true_or, vdr_o, vdq_eq, vdw_s, outR_v, rowsAt_none, mapAt_none, lnil, drop0, List.set_cons_succ, enc_length, kN, kI]
  rw [hrl]
  refine ⟨_, _, nextD_on 1 cs k4 calls.length rfl hcl (by omega) g4 (by omega), (by simp [outR, rowsAt]), ?_⟩
  obtain ⟨i5, hi5⟩ : ∃ i : Nat, (i : Int) = (nxt cs k4 (calls.length : Int)).1 := ⟨(nxt cs k4 (calls.length : Int)).1.toNat, by omega⟩
  obtain ⟨k5, hk5⟩ : ∃ k5, k5 = (nxt cs k4 (calls.length : Int)).2 := ⟨_, rfl⟩
  rw [← hk5] at g5 ⊢
  rw [← hi5] at d5 ⊢
  clear hi5 hk5
  have g6 := nxt_le g5 3
  have d6 := nxt_lt hcl k5 3 (by omega)
  rw [← hr0]
  have hcl5 := encL_length calls
  simp -dsimp (maxSteps := 4000000) +contextual (disch := first | omega | decide +kernel) only [↓vsD, vsU, Bool.or_false, Bool.true_or, resW, fnRet, cond_true, cond_false, Nat.reduceShiftRight, Nat.reduceAnd, Go.PV.fits, Go.PV.mutOf, Go.PV.splice, Int.reduceToNat, Int.reduceEq, Int.reduceAdd, Int.reduceSub, Int.reduceMul, Int.reduceLE, Int.reduceLT, Int.reduceNeg, Nat.reduceMul, Nat.reduceLeDiff, ne_eq, if_true, if_false, reduceIte, Nat.reduceEqDiff, ↓Nat.reduceLT, Nat.reduceAdd, Nat.reduceBEq, reduceCtorEq, enc_length, encs_length, tyU, tyC, tyB, tyA, tyI, tyZ, tyF, tyP, enc_getD, encs_getD, wrap_i64, enc_set, splice_one, set_last, bin_snn, bin_snm, bin_sns, bin_tnn, bin_tnm, bin_tns, vdx_none, vkp_go, ↓vd_end, place_nil, place_cons, vdo_eff, vdo_effA, ↓vdm_go, List.take_succ_cons, List.take_zero, List.drop_succ_cons, List.drop_zero, vdo_noeff_s, vdo_noeff_n, vdo_nofloat, vdo_noread, vdo_read, vdo_floatS, vdo_floatA, vde_s, vde_n, vde_c, vdx_s, vdr_s, vdr_b, vdf_m, vdf_p, ↓vd_op, ↓guard_none, ↓guard_some, gval_some, List.forall_mem_cons, List.not_mem_nil, false_implies, implies_true, List.length_append, List.length_replicate, List.replicate_zero, List.replicate_succ, List.contains_nil, List.contains_cons, Bool.or_false, Bool.false_or, Bool.or_self, Bool.or_true, Bool.true_or, vdr_o, vdq_eq, vdw_s, outR_v, rowsAt_none, mapAt_none, lnil, drop0, List.set_cons_succ, enc_length, encL_length, kN, kI]
  refine PCall.mono (nextD_on 1 cs k5 3 rfl hcl (by omega) g5 (by omega)) ?_
  rintro p σ' ⟨rfl, rfl⟩
  obtain ⟨w6, hw6⟩ : ∃ w, w = (nxt cs k5 3).1 := ⟨_, rfl⟩
  obtain ⟨k6, hk6⟩ : ∃ k, k = (nxt cs k5 3).2 := ⟨_, rfl⟩
  rw [← hk6] at g6 ⊢
  rw [← hw6] at d6 ⊢
  clear hw6 hk6 hcn0 hr0
  have hrow : (encL calls).getD i5 [] = [.int .i64 (calls.getD i5 default).fn, .int .i64 (calls.getD i5 default).blk, .int .i64 (calls.getD i5 default).ins, .int .i64 (calls.getD i5 default).cal, .int .i64 (calls.getD i5 default).cnt] := encL_getD _ _ (by omega)
  obtain ⟨c5, hc5⟩ : ∃ c, c = calls.getD i5 default := ⟨_, rfl⟩
  rw [← hc5] at hrow
  have g7 := intC_le (l := cs) g6
  obtain ⟨x7, hx7⟩ : ∃ x, x = (intC cs k6).1 := ⟨_, rfl⟩
  obtain ⟨kk, hk7⟩ : ∃ k, k = (intC cs k6).2 := ⟨_, rfl⟩
  obtain ⟨odd, hodd⟩ : ∃ odd : List CallI, odd = calls.set i5 (if w6 = 0 then ⟨x7, c5.blk, c5.ins, c5.cal, c5.cnt⟩ else if w6 = 1 then ⟨c5.fn, c5.blk, c5.ins, x7, c5.cnt⟩ else ⟨c5.fn, c5.blk, c5.ins, c5.cal, x7⟩) := ⟨_, rfl⟩
  have hoddl : odd.length ≤ 12 := by rw [hodd, List.length_set]; exact hc12
  have ho0 : w6 = 0 → calls.set i5 ⟨x7, c5.blk, c5.ins, c5.cal, c5.cnt⟩ = odd := fun h => by rw [hodd, if_pos h]
  have ho1 : w6 = 1 → calls.set i5 ⟨c5.fn, c5.blk, c5.ins, x7, c5.cnt⟩ = odd := fun h => by rw [hodd, if_neg (by omega), if_pos h]
  have ho2 : w6 = 2 → calls.set i5 ⟨c5.fn, c5.blk, c5.ins, c5.cal, x7⟩ = odd := fun h => by rw [hodd, if_neg (by omega), if_neg (by omega)]
  clear hodd
  have hodd : True := trivial
  obtain ⟨cl1, hcl1⟩ : ∃ cl1 : List CallI, cl1 = calls := ⟨_, rfl⟩
  have hcl1n : cl1.length ≤ 12 := by rw [hcl1]; exact hc12
  have gk := g7
  rw [← hk7] at gk
  rcases (show w6 = 0 ∨ w6 = 1 ∨ w6 = 2 by omega) with rfl | rfl | rfl
  iterate 3 (
    simp -dsimp (maxSteps := 4000000) +contextual (disch := first | omega | decide +kernel) only [↓vsD, vsU, Bool.or_false, Bool.true_or, resW, fnRet, cond_true, cond_false, Nat.reduceShiftRight, Nat.reduceAnd, Go.PV.fits, Go.PV.mutOf, Go.PV.splice, Int.reduceToNat, Int.reduceEq, Int.reduceAdd, Int.reduceSub, Int.reduceMul, Int.reduceLE, Int.reduceLT, Int.reduceNeg, Nat.reduceMul, Nat.reduceLeDiff, ne_eq, if_true, if_false, reduceIte, Nat.reduceEqDiff, ↓Nat.reduceLT, Nat.reduceAdd, Nat.reduceBEq, reduceCtorEq, enc_length, encs_length, tyU, tyC, tyB, tyA, tyI, tyZ, tyF, tyP, enc_getD, encs_getD, wrap_i64, enc_set, splice_one, set_last, bin_snn, bin_snm, bin_sns, bin_tnn, bin_tnm, bin_tns, List.set_cons_succ, kN, kI]
    refine PCall.mono (intD_on 1 cs k6 rfl hcl (by omega) g6) ?_
    rintro p σ' ⟨rfl, rfl⟩
    rw [← hk7, ← hx7]
    simp -dsimp (maxSteps := 4000000) +contextual (disch := first | omega | decide +kernel) only [↓vsD, vsU, Bool.or_false, Bool.true_or, resW, fnRet, cond_true, cond_false, Nat.reduceShiftRight, Nat.reduceAnd, Go.PV.fits, Go.PV.mutOf, Go.PV.splice, Int.reduceToNat, Int.reduceEq, Int.reduceAdd, Int.reduceSub, Int.reduceMul, Int.reduceLE, Int.reduceLT, Int.reduceNeg, Nat.reduceMul, Nat.reduceLeDiff, ne_eq, if_true, if_false, reduceIte, Nat.reduceEqDiff, ↓Nat.reduceLT, Nat.reduceAdd, Nat.reduceBEq, reduceCtorEq, enc_length, encs_length, tyU, tyC, tyB, tyA, tyI, tyZ, tyF, tyP, enc_getD, encs_getD, wrap_i64, enc_set, splice_one, set_last, bin_snn, bin_snm, bin_sns, bin_tnn, bin_tnm, bin_tns, List.set_cons_succ, kN, kI, encL_length, hrow, encL_setI, ho0, ho1, ho2]
    rotate_left)
  all_goals
    refine v_draws _ _ _ _ _ _ [33] [] [(0, 1), (0, 1), (0, 1), (0, 1), (0, 1), (0, 1), (0, 1), (0, 1), (0, 1), (0, 1), (0, 1), (0, 1), (0, 1), (0, 1), (0, 1), (0, 1), (0, 1), (0, 1), (0, 1), (0, 1), (0, 1), (0, 1), (0, 1), (0, 1), (0, 1), (0, 1), (0, 1), (0, 1), (0, 1), (0, 1), (0, 1), (0, 1), (0, 0), (0, 0), (0, 1), (1, 1), (1, 1), (1, 1), (0, 1)] (by decide +kernel) (by decide +kernel) (by decide +kernel) (by decide +kernel) ?_
    simp -dsimp (maxSteps := 4000000) +contextual (disch := first | omega | decide +kernel) only [↓vsD, vsU, Bool.or_false, Bool.true_or, resW, fnRet, cond_true, cond_false, Nat.reduceShiftRight, Nat.reduceAnd, Go.PV.fits, Go.PV.mutOf, Go.PV.splice, Int.reduceToNat, Int.reduceEq, Int.reduceAdd, Int.reduceSub, Int.reduceMul, Int.reduceLE, Int.reduceLT, Int.reduceNeg, Nat.reduceMul, Nat.reduceLeDiff, ne_eq, if_true, if_false, reduceIte, Nat.reduceEqDiff, ↓Nat.reduceLT, Nat.reduceAdd, Nat.reduceBEq, reduceCtorEq, enc_length, encs_length, tyU, tyC, tyB, tyA, tyI, tyZ, tyF, tyP, enc_getD, encs_getD, wrap_i64, enc_set, splice_one, set_last, bin_snn, bin_snm, bin_sns, bin_tnn, bin_tnm, bin_tns, vdx_none, vkp_go, ↓vd_end, place_nil, place_cons, vdo_eff, vdo_effA, ↓vdm_go, List.take_succ_cons, List.take_zero, List.drop_succ_cons, List.drop_zero, vdo_noeff_s, vdo_noeff_n, vdo_nofloat, vdo_noread, vdo_read, vdo_floatS, vdo_floatA, vde_s, vde_n, vde_c, vdx_s, vdr_s, vdr_b, vdf_m, vdf_p, ↓vd_op, ↓guard_none, ↓guard_some, gval_some, List.forall_mem_cons, List.not_mem_nil, false_implies, implies_true, List.length_append, List.length_replicate, List.replicate_zero, List.replicate_succ, List.contains_nil, List.contains_cons, Bool.or_false, Bool.false_or, Bool.or_self, Bool.or_true, Bool.true_or, vdr_o, vdq_eq, vdw_s, outR_v, rowsAt_none, mapAt_none, lnil, drop0, List.set_cons_succ, kN, kI]
    refine ⟨_, _, intD_on 1 cs kk rfl hcl (by omega) gk, (by simp [outR, rowsAt]), ?_⟩
    have gl := intC_le (l := cs) gk
    obtain ⟨x9, hx9⟩ : ∃ x, x = (intC cs kk).1 := ⟨_, rfl⟩
    obtain ⟨k9, hk9⟩ : ∃ k, k = (intC cs kk).2 := ⟨_, rfl⟩
    rw [← hk9, ← hx9]
    simp -dsimp (maxSteps := 4000000) +contextual (disch := first | omega | decide +kernel) only [↓vsD, vsU, Bool.or_false, Bool.true_or, resW, fnRet, cond_true, cond_false, Nat.reduceShiftRight, Nat.reduceAnd, Go.PV.fits, Go.PV.mutOf, Go.PV.splice, Int.reduceToNat, Int.reduceEq, Int.reduceAdd, Int.reduceSub, Int.reduceMul, Int.reduceLE, Int.reduceLT, Int.reduceNeg, Nat.reduceMul, Nat.reduceLeDiff, ne_eq, if_true, if_false, reduceIte, Nat.reduceEqDiff, ↓Nat.reduceLT, Nat.reduceAdd, Nat.reduceBEq, reduceCtorEq, enc_length, encs_length, tyU, tyC, tyB, tyA, tyI, tyZ, tyF, tyP, enc_getD, encs_getD, wrap_i64, enc_set, splice_one, set_last, bin_snn, bin_snm, bin_sns, bin_tnn, bin_tnm, bin_tns, vdx_none, vkp_go, ↓vd_end, place_nil, place_cons, vdo_eff, vdo_effA, ↓vdm_go, List.take_succ_cons, List.take_zero, List.drop_succ_cons, List.drop_zero, vdo_noeff_s, vdo_noeff_n, vdo_nofloat, vdo_noread, vdo_read, vdo_floatS, vdo_floatA, vde_s, vde_n, vde_c, vdx_s, vdr_s, vdr_b, vdf_m, vdf_p, ↓vd_op, ↓guard_none, ↓guard_some, gval_some, List.forall_mem_cons, List.not_mem_nil, false_implies, implies_true, List.length_append, List.length_replicate, List.replicate_zero, List.replicate_succ, List.contains_nil, List.contains_cons, Bool.or_false, Bool.false_or, Bool.or_self, Bool.or_true, Bool.true_or, vdr_o, vdq_eq, vdw_s, outR_v, rowsAt_none, mapAt_none, lnil, drop0, List.set_cons_succ, kN, kI]
    have hlen : ∀ z ∈ zzL sz0 od0 (.sl (ints ents)) cl0 pg0 sizes cl1 page m bad odd x9, z.ok := zzL_ok (by omega) (by omega) rfl (bel_ints _ _) (by omega) (by omega) (by omega) (by omega) (by omega) (by omega)
    first
      | refine v_loopF (fun t : Nat × Store => [(154, .sl ((zzL sz0 od0 (.sl (ints ents)) cl0 pg0 sizes cl1 page m bad odd x9).map ZZ.row)), (155, .int .i64 7), (156, .int .i64 t.1)]) (fun t => .rows 76 2 [[.sl (ints ents), .sl (encL cl0)]] 0 :: codes cs k9 :: .rows 76 2 [[.nils, .sl []]] 0 :: .dead :: .rows 76 2 [[.nils, .nils]] 0 :: t.2) (fun t => t.1 ≤ 7) (fun t => 7 - t.1) (0, []) ⟨[3], rfl, ?_⟩ (by simp) ?_
      | refine v_loopF (fun t : Nat × Store => [(154, .sl ((zzL sz0 od0 (.sl (ints ents)) cl0 pg0 sizes cl1 page m bad odd x9).map ZZ.row)), (155, .int .i64 7), (156, .int .i64 t.1)]) (fun t => .rows 76 2 [[.sl (ints ents), .sl (encL cl0)]] 0 :: codes cs k9 :: .rows 76 2 [[.nils, .sl (encL calls)]] 0 :: .dead :: .dead :: .rows 76 2 [[.nils, .msl 4 0]] 0 :: t.2) (fun t => t.1 ≤ 7) (fun t => 7 - t.1) (0, []) ⟨[3, 4], rfl, ?_⟩ (by simp) ?_
    · simp only [List.forall_mem_cons, List.not_mem_nil, false_implies, implies_true, and_true]
      refine ⟨frzn_rows ?_, .keep _, .keep _⟩
      simp only [hcl1, zzL, List.map_cons, List.map_nil, ZZ.row, All2, and_true]
      and_intros <;> first | exact .keep _ | exact .msl0 (by simp) rfl | (rw [hodd]; exact .nils)
    · have hzl : (zzL sz0 od0 (.sl (ints ents)) cl0 pg0 sizes cl1 page m bad odd x9).length = 7 := rfl
      generalize zzL sz0 od0 (.sl (ints ents)) cl0 pg0 sizes cl1 page m bad odd x9 = zz at hlen hzl ⊢
      rintro ⟨t, Q⟩ ht
      dsimp only at ht ⊢
      have hzm : (zz.map ZZ.row).length = 7 := by rw [List.length_map, hzl]
      by_cases ht7 : t < 7
      · obtain ⟨h1, h2, h3, h4, h5⟩ := hlen _ (getDm (d := default) (by omega : t < zz.length))
        have hzr := zz_row zz t (by omega)
        generalize zz.getD t default = z at h1 h2 h3 h4 h5 hzr
        generalize zz.map ZZ.row = rows at hzr hzm ⊢
        have w1 := pWeightF_on z.sz z.en z.cl z.pg z.od h1 h2 h3 h4 h5
        have w2 := rWeightF_on z.sz z.en z.cl z.pg z.od h1 h2 h3 h4 h5
        unfold graphV at w1 w2
        generalize (WF z.sz z.cl z.pg z.od).1 = a at w1 w2
        generalize (WF z.sz z.cl z.pg z.od).2 = b at w1 w2
        clear hlen
        simp -dsimp (maxSteps := 4000000) +contextual (disch := first | omega | decide +kernel) only [↓vsD, vsU, Bool.or_false, Bool.true_or, resW, fnRet, cond_true, cond_false, Nat.reduceShiftRight, Nat.reduceAnd, Go.PV.fits, Go.PV.mutOf, Go.PV.splice, Int.reduceToNat, Int.reduceEq, Int.reduceAdd, Int.reduceSub, Int.reduceMul, Int.reduceLE, Int.reduceLT, Int.reduceNeg, Nat.reduceMul, Nat.reduceLeDiff, ne_eq, if_true, if_false, reduceIte, Nat.reduceEqDiff, ↓Nat.reduceLT, Nat.reduceAdd, Nat.reduceBEq, reduceCtorEq, enc_length, encs_length, tyU, tyC, tyB, tyA, tyI, tyZ, tyF, tyP, enc_getD, encs_getD, wrap_i64, enc_set, splice_one, set_last, bin_snn, bin_snm, bin_sns, bin_tnn, bin_tnm, bin_tns, hzr, hzm, gapp0, gappk, sapp0, sappk, gappn0, gappnk, sappn0, sappnk, h1]
        refine PCall.mono (w1 _) ?_
        rintro p σ' ⟨rfl, rfl⟩
        simp -dsimp (maxSteps := 4000000) +contextual (disch := first | omega | decide +kernel) only [↓vsD, vsU, Bool.or_false, Bool.true_or, resW, fnRet, cond_true, cond_false, Nat.reduceShiftRight, Nat.reduceAnd, Go.PV.fits, Go.PV.mutOf, Go.PV.splice, Int.reduceToNat, Int.reduceEq, Int.reduceAdd, Int.reduceSub, Int.reduceMul, Int.reduceLE, Int.reduceLT, Int.reduceNeg, Nat.reduceMul, Nat.reduceLeDiff, ne_eq, if_true, if_false, reduceIte, Nat.reduceEqDiff, ↓Nat.reduceLT, Nat.reduceAdd, Nat.reduceBEq, reduceCtorEq, enc_length, encs_length, tyU, tyC, tyB, tyA, tyI, tyZ, tyF, tyP, enc_getD, encs_getD, wrap_i64, enc_set, splice_one, set_last, bin_snn, bin_snm, bin_sns, bin_tnn, bin_tnm, bin_tns, gapp0, gappk, sapp0, sappk, gappn0, gappnk, sappn0, sappnk, h1]
        refine PCall.mono (w2 _) ?_
        rintro p σ' ⟨rfl, rfl⟩
        simp -dsimp (maxSteps := 4000000) +contextual (disch := first | omega | decide +kernel) only [↓vsD, vsU, Bool.or_false, Bool.true_or, resW, fnRet, cond_true, cond_false, Nat.reduceShiftRight, Nat.reduceAnd, Go.PV.fits, Go.PV.mutOf, Go.PV.splice, Int.reduceToNat, Int.reduceEq, Int.reduceAdd, Int.reduceSub, Int.reduceMul, Int.reduceLE, Int.reduceLT, Int.reduceNeg, Nat.reduceMul, Nat.reduceLeDiff, ne_eq, if_true, if_false, reduceIte, Nat.reduceEqDiff, ↓Nat.reduceLT, Nat.reduceAdd, Nat.reduceBEq, reduceCtorEq, enc_length, encs_length, tyU, tyC, tyB, tyA, tyI, tyZ, tyF, tyP, enc_getD, encs_getD, wrap_i64, enc_set, splice_one, set_last, bin_snn, bin_snm, bin_sns, bin_tnn, bin_tnm, bin_tns, gapp0, gappk, sapp0, sappk, gappn0, gappnk, sappn0, sappnk, h1]
        exact ⟨(t + 1, _), (by (try dsimp only); omega), frzTo_weaker (by simp [weaker, Go.PV.look]), by dsimp only; omega⟩
      · simp -dsimp (maxSteps := 4000000) +contextual (disch := first | omega | decide +kernel) only [↓vsD, vsU, Bool.or_false, Bool.true_or, resW, fnRet, cond_true, cond_false, Nat.reduceShiftRight, Nat.reduceAnd, Go.PV.fits, Go.PV.mutOf, Go.PV.splice, Int.reduceToNat, Int.reduceEq, Int.reduceAdd, Int.reduceSub, Int.reduceMul, Int.reduceLE, Int.reduceLT, Int.reduceNeg, Nat.reduceMul, Nat.reduceLeDiff, ne_eq, if_true, if_false, reduceIte, Nat.reduceEqDiff, ↓Nat.reduceLT, Nat.reduceAdd, Nat.reduceBEq, reduceCtorEq, enc_length, encs_length, tyU, tyC, tyB, tyA, tyI, tyZ, tyF, tyP, enc_getD, encs_getD, wrap_i64, enc_set, splice_one, set_last, bin_snn, bin_snm, bin_sns, bin_tnn, bin_tnm, bin_tns]
        exact fin0 (.keep _ (bel_bool _ _)) rfl
end Go.Proofs.Ythginmfobikdgaa
