/- The border: call graphs that came in. -/
import Derived.Test.YthginmfobikdgaaPvO
import Derived.Test.YthginmfobikdgaaPlA
set_option linter.unusedSimpArgs false
set_option linter.unusedVariables false
namespace Go.Proofs.Ythginmfobikdgaa
open Go.PV Go.ChangeShapes Go.WideShapes Go.ChangeAt Go.RowKit

theorem u_call : Try.prog.underlying 78 = some (.struct #[{ name := "Func", type := 3, offset := 0, embedded := false, tag := "", pkgPath := "", byteOffset := 0 }, { name := "Block", type := 3, offset := 1, embedded := false, tag := "", pkgPath := "", byteOffset := 8 }, { name := "Instr", type := 3, offset := 2, embedded := false, tag := "", pkgPath := "", byteOffset := 16 }, { name := "Callee", type := 3, offset := 3, embedded := false, tag := "", pkgPath := "", byteOffset := 24 }, { name := "Count", type := 3, offset := 4, embedded := false, tag := "", pkgPath := "", byteOffset := 32 }]) := by kernel_rfl
theorem c_call : Try.prog.cellsOf 78 = 5 := by kernel_rfl
theorem u_calls : Try.prog.underlying 74 = some (.slice 78) := by kernel_rfl
theorem c_calls : Try.prog.cellsOf 74 = 1 := by kernel_rfl
theorem u_graph : Try.prog.underlying 76 = some (.struct #[{ name := "Entries", type := 40, offset := 0, embedded := false, tag := "", pkgPath := "", byteOffset := 0 }, { name := "Calls", type := 74, offset := 1, embedded := false, tag := "", pkgPath := "", byteOffset := 24 }]) := by kernel_rfl
theorem c_graph : Try.prog.cellsOf 76 = 2 := by kernel_rfl
section
variable {H : Type} {enc : TypeId × Value → H}
end
end Go.Proofs.Ythginmfobikdgaa
namespace Go.PV
open Go.ChangeShapes Go.WideShapes Go.ChangeAt Go.RowKit
theorem five_of {α : Type} {l : List α} (h : l.length = 5) : ∃ a b c d e, l = [a, b, c, d, e] := by
  match l, h with
  | [a, b, c, d, e], _ => exact ⟨a, b, c, d, e, rfl⟩
theorem two_of {α : Type} {l : List α} (h : l.length = 2) : ∃ a b, l = [a, b] := by
  match l, h with
  | [a, b], _ => exact ⟨a, b, rfl⟩
theorem open_int5 {P : Program} {H : Type} {enc : TypeId × Value → H} {W : World} {fuel : Nat} {cs : List Value} {x : DataW H × List MemPlace} {tc ti : TypeId} {f0 f1 f2 f3 f4 : Field} (hu : P.underlying tc = some (.struct #[f0, f1, f2, f3, f4])) (hc : P.cellsOf tc = 5)
    (hi : P.underlying ti = some (.int .i64)) (hci : P.cellsOf ti = 1) (h0 : f0.type = ti ∧ f0.offset = 0) (h1 : f1.type = ti ∧ f1.offset = 1) (h2 : f2.type = ti ∧ f2.offset = 2) (h3 : f3.type = ti ∧ f3.offset = 3) (h4 : f4.type = ti ∧ f4.offset = 4)
    (h : DataW.trod enc P W 0 (fun _ => true) true fuel tc cs = some x) : ∃ a b c d e : Int, cs = [.int .i64 a, .int .i64 b, .int .i64 c, .int .i64 d, .int .i64 e] := by
  obtain ⟨xs, n, _, rfl, hl, hlen, hf⟩ := DataW.trod_struct hu h
  rw [hc] at hl
  obtain ⟨v0, v1, v2, v3, v4, rfl⟩ := five_of hl
  have hxl : xs.length = 5 := hlen
  have key : ∀ (i : Nat) (f : Field), #[f0, f1, f2, f3, f4][i]? = some f → i < 5 → f.type = ti → ∃ z : Int, (([v0, v1, v2, v3, v4].drop f.offset).take 1) = [.int .i64 z] := fun i f hif h5 ht => by
    have q := hf i f hif
    rw [List.getElem?_eq_getElem (show i < xs.length by omega), ht, hci] at q
    obtain ⟨z, hz, _, _⟩ := DataW.trod_int hi q
    exact ⟨z, hz⟩
  obtain ⟨z0, e0⟩ := key 0 f0 rfl (by omega) h0.1
  obtain ⟨z1, e1⟩ := key 1 f1 rfl (by omega) h1.1
  obtain ⟨z2, e2⟩ := key 2 f2 rfl (by omega) h2.1
  obtain ⟨z3, e3⟩ := key 3 f3 rfl (by omega) h3.1
  obtain ⟨z4, e4⟩ := key 4 f4 rfl (by omega) h4.1
  rw [h0.2] at e0
  rw [h1.2] at e1
  rw [h2.2] at e2
  rw [h3.2] at e3
  rw [h4.2] at e4
  simp at e0 e1 e2 e3 e4
  exact ⟨z0, z1, z2, z3, z4, by rw [e0, e1, e2, e3, e4]⟩
theorem open_struct2 {P : Program} {H : Type} {enc : TypeId × Value → H} {W : World} {t : TypeId} {f0 f1 : Field} {v : Value} {d : DataW H} {p : List MemPlace} (ht : P.underlying t = some (.struct #[f0, f1])) (hc : P.cellsOf t = 2) (c0 : P.cellsOf f0.type = 1) (c1 : P.cellsOf f1.type = 1) (o0 : f0.offset = 0) (o1 : f1.offset = 1)
    (hval : Value.okWide P W .any 0 t v) (h : DataW.Trod enc P W 0 (fun _ => true) true t v d p) : ∃ u0 u1 n y0 y1, v = .agg #[u0, u1] ∧ DataW.trod enc P W 0 (fun _ => true) true n f0.type [u0] = some y0 ∧ DataW.trod enc P W 0 (fun _ => true) true n f1.type [u1] = some y1 := by
  obtain ⟨cs, rfl, hs⟩ := okWide_struct ht hval
  obtain ⟨fuel, hf⟩ := h
  obtain ⟨y0, y1, n, _, hl, e0, e1⟩ := trod_struct2 ht hf
  obtain ⟨l⟩ := cs
  rw [hc] at hs
  obtain ⟨u0, u1, rfl⟩ := two_of (show l.length = 2 from hs)
  simp [Value.cells, o0, o1, c0, c1] at e0 e1
  exact ⟨u0, u1, n, y0, y1, rfl, e0, e1⟩
end Go.PV
namespace Go.Proofs.Ythginmfobikdgaa
open Go.PV Go.ChangeShapes Go.WideShapes Go.ChangeAt Go.RowKit
section
variable {H : Type} {enc : TypeId × Value → H}
theorem open_call {W : World} {fuel : Nat} {cs : List Value} {x : DataW H × List MemPlace} (h : DataW.trod enc Try.prog W 0 (fun _ => true) true fuel 78 cs = some x) : ∃ c : CallI, cs = [.int .i64 c.fn, .int .i64 c.blk, .int .i64 c.ins, .int .i64 c.cal, .int .i64 c.cnt] := by
  obtain ⟨a, b, c, d, e, rfl⟩ := open_int5 u_call c_call u_int c_int ⟨rfl, rfl⟩ ⟨rfl, rfl⟩ ⟨rfl, rfl⟩ ⟨rfl, rfl⟩ ⟨rfl, rfl⟩ h
  exact ⟨⟨a, b, c, d, e⟩, rfl⟩
theorem open_calls {W : World} {fuel : Nat} {cs : List Value} {x : DataW H × List MemPlace} (h : DataW.trod enc Try.prog W 0 (fun _ => true) true fuel 74 cs = some x) : ∃ (l : List CallI) (v : Value), cs = [v] ∧ l.length ≤ maxLen ∧ R (allI W) noR (.sl (encL l)) v := by
  rcases DataW.trod_slice u_calls h with ⟨hcs, _⟩ | ⟨a, len0, cap0, elems, rest, n, _, hcs, _, _, hl, hm, hlen, hel, _, _⟩
  · exact ⟨[], _, hcs, Nat.zero_le _, .slNil _ _⟩
  · refine (?_ : ∃ (l : List CallI), l.length ≤ maxLen ∧ R (allI W) noR (.sl (encL l)) (.slice (some a) len0 cap0)).elim (fun l h => ⟨l, _, hcs, h.1, h.2⟩)
    have hex : ∀ i, i < len0 → ∃ c : CallI, ∀ j, j < 5 → W.cell? ((a.add (i * 5)).add j) = [Value.int .i64 c.fn, .int .i64 c.blk, .int .i64 c.ins, .int .i64 c.cal, .int .i64 c.cnt][j]? := fun i hi => by
      have h1 := hel i hi
      rw [List.getElem?_eq_getElem (by omega), c_call, Option.bind_eq_some_iff] at h1
      obtain ⟨cs', hcs', hy⟩ := h1
      obtain ⟨c, rfl⟩ := open_call hy
      exact ⟨c, fun j hj => (World.cells?_some hcs').2.2 j hj⟩
    let L : Nat → CallI := fun i => if hi : i < len0 then (hex i hi).choose else default
    have hL : ∀ i, i < len0 → ∀ j, j < 5 → W.cell? ((a.add (i * 5)).add j) = [Value.int .i64 (L i).fn, .int .i64 (L i).blk, .int .i64 (L i).ins, .int .i64 (L i).cal, .int .i64 (L i).cnt][j]? := fun i hi => by
      simp only [L, hi, dif_pos]; exact (hex i hi).choose_spec
    refine ⟨(List.range len0).map L, by simp; omega, ?_⟩
    cases hlz : len0 with
    | zero => simpa [encL] using R.slNil (I := allI W) (ρ := noR) (some a) cap0
    | succ q =>
      obtain ⟨b, off, sp⟩ := a
      have hs : sp = Option.none := by
        have h0 := hL 0 (by omega) 0 (by omega)
        simp [Addr.add] at h0
        exact World.cell?_spot h0
      subst hs
      rw [← hlz]
      have hrow : ∀ (i : Nat) (row : List PV), (encL ((List.range len0).map L))[i]? = some row → i < len0 ∧ row = (L i).row := fun i row hi => by
        have hlt : i < len0 := by have := (List.getElem?_eq_some_iff.1 hi).1; simpa [encL] using this
        refine ⟨hlt, ?_⟩
        simp only [encL, List.map_map, List.getElem?_map, List.getElem?_range hlt, Option.map_some, Option.some.injEq] at hi
        exact hi.symm
      have := R.sl (I := allI W) (ρ := noR) (encL ((List.range len0).map L)) b off 5 cap0 (fun i j => [Value.int .i64 (L i).fn, .int .i64 (L i).blk, .int .i64 (L i).ins, .int .i64 (L i).cal, .int .i64 (L i).cnt].getD j Go.undef) (by simp [encL]; omega) (fun row hr => by
        obtain ⟨i, hi⟩ := List.mem_iff_getElem?.1 hr
        rw [(hrow i row hi).2]; rfl) (fun i row j p hi hj => by
        obtain ⟨hlt, rfl⟩ := hrow i row hi
        have hj5 : j < 5 := by have := (List.getElem?_eq_some_iff.1 hj).1; simpa [CallI.row] using this
        have := hL i hlt j hj5
        rw [add_plain, add_plain] at this
        show W.cell? _ = _
        rw [this, List.getD_eq_getElem?_getD, List.getElem?_eq_getElem (by simpa using hj5)]; rfl) (fun i row j p hi hj => by
        obtain ⟨hlt, rfl⟩ := hrow i row hi
        have hj5 : j < 5 := by have := (List.getElem?_eq_some_iff.1 hj).1; simpa [CallI.row] using this
        match j, hj5 with
        | 0, _ => simp [CallI.row] at hj; subst hj; exact .int _ _
        | 1, _ => simp [CallI.row] at hj; subst hj; exact .int _ _
        | 2, _ => simp [CallI.row] at hj; subst hj; exact .int _ _
        | 3, _ => simp [CallI.row] at hj; subst hj; exact .int _ _
        | 4, _ => simp [CallI.row] at hj; subst hj; exact .int _ _)
      simpa [encL] using this
set_option maxRecDepth 100000 in
/-- A graph that came in. -/
theorem open_arg_graph {W : World} {v : Value} {d : DataW H} {p : List MemPlace} (hval : Value.okWide Try.prog W .any 0 76 v) (h : DataW.Trod enc Try.prog W 0 (fun _ => true) true 76 v d p) :
    ∃ (ents : List Int) (calls : List CallI), R (allI W) noR (.agg [.sl (ints ents), .sl (encL calls)]) v := by
  obtain ⟨u0, u1, n, y0, y1, rfl, e0, e1⟩ := open_struct2 u_graph c_graph c_ints c_calls rfl rfl hval h
  obtain ⟨ents, w0, h0, _, _, h1⟩ := open_cells_ints u_ints u_int c_int e0
  obtain ⟨calls, w1, h2, _, h3⟩ := open_calls e1
  obtain rfl : u0 = w0 := by simpa using h0
  obtain rfl : u1 = w1 := by simpa using h2
  refine ⟨ents, calls, .agg _ _ rfl (fun j p hj => ?_)⟩
  match j, hj with
  | 0, hj => cases hj; exact h1
  | 1, hj => cases hj; exact h3
  | j + 2, hj => simp at hj
end
end Go.Proofs.Ythginmfobikdgaa
