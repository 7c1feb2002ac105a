/- The choices of a generator, among known callees. -/
import Derived.Test.YthginmfobikdgaaDrA
import Derived.Test.YthginmfobikdgaaPvY
import Derived.Test.YthginmfobikdgaaTy
set_option linter.unusedSimpArgs false
set_option linter.unusedVariables false
namespace Go.Proofs.Ythginmfobikdgaa
open Go.PV

theorem codes_bel (l : List Int) (k n : Nat) : ObjBel n (codes l k) := fun row hr p hp => by
  rw [List.mem_singleton] at hr
  rw [hr] at hp
  simp only [List.mem_cons, List.not_mem_nil, or_false] at hp
  rcases hp with rfl | rfl
  · exact bel_sl (enc_bel _ _ _)
  · exact bel_int _ _ _
/-- A choice, where there are other objects. -/
theorem next_on {σ : Store} {K : PV → Store → Prop} (o : Nat) (l : List Int) (k : Nat) (n : Int) (ho : σ[o]? = some (codes l k)) (hl : okInts .u8 l) (hll : l.length < 2 ^ 40) (hk : k ≤ l.length) (hn : n < 2 ^ 62)
    (hK : K (.int .i64 (nxt l k n).1) (σ.set o (codes l (nxt l k n).2))) : PCall Try.prog 26 [.ptr o 0 0 0, .int .i64 n] σ K := by
  refine PCall.use_on [o] (next_ok l k n hl hll hk hn) (by simp) rfl (fun j o' hj => ?_) (fun X hX => ?_) (MvL.cons (.ptr 0 o 0 0 0 rfl) (MvL.cons (.keep _ (bel_int _ _ _)) (MvL.nil _))) ?_
  · match j with
    | 0 => simp at hj; rw [← hj]; exact ho
    | j + 1 => simp at hj
  · rw [List.mem_singleton] at hX
    rw [hX]; exact codes_bel _ _ _
  · rintro p σ2 ⟨rfl, rfl⟩
    refine ⟨bel_int _ _ _, rfl, fun X hX => ?_, hK⟩
    rw [List.mem_singleton] at hX
    rw [hX]; exact codes_bel _ _ _
def decI (rows : List (List PV)) : List Int := rows.map fun r => match r with | [.int _ n] => n | _ => 0
theorem decI_enc (k : IntKind) (l : List Int) : decI (encI k l) = l := by
  simp only [decI, encI, List.map_map]
  exact List.map_id'' (fun _ => rfl) l
/-- A choice. -/
def exNextO (o : Nat) (n : Int) (σ : Store) : Option Go.PV.Obj → Option (Prop × PV × Store)
  | some (.rows t sz [[.sl rows, .int .i64 k]] 0) => some ((t = 101 ∧ sz = 2) ∧ rows = encI .u8 (decI rows) ∧ 0 ≤ k ∧ okInts .u8 (decI rows) ∧ (decI rows).length < 1099511627776 ∧ k.toNat ≤ (decI rows).length ∧ n < 4611686018427387904,
      .int .i64 (nxt (decI rows) k.toNat n).1, σ.set o (codes (decI rows) (nxt (decI rows) k.toNat n).2))
  | _ => none
def exNext (σ : Store) : List PV → Option (Prop × PV × Store)
  | [.ptr o 0 0 0, .int .i64 n] => exNextO o n σ σ[o]?
  | _ => none
theorem exNextO_codes (o : Nat) (n : Int) (σ : Store) (l : List Int) (k : Nat) : exNextO o n σ (some (codes l k)) = some (okInts .u8 l ∧ l.length < 1099511627776 ∧ k ≤ l.length ∧ n < 4611686018427387904, .int .i64 (nxt l k n).1, σ.set o (codes l (nxt l k n).2)) := by
  simp only [codes, exNextO, decI_enc, Int.toNat_natCast, and_self, true_and, Int.natCast_nonneg]
theorem exNext_ok : Known.Ok Try.prog 26 (fun args σ => exNext σ args) := by
  intro args σ c p σ' h hc
  simp only [exNext] at h
  split at h
  · rename_i o n
    unfold exNextO at h
    split at h
    · rename_i t sz rows k hob
      cases h
      obtain ⟨⟨rfl, rfl⟩, h1, h2, h3, h4, h5, h6⟩ := hc
      obtain ⟨q, rfl⟩ := Int.eq_ofNat_of_zero_le h2
      rw [Int.toNat_natCast] at h5 ⊢
      refine next_on o (decI rows) q n ?_ h3 (by omega) h5 (by omega) ⟨rfl, rfl⟩
      rw [hob, codes, ← h1]
    · cases h
  · cases h
def nx : Ext := noE.add 26 (fun args σ => exNext σ args)
theorem nx_ok : ExtOk Try.prog nx := (noE_ok _).add rfl exNext_ok
theorem nx_next (σ : Store) (o : Nat) (n : Int) : nx.f 26 [.ptr o 0 0 0, .int .i64 n] σ = exNextO o n σ σ[o]? := rfl
/-- What a call leaves, where the old object is another one. -/
theorem fin1 {X Y : Go.PV.Obj} {G : Store} {K : PV → Store → Prop} {p p2 : PV} (hf : Frz 1 (Y :: G) p p2) (hY : ObjBel 1 Y) (hk : K p2 [Y]) : Go.PV.Fin [X] K p (Y :: G) :=
  ⟨p2, hf, fun o ho => by
    have : o = 0 := by simp at ho; exact ho
    subst this
    exact ⟨Y, rfl, .inr hY⟩, by simpa using hk⟩
/-- A contract on choices, among other objects. -/
theorem codes_on {F : FuncId} {σ : Store} {K : PV → Store → Prop} (o : Nat) (l : List Int) (k k2 : Nat) (v : PV) (h : PCall Try.prog F [.ptr 0 0 0 0] [codes l k] (fun p σ' => p = v ∧ σ' = [codes l k2])) (hv : Bel 0 v) (ho : σ[o]? = some (codes l k))
    (hK : K v (σ.set o (codes l k2))) : PCall Try.prog F [.ptr o 0 0 0] σ K := by
  refine PCall.use_on [o] h (by simp) rfl (fun j o' hj => ?_) (fun X hX => ?_) (MvL.cons (.ptr 0 o 0 0 0 rfl) (MvL.nil _)) ?_
  · match j with
    | 0 => simp at hj; rw [← hj]; exact ho
    | j + 1 => simp at hj
  · rw [List.mem_singleton] at hX
    rw [hX]; exact codes_bel _ _ _
  · rintro p σ2 ⟨rfl, rfl⟩
    refine ⟨hv, rfl, fun X hX => ?_, hK⟩
    rw [List.mem_singleton] at hX
    rw [hX]; exact codes_bel _ _ _
/-- Something drawn. -/
def exDrawO (g : List Int → Nat → PV × Nat) (o : Nat) (σ : Store) : Option Go.PV.Obj → Option (Prop × PV × Store)
  | some (.rows t sz [[.sl rows, .int .i64 k]] 0) => some ((t = 101 ∧ sz = 2) ∧ rows = encI .u8 (decI rows) ∧ 0 ≤ k ∧ okInts .u8 (decI rows) ∧ (decI rows).length < 1099511627776 ∧ k.toNat ≤ (decI rows).length,
      (g (decI rows) k.toNat).1, σ.set o (codes (decI rows) (g (decI rows) k.toNat).2))
  | _ => none
def exDraw (g : List Int → Nat → PV × Nat) (σ : Store) : List PV → Option (Prop × PV × Store)
  | [.ptr o 0 0 0] => exDrawO g o σ σ[o]?
  | _ => none
theorem exDrawO_codes (g : List Int → Nat → PV × Nat) (o : Nat) (σ : Store) (l : List Int) (k : Nat) : exDrawO g o σ (some (codes l k)) = some (okInts .u8 l ∧ l.length < 1099511627776 ∧ k ≤ l.length, (g l k).1, σ.set o (codes l (g l k).2)) := by
  simp only [codes, exDrawO, decI_enc, Int.toNat_natCast, and_self, true_and, Int.natCast_nonneg]
theorem exDraw_ok {F : FuncId} {g : List Int → Nat → PV × Nat} (hb : ∀ l k, Bel 0 (g l k).1) (h : ∀ l k, okInts .u8 l → l.length < 2 ^ 40 → k ≤ l.length → PCall Try.prog F [.ptr 0 0 0 0] [codes l k] (fun p σ' => p = (g l k).1 ∧ σ' = [codes l (g l k).2])) :
    Known.Ok Try.prog F (fun args σ => exDraw g σ args) := by
  intro args σ c p σ' he hc
  simp only [exDraw] at he
  split at he
  · rename_i o
    unfold exDrawO at he
    split at he
    · rename_i t sz rows k hob
      cases he
      obtain ⟨⟨rfl, rfl⟩, h1, h2, h3, h4, h5⟩ := hc
      obtain ⟨q, rfl⟩ := Int.eq_ofNat_of_zero_le h2
      rw [Int.toNat_natCast] at h5 ⊢
      refine codes_on o (decI rows) q (g (decI rows) q).2 (g (decI rows) q).1 (h _ _ h3 (by omega) h5) (hb _ _) ?_ ⟨rfl, rfl⟩
      rw [hob, codes, ← h1]
    · cases he
  · cases he
end Go.Proofs.Ythginmfobikdgaa
