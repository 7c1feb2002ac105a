/- The dice: list. -/
import Derived.Test.YtijigploahapfaaDrB
import Derived.Test.YtijigploahapfaaMaD
set_option linter.unusedSimpArgs false
namespace Go.Proofs.Ytijigploahapfaa
open Go.PV

theorem okList_swap {n : Nat} {a : List Int} (h : okList n a) {i k : Nat} (hi : i < a.length) (hk : k < a.length) : okList n ((a.set i (a.getD k 0)).set k (a.getD i 0)) := by
  have hp : ((a.set i a[k]).set k a[i]).Perm a := List.set_set_perm hi hk
  have e1 : a.getD k 0 = a[k] := by rw [List.getD_eq_getElem?_getD, List.getElem?_eq_getElem hk]; rfl
  have e2 : a.getD i 0 = a[i] := by rw [List.getD_eq_getElem?_getD, List.getElem?_eq_getElem hi]; rfl
  rw [e1, e2]
  exact ⟨hp.nodup_iff.2 h.1, fun x hx => h.2 x (hp.mem_iff.1 hx)⟩
theorem okList_range (n : Nat) : okList n (rangeI n) := by
  refine ⟨?_, fun x hx => ?_⟩
  · unfold rangeI
    exact List.pairwise_map.2 ((List.nodup_range (n := n)).imp fun h e => h (by omega))
  · simp only [rangeI, List.mem_map, List.mem_range] at hx
    obtain ⟨i, h1, h2⟩ := hx
    omega
theorem codes_bel (l : List Int) (k n : Nat) : ObjBel n (codes l k) := fun row hr p hp => by
  rw [List.mem_singleton] at hr
  rw [hr] at hp
  simp only [List.mem_cons, List.not_mem_nil, or_false] at hp
  rcases hp with rfl | rfl
  · exact bel_sl (enc_bel _ _ _)
  · exact bel_int _ _ _
/-- A choice, where there are other objects. -/
theorem next_on {σ : Store} {K : PV → Store → Prop} (o : Nat) (l : List Int) (k : Nat) (n : Int) (ho : σ[o]? = some (codes l k)) (hl : okInts .u8 l) (hll : l.length < 2 ^ 40) (hk : k ≤ l.length) (hn : n < 2 ^ 62)
    (hK : K (.int .i64 (nxt l k n).1) (σ.set o (codes l (nxt l k n).2))) : PCall Try.prog 23 [.ptr o 0 0 0, .int .i64 n] σ K := by
  refine PCall.use_on [o] (next_ok l k n hl hll hk hn) (by simp) rfl (fun j o' hj => ?_) (fun X hX => ?_) (MvL.cons (.ptr 0 o 0 0 0 rfl) (MvL.cons (.keep _ (bel_int _ _ _)) (MvL.nil _))) ?_
  · match j with
    | 0 => simp at hj; rw [← hj]; exact ho
    | j + 1 => simp at hj
  · rw [List.mem_singleton] at hX
    rw [hX]; exact codes_bel _ _ _
  · rintro p σ2 ⟨rfl, rfl⟩
    refine ⟨bel_int _ _ _, rfl, fun X hX => ?_, hK⟩
    rw [List.mem_singleton] at hX
    rw [hX]; exact codes_bel _ _ _
end Go.Proofs.Ytijigploahapfaa
