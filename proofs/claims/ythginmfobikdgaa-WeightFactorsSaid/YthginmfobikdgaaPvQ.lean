/- Maps: what a look, a write and a new map come to, and that the program's operations do so. -/
import Derived.Test.YthginmfobikdgaaPvF
import Derived.MapKept
namespace Go.PV
open Go.MapKept

/-- Are two keys the same? -/
def sameK : PV → PV → Option Bool
  | .int k a, .int k' b => if k = k' then some (a == b) else none
  | .str a, .str b => some (a == b)
  | _, _ => none

def findP (k : PV) : List (PV × PV) → Nat → Option (Option (Nat × PV))
  | [], _ => some none
  | e :: es, i => match sameK k e.1 with
    | some true => some (some (i, e.2))
    | some false => findP k es (i + 1)
    | none => none

def okKind : Option TypeDesc → PV → Bool
  | some (.int k), .int k' _ => decide (k = k')
  | some .string, .str _ => true
  | _, _ => false

def zeroP (P : Program) (t : TypeId) : Option PV := ((P.info? t).bind (·.zero)).map ofVal

def mgetP (es : List (PV × PV)) (k z : PV) : PV := match findP k es 0 with
  | some (some (_, v)) => v
  | _ => z

def mputP (es : List (PV × PV)) (k v : PV) : List (PV × PV) := match findP k es 0 with
  | some (some (i, _)) => es.set i (k, v)
  | _ => es ++ [(k, v)]

/-- The operations on maps. -/
def evM (P : Program) (σ : Store) (e : Operand → PV) (K : PV → Store → Prop) : Op → Prop
  | .makeMap _ none => K (.map σ.length) (σ ++ [.map []])
  | .lookup t x i false => match e x with
    | .map o => ∃ kt et z es, P.underlying t = some (.map kt et) ∧ okKind (P.underlying kt) (e i) = true ∧ zeroP P et = some z ∧ σ[o]? = some (.map es) ∧ (findP (e i) es 0).isSome = true ∧ K (mgetP es (e i) z) σ
    | _ => False
  | .mapUpdate t x i v => match e x with
    | .map o => ∃ kt et es, P.underlying t = some (.map kt et) ∧ okKind (P.underlying kt) (e i) = true ∧ σ[o]? = some (.map es) ∧ (findP (e i) es 0).isSome = true ∧ K .undef (σ.set o (.map (mputP es (e i) (e v))))
    | _ => False
  | _ => False

section
variable {I : Imm} {ρ : Rho} {σ : Store} {w : World} {P : Program}

theorem okKind_isKey {d : TypeDesc} {p : PV} {v : Value} (h : okKind (some d) p = true) (hr : R I ρ p v) : IsKey d v := by
  cases d <;> cases p <;> simp [okKind] at h <;> cases hr <;> simp [IsKey, h]

theorem sameK_now {d : TypeDesc} {p q : PV} {v u : Value} {b : Bool} (h : okKind (some d) p = true) (hp : R I ρ p v) (hq : R I ρ q u) (hs : sameK p q = some b) : Instr.sameNow d v u = some b := by
  cases d <;> cases p <;> simp [okKind] at h <;> cases q <;> simp [sameK] at hs <;> cases hp <;> cases hq <;> simp [Instr.sameNow, hs]

theorem findP_now {d : TypeDesc} {p : PV} {v : Value} (h : okKind (some d) p = true) (hp : R I ρ p v) : ∀ (es : List (PV × PV)) (ms : List MapEntry) (i : Nat), ms.length = es.length →
    (∀ (j : Nat) (e : PV × PV), es[j]? = some e → ∃ m, ms[j]? = some m ∧ R I ρ e.1 m.key ∧ R I ρ e.2 m.val) → (findP p es i).isSome = true →
    (findP p es i = some none ∧ Instr.findNow d v ms i = some none) ∨ ∃ j e m, es[j]? = some e ∧ ms[j]? = some m ∧ findP p es i = some (some (i + j, e.2)) ∧ Instr.findNow d v ms i = some (some (i + j, m.val)) ∧ sameK p e.1 = some true
  | [], [], i, _, _, _ => .inl ⟨rfl, rfl⟩
  | e :: es, m :: ms, i, hl, hr, hs => by
    obtain ⟨m', hm, hk, hv⟩ := hr 0 e rfl
    simp at hm
    subst hm
    unfold findP at hs ⊢
    unfold Instr.findNow
    cases hb : sameK p e.1 with
    | none => simp [hb] at hs
    | some b =>
      have hn := sameK_now h hp hk hb
      cases b with
      | true => exact .inr ⟨0, e, m, rfl, rfl, by simp, by simp [hn], hb⟩
      | false =>
        simp only [hb] at hs ⊢
        simp only [hn]
        rcases findP_now h hp es ms (i + 1) (by simpa using hl) (fun j e' hj => hr (j + 1) e' hj) hs with h1 | ⟨j, e', m', h1, h2, h3, h4, h5⟩
        · exact .inl h1
        · exact .inr ⟨j + 1, e', m', h1, h2, by rw [h3]; simp; omega, by rw [h4]; simp; omega, h5⟩
  | [], _ :: _, _, hl, _, _ => by simp at hl
  | _ :: _, [], _, hl, _, _ => by simp at hl

theorem run_zeroP {t : TypeId} {z : PV} (h : zeroP P t = some z) (w : World) : ∃ v, (zeroValue t).run P w = .ok v w ∧ R I ρ z v := by
  unfold zeroP at h
  cases hi : P.info? t with
  | none => simp [hi] at h
  | some i =>
    cases hz : i.zero with
    | none => simp [hi, hz] at h
    | some v =>
      simp [hi, hz] at h
      subst h
      exact ⟨v, by simp [zeroValue, typeInfo, hi, hz], .ofVal I ρ v⟩

theorem does_makeMap (hinv : Inv I ρ σ w) {t : TypeId} {K : PV → Store → Prop} (hK : K (.map σ.length) (σ ++ [.map []])) : Does P I ρ σ w K (Instr.makeMap t none) := by
  have hobj : ObjInv I (extR ρ σ.length 0 ⟨w.heap.size, 0, 0, 0⟩) (w.alloc (.map #[] 0)) σ.length (.map []) :=
    ⟨⟨w.heap.size, 0, 0, 0⟩, #[], 0, extR_same _ _ _ _, (heap_alloc w _).1, rfl, fun i e hi => by simp at hi, imm_new hinv (Nat.le_refl _)⟩
  obtain ⟨h1, h2⟩ := hinv.newObj (w' := w.alloc (.map #[] 0)) rfl (Nat.le_refl _) (fun b hb => alloc_heap_old w _ b hb) (by simp) rfl rfl rfl hobj
  refine ⟨_, _, I, _, .map (some w.heap.size), _, hK, .map _ _ (extR_same ρ σ.length 0 ⟨w.heap.size, 0, 0, 0⟩), ?_, h1, h2⟩
  simp [Instr.makeMap, Result.andThen]

theorem does_lookup (hinv : Inv I ρ σ w) {t kt et : TypeId} {o : Nat} {es : List (PV × PV)} {k z : PV} {vm vk : Value} {K : PV → Store → Prop} (hm : R I ρ (.map o) vm) (hk : R I ρ k vk) (hu : P.underlying t = some (.map kt et)) (hok : okKind (P.underlying kt) k = true)
    (hz : zeroP P et = some z) (ho : σ[o]? = some (.map es)) (hs : (findP k es 0).isSome = true) (hK : K (mgetP es k z) σ) : Does P I ρ σ w K (Instr.lookup t vm vk false) := by
  obtain ⟨L, ms, clock, hL, hh, hl, hr, _⟩ := hinv.objs o _ ho
  cases hm
  rename_i L' hL'
  cases hL.symm.trans hL'
  cases hd : P.underlying kt with
  | none => rw [hd] at hok; simp [okKind] at hok
  | some d =>
    rw [hd] at hok
    have hkey := okKind_isKey hok hk
    have hr' : ∀ (j : Nat) (e : PV × PV), es[j]? = some e → ∃ m, ms.toList[j]? = some m ∧ R I ρ e.1 m.key ∧ R I ρ e.2 m.val := fun j e hj => by simpa using hr j e hj
    have hck := fun b => run_checkKey (w := w) hd hkey b 9999
    rcases findP_now hok hk es ms.toList 0 (by simpa using hl) hr' hs with ⟨h1, h2⟩ | ⟨j, e, m, h1, h2, h3, h4, _⟩
    · obtain ⟨v, hv, hR⟩ := run_zeroP (I := I) (ρ := ρ) hz w
      refine ⟨_, _, I, ρ, v, w, hK, ?_, ?_, hinv, .refl _ _ _ _⟩
      · simpa [mgetP, h1] using hR
      · simp [Instr.lookup, run_underlying hu, Go.MapKept.run_getObj_map hh, hck, Go.MapKept.run_findKey hd h2, hv, Result.andThen]
    · refine ⟨_, _, I, ρ, m.val, w, hK, ?_, ?_, hinv, .refl _ _ _ _⟩
      · obtain ⟨m', hm', _, hv⟩ := hr' j e h1
        rw [h2] at hm'
        cases hm'
        simpa [mgetP, h3] using hv
      · simp [Instr.lookup, run_underlying hu, Go.MapKept.run_getObj_map hh, hck, Go.MapKept.run_findKey hd h4, Result.andThen]

theorem does_mapUpdate (hinv : Inv I ρ σ w) {t kt et : TypeId} {o : Nat} {es : List (PV × PV)} {k x : PV} {vm vk vx : Value} (hm : R I ρ (.map o) vm) (hk : R I ρ k vk) (hx : R I ρ x vx) (hu : P.underlying t = some (.map kt et)) (hok : okKind (P.underlying kt) k = true)
    (ho : σ[o]? = some (.map es)) (hs : (findP k es 0).isSome = true) : ∃ ρ' w', (Instr.mapUpdate t vm vk vx).run P w = .ok () w' ∧ Inv I ρ' (σ.set o (.map (mputP es k x))) w' ∧ Grow I ρ σ w I ρ' (σ.set o (.map (mputP es k x))) w' := by
  obtain ⟨L, ms, clock, hL, hh, hl, hr, himm⟩ := hinv.objs o _ ho
  cases hm
  rename_i L' hL'
  cases hL.symm.trans hL'
  cases hd : P.underlying kt with
  | none => rw [hd] at hok; simp [okKind] at hok
  | some d =>
    rw [hd] at hok
    have hkey := okKind_isKey hok hk
    have hr' : ∀ (j : Nat) (e : PV × PV), es[j]? = some e → ∃ m, ms.toList[j]? = some m ∧ R I ρ e.1 m.key ∧ R I ρ e.2 m.val := fun j e hj => by simpa using hr j e hj
    have hck := fun b => run_checkKey (w := w) hd hkey b 9999
    have hle := extR_le (L := L) (.inr hL)
    have fin : ∀ (ms' : Array MapEntry) (clock' : Nat), ms'.size = (mputP es k x).length → (∀ (j : Nat) (e : PV × PV), (mputP es k x)[j]? = some e → ∃ m, ms'[j]? = some m ∧ R I ρ e.1 m.key ∧ R I ρ e.2 m.val) →
        ∃ ρ', Inv I ρ' (σ.set o (.map (mputP es k x))) { w with heap := w.heap.setIfInBounds L.block (.map ms' clock') } ∧ Grow I ρ σ w I ρ' (σ.set o (.map (mputP es k x))) { w with heap := w.heap.setIfInBounds L.block (.map ms' clock') } := by
      intro ms' clock' g1 g2
      obtain ⟨s1, s2⟩ := heap_set (o' := .map ms' clock') hh
      have := hinv.update (obj' := .map (mputP es k x)) (L' := L) (w' := { w with heap := w.heap.setIfInBounds L.block (.map ms' clock') }) ho (by simp) hL (.inr hL) (.inl rfl) (fun b _ hb => s2 b hb) (by simp) rfl rfl rfl
        ⟨L, ms', clock', extR_same _ _ _ _, s1, g1, fun i e hi => by
          obtain ⟨m, hm, h1, h2⟩ := g2 i e hi
          exact ⟨m, hm, h1.mono (fun _ _ _ h => h) hle, h2.mono (fun _ _ _ h => h) hle⟩, himm⟩
      exact ⟨_, this.1, this.2⟩
    rcases findP_now hok hk es ms.toList 0 (by simpa using hl) hr' hs with ⟨h1, h2⟩ | ⟨j, e, m, h1, h2, h3, h4, h5⟩
    · obtain ⟨ρ', hi, hg⟩ := fin (ms.push ⟨vk, vx, clock⟩) (clock + 1) (by simp [mputP, h1, hl]) (fun j e hj => by
        simp only [mputP, h1] at hj
        rw [List.getElem?_append] at hj
        rw [Array.getElem?_push]
        split at hj
        · rename_i hlt
          rw [if_neg (by omega)]
          exact hr j e hj
        · rename_i hge
          have : j = es.length := by
            have := (List.getElem?_eq_some_iff.1 hj).1
            simp at this; omega
          subst this
          simp at hj
          subst hj
          rw [if_pos hl.symm]
          exact ⟨_, rfl, hk, hx⟩)
      refine ⟨ρ', _, ?_, hi, hg⟩
      simp [Instr.mapUpdate, run_underlying hu, Go.MapKept.run_getObj_map hh, hck, Go.MapKept.run_findKey hd h2, Go.MapKept.run_setObj_map _ hh, Result.andThen]
    · have hmk : m.key = vk := by
        obtain ⟨m', hm', hk', _⟩ := hr' j e h1
        rw [h2] at hm'
        cases hm'
        have hn := sameK_now hok hk hk' h5
        generalize hmm : m.key = mk at hk' hn ⊢
        cases d <;> cases k <;> simp [okKind] at hok <;> cases hk <;> cases mk <;> simp [Instr.sameNow] at hn <;> simp_all [Go.MapKept.bytes_beq]
      have hj : ms[j]? = some m := by simpa using h2
      have hjl : j < es.length := (List.getElem?_eq_some_iff.1 h1).1
      obtain ⟨ρ', hi, hg⟩ := fin (ms.modify j (fun e' => { e' with key := vk, val := vx })) clock (by simp [mputP, h3, hl]) (fun i e' hi => by
        simp only [mputP, h3, Nat.zero_add] at hi
        rw [Array.getElem?_modify]
        by_cases hij : j = i
        · subst hij
          rw [List.getElem?_set_self hjl] at hi
          cases hi
          exact ⟨_, by simp [hj]; rfl, hk, hx⟩
        · rw [List.getElem?_set_ne hij] at hi
          rw [if_neg hij]
          exact hr i e' hi)
      refine ⟨ρ', _, ?_, hi, hg⟩
      simp only [Nat.zero_add] at h4
      simp [Instr.mapUpdate, run_underlying hu, Go.MapKept.run_getObj_map hh, hck, Go.MapKept.run_findKey hd h4, hj, hmk, run_keyThatStays hkey, Go.MapKept.run_setObj_map _ hh, Result.andThen]

theorem evM_sound (hinv : Inv I ρ σ w) {e : Operand → PV} {ev : Operand → Value} (he : ∀ x, R I ρ (e x) (ev x)) {K : PV → Store → Prop} {o : Oper} (h : evM P σ e K o.op) :
    ∃ p σ' I' ρ' w', K p σ' ∧ Inv I' ρ' σ' w' ∧ Grow I ρ σ w I' ρ' σ' w' ∧ ((∃ v, R I' ρ' p v ∧ (execOp ev o).run P w = .ok (.value v) w') ∨ (p = .undef ∧ (execOp ev o).run P w = .ok .skip w')) := by
  have fin : ∀ (s : Sem Value), Does P I ρ σ w K s → (execOp ev o = (do pure (Next.value (← s)))) → ∃ p σ' I' ρ' w', K p σ' ∧ Inv I' ρ' σ' w' ∧ Grow I ρ σ w I' ρ' σ' w' ∧ ((∃ v, R I' ρ' p v ∧ (execOp ev o).run P w = .ok (.value v) w') ∨ (p = .undef ∧ (execOp ev o).run P w = .ok .skip w')) := by
    rintro s ⟨p, σ', I', ρ', v, w', h1, h2, h3, h4, h5⟩ hs
    exact ⟨p, σ', I', ρ', w', h1, h4, h5, .inl ⟨v, h2, by rw [hs, Sem.run_bind, h3]; rfl⟩⟩
  obtain ⟨dst, op, type, pos, after, guard⟩ := o
  simp only at h
  unfold evM at h
  split at h
  · exact fin _ (does_makeMap hinv h) rfl
  · rename_i t x i
    split at h
    · rename_i o hm
      obtain ⟨kt, et, z, es, h1, h2, h3, h4, h5, h6⟩ := h
      have hx := he x
      rw [hm] at hx
      exact fin _ (does_lookup hinv hx (he i) h1 h2 h3 h4 h5 h6) rfl
    · exact h.elim
  · rename_i t x i v
    split at h
    · rename_i o hm
      obtain ⟨kt, et, es, h1, h2, h4, h5, h6⟩ := h
      have hx := he x
      rw [hm] at hx
      obtain ⟨ρ', w', g1, g2, g3⟩ := does_mapUpdate hinv hx (he i) (he v) h1 h2 h4 h5
      exact ⟨_, _, I, ρ', w', h6, g2, g3, .inr ⟨rfl, by simp [execOp, g1]⟩⟩
    · exact h.elim
  · exact h.elim
end
end Go.PV
