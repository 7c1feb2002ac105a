/- Regions that draw, as rules for simp. -/
import Derived.Test.YthginmfobikdgaaPvW
set_option linter.unusedSimpArgs false
set_option linter.unusedVariables false
namespace Go.PV
section
variable {P : Program} {M : List Nat} {n : Nat} {E : Ext} {U : Nat} {Q : Exit → Fr → Store → Prop}
variable (ops : Array Oper) (effs fls : List Nat) (N : Nat) (ks : List KI) (i : Nat) (rest : List Oper) (lh : List (Nat × Nat)) (pend : List (Nat × (Store → Prop))) (past : List Store) (acc : List Obj) (fr : Fr) (σ : Store)

/-- Behind a region that draws: the store is made whole. -/
def vkp (P : Program) (M : List Nat) (n : Nat) (E : Ext) (U : Nat) (Q : Exit → Fr → Store → Prop) (ks : List KI) (fr : Fr) (σ : Store) : Prop := vk P M n E U Q ks (keepF U fr) σ
theorem vkp_go : vkp P M n E U Q ks fr σ = vkeep P M n E U Q ks σ (keepF U fr) := rfl
theorem vkp_congr {σ σ' : Store} (h : σ = σ') : vkp P M n E U Q ks fr σ = vkp P M n E U Q ks fr σ' := by rw [h]
theorem vd_end : vd P M n E U Q ops effs fls N ks i [] [] pend past acc fr σ = vkp P M n E U Q ks fr (place σ N acc) := rfl
theorem place_nil (σ : Store) (N : Nat) : place σ N [] = σ := nr rfl
theorem place_cons (σ : Store) (N : Nat) (x : Obj) (l : List Obj) : place σ N (x :: l) = place (σ.set N x) (N + 1) l := nr rfl
theorem vdo_congr (o : Oper) (lo hi : Nat) {g g' : Option Bool × Bool × Bool} (h : g = g') : vdo P M n E U Q ops effs fls N ks i o lo hi rest lh pend past acc fr σ g = vdo P M n E U Q ops effs fls N ks i o lo hi rest lh pend past acc fr σ g' := by rw [h]
theorem vdm_congr (d : Option Nat) (op : Op) {τ τ' : Store} (h : τ = τ') : vdm P M n E U Q ops effs fls N ks i rest lh pend past acc fr σ d op τ = vdm P M n E U Q ops effs fls N ks i rest lh pend past acc fr σ d op τ' := by rw [h]
theorem vde_congr (τ : Store) (d : Option Nat) {r r' : OpRes} (h : r = r') : vde P M n E U Q ops effs fls N ks i rest lh pend past acc fr σ τ d r = vde P M n E U Q ops effs fls N ks i rest lh pend past acc fr σ τ d r' := by rw [h]
theorem vdr_congr (o : Oper) (lo hi : Nat) {r r' : OpRes} (h : r = r') : vdr P M n E U Q ops effs fls N ks i o lo hi rest lh pend past acc fr σ r = vdr P M n E U Q ops effs fls N ks i o lo hi rest lh pend past acc fr σ r' := by rw [h]
theorem vdf_congr (d : Option Nat) {r r' : OpRes} (h : r = r') : vdf P M n E U Q ops effs fls N ks i rest lh pend past acc fr σ d r = vdf P M n E U Q ops effs fls N ks i rest lh pend past acc fr σ d r' := by rw [h]
theorem vdx_congr (τ : Store) (F : FuncId) (args : List PV) (d : Option Nat) {r r' : Option (Prop × PV × Store)} (h : r = r') : vdx P M n E U Q ops effs fls N ks F args i rest lh pend past acc fr σ τ d r = vdx P M n E U Q ops effs fls N ks F args i rest lh pend past acc fr σ τ d r' := by rw [h]
theorem vdq_congr (o : Oper) (hi : Nat) {l l' : List Store} (h : l = l') : vdq P M n E U Q ops effs fls N ks i o hi rest lh pend past acc fr σ l = vdq P M n E U Q ops effs fls N ks i o hi rest lh pend past acc fr σ l' := by rw [h]
attribute [congr] vkp_congr vdo_congr vdm_congr vde_congr vdr_congr vdf_congr vdx_congr vdq_congr

variable (d : Nat) (dd : Option Nat) (op : Op) (ty : TypeId) (pos : String) (after : Array Edge) (gd : Option (Nat × Bool)) (lo hi : Nat)
theorem vdo_eff (f : Bool) : vdo P M n E U Q ops effs fls N ks i ⟨dd, op, ty, pos, after, gd⟩ 0 hi rest lh pend past acc fr σ (some true, true, f) = vde P M n E U Q ops effs fls N ks i rest lh pend past acc fr σ σ dd (evC P (mutOf M dd) σ (evO fr) op) := vdg_eff ..
theorem vdo_effA (f : Bool) (k : Nat) : vdo P M n E U Q ops effs fls N ks i ⟨dd, op, ty, pos, after, gd⟩ (k + 1) hi rest lh pend past acc fr σ (some true, true, f) = req (k + 1 ≤ acc.length) (vdm P M n E U Q ops effs fls (N + (k + 1)) ks i rest lh pend past (acc.drop (k + 1)) fr σ dd op (place σ N (acc.take (k + 1)))) := vdg_effA ..
theorem vdm_go (τ : Store) : vdm P M n E U Q ops effs fls N ks i rest lh pend past acc fr σ dd op τ = vde P M n E U Q ops effs fls N ks i rest lh pend past acc fr σ τ dd (evC P (mutOf M dd) τ (evO fr) op) := rfl
theorem vdo_noeff_s (f : Bool) : vdo P M n E U Q ops effs fls N ks i ⟨some d, op, ty, pos, after, gd⟩ 0 hi rest lh pend past acc fr σ (some false, true, f) = ((∀ q ∈ pend, past.length + 1 ≤ q.1 → q.2 σ) ∧ vd P M n E U Q ops effs fls N ks (i + 1) rest lh pend (past ++ [σ]) acc ((d, .undef) :: fr) σ) := vdg_noeff ..
theorem vdo_noeff_n (f : Bool) : vdo P M n E U Q ops effs fls N ks i ⟨none, op, ty, pos, after, gd⟩ 0 hi rest lh pend past acc fr σ (some false, true, f) = ((∀ q ∈ pend, past.length + 1 ≤ q.1 → q.2 σ) ∧ vd P M n E U Q ops effs fls N ks (i + 1) rest lh pend (past ++ [σ]) acc fr σ) := vdg_noeff ..
theorem vdo_nofloat : vdo P M n E U Q ops effs fls N ks i ⟨some d, op, ty, pos, after, gd⟩ lo hi rest lh pend past acc fr σ (some false, false, true) = vd P M n E U Q ops effs fls N ks (i + 1) rest lh pend past (acc ++ [.dead]) ((d, .undef) :: fr) σ := vdg_nofloat ..
theorem vdo_noread : vdo P M n E U Q ops effs fls N ks i ⟨some d, op, ty, pos, after, gd⟩ lo hi rest lh pend past acc fr σ (some false, false, false) = vd P M n E U Q ops effs fls N ks (i + 1) rest lh pend past acc ((d, .undef) :: fr) σ := vdg_noread ..
theorem vdo_read : vdo P M n E U Q ops effs fls N ks i ⟨dd, op, ty, pos, after, gd⟩ lo hi rest lh pend past acc fr σ (some true, false, false) = vdr P M n E U Q ops effs fls N ks i ⟨dd, op, ty, pos, after, gd⟩ lo hi rest lh pend past acc fr σ (evC P (mutOf M dd) [] (evO fr) op) := vdg_read ..
theorem vdo_floatS (t : TypeId) (a b : Operand) : vdo P M n E U Q ops effs fls N ks i ⟨dd, .makeSlice t a b, ty, pos, after, gd⟩ lo hi rest lh pend past acc fr σ (some true, false, true) = vdf P M n E U Q ops effs fls N ks i rest lh pend past acc fr σ dd (evC P (mutOf M dd) [] (evO fr) (.makeSlice t a b)) := vdg_floatS ..
theorem vdo_floatA (t : TypeId) : vdo P M n E U Q ops effs fls N ks i ⟨dd, .alloc t, ty, pos, after, gd⟩ lo hi rest lh pend past acc fr σ (some true, false, true) = vdf P M n E U Q ops effs fls N ks i rest lh pend past acc fr σ dd (evC P (mutOf M dd) [] (evO fr) (.alloc t)) := vdg_floatA ..

variable (c : Prop) (v : PV) (σ' τ : Store)
theorem vde_s : vde P M n E U Q ops effs fls N ks i rest lh pend past acc fr σ τ (some d) (.val c v σ') = req (c ∧ ∀ q ∈ pend, past.length + 1 ≤ q.1 → q.2 σ') (vd P M n E U Q ops effs fls N ks (i + 1) rest lh pend (past ++ [σ]) acc ((d, v) :: fr) σ') := rfl
theorem vde_n : vde P M n E U Q ops effs fls N ks i rest lh pend past acc fr σ τ none (.val c v σ') = req (c ∧ ∀ q ∈ pend, past.length + 1 ≤ q.1 → q.2 σ') (vd P M n E U Q ops effs fls N ks (i + 1) rest lh pend (past ++ [σ]) acc fr σ') := rfl
theorem vde_c (F : FuncId) (args : List PV) : vde P M n E U Q ops effs fls N ks i rest lh pend past acc fr σ τ dd (.call F args) = vdx P M n E U Q ops effs fls N ks F args i rest lh pend past acc fr σ τ dd (E.f F args τ) := rfl
theorem vdx_s (F : FuncId) (args : List PV) : vdx P M n E U Q ops effs fls N ks F args i rest lh pend past acc fr σ τ (some d) (some (c, v, σ')) = req (c ∧ ∀ q ∈ pend, past.length + 1 ≤ q.1 → q.2 σ') (vd P M n E U Q ops effs fls N ks (i + 1) rest lh pend (past ++ [σ]) acc ((d, v) :: fr) σ') := rfl
theorem vdr_s : vdr P M n E U Q ops effs fls N ks i ⟨some d, op, ty, pos, after, gd⟩ lo hi rest lh pend past acc fr σ (.val c v []) = req c (vd P M n E U Q ops effs fls N ks (i + 1) rest lh pend past acc ((d, v) :: fr) σ) := rfl
theorem vdr_b [Decidable c] : vdr P M n E U Q ops effs fls N ks i ⟨some d, op, ty, pos, after, gd⟩ lo hi rest lh pend past acc fr σ (boolR c []) = alt c (vd P M n E U Q ops effs fls N ks (i + 1) rest lh pend past acc ((d, .bool true) :: fr) σ) (vd P M n E U Q ops effs fls N ks (i + 1) rest lh pend past acc ((d, .bool false) :: fr) σ) := by
  rw [boolR, vdr_s]
  by_cases h : c <;> simp [alt, h, req]
theorem vdf_m (t : TypeId) (sz : Nat) (rows : List (List PV)) : vdf P M n E U Q ops effs fls N ks i rest lh pend past acc fr σ (some d) (.val c (.msl 0 0) [.rows t sz rows 0]) = req c (vd P M n E U Q ops effs fls N ks (i + 1) rest lh pend past (acc ++ [.rows t sz rows 0]) ((d, .msl (N + acc.length) 0) :: fr) σ) := rfl
theorem vdf_p (t : TypeId) (sz : Nat) (rows : List (List PV)) : vdf P M n E U Q ops effs fls N ks i rest lh pend past acc fr σ (some d) (.val c (.ptr 0 0 0 0) [.rows t sz rows 0]) = req c (vd P M n E U Q ops effs fls N ks (i + 1) rest lh pend past (acc ++ [.rows t sz rows 0]) ((d, .ptr (N + acc.length) 0 0 0) :: fr) σ) := rfl

/-! Readings of objects. -/
/-- A reading of an object, at the first of the stores in which it may come. -/
def vdw (P : Program) (M : List Nat) (n : Nat) (E : Ext) (U : Nat) (Q : Exit → Fr → Store → Prop) (ops : Array Oper) (effs fls : List Nat) (N : Nat) (ks : List KI) (i : Nat) (o : Oper) (hi : Nat) (rest : List Oper) (lh : List (Nat × Nat)) (pend : List (Nat × (Store → Prop))) (past : List Store) (acc : List Obj) (fr : Fr) (σ : Store) (σ1 : Store) (l : List Store) : OpRes → Prop
  | .val c v σ' => req ((c ∧ σ' = σ1) ∧ ∀ τ ∈ l, outR P v τ τ (evC P (mutOf M o.dst) τ (evO fr) o.op)) (vd P M n E U Q ops effs fls N ks (i + 1) rest lh (pend ++ [(hi, fun τ => outR P v τ τ (evC P (mutOf M o.dst) τ (evO fr) o.op))]) past acc (consF fr o.dst v) σ)
  | .call F args => vdq P M n E U Q ops effs fls N ks i o hi rest lh pend past acc fr σ (σ1 :: l)
  | .bad => False
theorem vdw_congr (o : Oper) (hi : Nat) (σ1 : Store) (l : List Store) {r r' : OpRes} (h : r = r') : vdw P M n E U Q ops effs fls N ks i o hi rest lh pend past acc fr σ σ1 l r = vdw P M n E U Q ops effs fls N ks i o hi rest lh pend past acc fr σ σ1 l r' := by rw [h]
attribute [congr] vdw_congr
theorem vdq_eq (o : Oper) (hi : Nat) (σ1 : Store) (l : List Store) : vdq P M n E U Q ops effs fls N ks i o hi rest lh pend past acc fr σ (σ1 :: l) = vdw P M n E U Q ops effs fls N ks i o hi rest lh pend past acc fr σ σ1 l (evC P (mutOf M o.dst) σ1 (evO fr) o.op) := by
  apply propext
  cases he : evC P (mutOf M o.dst) σ1 (evO fr) o.op with
  | val c v σ' =>
    constructor
    · rintro ⟨p, h1, h2⟩
      have h3 := h1 σ1 (by simp)
      rw [he] at h3
      obtain ⟨h4, rfl, h5⟩ := h3
      exact ⟨⟨⟨h4, h5⟩, fun τ hτ => h1 τ (by simp [hτ])⟩, h2⟩
    · rintro ⟨⟨⟨h1, h2⟩, h3⟩, h4⟩
      exact vdq_cons P M n E U Q ops effs fls N ks i o hi rest lh pend past acc fr σ σ1 l (by rw [he]; exact ⟨⟨h1, h2, h3⟩, h4⟩)
  | call F args => exact Iff.rfl
  | bad =>
    constructor
    · rintro ⟨p, h1, h2⟩
      have h3 := h1 σ1 (by simp)
      rw [he] at h3
      exact h3.elim
    · exact False.elim
theorem vdr_o (o : Oper) (lo hi : Nat) : vdr P M n E U Q ops effs fls N ks i o lo hi rest lh pend past acc fr σ .bad = vdq P M n E U Q ops effs fls N ks i o hi rest lh pend past acc fr σ ((past ++ [σ]).drop lo) := rfl
theorem vdw_s (hi' : Nat) (σ1 : Store) (l : List Store) : vdw P M n E U Q ops effs fls N ks i ⟨some d, op, ty, pos, after, gd⟩ hi' rest lh pend past acc fr σ σ1 l (.val c v σ') = req ((c ∧ σ' = σ1) ∧ ∀ τ ∈ l, outR P v τ τ (evC P (mutOf M (some d)) τ (evO fr) op)) (vd P M n E U Q ops effs fls N ks (i + 1) rest lh (pend ++ [(hi', fun τ => outR P v τ τ (evC P (mutOf M (some d)) τ (evO fr) op))]) past acc ((d, v) :: fr) σ) := rfl
theorem outR_v (p p' : PV) (τ τ' τ2 : Store) (c' : Prop) : outR P p τ τ' (.val c' p' τ2) = (c' ∧ p' = p ∧ τ2 = τ') := rfl
theorem rowsAt_none (g : TypeId → Nat → List (List PV) → Nat → OpRes) : rowsAt g none = .bad := rfl
theorem mapAt_none (g : List (PV × PV) → OpRes) : mapAt g none = .bad := rfl
theorem lnil (k : Nat) : ([] : Store)[k]? = none := rfl
theorem drop0 (l : List Store) : l.drop 0 = l := rfl
end
end Go.PV
