/- Chapter 31, plain: a store that is full. -/
import Derived.Test.YthjoehaglonjaaaSuP
set_option linter.unusedSimpArgs false
set_option linter.unusedVariables false
namespace Go.Proofs.Ythjoehaglonjaaa
open Go.PV

noncomputable def mg (a b : StS) : StS := @dite _ (∃ m, Sf m [a, b]) (Classical.propDecidable _) (fun h => Classical.choose h) (fun _ => default)
theorem mg_sf {a b : StS} (ha : OkS a) (hb : OkS b) : Sf (mg a b) [a, b] := by
  have he := sf_ex ha hb
  unfold mg
  rw [dif_pos he]
  exact Classical.choose_spec he
theorem mg_of {a b m : StS} (ha : OkS a) (hb : OkS b) (h : Sf m [a, b]) : m = mg a b := h.uniq (mg_sf ha hb)
theorem mg_new {s : StS} {p : Pc} (hs : OkS s) (hp : OkPc p) (hn : p.id ∉ idl s) : (mg s (oneS p)).cs = s.cs ∧ (∀ q, q ∈ (mg s (oneS p)).ps ↔ q ∈ s.ps ∨ q = p) ∧ sizeS (mg s (oneS p)) = sizeS s + 1 := by
  have hm := mg_sf hs (oneS_ok hp).o
  obtain ⟨m, hme⟩ : ∃ m, m = mg s (oneS p) := ⟨_, rfl⟩
  rw [← hme] at hm ⊢
  have hnp : ∀ q ∈ s.ps, q.id ≠ p.id := fun q hq e => hn ((idl_mem _ _).2 (.inl ⟨q, hq, e⟩))
  have hnc : p.id ∉ s.cs := fun h => hn ((idl_mem _ _).2 (.inr h))
  have hc : ∀ x, Cf [s, oneS p] x ↔ x ∈ s.cs := fun x => by
    rw [← cP_iff hs (oneS_ok hp).o]
    constructor
    · rintro (h | h | ⟨h1, h2, h3⟩)
      · exact h
      · simp [oneS] at h
      · obtain ⟨q, hq, e1⟩ := (pcHas_iff _ _).1 h1
        obtain ⟨r, hr, e2⟩ := (pcHas_iff _ _).1 h2
        simp [oneS] at hr
        subst hr
        exact absurd (e1.trans e2.symm) (hnp q hq)
    · exact .inl
  have h1 : m.cs = s.cs := sorted_ext idlt_irrefl (fun a b c => idlt_trans) hm.ok.c hs.c (fun x => by rw [hm.c, hc])
  have h2 : ∀ q, q ∈ m.ps ↔ q ∈ s.ps ∨ q = p := fun q => by
    rw [hm.p, hc]
    constructor
    · rintro ⟨⟨t, ht, hq⟩, _⟩
      simp only [List.mem_cons, List.not_mem_nil, or_false] at ht
      rcases ht with rfl | rfl
      · exact .inl hq
      · simp [oneS] at hq; exact .inr hq
    · rintro (hq | rfl)
      · exact ⟨⟨s, by simp, hq⟩, hs.d q hq⟩
      · exact ⟨⟨oneS q, by simp, by simp [oneS]⟩, hnc⟩
  refine ⟨h1, h2, ?_⟩
  have n1 : (m.ps.map (·.id)).Nodup := idlt_nodup (List.pairwise_map.2 hm.ok.p)
  have n2 : (p.id :: s.ps.map (·.id)).Nodup := List.nodup_cons.2 ⟨fun h => by
    obtain ⟨q, hq, e⟩ := List.mem_map.1 h
    exact hnp q hq e, idlt_nodup (List.pairwise_map.2 hs.p)⟩
  have l1 := nodup_le _ (p.id :: s.ps.map (·.id)) n1 (fun x hx => by
    obtain ⟨q, hq, rfl⟩ := List.mem_map.1 hx
    rcases (h2 q).1 hq with hq | rfl
    · exact List.mem_cons_of_mem _ (List.mem_map.2 ⟨q, hq, rfl⟩)
    · simp)
  have l2 := nodup_le _ (m.ps.map (·.id)) n2 (fun x hx => by
    rcases List.mem_cons.1 hx with rfl | hx
    · exact List.mem_map.2 ⟨p, (h2 p).2 (.inr rfl), rfl⟩
    · obtain ⟨q, hq, rfl⟩ := List.mem_map.1 hx
      exact List.mem_map.2 ⟨q, (h2 q).2 (.inl hq), rfl⟩)
  simp only [List.length_cons, List.length_map] at l1 l2
  unfold sizeS
  rw [h1]
  omega
theorem last_ge {α : Type} [Inhabited α] {R : α → α → Prop} {l : List α} (h : l.Pairwise R) (hl : 0 < l.length) : ∀ x ∈ l, x = l.getD (l.length - 1) default ∨ R x (l.getD (l.length - 1) default) := fun x hx => by
  obtain ⟨i, hi, rfl⟩ := List.mem_iff_getElem.1 hx
  by_cases e : i = l.length - 1
  · left
    rw [List.getD_eq_getElem?_getD, List.getElem?_eq_getElem (by omega)]
    simp [e]
  · right
    rw [List.getD_eq_getElem?_getD, List.getElem?_eq_getElem (by omega)]
    exact List.pairwise_iff_getElem.1 h i (l.length - 1) hi (by omega) (by omega)
theorem init_mem {α : Type} [Inhabited α] {R : α → α → Prop} (hi : ∀ a, ¬ R a a) {l : List α} (h : l.Pairwise R) (hl : 0 < l.length) (x : α) : x ∈ l.take (l.length - 1) ↔ x ∈ l ∧ x ≠ l.getD (l.length - 1) default := by
  have e : l = l.take (l.length - 1) ++ [l.getD (l.length - 1) default] := by
    have := take_succD l (l.length - 1) (by omega)
    rw [← this, Nat.sub_add_cancel hl, List.take_length]
  generalize l.getD (l.length - 1) default = d at e ⊢
  generalize l.take (l.length - 1) = t at e ⊢
  subst e
  have h2 := (List.pairwise_append.1 h).2.2
  constructor
  · exact fun hx => ⟨List.mem_append_left _ hx, fun e => hi d (by have := h2 x hx d (by simp); rwa [e] at this)⟩
  · rintro ⟨hx, hne⟩
    rcases List.mem_append.1 hx with h1 | h1
    · exact h1
    · simp at h1; exact absurd h1 hne
/-- What is dropped first. -/
theorem cut1_ok {m : StS} (h : OkS m) (hz : 0 < sizeS m) : OkS (cut1 m) ∧ ∃ d ∈ idl m, (∀ y ∈ idl m, y = d ∨ idlt y d) ∧ (∀ q, q ∈ (cut1 m).ps ↔ q ∈ m.ps ∧ q.id ≠ d) ∧ ∀ y, y ∈ (cut1 m).cs ↔ y ∈ m.cs ∧ y ≠ d := by
  have hcp := h.p
  unfold cut1
  split
  · rename_i hc
    have hpl : 0 < m.ps.length := by unfold sizeS at hz; unfold cutP at hc; omega
    have hlm : m.ps.getD (m.ps.length - 1) default ∈ m.ps := gtD (by omega)
    have hlg := last_ge h.p hpl
    have him := fun q => init_mem (R := fun p q : Pc => idlt p.id q.id) (fun a => idlt_irrefl _) h.p hpl q
    generalize hL : m.ps.getD (m.ps.length - 1) default = L at *
    refine ⟨⟨h.p.sublist (List.take_sublist _ _), h.c, fun p hp => h.d p (List.mem_of_mem_take hp)⟩, L.id, (idl_mem _ _).2 (.inl ⟨L, hlm, rfl⟩), fun y hy => ?_, fun q => ?_, fun y => ?_⟩
    · rcases (idl_mem _ _).1 hy with ⟨p, hp, rfl⟩ | hy
      · exact (hlg p hp).imp (fun e => by rw [e]) id
      · have hcl : 0 < m.cs.length := List.length_pos_of_mem hy
        have h1 : idlt (m.cs.getD (m.cs.length - 1) default) L.id := by
          rcases hc with hc | hc
          · omega
          · rw [hL] at hc; exact hc.2
        rcases last_ge h.c hcl y hy with e | e
        · rw [e]; exact .inr h1
        · exact .inr (idlt_trans e h1)
    · show q ∈ m.ps.take _ ↔ _
      rw [him]
      exact ⟨fun ⟨h1, h2⟩ => ⟨h1, fun e => h2 (h.one h1 hlm e)⟩, fun ⟨h1, h2⟩ => ⟨h1, fun e => h2 (by rw [e])⟩⟩
    · exact ⟨fun hy => ⟨hy, fun e => h.d L hlm (e ▸ hy)⟩, fun hy => hy.1⟩
  · rename_i hc
    have hcl : 0 < m.cs.length := by unfold cutP at hc; omega
    have hlm : m.cs.getD (m.cs.length - 1) default ∈ m.cs := gtD (by omega)
    have hlg := last_ge h.c hcl
    have him := fun q => init_mem idlt_irrefl h.c hcl q
    generalize hL : m.cs.getD (m.cs.length - 1) default = L at *
    refine ⟨⟨h.p, h.c.sublist (List.take_sublist _ _), fun p hp hm => h.d p hp (List.mem_of_mem_take hm)⟩, L, (idl_mem _ _).2 (.inr hlm), fun y hy => ?_, fun q => ?_, him⟩
    · rcases (idl_mem _ _).1 hy with ⟨p, hp, rfl⟩ | hy
      · have hpl : 0 < m.ps.length := List.length_pos_of_mem hp
        have h1 : ¬ idlt L (m.ps.getD (m.ps.length - 1) default).id := fun h2 => hc (.inr ⟨hpl, by rw [hL]; exact h2⟩)
        have h2 : m.ps.getD (m.ps.length - 1) default ∈ m.ps := gtD (by omega)
        have h3 : idlt (m.ps.getD (m.ps.length - 1) default).id L := by
          rcases idlt_tri (m.ps.getD (m.ps.length - 1) default).id L with h3 | h3 | h3
          · exact h3
          · exact absurd (h3 ▸ hlm) (h.d _ h2)
          · exact absurd h3 h1
        rcases last_ge h.p hpl p hp with e | e
        · rw [e]; exact .inr h3
        · exact .inr (idlt_trans e h3)
      · exact hlg y hy
    · exact ⟨fun hq => ⟨hq, fun e => h.d q hq (e ▸ hlm)⟩, fun hq => hq.1⟩
/-- A further piece of a new identity. -/
theorem add_new {s : StS} {p : Pc} (hs : OkSt s) (hp : OkPc p) (hn : p.id ∉ idl s) : OkSt (leastS (mg s (oneS p))) ∧ (∀ q ∈ (leastS (mg s (oneS p))).ps, q ∈ s.ps ∨ q = p) ∧ (∀ y ∈ idl (leastS (mg s (oneS p))), y ∈ idl s ∨ y = p.id) ∧
    (∀ y ∈ (leastS (mg s (oneS p))).cs, y ∈ s.cs) ∧ sizeS (leastS (mg s (oneS p))) = min 256 (sizeS s + 1) ∧ (p ∈ (leastS (mg s (oneS p))).ps ↔ sizeS s < 256 ∨ ∃ y ∈ idl s, idlt p.id y) := by
  obtain ⟨h1, h2, h3⟩ := mg_new hs.o hp hn
  have hok := (mg_sf hs.o (oneS_ok hp).o).ok
  have hsn : sizeS s ≤ 256 := by have := hs.n; unfold sizeS; omega
  generalize mg s (oneS p) = m at *
  have hpm : p ∈ m.ps := (h2 p).2 (.inr rfl)
  have hid : ∀ y, y ∈ idl m ↔ y ∈ idl s ∨ y = p.id := fun y => by
    rw [idl_mem, idl_mem, h1]
    constructor
    · rintro (⟨q, hq, rfl⟩ | h)
      · rcases (h2 q).1 hq with hq | rfl
        · exact .inl (.inl ⟨q, hq, rfl⟩)
        · exact .inr rfl
      · exact .inl (.inr h)
    · rintro ((⟨q, hq, rfl⟩ | h) | rfl)
      · exact .inl ⟨q, (h2 q).2 (.inl hq), rfl⟩
      · exact .inr h
      · exact .inl ⟨p, hpm, rfl⟩
  have okp2 : ∀ q, q ∈ s.ps ∨ q = p → OkPc q := fun q hq => hq.elim (okp s hs q) (fun e => by rw [e]; exact hp)
  by_cases hr : sizeS s < 256
  · rw [leastS_small m (by omega)]
    exact ⟨⟨by unfold sizeS at h3 hr; omega, hok, fun i hi => okp2 _ ((h2 _).1 (gtD hi))⟩, fun q hq => (h2 q).1 hq, fun y hy => (hid y).1 hy, fun y hy => by rw [← h1]; exact hy, by omega, fun _ => .inl hr, fun _ => hpm⟩
  · have e : leastS m = cut1 m := by
      have : sizeS m - 256 = 1 := by omega
      rw [leastS, this, cutN, cutN]
    rw [e]
    obtain ⟨c1, d, hd, c2, c3, c4⟩ := cut1_ok hok (by omega)
    have cz := cut1_size m (by omega)
    refine ⟨⟨by unfold sizeS at cz h3 hr; unfold sizeS at hsn; omega, c1, fun i hi => okp2 _ ((h2 _).1 ((c3 _).1 (gtD hi)).1)⟩, fun q hq => (h2 q).1 ((c3 q).1 hq).1, fun y hy => ?_, fun y hy => by rw [← h1]; exact ((c4 y).1 hy).1, by omega, ?_⟩
    · rcases (idl_mem _ _).1 hy with ⟨q, hq, rfl⟩ | hy
      · exact (hid _).1 ((idl_mem _ _).2 (.inl ⟨q, ((c3 q).1 hq).1, rfl⟩))
      · exact (hid _).1 ((idl_mem _ _).2 (.inr ((c4 y).1 hy).1))
    · rw [c3]
      constructor
      · rintro ⟨_, hne⟩
        rcases (hid d).1 hd with h | h
        · refine .inr ⟨d, h, ?_⟩
          rcases c2 p.id ((hid _).2 (.inr rfl)) with e2 | e2
          · exact absurd e2 hne
          · exact e2
        · exact absurd h.symm hne
      · rintro (h | ⟨y, hy, hlt⟩)
        · exact absurd h hr
        · refine ⟨hpm, fun e2 => ?_⟩
          rcases c2 y ((hid _).2 (.inl hy)) with e3 | e3
          · rw [e3, ← e2] at hlt; exact idlt_irrefl _ hlt
          · rw [← e2] at e3; exact idlt_asymm hlt e3
end Go.Proofs.Ythjoehaglonjaaa
