import Derived.Test.YtangodmcbmeeaaaPvB
import Derived.Deep.AppendSrc
set_option maxRecDepth 8000
namespace Go.PV
def extR (ρ:Rho) (o v:Nat) (L:Loc):Rho:=fun o' v'=>if o' = o ∧ v' = v then some L else ρ o' v'
theorem extR_same (ρ:Rho) (o v:Nat) (L:Loc):extR ρ o v L o v = some L:=by simp [extR]
theorem extR_other {ρ:Rho} {o v o' v':Nat} {L:Loc} (h:¬ (o' = o ∧ v' = v)):extR ρ o v L o' v' = ρ o' v':=by simp [extR,h]
theorem extR_le {ρ:Rho} {o v:Nat} {L:Loc} (h:ρ o v = none ∨ ρ o v = some L):∀ o' v' L',ρ o' v' = some L' → extR ρ o v L o' v' = some L':=by
 intro o' v' L' h'
 by_cases e:o' = o ∧ v' = v
 ·obtain ⟨rfl,rfl⟩:=e
  rcases h with h | h
  ·rw [h] at h'; cases h'
  ·rw [extR_same,← h,h']
 ·rw [extR_other e]; exact h'
section
variable {I:Imm} {ρ:Rho} {σ:Store} {w w':World}
theorem ObjInv.imm_none {o:Nat} {obj:Obj} {L:Loc} (h:ObjInv I ρ w o obj) (hd:obj ≠ .dead) (hL:ρ o (verOf obj) = some L):∀ off,I L.block off = none:=by
 cases obj with
 | dead=>exact absurd rfl hd
 | rows elem sz rows ver =>
  obtain ⟨L',_,hL',_,_,_,_,_,_,_,_,hi,_⟩:=h
  cases hL.symm.trans hL'; exact hi
 | map es =>
  obtain ⟨L',_,_,hL',_,_,_,hi⟩:=h
  cases hL.symm.trans hL'; exact hi
theorem ObjInv.block_lt {o:Nat} {obj:Obj} {L:Loc} (h:ObjInv I ρ w o obj) (hd:obj ≠ .dead) (hL:ρ o (verOf obj) = some L):L.block < w.heap.size:=by
 cases obj with
 | dead=>exact absurd rfl hd
 | rows elem sz rows ver =>
  obtain ⟨L',_,hL',_,_,hh,_⟩:=h
  cases hL.symm.trans hL'; exact (Array.getElem?_eq_some_iff.1 hh).1
 | map es =>
  obtain ⟨L',_,_,hL',hh,_⟩:=h
  cases hL.symm.trans hL'; exact (Array.getElem?_eq_some_iff.1 hh).1
theorem ObjInv.has {o:Nat} {obj:Obj} (h:ObjInv I ρ w o obj) (hd:obj ≠ .dead):∃ L,ρ o (verOf obj) = some L:=by
 cases obj with
 | dead=>exact absurd rfl hd
 | rows elem sz rows ver=>obtain ⟨L',_,hL',_⟩:=h; exact ⟨L',hL'⟩
 | map es=>obtain ⟨L',_,_,hL',_⟩:=h; exact ⟨L',hL'⟩
theorem ObjInv.keep {I':Imm} {ρ':Rho} {o:Nat} {obj:Obj} (h:ObjInv I ρ w o obj) (hI:∀ b off v,I b off = some v → I' b off = some v) (hρ:∀ o ver L,ρ o ver = some L → ρ' o ver = some L)
  (hb:∀ L,obj ≠ .dead → ρ o (verOf obj) = some L → w'.heap[L.block]? = w.heap[L.block]? ∧ ∀ off,I' L.block off = none) (hv:∀ v',verOf obj < v' → ρ o v' = none → ρ' o v' = none):ObjInv I' ρ' w' o obj:=by
 cases obj with
 | dead=>trivial
 | rows elem sz rows ver =>
  obtain ⟨L,cs,hL,h1,h2,h3,h4,h5,h6,h7,h8,h9,h10⟩:=h
  obtain ⟨hb1,hb2⟩:=hb L (by simp) hL
  exact ⟨L,cs,hρ _ _ _ hL,h1,h2,by rw [hb1]; exact h3,h4,h5,h6,h7,fun i row j p hi hj=>by
   obtain ⟨v,hv,hr⟩:=h8 i row j p hi hj
   exact ⟨v,hv,hr.mono hI hρ⟩,hb2,fun v' hv'=>hv v' hv' (h10 v' hv')⟩
 | map es =>
  obtain ⟨L,ms,clock,hL,h1,h2,h3,h4⟩:=h
  obtain ⟨hb1,hb2⟩:=hb L (by simp) hL
  exact ⟨L,ms,clock,hρ _ _ _ hL,by rw [hb1]; exact h1,h2,fun i e hi=>by
   obtain ⟨m,hm,hk,hv⟩:=h3 i e hi
   exact ⟨m,hm,hk.mono hI hρ,hv.mono hI hρ⟩,hb2⟩
theorem Inv.update (hinv:Inv I ρ σ w) {o:Nat} {obj obj':Obj} {L L':Loc} (ho:σ[o]? = some obj) (hd:obj ≠ .dead) (hL:ρ o (verOf obj) = some L)
  (hL':ρ o (verOf obj') = none ∨ ρ o (verOf obj') = some L') (hb':L'.block = L.block ∨ w.heap.size ≤ L'.block)
  (hframe:∀ b,b < w.heap.size → b ≠ L.block → w'.heap[b]? = w.heap[b]?) (hsize:w.heap.size ≤ w'.heap.size) (hos:w'.os = w.os) (htape:w'.tape = w.tape) (hout:w'.output = w.output)
  (hobj:ObjInv I (extR ρ o (verOf obj') L') w' o obj') :
  Inv I (extR ρ o (verOf obj') L') (σ.set o obj') w' ∧ Grow I ρ σ w I (extR ρ o (verOf obj') L') (σ.set o obj') w':=by
 have hle:=extR_le hL'
 have holt:o < σ.length:=(List.getElem?_eq_some_iff.1 ho).1
 have hLb:=(hinv.objs o obj ho).block_lt hd hL
 have hother:∀ o1 b,o1 ≠ o → BlockIs (extR ρ o (verOf obj') L') (σ.set o obj') o1 b → BlockIs ρ σ o1 b:=fun o1 b hne ⟨ob,Lo,h1,h2,h3,h4⟩=>by
  rw [List.getElem?_set_ne (Ne.symm hne)] at h1
  rw [extR_other (fun h=>hne h.1)] at h3
  exact ⟨ob,Lo,h1,h2,h3,h4⟩
 have hself:∀ b,BlockIs (extR ρ o (verOf obj') L') (σ.set o obj') o b → b = L'.block:=fun b ⟨ob,Lo,h1,h2,h3,h4⟩=>by
  rw [List.getElem?_set_self holt] at h1
  cases h1
  rw [extR_same] at h3
  cases h3
  exact h4.symm
 have hltb:∀ o1 b,BlockIs ρ σ o1 b → b < w.heap.size:=fun o1 b ⟨ob,Lo,h1,h2,h3,h4⟩=>h4 ▸ (hinv.objs o1 ob h1).block_lt h2 h3
 have hLis:BlockIs ρ σ o L.block:=⟨obj,L,ho,hd,hL,rfl⟩
 refine ⟨⟨?_,?_,?_,?_⟩,⟨fun _ _ _ h=>h,hle,hos,htape,hout,hsize,?_,fun _ _ h h'=>absurd h h',?_,fun o1 v h1=>extR_other (fun h=>by rw [h.1,ho] at h1; exact hd (Option.some.inj h1)),fun o1 h1=>by
  by_cases e:o = o1
  ·subst e; rw [ho] at h1; exact absurd (Option.some.inj h1) hd
  ·rw [List.getElem?_set_ne e]; exact h1⟩⟩
 ·intro o1 ob h1
  by_cases hne:o1 = o
  ·subst hne
   rw [List.getElem?_set_self holt] at h1
   cases h1
   exact hobj
  ·rw [List.getElem?_set_ne (Ne.symm hne)] at h1
   refine (hinv.objs o1 ob h1).keep (fun _ _ _ h=>h) hle (fun Lo hdo hLo=>?_) (fun v' _ hv'=>by rw [extR_other (fun h=>hne h.1)]; exact hv')
   have hin:=(hinv.objs o1 ob h1).imm_none hdo hLo
   have hlt:=(hinv.objs o1 ob h1).block_lt hdo hLo
   exact ⟨hframe _ hlt (fun e=>hne (hinv.apart o1 o Lo.block ⟨ob,Lo,h1,hdo,hLo,rfl⟩ (e ▸ hLis))),hin⟩
 ·intro o1 o2 b h1 h2
  by_cases e1:o1 = o <;> by_cases e2:o2 = o
  ·rw [e1,e2]
  ·subst e1
   have hb:=hself b h1
   have h2':=hother o2 b e2 h2
   rcases hb' with hb' | hb'
   ·rw [hb,hb'] at h2'
    exact (hinv.apart _ _ _ h2' hLis).symm
   ·have:=hltb o2 b h2'
    omega
  ·subst e2
   have hb:=hself b h2
   have h1':=hother o1 b e1 h1
   rcases hb' with hb' | hb'
   ·rw [hb,hb'] at h1'
    exact hinv.apart _ _ _ h1' hLis
   ·have:=hltb o1 b h1'
    omega
  ·exact hinv.apart o1 o2 b (hother o1 b e1 h1) (hother o2 b e2 h2)
 ·intro b off v hv
  have hc:=hinv.imm b off v hv
  have hlt:b < w.heap.size:=World.block_lt_of_cell? w ⟨b,off,none⟩ hc
  have hne:b ≠ L.block:=fun e=>by rw [e,(hinv.objs o obj ho).imm_none hd hL off] at hv; cases hv
  rw [World.cell?_of_block (w:=w) (hframe b hlt hne)]
  exact hc
 ·intro o1 v h1
  rw [List.length_set] at h1
  rw [extR_other (fun h=>by omega)]
  exact hinv.free o1 v h1
 ·intro b hb hl
  exact hframe b hb (fun e=>hl (e ▸ ⟨o,hLis⟩))
 ·rintro b ⟨o1,h1⟩
  by_cases e1:o1 = o
  ·subst e1
   have:=hself b h1
   rcases hb' with hb' | hb'
   ·exact .inl ⟨o1,by rw [this,hb']; exact hLis⟩
   ·exact .inr (by omega)
  ·exact .inl ⟨o1,hother o1 b e1 h1⟩
theorem Inv.newObj (hinv:Inv I ρ σ w) {obj:Obj} {L:Loc} (hv0:verOf obj = 0) (hb:w.heap.size ≤ L.block)
  (hframe:∀ b,b < w.heap.size → w'.heap[b]? = w.heap[b]?) (hsize:w.heap.size ≤ w'.heap.size) (hos:w'.os = w.os) (htape:w'.tape = w.tape) (hout:w'.output = w.output)
  (hobj:ObjInv I (extR ρ σ.length 0 L) w' σ.length obj) :
  Inv I (extR ρ σ.length 0 L) (σ ++ [obj]) w' ∧ Grow I ρ σ w I (extR ρ σ.length 0 L) (σ ++ [obj]) w':=by
 have hle:=extR_le (L:=L) (.inl (hinv.free σ.length 0 (Nat.le_refl _)))
 have hother:∀ o1 b,o1 ≠ σ.length → BlockIs (extR ρ σ.length 0 L) (σ ++ [obj]) o1 b → BlockIs ρ σ o1 b:=fun o1 b hne ⟨ob,Lo,h1,h2,h3,h4⟩=>by
  have hlt:o1 < σ.length:=by
   have:=(List.getElem?_eq_some_iff.1 h1).1
   simp at this; omega
  rw [List.getElem?_append_left hlt] at h1
  rw [extR_other (fun h=>hne h.1)] at h3
  exact ⟨ob,Lo,h1,h2,h3,h4⟩
 have hself:∀ b,BlockIs (extR ρ σ.length 0 L) (σ ++ [obj]) σ.length b → b = L.block:=fun b ⟨ob,Lo,h1,h2,h3,h4⟩=>by
  rw [List.getElem?_concat_length] at h1
  cases h1
  rw [hv0,extR_same] at h3
  cases h3
  exact h4.symm
 have hltb:∀ o1 b,BlockIs ρ σ o1 b → b < w.heap.size:=fun o1 b ⟨ob,Lo,h1,h2,h3,h4⟩=>h4 ▸ (hinv.objs o1 ob h1).block_lt h2 h3
 refine ⟨⟨?_,?_,?_,?_⟩,⟨fun _ _ _ h=>h,hle,hos,htape,hout,hsize,fun b hb _=>hframe b hb,fun _ _ h h'=>absurd h h',?_,fun o1 v h1=>extR_other (fun h=>by have:=(List.getElem?_eq_some_iff.1 h1).1; omega),fun o1 h1=>by rw [List.getElem?_append_left (List.getElem?_eq_some_iff.1 h1).1]; exact h1⟩⟩
 ·intro o1 ob h1
  by_cases hne:o1 = σ.length
  ·subst hne
   rw [List.getElem?_concat_length] at h1
   cases h1
   exact hobj
  ·have hlt:o1 < σ.length:=by
    have:=(List.getElem?_eq_some_iff.1 h1).1
    simp at this; omega
   rw [List.getElem?_append_left hlt] at h1
   refine (hinv.objs o1 ob h1).keep (fun _ _ _ h=>h) hle (fun Lo hdo hLo=>?_) (fun v' _ hv'=>by rw [extR_other (fun h=>hne h.1)]; exact hv')
   exact ⟨hframe _ ((hinv.objs o1 ob h1).block_lt hdo hLo),(hinv.objs o1 ob h1).imm_none hdo hLo⟩
 ·intro o1 o2 b h1 h2
  by_cases e1:o1 = σ.length <;> by_cases e2:o2 = σ.length
  ·rw [e1,e2]
  ·subst e1
   have hb1:=hself b h1
   have:=hltb o2 b (hother o2 b e2 h2)
   omega
  ·subst e2
   have hb1:=hself b h2
   have:=hltb o1 b (hother o1 b e1 h1)
   omega
  ·exact hinv.apart o1 o2 b (hother o1 b e1 h1) (hother o2 b e2 h2)
 ·intro b off v hv
  have hc:=hinv.imm b off v hv
  rw [World.cell?_of_block (w:=w) (hframe b (World.block_lt_of_cell? w ⟨b,off,none⟩ hc))]
  exact hc
 ·intro o1 v h1
  simp at h1
  rw [extR_other (fun h=>by omega)]
  exact hinv.free o1 v (by omega)
 ·rintro b ⟨o1,h1⟩
  by_cases e1:o1 = σ.length
  ·subst e1
   exact .inr (by rw [hself b h1]; exact hb)
  ·exact .inl ⟨o1,hother o1 b e1 h1⟩
def extI (I:Imm) (b:Nat) (cs:Nat → Option Value):Imm:=fun b' off=>if b' = b then cs off else I b' off
theorem Inv.newImm (hinv:Inv I ρ σ w) {b:Nat} {cs:Nat → Option Value} (hb:w.heap.size ≤ b) (hcs:∀ off v,cs off = some v → w'.cell? ⟨b,off,none⟩ = some v)
  (hframe:∀ b,b < w.heap.size → w'.heap[b]? = w.heap[b]?) (hsize:w.heap.size ≤ w'.heap.size) (hos:w'.os = w.os) (htape:w'.tape = w.tape) (hout:w'.output = w.output) :
  Inv (extI I b cs) ρ σ w' ∧ Grow I ρ σ w (extI I b cs) ρ σ w':=by
 have hlt:∀ b' off v,I b' off = some v → b' < w.heap.size:=fun b' off v hv=>World.block_lt_of_cell? w ⟨b',off,none⟩ (hinv.imm _ _ _ hv)
 have hle:∀ b' off v,I b' off = some v → extI I b cs b' off = some v:=fun b' off v hv=>by
  have:=hlt b' off v hv
  simp only [extI]
  rw [if_neg (by omega)]
  exact hv
 refine ⟨⟨?_,hinv.apart,?_,hinv.free⟩,⟨hle,fun _ _ _ h=>h,hos,htape,hout,hsize,fun b hb _=>hframe b hb,?_,fun _ h=>.inl h,fun _ _ _=>rfl,fun _ h=>h⟩⟩
 ·intro o1 ob h1
  refine (hinv.objs o1 ob h1).keep hle (fun _ _ _ h=>h) (fun Lo hdo hLo=>?_) (fun v' _ hv'=>hv')
  have hlt:=(hinv.objs o1 ob h1).block_lt hdo hLo
  refine ⟨hframe _ hlt,fun off=>?_⟩
  simp only [extI]
  rw [if_neg (by omega)]
  exact (hinv.objs o1 ob h1).imm_none hdo hLo off
 ·intro b' off v hv
  simp only [extI] at hv
  by_cases e:b' = b
  ·rw [if_pos e] at hv
   subst e
   exact hcs off v hv
  ·rw [if_neg e] at hv
   rw [World.cell?_of_block (w:=w) (hframe b' (hlt b' off v hv))]
   exact hinv.imm _ _ _ hv
 ·intro b' off hn hs
  simp only [extI] at hs
  by_cases e:b' = b
  ·exact .inr (by omega)
  ·rw [if_neg e] at hs
   exact absurd hn hs
end
end Go.PV
