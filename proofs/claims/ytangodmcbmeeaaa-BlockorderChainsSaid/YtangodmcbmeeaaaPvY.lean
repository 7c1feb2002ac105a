import Derived.Test.YtangodmcbmeeaaaPvX
set_option maxRecDepth 8000
set_option linter.unusedSimpArgs false
set_option linter.unusedVariables false
namespace Go.PV
abbrev Known:=List PV → Store → Option (Prop × PV × Store)
def Known.Ok (P:Program) (F:FuncId) (g:Known):Prop:=∀ args σ c p σ',g args σ = some (c,p,σ') → c → PCall P F args σ (fun q τ=>q = p ∧ τ = σ')
def Ext.add (E:Ext) (F:FuncId) (g:Known):Ext:=⟨fun F' args σ=>if F' = F then g args σ else E.f F' args σ,E.pu⟩
def Ext.addP (E:Ext) (F:FuncId) (g:Known):Ext:=⟨fun F' args σ=>if F' = F then g args σ else E.f F' args σ,F :: E.pu⟩
theorem ExtOk.add {P:Program} {E:Ext} (h:ExtOk P E) {F:FuncId} {g:Known} (hF:E.pu.contains F = false) (hg:g.Ok P F):ExtOk P (E.add F g):=by
 refine ⟨fun F' args σ c p σ' he hc=>?_,fun F' hF' args σ=>?_⟩
 ·simp only [Ext.add] at he
  split at he
  ·rename_i e; subst e; exact hg _ _ _ _ _ he hc
  ·exact h.ok _ _ _ _ _ _ he hc
 ·have:F' ≠ F:=fun e=>by
   have h1:E.pu.contains F' = true:=List.contains_iff_mem.2 hF'
   rw [e,hF] at h1
   cases h1
  simp only [Ext.add,this,if_false]
  exact h.pure F' hF' args σ
theorem ExtOk.addP {P:Program} {E:Ext} (h:ExtOk P E) {F:FuncId} {g:Known} (hg:g.Ok P F) (hp:∀ args σ,∃ c p,g args σ = some (c,p,σ)):ExtOk P (E.addP F g):=by
 refine ⟨fun F' args σ c p σ' he hc=>?_,fun F' hF' args σ=>?_⟩
 ·simp only [Ext.addP] at he
  split at he
  ·rename_i e; subst e; exact hg _ _ _ _ _ he hc
  ·exact h.ok _ _ _ _ _ _ he hc
 ·simp only [Ext.addP] at hF' ⊢
  by_cases e:F' = F
  ·subst e; simp only [if_true]; exact hp args σ
  ·simp only [e,if_false]
   exact h.pure F' ((List.mem_cons.1 hF').resolve_left e) args σ
theorem add_hit (E:Ext) (F:FuncId) (g:Known) (args:List PV) (σ:Store):(E.add F g).f F args σ = g args σ:=by simp [Ext.add]
theorem addP_hit (E:Ext) (F:FuncId) (g:Known) (args:List PV) (σ:Store):(E.addP F g).f F args σ = g args σ:=by simp [Ext.addP]
theorem add_miss (E:Ext) (F F':FuncId) (g:Known) (args:List PV) (σ:Store) (h:(F' == F) = false):(E.add F g).f F' args σ = E.f F' args σ:=by
 have:F' ≠ F:=by simpa using h
 simp [Ext.add,this]
theorem addP_miss (E:Ext) (F F':FuncId) (g:Known) (args:List PV) (σ:Store) (h:(F' == F) = false):(E.addP F g).f F' args σ = E.f F' args σ:=by
 have:F' ≠ F:=by simpa using h
 simp [Ext.addP,this]
theorem PCall.frz {P:Program} {F:FuncId} {args args2:List PV} {σ:Store} {K:PV → Store → Prop} (zs:List Nat) (h:PCall P F args2 (killZ zs σ) K) (hl:args2.length = args.length)
  (hz:∀ (j:Nat) (p p2:PV),args[j]? = some p → args2[j]? = some p2 → Frzn zs σ p p2):PCall P F args σ K:=by
 refine ⟨h.1,fun I ρ w vs hinv ha=>?_⟩
 have hinv':=hinv.freeze zs
 have hg:=Grow.freeze hinv zs
 have ha2:ArgsR (frnI I ρ σ w zs) ρ args2 vs:=by
  refine ⟨by rw [ha.1,hl],fun j p2 hj=>?_⟩
  have hlt:j < args.length:=by have:=(List.getElem?_eq_some_iff.1 hj).1; omega
  have h1:=List.getElem?_eq_getElem hlt
  exact (hz j _ _ h1 hj).sound hinv _ (ha.2 j _ h1)
 refine (h.2 _ _ w vs hinv' ha2).mono ?_
 rintro e w' ⟨rv,p,I',ρ',σ',rfl,hR,hi,hg',hK⟩
 exact ⟨rv,p,I',ρ',σ',rfl,hR,hi,hg.trans hg',hK⟩
theorem gapp0 (σ X:Store):(σ ++ X)[σ.length]? = X[0]?:=by rw [List.getElem?_append_right (Nat.le_refl _),Nat.sub_self]
theorem gappk (σ X:Store) (k:Nat):(σ ++ X)[σ.length + k]? = X[k]?:=by rw [List.getElem?_append_right (Nat.le_add_right _ _),Nat.add_sub_cancel_left]
theorem sapp0 (σ X:Store) (y:Obj):(σ ++ X).set σ.length y = σ ++ X.set 0 y:=by rw [List.set_append_right _ _ (Nat.le_refl _),Nat.sub_self]
theorem sappk (σ X:Store) (k:Nat) (y:Obj):(σ ++ X).set (σ.length + k) y = σ ++ X.set k y:=by rw [List.set_append_right _ _ (Nat.le_add_right _ _),Nat.add_sub_cancel_left]
theorem gappn0 (σ X Y:Store):(σ ++ X ++ Y)[σ.length]? = (X ++ Y)[0]?:=by rw [List.append_assoc,gapp0]
theorem gappnk (σ X Y:Store) (k:Nat):(σ ++ X ++ Y)[σ.length + k]? = (X ++ Y)[k]?:=by rw [List.append_assoc,gappk]
theorem sappn0 (σ X Y:Store) (y:Obj):(σ ++ X ++ Y).set σ.length y = σ ++ (X ++ Y).set 0 y:=by rw [List.append_assoc,sapp0]
theorem sappnk (σ X Y:Store) (k:Nat) (y:Obj):(σ ++ X ++ Y).set (σ.length + k) y = σ ++ (X ++ Y).set k y:=by rw [List.append_assoc,sappk]
theorem fin_app {σ X:Store} {K:PV → Store → Prop} {p p2:PV} (hf:Frz σ.length (σ ++ X) p p2) (hk:K p2 σ):Fin σ K p (σ ++ X) :=
 ⟨p2,hf,fun o ho=>⟨σ[o],by rw [List.getElem?_append_left ho,List.getElem?_eq_getElem ho],.inl (List.getElem?_eq_getElem ho)⟩,by rw [List.take_append_of_le_length (Nat.le_refl _),List.take_length]; exact hk⟩
theorem fin_same {σ:Store} {K:PV → Store → Prop} {p p2:PV} (hf:Frz σ.length σ p p2) (hk:K p2 σ):Fin σ K p σ :=
 ⟨p2,hf,fun o ho=>⟨σ[o],List.getElem?_eq_getElem ho,.inl (List.getElem?_eq_getElem ho)⟩,by rw [List.take_length]; exact hk⟩
theorem PCall.lift {P:Program} {F:FuncId} {args:List PV} {Φ:PV → Prop} {K:PV → Store → Prop} {σ:Store} (h:PCall P F args [] (fun p _=>Φ p)) (ha:∀ p ∈ args,Bel 0 p) (hK:∀ p,Φ p → Bel 0 p ∧ K p σ):PCall P F args σ K :=
 PCall.use h ⟨rfl,fun j p p2 h1 h2=>by
  have e:p = p2:=by rw [h1] at h2; exact Option.some.inj h2
  subst e
  exact .keep _ (ha p (List.mem_of_getElem? h1))⟩ hK
def rowAtO (K:List PV → Nat → Prop) (ver i off:Nat):Option Obj → Prop
 | some (.rows _ _ rows v)=>v = ver ∧ i < rows.length ∧ K (rows.getD i []) off
 | _=>False
theorem rowAt_ptr (σ:Store) (K:List PV → Nat → Prop) (o ver i off:Nat):rowAt σ K (.ptr o ver i off) = rowAtO K ver i off σ[o]?:=by
 apply propext
 simp only [rowAt]
 constructor
 ·rintro ⟨elem,sz,rows,row,h1,h2,h3⟩
  rw [h1]
  exact ⟨rfl,(List.getElem?_eq_some_iff.1 h2).1,by rw [List.getD_eq_getElem?_getD,h2]; exact h3⟩
 ·intro h
  cases ho:σ[o]? with
  | none=>rw [ho] at h; exact h.elim
  | some x =>
   cases x with
   | rows el sz rows v =>
    rw [ho] at h
    obtain ⟨rfl,h2,h3⟩:=h
    exact ⟨el,sz,rows,_,rfl,List.getElem?_eq_getElem h2,by rwa [List.getD_eq_getElem?_getD,List.getElem?_eq_getElem h2] at h3⟩
   | _=>rw [ho] at h; exact h.elim
theorem rowAtO_some (K:List PV → Nat → Prop) (ver i off:Nat) (el sz:Nat) (rows:List (List PV)) (v:Nat):rowAtO K ver i off (some (.rows el sz rows v)) = (v = ver ∧ i < rows.length ∧ K (rows.getD i []) off):=rfl
def loadPB (P:Program) (t:TypeId) (row:List PV) (off:Nat) (K:PV → Prop):Bool → Prop
 | true=>(P.underlying t).isSome = true ∧ off + P.cellsOf t ≤ row.length ∧ K (.agg ((row.drop off).take (P.cellsOf t)))
 | false=>(P.underlying t).isSome = true ∧ off < row.length ∧ K (row.getD off .unk)
theorem loadP_B (P:Program) (t:TypeId) (row:List PV) (off:Nat) (K:PV → Prop):loadP P t row off K = loadPB P t row off K (aggT P t):=by
 unfold loadP
 cases aggT P t with
 | true=>simp [loadPB]
 | false =>
  simp only [loadPB,Bool.false_eq_true,if_false]
  apply propext
  constructor
  ·rintro ⟨h1,p,h2,h3⟩
   exact ⟨h1,(List.getElem?_eq_some_iff.1 h2).1,by rw [List.getD_eq_getElem?_getD,h2]; exact h3⟩
  ·rintro ⟨h1,h2,h3⟩
   exact ⟨h1,row[off],List.getElem?_eq_getElem h2,by rwa [List.getD_eq_getElem?_getD,List.getElem?_eq_getElem h2] at h3⟩
theorem loadPB_t (P:Program) (t:TypeId) (row:List PV) (off:Nat) (K:PV → Prop):loadPB P t row off K true = ((P.underlying t).isSome = true ∧ off + P.cellsOf t ≤ row.length ∧ K (.agg ((row.drop off).take (P.cellsOf t)))):=rfl
theorem loadPB_f (P:Program) (t:TypeId) (row:List PV) (off:Nat) (K:PV → Prop):loadPB P t row off K false = ((P.underlying t).isSome = true ∧ off < row.length ∧ K (row.getD off .unk)):=rfl
theorem frz_agg1 {k:Nat} {σ:Store} {a a2:PV} (ha:Frz k σ a a2):Frz k σ (.agg [a]) (.agg [a2]) :=
 .agg _ _ rfl (fun j p hj=>by
  match j with
  | 0=>simp at hj; subst hj; exact ha
  | j + 1=>simp at hj)
theorem frz_agg4 {k:Nat} {σ:Store} {a b c d a2 b2 c2 d2:PV} (ha:Frz k σ a a2) (hb:Frz k σ b b2) (hc:Frz k σ c c2) (hd:Frz k σ d d2):Frz k σ (.agg [a,b,c,d]) (.agg [a2,b2,c2,d2]) :=
 .agg _ _ rfl (fun j p hj=>by
  match j with
  | 0=>simp at hj; subst hj; exact ha
  | 1=>simp at hj; subst hj; exact hb
  | 2=>simp at hj; subst hj; exact hc
  | 3=>simp at hj; subst hj; exact hd
  | j + 4=>simp at hj)
theorem frzTo_of {fr fr0:Fr} {σ σ0:Store} (hs:σ0 = σ) (h:weaker fr0 fr):frzTo fr σ fr0 σ0:=hs ▸ frzTo_weaker h
set_option linter.defProp false in
def vcel:=And.intro (And.intro @rowAt_ptr @rowAtO_some) (And.intro @loadP_B (And.intro @loadPB_t @loadPB_f))
set_option linter.defProp false in
def vgap:=And.intro (And.intro (And.intro @gapp0 @gappk) (And.intro @sapp0 @sappk)) (And.intro (And.intro @gappn0 @gappnk) (And.intro @sappn0 @sappnk))
end Go.PV
