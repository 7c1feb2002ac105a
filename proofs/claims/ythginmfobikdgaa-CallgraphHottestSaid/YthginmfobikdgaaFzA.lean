import Derived.Test.YthginmfobikdgaaPvY
set_option maxRecDepth 8000
set_option linter.unusedSimpArgs false
set_option linter.unusedVariables false
namespace Go.PV
inductive Fz (A:Nat → Prop) (σ:Store):PV → PV → Prop where
 | keep (p:PV):(∀ n,Bel n p) → Fz A σ p p
 | nils:Fz A σ .nils (.sl [])
 | msl (o ver elem sz:Nat) (rows rows2:List (List PV)):A o → σ[o]? = some (.rows elem sz rows ver) → rows2.length = rows.length → (∀ (i:Nat) (row:List PV),rows[i]? = some row → (rows2.getD i []).length = row.length) →
   (∀ (i:Nat) (row:List PV) (j:Nat) (p:PV),rows[i]? = some row → row[j]? = some p → Fz A σ p ((rows2.getD i []).getD j .unk)) → Fz A σ (.msl o ver) (.sl rows2)
 | sl (rows rows2:List (List PV)):rows2.length = rows.length → (∀ (i:Nat) (row:List PV),rows[i]? = some row → (rows2.getD i []).length = row.length) →
   (∀ (i:Nat) (row:List PV) (j:Nat) (p:PV),rows[i]? = some row → row[j]? = some p → Fz A σ p ((rows2.getD i []).getD j .unk)) → Fz A σ (.sl rows) (.sl rows2)
def FzRow (A:Nat → Prop) (σ:Store) (row row2:List PV):Prop:=row2.length = row.length ∧ ∀ (j:Nat) (p:PV),row[j]? = some p → Fz A σ p (row2.getD j .unk)
def FzRows (A:Nat → Prop) (σ:Store) (rows rows2:List (List PV)):Prop:=rows2.length = rows.length ∧ ∀ (i:Nat) (row:List PV),rows[i]? = some row → FzRow A σ row (rows2.getD i [])
theorem Fz.of_rows {A:Nat → Prop} {o ver elem sz:Nat} {σ:Store} {rows rows2:List (List PV)} (hk:A o) (ho:σ[o]? = some (.rows elem sz rows ver)) (h:FzRows A σ rows rows2):Fz A σ (.msl o ver) (.sl rows2) :=
 .msl o ver elem sz rows rows2 hk ho h.1 (fun i row hi=>(h.2 i row hi).1) (fun i row j p hi hj=>(h.2 i row hi).2 j p hj)
theorem Fz.of_sl {A:Nat → Prop} {σ:Store} {rows rows2:List (List PV)} (h:FzRows A σ rows rows2):Fz A σ (.sl rows) (.sl rows2) :=
 .sl rows rows2 h.1 (fun i row hi=>(h.2 i row hi).1) (fun i row j p hi hj=>(h.2 i row hi).2 j p hj)
theorem Fz.frz {A:Nat → Prop} {σ:Store} {p q:PV} (h:Fz A σ p q) (m:Nat) (hm:∀ o,A o → m ≤ o):Frz m σ p q:=by
 induction h with
 | keep p hb=>exact .keep p (hb m)
 | nils=>exact .nils
 | msl o ver elem sz rows rows2 h1 h2 h3 h4 h5 ih=>exact .msl o ver elem sz rows rows2 (hm o h1) h2 h3 h4 ih
 | sl rows rows2 h3 h4 h5 ih=>exact .sl rows rows2 h3 h4 ih
theorem Fz.to {A A':Nat → Prop} {σ σ':Store} {p q:PV} (h:Fz A σ p q) (hk:∀ o,A o → A' o) (hs:∀ o:Nat,A o → ∀ x,σ[o]? = some x → σ'[o]? = some x):Fz A' σ' p q:=by
 induction h with
 | keep p hb=>exact .keep p hb
 | nils=>exact .nils
 | msl o ver elem sz rows rows2 h1 h2 h3 h4 h5 ih=>exact .msl o ver elem sz rows rows2 (hk o h1) (hs o h1 _ h2) h3 h4 ih
 | sl rows rows2 h3 h4 h5 ih=>exact .sl rows rows2 h3 h4 ih
theorem FzRow.to {A A':Nat → Prop} {σ σ':Store} {p q:List PV} (h:FzRow A σ p q) (hk:∀ o,A o → A' o) (hs:∀ o:Nat,A o → ∀ x,σ[o]? = some x → σ'[o]? = some x):FzRow A' σ' p q:=⟨h.1,fun j p hj=>(h.2 j p hj).to hk hs⟩
theorem FzRows.to {A A':Nat → Prop} {σ σ':Store} {p q:List (List PV)} (h:FzRows A σ p q) (hk:∀ o,A o → A' o) (hs:∀ o:Nat,A o → ∀ x,σ[o]? = some x → σ'[o]? = some x):FzRows A' σ' p q:=⟨h.1,fun j p hj=>(h.2 j p hj).to hk hs⟩
theorem FzRows.nil {A:Nat → Prop} {σ:Store}:FzRows A σ [] []:=⟨rfl,fun i row h=>by simp at h⟩
theorem FzRows.snoc {A:Nat → Prop} {σ:Store} {rows rows2:List (List PV)} {row row2:List PV} (h:FzRows A σ rows rows2) (hr:FzRow A σ row row2):FzRows A σ (rows ++ [row]) (rows2 ++ [row2]):=by
 refine ⟨by simp [h.1],fun i r hi=>?_⟩
 have hlt:=(List.getElem?_eq_some_iff.1 hi).1
 rw [List.length_append,List.length_singleton] at hlt
 have hl:=h.1
 by_cases e:i < rows.length
 ·rw [List.getElem?_append_left e] at hi
  have:(rows2 ++ [row2]).getD i [] = rows2.getD i []:=by
   rw [List.getD_eq_getElem?_getD,List.getElem?_append_left (by omega),← List.getD_eq_getElem?_getD]
  rw [this]; exact h.2 i r hi
 ·obtain rfl:i = rows.length:=by omega
  rw [List.getElem?_concat_length] at hi
  cases hi
  have:(rows2 ++ [row2]).getD rows.length [] = row2:=by
   rw [← hl,List.getD_eq_getElem?_getD,List.getElem?_concat_length]; rfl
  rw [this]; exact hr
theorem FzRows.set {A:Nat → Prop} {σ:Store} {rows rows2:List (List PV)} {row row2:List PV} (h:FzRows A σ rows rows2) (hr:FzRow A σ row row2) (f:Nat):FzRows A σ (rows.set f row) (rows2.set f row2):=by
 refine ⟨by simp [h.1],fun i r hi=>?_⟩
 have hlt:=(List.getElem?_eq_some_iff.1 hi).1
 rw [List.length_set] at hlt
 have hl:=h.1
 by_cases e:i = f
 ·subst e
  rw [List.getElem?_set_self hlt] at hi
  cases hi
  rw [List.getD_eq_getElem?_getD,List.getElem?_set_self (by omega)]; exact hr
 ·rw [List.getElem?_set_ne (fun q=>e q.symm)] at hi
  rw [List.getD_eq_getElem?_getD,List.getElem?_set_ne (fun q=>e q.symm),← List.getD_eq_getElem?_getD]
  exact h.2 i r hi
theorem FzRow.nil {A:Nat → Prop} {σ:Store}:FzRow A σ [] []:=⟨rfl,fun j p h=>by simp at h⟩
theorem FzRow.cons {A:Nat → Prop} {σ:Store} {p q:PV} {ps qs:List PV} (h:Fz A σ p q) (hs:FzRow A σ ps qs):FzRow A σ (p :: ps) (q :: qs) :=
 ⟨by simp [hs.1],fun j x hj=>by
  cases j with
  | zero=>simp at hj; subst hj; exact h
  | succ j=>simpa using hs.2 j x (by simpa using hj)⟩
theorem Fz.int {A:Nat → Prop} {σ:Store} (i:IntKind) (n:Int):Fz A σ (.int i n) (.int i n):=.keep _ fun _=>bel_int _ _ _
theorem Fz.str {A:Nat → Prop} {σ:Store} (s:ByteArray):Fz A σ (.str s) (.str s):=.keep _ fun _=>bel_str _ _
theorem FzRow.frz {A:Nat → Prop} {σ:Store} {row row2:List PV} (h:FzRow A σ row row2) (m:Nat) (hm:∀ o,A o → m ≤ o):Frz m σ (.agg row) (.agg row2) :=
 .agg _ _ h.1 (fun j p hj=>(h.2 j p hj).frz m hm)
theorem FzRow.data {A:Nat → Prop} {σ:Store} {row:List PV} (h:∀ p ∈ row,∀ n,Bel n p):FzRow A σ row row:=⟨rfl,fun j p hj=>by
 rw [List.getD_eq_getElem?_getD,hj]; exact .keep _ (h p (List.mem_of_getElem? hj))⟩
theorem FzRows.data {A:Nat → Prop} {σ:Store} {rows:List (List PV)} (h:∀ row ∈ rows,∀ p ∈ row,∀ n,Bel n p):FzRows A σ rows rows:=⟨rfl,fun i row hi=>by
 rw [List.getD_eq_getElem?_getD,hi]; exact FzRow.data (h row (List.mem_of_getElem? hi))⟩
theorem keepA (A:Nat → Prop) (σ X:Store):∀ o:Nat,A o → ∀ x,σ[o]? = some x → (σ ++ X)[o]? = some x:=fun o _ x h=>by
 rw [List.getElem?_append_left (List.getElem?_eq_some_iff.1 h).1,h]
theorem keepS (A:Nat → Prop) (σ:Store) (o':Nat) (y:Go.PV.Obj) (h:¬ A o'):∀ o:Nat,A o → ∀ x,σ[o]? = some x → (σ.set o' y)[o]? = some x:=fun o ho x hx=>by
 have hne:o' ≠ o:=fun e=>h (by rw [e]; exact ho)
 rw [List.getElem?_set_ne hne,hx]
end Go.PV
