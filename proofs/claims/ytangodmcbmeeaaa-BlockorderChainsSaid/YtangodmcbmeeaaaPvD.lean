import Derived.Test.YtangodmcbmeeaaaPvC
set_option maxRecDepth 8000
namespace Go.PV
def cellsV:PV → Option (List PV)
 | .agg cells=>if cells.all PV.cell then some cells else none
 | p=>if p.cell then some [p] else none
def zeroCells (P:Program) (t:TypeId):Option (List PV):=((P.info? t).bind (·.zero)).map fun z=>z.cells.toList.map ofVal
def splice (row:List PV) (off:Nat) (cells:List PV):List PV:=row.take off ++ cells ++ row.drop (off + cells.length)
def maxBytes:Nat:=140737488355328
def fillP (place:Nat → Option (Nat × Nat)) (cells:List PV):List (Nat × PV) → Option (List PV)
 | []=>some cells
 | (i,v) :: rest=>match place i,cellsV v with
  | some (off,size),some cs=>if cs.length = size ∧ off + size ≤ cells.length then fillP place (splice cells off cs) rest else none
  | _,_=>none
def rowsP (sz:Nat):Nat → List (Nat × PV) → Option (List (List PV))
 | _,[]=>some []
 | k,(i,v) :: rest=>match cellsV v with
  | some cs=>if i = k ∧ cs.length = sz then (rowsP sz (k + 1) rest).map (cs :: ·) else none
  | none=>none
def storeW (σ:Store) (K:PV → Store → Prop) (cells:List PV):PV → Prop
 | .ptr o ver i off=>∃ elem sz rows row,σ[o]? = some (.rows elem sz rows ver) ∧ rows[i]? = some row ∧ off + cells.length ≤ row.length ∧ K .undef (σ.set o (.rows elem sz (rows.set i (splice row off cells)) ver))
 | _=>False
def appW (P:Program) (σ:Store) (K:PV → Store → Prop) (elem:TypeId) (news:List (List PV)):PV → Prop
 | .nils=>news.length * P.bytesOf elem ≤ maxBytes ∧ news.length ≤ maxLen ∧ ((news = [] ∧ K .nils σ) ∨ (news ≠ [] ∧ K (.msl σ.length 0) (σ ++ [.rows elem (P.cellsOf elem) news 0])))
 | .msl o ver=>∃ rows,σ[o]? = some (.rows elem (P.cellsOf elem) rows ver) ∧ (rows.length + news.length) * P.bytesOf elem ≤ maxBytes ∧ rows.length + news.length ≤ maxLen ∧
   K (.msl o (ver + 1)) (σ.set o (.rows elem (P.cellsOf elem) (rows ++ news) (ver + 1)))
 | .mpre o ver h=>∃ rows,σ[o]? = some (.rows elem (P.cellsOf elem) rows ver) ∧ h ≤ rows.length ∧ ((rows.take h).length + news.length) * P.bytesOf elem ≤ maxBytes ∧ (rows.take h).length + news.length ≤ maxLen ∧
   K (.msl o (ver + 1 + 1)) ((σ.set o (.rows elem (P.cellsOf elem) (rows.take h) (ver + 1))).set o (.rows elem (P.cellsOf elem) (rows.take h ++ news) (ver + 1 + 1)))
 | _=>False
def clrW (P:Program) (σ:Store) (K:PV → Store → Prop) (elem:TypeId) (zs:List PV):PV → Prop
 | .msuf o ver l=>∃ el rows,σ[o]? = some (.rows el (P.cellsOf elem) rows ver) ∧ l ≤ rows.length ∧ K (.tup []) (σ.set o (.rows el (P.cellsOf elem) (rows.take l ++ List.replicate (rows.length - l) zs) ver))
 | _=>False
def evE (P:Program) (σ:Store) (e:Operand → PV) (K:PV → Store → Prop):Op → Prop
 | .alloc t=>∃ zs,zeroCells P t = some zs ∧ K (.ptr σ.length 0 0 0) (σ ++ [.rows t zs.length [zs] 0])
 | .box t x=>∃ cells,cellsV (e x) = some cells ∧ K (.ptr σ.length 0 0 0) (σ ++ [.rows t cells.length [cells] 0])
 | .store t a x=>∃ cells,cellsV (e x) = some cells ∧ cells.length = P.cellsOf t ∧ P.cellsOf t ≠ 0 ∧ storeW σ K cells (e a)
 | .makeSlice t l c=>match e l,e c with
  | .int _ n,.int _ m=>n = m ∧ 0 ≤ n ∧ ∃ elem zs,P.underlying t = some (.slice elem) ∧ zeroCells P elem = some zs ∧ zs.length = P.cellsOf elem ∧ n.toNat * P.bytesOf elem ≤ maxBytes ∧ n ≤ 9223372036854775807 ∧
    K (.msl σ.length 0) (σ ++ [.rows elem zs.length (List.replicate n.toNat zs) 0])
  | _,_=>False
 | .slice t x lo hi mx=>match P.underlying t,mx with
  | some (.slice elem),none=>∃ l h:Nat,(match lo with | none=>l = 0 | some a=>e a = .int .i64 l) ∧ l ≤ h ∧ (match e x with
   | .nils=>(match hi with | none=>h = 0 | some b=>e b = .int .i64 h) ∧ h = 0 ∧ P.cellsOf elem ≠ 0 ∧ K .nils σ
   | .sl rows=>(match hi with | none=>h = rows.length | some b=>e b = .int .i64 h) ∧ h ≤ rows.length ∧ P.cellsOf elem ≠ 0 ∧ (∀ row ∈ rows,row.length = P.cellsOf elem) ∧ K (.sl ((rows.take h).drop l)) σ
   | .msl o ver=>∃ el rows,σ[o]? = some (.rows el (P.cellsOf elem) rows ver) ∧ (match hi with | none=>h = rows.length | some b=>e b = .int .i64 h) ∧ h ≤ rows.length ∧ P.cellsOf elem ≠ 0 ∧ ((l = 0 ∧ (K (.msl o (ver + 1)) (σ.set o (.rows el (P.cellsOf elem) (rows.take h) (ver + 1))) ∨ K (.mpre o ver h) σ)) ∨ (h = rows.length ∧ K (.msuf o ver l) σ))
   | .mpre o ver h0=>(match hi with | none=>h = h0 | some b=>e b = .int .i64 h) ∧ h ≤ h0 ∧ l = 0 ∧ P.cellsOf elem ≠ 0 ∧ K (.mpre o ver h) σ
   | _=>False)
  | _,_=>False
 | .build t parts=>∃ zs,zeroCells P t = some zs ∧ (match P.underlying t with
  | some (.struct fields)=>∃ cells,fillP (fun i=>(fields[i]?).map fun f=>(f.offset,P.cellsOf f.type)) zs (parts.toList.map fun (i,x)=>(i,e x)) = some cells ∧ fields.all (fun f=>(P.info? f.type).isSome) = true ∧ K (.agg cells) σ
  | some (.array _ elem)=>∃ cells,fillP (fun i=>some (i * P.cellsOf elem,P.cellsOf elem)) zs (parts.toList.map fun (i,x)=>(i,e x)) = some cells ∧ P.cellsOf elem ≠ 0 ∧ K (.agg cells) σ
  | _=>False)
 | .buildSlice t len parts=>∃ elem rows zs,P.underlying t = some (.slice elem) ∧ P.cellsOf elem ≠ 0 ∧ zeroCells P elem = some zs ∧ zs.length = P.cellsOf elem ∧ rowsP (P.cellsOf elem) 0 (parts.toList.map fun (i,x)=>(i,e x)) = some rows ∧
   rows.length = len ∧ len * P.cellsOf elem ≤ 16777216 ∧ ((rows = [] ∧ K (.sl []) σ) ∨ (rows ≠ [] ∧ K (.sl rows) σ) ∨ (True ∧ K (.msl σ.length 0) (σ ++ [.rows elem (P.cellsOf elem) rows 0])))
 | .call c=>match c.callee,c.args.toList,c.argTypes.toList with
  | .builtin .append,[s,x],[t,tx]=>∃ elem zs,P.underlying t = some (.slice elem) ∧ P.underlying tx = some (.slice elem) ∧ zeroCells P elem = some zs ∧ zs.length = P.cellsOf elem ∧ P.cellsOf elem ≠ 0 ∧
    rowsOf σ (fun news=>(∀ row ∈ news,row.length = P.cellsOf elem ∧ row.all PV.cell = true) ∧ appW P σ K elem news (e s)) (e x)
  | .builtin .clear,[x],[t]=>∃ elem zs,P.underlying t = some (.slice elem) ∧ zeroCells P elem = some zs ∧ zs.length = P.cellsOf elem ∧ zs.all PV.cell = true ∧ clrW P σ K elem zs (e x)
  | _,_,_=>False
 | _=>False
section
variable {I:Imm} {ρ:Rho} {σ:Store} {w:World} {P:Program}
theorem cellsV_spec {p:PV} {v:Value} (h:R I ρ p v) {cells:List PV} (hc:cellsV p = some cells) :
  v.cells.size = cells.length ∧ (∀ (j:Nat) (q:PV),cells[j]? = some q → ∃ u,v.cells[j]? = some u ∧ R I ρ q u) ∧ ∀ u ∈ v.cells,u.oneCell' = true:=by
 have single:∀ (hcell:p.cell = true) (hnot:v.cells = #[v]),cells = [p] → v.cells.size = cells.length ∧ (∀ (j:Nat) (q:PV),cells[j]? = some q → ∃ u,v.cells[j]? = some u ∧ R I ρ q u) ∧ ∀ u ∈ v.cells,u.oneCell' = true:=by
  intro hcell hnot hcs
  subst hcs
  rw [hnot]
  refine ⟨rfl,?_,?_⟩
  ·intro j q hj
   cases j with
   | zero=>simp at hj; subst hj; exact ⟨v,rfl,h⟩
   | succ j=>simp at hj
  ·intro u hu
   simp at hu
   subst hu
   exact h.oneCell hcell
 cases h
 case agg cl cs hs hr =>
  simp only [cellsV] at hc
  split at hc
  ·rename_i hall
   cases hc
   have h1:∀ (j:Nat) (q:PV),cells[j]? = some q → ∃ u,cs[j]? = some u ∧ R I ρ q u:=fun j q hj=>by
    have hlt:j < cs.size:=by have:=(List.getElem?_eq_some_iff.1 hj).1; omega
    refine ⟨cs[j],Array.getElem?_eq_getElem hlt,?_⟩
    have:=hr j q hj
    simpa [Array.getD_eq_getD_getElem?,hlt] using this
   refine ⟨hs,h1,?_⟩
   intro u hu
   obtain ⟨j,hj,rfl⟩:=Array.getElem_of_mem hu
   simp only [Value.cells] at hj ⊢
   obtain ⟨u',hu',hR⟩:=h1 j (cells[j]'(by omega)) (List.getElem?_eq_getElem _)
   rw [Array.getElem?_eq_getElem hj] at hu'
   cases hu'
   exact hR.oneCell (List.all_eq_true.1 hall _ (List.getElem_mem _))
  ·cases hc
 all_goals first
  | (simp [cellsV,PV.cell] at hc; done)
  | (simp only [cellsV,PV.cell,if_true,Option.some.injEq] at hc; exact single rfl rfl hc.symm)
theorem zero_spec {t:TypeId} {zs:List PV} (h:zeroCells P t = some zs):∃ i z,P.info? t = some i ∧ i.zero = some z ∧ z.cells.size = zs.length ∧ (∀ (j:Nat) (q:PV),zs[j]? = some q → ∃ u,z.cells[j]? = some u ∧ ∀ I ρ,R I ρ q u):=by
 unfold zeroCells at h
 cases hi:P.info? t with
 | none=>simp [hi] at h
 | some i =>
  cases hz:i.zero with
  | none=>simp [hi,hz] at h
  | some z =>
   simp [hi,hz] at h
   subst h
   refine ⟨i,z,rfl,hz,by simp,fun j q hj=>?_⟩
   simp only [List.getElem?_map,Array.getElem?_toList,Option.map_eq_some_iff] at hj
   obtain ⟨u,hu,rfl⟩:=hj
   exact ⟨u,hu,fun I ρ=>.ofVal I ρ u⟩
def Does (P:Program) (I:Imm) (ρ:Rho) (σ:Store) (w:World) (K:PV → Store → Prop) (s:Sem Value):Prop :=
 ∃ p σ' I' ρ' v w',K p σ' ∧ R I' ρ' p v ∧ s.run P w = .ok v w' ∧ Inv I' ρ' σ' w' ∧ Grow I ρ σ w I' ρ' σ' w'
theorem alloc_heap_old (w:World) (o:Go.Obj) (b:Nat) (h:b < w.heap.size):(w.alloc o).heap[b]? = w.heap[b]?:=Go.heap_alloc_old w o h
theorem new_var (hinv:Inv I ρ σ w) {t:TypeId} {cells:List PV} {cs:Array Value} (hs:cs.size = cells.length) (hr:∀ (j:Nat) (q:PV),cells[j]? = some q → ∃ u,cs[j]? = some u ∧ R I ρ q u) :
  ∃ I' ρ' L,Inv I' ρ' (σ ++ [.rows t cells.length [cells] 0]) (w.alloc (.cells cs t)) ∧ Grow I ρ σ w I' ρ' (σ ++ [.rows t cells.length [cells] 0]) (w.alloc (.cells cs t)) ∧ ρ' σ.length 0 = some L ∧ L.block = w.heap.size:=by
 have hle:=extR_le (L:=⟨w.heap.size,cells.length,1,1⟩) (.inl (hinv.free σ.length 0 (Nat.le_refl _)))
 have hobj:ObjInv I (extR ρ σ.length 0 ⟨w.heap.size,cells.length,1,1⟩) (w.alloc (.cells cs t)) σ.length (.rows t cells.length [cells] 0):=by
  refine ⟨⟨w.heap.size,cells.length,1,1⟩,cs,extR_same _ _ _ _,rfl,rfl,heap_alloc_new w _,Nat.le_refl _,by simp [maxLen],by simp [hs],by simp,?_,?_,?_⟩
  ·intro i row j p hi hj
   cases i with
   | zero =>
    simp at hi
    subst hi
    obtain ⟨u,hu,hR⟩:=hr j p hj
    exact ⟨u,by simpa using hu,hR.mono (fun _ _ _ h=>h) hle⟩
   | succ i=>simp at hi
  ·intro off
   cases hI:I w.heap.size off with
   | none=>rfl
   | some v=>exact absurd (World.block_lt_of_cell? w ⟨w.heap.size,off,none⟩ (hinv.imm _ _ _ hI)) (by simp)
  ·intro v' hv'
   rw [extR_other (by omega)]
   exact hinv.free _ _ (Nat.le_refl _)
 obtain ⟨h1,h2⟩:=hinv.newObj (w':=w.alloc (.cells cs t)) rfl (Nat.le_refl _) (fun b hb=>alloc_heap_old w _ b hb) (by simp) rfl rfl rfl hobj
 exact ⟨_,_,_,h1,h2,extR_same _ _ _ _,rfl⟩
theorem imm_new (hinv:Inv I ρ σ w) {b:Nat} (hb:w.heap.size ≤ b) (off:Nat):I b off = none:=by
 cases hI:I b off with
 | none=>rfl
 | some v=>exact absurd (World.block_lt_of_cell? w ⟨b,off,none⟩ (hinv.imm _ _ _ hI)) (by simp; omega)
theorem new_rows (hinv:Inv I ρ σ w) {w':World} {elem sz cap:Nat} {rows:List (List PV)} {cs:Array Value} (hsz:∀ row ∈ rows,row.length = sz) (hcap:rows.length ≤ cap) (hm:cap ≤ maxLen) (hcs:cs.size = cap * sz)
  (hr:∀ (i:Nat) (row:List PV) (j:Nat) (p:PV),rows[i]? = some row → row[j]? = some p → ∃ u,cs[i * sz + j]? = some u ∧ R I ρ p u)
  (hnew:w'.heap[w.heap.size]? = some (.cells cs elem (0,0))) (hframe:∀ b,b < w.heap.size → w'.heap[b]? = w.heap[b]?) (hos:w'.os = w.os) (htape:w'.tape = w.tape) (hout:w'.output = w.output) :
  ∃ I' ρ',Inv I' ρ' (σ ++ [.rows elem sz rows 0]) w' ∧ Grow I ρ σ w I' ρ' (σ ++ [.rows elem sz rows 0]) w' ∧ ρ' σ.length 0 = some ⟨w.heap.size,sz,rows.length,cap⟩:=by
 have hle:=extR_le (L:=⟨w.heap.size,sz,rows.length,cap⟩) (.inl (hinv.free σ.length 0 (Nat.le_refl _)))
 have hlt:w.heap.size < w'.heap.size:=(Array.getElem?_eq_some_iff.1 hnew).1
 have hobj:ObjInv I (extR ρ σ.length 0 ⟨w.heap.size,sz,rows.length,cap⟩) w' σ.length (.rows elem sz rows 0):=by
  refine ⟨⟨w.heap.size,sz,rows.length,cap⟩,cs,extR_same _ _ _ _,rfl,rfl,hnew,hcap,hm,hcs,hsz,?_,imm_new hinv (Nat.le_refl _),?_⟩
  ·intro i row j p hi hj
   obtain ⟨u,hu,hR⟩:=hr i row j p hi hj
   exact ⟨u,hu,hR.mono (fun _ _ _ h=>h) hle⟩
  ·intro v' hv'
   rw [extR_other (by omega)]
   exact hinv.free _ _ (Nat.le_refl _)
 obtain ⟨h1,h2⟩:=hinv.newObj (w':=w') rfl (Nat.le_refl _) hframe (by omega) hos htape hout hobj
 exact ⟨_,_,h1,h2,extR_same _ _ _ _⟩
theorem upd_rows (hinv:Inv I ρ σ w) {o elem sz ver ver':Nat} {rows rows':List (List PV)} {w':World} {L L':Loc} {cs:Array Value} (ho:σ[o]? = some (.rows elem sz rows ver)) (hL:ρ o ver = some L)
  (hver:(ver' = ver ∧ L' = L) ∨ ver' = ver + 1) (hLs:L'.sz = sz) (hLl:L'.len = rows'.length) (hcap:L'.len ≤ L'.cap) (hm:L'.cap ≤ maxLen) (hcs:cs.size = L'.cap * sz) (hb':L'.block = L.block ∨ w.heap.size ≤ L'.block)
  (hsz:∀ row ∈ rows',row.length = sz)
  (hr:∀ (i:Nat) (row:List PV) (j:Nat) (p:PV),rows'[i]? = some row → row[j]? = some p → ∃ u,cs[i * sz + j]? = some u ∧ R I ρ p u)
  (hnew:w'.heap[L'.block]? = some (.cells cs elem (0,0))) (hframe:∀ b,b < w.heap.size → b ≠ L.block → w'.heap[b]? = w.heap[b]?) (hsize:w.heap.size ≤ w'.heap.size) (hos:w'.os = w.os) (htape:w'.tape = w.tape) (hout:w'.output = w.output) :
  ∃ ρ',Inv I ρ' (σ.set o (.rows elem sz rows' ver')) w' ∧ Grow I ρ σ w I ρ' (σ.set o (.rows elem sz rows' ver')) w' ∧ ρ' o ver' = some L':=by
 obtain ⟨L0,cs0,hL0,h1,h2,h3,h4,h5,h6,h7,h8,h9,h10⟩:=hinv.objs o _ ho
 cases hL.symm.trans hL0
 have hfree:ρ o ver' = none ∨ ρ o ver' = some L':=by
  rcases hver with ⟨rfl,rfl⟩ | rfl
  ·exact .inr hL
  ·exact .inl (h10 _ (Nat.lt_succ_self _))
 have hle:=extR_le hfree
 have hobj:ObjInv I (extR ρ o ver' L') w' o (.rows elem sz rows' ver'):=by
  refine ⟨L',cs,extR_same _ _ _ _,hLs,hLl,hnew,hcap,hm,hcs,hsz,?_,?_,?_⟩
  ·intro i row j p hi hj
   obtain ⟨u,hu,hR⟩:=hr i row j p hi hj
   exact ⟨u,hu,hR.mono (fun _ _ _ h=>h) hle⟩
  ·intro off
   rcases hb' with hb' | hb'
   ·rw [hb']; exact h9 off
   ·exact imm_new hinv hb' off
  ·intro v' hv'
   rw [extR_other (by omega)]
   rcases hver with ⟨rfl,_⟩ | rfl
   ·exact h10 _ hv'
   ·exact h10 _ (by omega)
 have:=hinv.update (obj':=.rows elem sz rows' ver') (L':=L') (w':=w') ho (by simp) hL hfree hb' hframe hsize hos htape hout hobj
 exact ⟨_,this.1,this.2,extR_same _ _ _ _⟩
theorem splice_length {row cells:List PV} {off:Nat} (h:off + cells.length ≤ row.length):(splice row off cells).length = row.length:=by
 simp [splice]; omega
theorem splice_get {row cells:List PV} {off j:Nat} {p:PV} (h:off + cells.length ≤ row.length) (hj:(splice row off cells)[j]? = some p) :
  (off ≤ j ∧ j < off + cells.length ∧ cells[j - off]? = some p) ∨ (¬ (off ≤ j ∧ j < off + cells.length) ∧ row[j]? = some p):=by
 unfold splice at hj
 rw [List.append_assoc,List.getElem?_append] at hj
 simp only [List.length_take] at hj
 split at hj
 ·rename_i h1
  rw [List.getElem?_take] at hj
  split at hj
  ·exact .inr ⟨by omega,hj⟩
  ·cases hj
 ·rename_i h1
  rw [show j - min off row.length = j - off from by omega,List.getElem?_append] at hj
  split at hj
  ·exact .inl ⟨by omega,by omega,hj⟩
  ·rw [List.getElem?_drop] at hj
   exact .inr ⟨by omega,by rw [← hj]; congr 1; omega⟩
theorem mul_add_inj {a b c d n:Nat} (hb:b < n) (hd:d < n) (h:a * n + b = c * n + d):a = c ∧ b = d:=by
 have h1:(a * n + b) / n = a:=by rw [Nat.mul_comm,Nat.mul_add_div (by omega),Nat.div_eq_of_lt hb]; rfl
 have h2:(c * n + d) / n = c:=by rw [Nat.mul_comm,Nat.mul_add_div (by omega),Nat.div_eq_of_lt hd]; rfl
 rw [h] at h1
 have:=h1.symm.trans h2
 subst this
 exact ⟨rfl,by omega⟩
theorem idx_lt {a b n m:Nat} (ha:a < m) (hb:b < n):a * n + b < m * n:=by
 have:(a + 1) * n ≤ m * n:=Nat.mul_le_mul_right n ha
 rw [Nat.add_mul] at this
 omega
end
end Go.PV
