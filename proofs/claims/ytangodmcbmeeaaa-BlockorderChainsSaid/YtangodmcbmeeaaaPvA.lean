import Derived.WalkKit
set_option maxRecDepth 8000
namespace Go.PV
inductive PV where
 | unk
 | undef
 | bool (b:Bool)
 | int (k:IntKind) (n:Int)
 | str (s:ByteArray)
 | nilp
 | ptr (o ver i off:Nat)
 | iptr (row:List PV) (off:Nat)
 | nils
 | sl (rows:List (List PV))
 | msl (o ver:Nat)
 | mpre (o ver h:Nat)
 | msuf (o ver l:Nat)
 | nilm
 | map (o:Nat)
 | nilf
 | func (fn:Fn) (first cap:List PV)
 | agg (cells:List PV)
 | tup (vs:List PV)
instance:Inhabited PV:=⟨.unk⟩
structure Loc where
 block:Nat
 sz:Nat
 len:Nat
 cap:Nat
abbrev Imm:=Nat → Nat → Option Value
abbrev Rho:=Nat → Nat → Option Loc
inductive R (I:Imm) (ρ:Rho):PV → Value → Prop where
 | unk (v:Value):R I ρ .unk v
 | undef:R I ρ .undef Go.undef
 | bool (b:Bool):R I ρ (.bool b) (.bool b)
 | int (k:IntKind) (n:Int):R I ρ (.int k n) (.int k n)
 | str (s:ByteArray):R I ρ (.str s) (.string s)
 | nilp:R I ρ .nilp (.pointer none)
 | ptr (o ver i off:Nat) (L:Loc):ρ o ver = some L → R I ρ (.ptr o ver i off) (.pointer (some ⟨L.block,i * L.sz + off,none⟩))
 | iptr (row:List PV) (off b base:Nat) (vs:Nat → Value):(∀ (j:Nat) (p:PV),row[j]? = some p → I b (base + j) = some (vs j)) →
   (∀ (j:Nat) (p:PV),row[j]? = some p → R I ρ p (vs j)) → R I ρ (.iptr row off) (.pointer (some ⟨b,base + off,none⟩))
 | nils:R I ρ .nils (.slice none 0 0)
 | sl (rows:List (List PV)) (b base sz cap:Nat) (vs:Nat → Nat → Value):rows.length ≤ cap → (∀ row ∈ rows,row.length = sz) →
   (∀ (i:Nat) (row:List PV) (j:Nat) (p:PV),rows[i]? = some row → row[j]? = some p → I b (base + i * sz + j) = some (vs i j)) →
   (∀ (i:Nat) (row:List PV) (j:Nat) (p:PV),rows[i]? = some row → row[j]? = some p → R I ρ p (vs i j)) →
   R I ρ (.sl rows) (.slice (some ⟨b,base,none⟩) rows.length cap)
 | slNil (a:Option Addr) (c:Nat):R I ρ (.sl []) (.slice a 0 c)
 | msl (o ver:Nat) (L:Loc):ρ o ver = some L → R I ρ (.msl o ver) (.slice (some ⟨L.block,0,none⟩) L.len L.cap)
 | mpre (o ver h:Nat) (L:Loc):ρ o ver = some L → h ≤ L.cap → R I ρ (.mpre o ver h) (.slice (some ⟨L.block,0,none⟩) h L.cap)
 | msuf (o ver l:Nat) (L:Loc) (a:Option Addr):ρ o ver = some L → l ≤ L.len → (l < L.len → a = some ⟨L.block,l * L.sz,none⟩) → R I ρ (.msuf o ver l) (.slice a (L.len - l) (L.cap - l))
 | nilm:R I ρ .nilm (.map none)
 | map (o:Nat) (L:Loc):ρ o 0 = some L → R I ρ (.map o) (.map (some L.block))
 | nilf:R I ρ .nilf .nilFunc
 | func (fn:Fn) (first cap:List PV) (fs cs:Array Value):fs.size = first.length → cs.size = cap.length →
   (∀ (j:Nat) (p:PV),first[j]? = some p → R I ρ p (fs.getD j Go.undef)) → (∀ (j:Nat) (p:PV),cap[j]? = some p → R I ρ p (cs.getD j Go.undef)) →
   R I ρ (.func fn first cap) (.func fn fs cs)
 | agg (cells:List PV) (cs:Array Value):cs.size = cells.length → (∀ (j:Nat) (p:PV),cells[j]? = some p → R I ρ p (cs.getD j Go.undef)) → R I ρ (.agg cells) (.agg cs)
 | tup (vs:List PV) (cs:Array Value):cs.size = vs.length → (∀ (j:Nat) (p:PV),vs[j]? = some p → R I ρ p (cs.getD j Go.undef)) → R I ρ (.tup vs) (.tuple cs)
theorem R.mono {I I':Imm} {ρ ρ':Rho} (hI:∀ b off v,I b off = some v → I' b off = some v) (hρ:∀ o ver L,ρ o ver = some L → ρ' o ver = some L) {p:PV} {v:Value} (h:R I ρ p v):R I' ρ' p v:=by
 induction h with
 | unk v=>exact .unk v
 | undef=>exact .undef
 | bool b=>exact .bool b
 | int k n=>exact .int k n
 | str s=>exact .str s
 | nilp=>exact .nilp
 | ptr o ver i off L h=>exact .ptr o ver i off L (hρ _ _ _ h)
 | iptr row off b base vs h1 h2 ih=>exact .iptr row off b base vs (fun j p hj=>hI _ _ _ (h1 j p hj)) ih
 | nils=>exact .nils
 | sl rows b base sz cap vs h0 h1 h2 h3 ih=>exact .sl rows b base sz cap vs h0 h1 (fun i row j p hr hj=>hI _ _ _ (h2 i row j p hr hj)) ih
 | slNil a c=>exact .slNil a c
 | msl o ver L h=>exact .msl o ver L (hρ _ _ _ h)
 | mpre o ver h' L h hh=>exact .mpre o ver h' L (hρ _ _ _ h) hh
 | msuf o ver l L a h h1 h2=>exact .msuf o ver l L a (hρ _ _ _ h) h1 h2
 | nilm=>exact .nilm
 | map o L h=>exact .map o L (hρ _ _ _ h)
 | nilf=>exact .nilf
 | func fn first cap fs cs h1 h2 h3 h4 ih1 ih2=>exact .func fn first cap fs cs h1 h2 ih1 ih2
 | agg cells cs h1 h2 ih=>exact .agg cells cs h1 ih
 | tup vs cs h1 h2 ih=>exact .tup vs cs h1 ih
def PV.cell:PV → Bool
 | .agg _ | .tup _ | .unk | .undef=>false
 | _=>true
theorem R.oneCell {I:Imm} {ρ:Rho} {p:PV} {v:Value} (h:R I ρ p v) (hp:p.cell = true):v.oneCell' = true:=by
 cases h <;> simp [PV.cell] at hp <;> rfl
inductive Obj where
 | dead
 | rows (elem:TypeId) (sz:Nat) (rows:List (List PV)) (ver:Nat)
 | map (es:List (PV × PV))
instance:Inhabited Obj:=⟨.dead⟩
abbrev Store:=List Obj
def ObjInv (I:Imm) (ρ:Rho) (w:World) (o:Nat):Obj → Prop
 | .dead=>True
 | .rows elem sz rows ver=>∃ (L:Loc) (cs:Array Value),ρ o ver = some L ∧ L.sz = sz ∧ L.len = rows.length ∧ w.heap[L.block]? = some (.cells cs elem (0,0)) ∧
   L.len ≤ L.cap ∧ L.cap ≤ maxLen ∧ cs.size = L.cap * sz ∧ (∀ row ∈ rows,row.length = sz) ∧
   (∀ (i:Nat) (row:List PV) (j:Nat) (p:PV),rows[i]? = some row → row[j]? = some p → ∃ v,cs[i * sz + j]? = some v ∧ R I ρ p v) ∧
   (∀ off,I L.block off = none) ∧ (∀ v',ver < v' → ρ o v' = none)
 | .map es=>∃ (L:Loc) (ms:Array MapEntry) (clock:Nat),ρ o 0 = some L ∧ w.heap[L.block]? = some (.map ms clock) ∧ ms.size = es.length ∧
   (∀ (i:Nat) (e:PV × PV),es[i]? = some e → ∃ m,ms[i]? = some m ∧ R I ρ e.1 m.key ∧ R I ρ e.2 m.val) ∧ (∀ off,I L.block off = none)
def verOf:Obj → Nat
 | .rows _ _ _ ver=>ver
 | _=>0
def BlockIs (ρ:Rho) (σ:Store) (o b:Nat):Prop :=
 ∃ obj L,σ[o]? = some obj ∧ obj ≠ .dead ∧ ρ o (verOf obj) = some L ∧ L.block = b
def Live (ρ:Rho) (σ:Store) (b:Nat):Prop:=∃ o,BlockIs ρ σ o b
structure Inv (I:Imm) (ρ:Rho) (σ:Store) (w:World):Prop where
 objs:∀ o obj,σ[o]? = some obj → ObjInv I ρ w o obj
 apart:∀ o o' b,BlockIs ρ σ o b → BlockIs ρ σ o' b → o = o'
 imm:∀ b off v,I b off = some v → w.cell? ⟨b,off,none⟩ = some v
 free:∀ o ver,σ.length ≤ o → ρ o ver = none
structure Grow (I:Imm) (ρ:Rho) (σ:Store) (w:World) (I':Imm) (ρ':Rho) (σ':Store) (w':World):Prop where
 imm:∀ b off v,I b off = some v → I' b off = some v
 rho:∀ o ver L,ρ o ver = some L → ρ' o ver = some L
 os:w'.os = w.os
 tape:w'.tape = w.tape
 output:w'.output = w.output
 size:w.heap.size ≤ w'.heap.size
 frame:∀ b,b < w.heap.size → ¬ Live ρ σ b → w'.heap[b]? = w.heap[b]?
 newImm:∀ b off,I b off = none → I' b off ≠ none → Live ρ σ b ∨ w.heap.size ≤ b
 newLive:∀ b,Live ρ' σ' b → Live ρ σ b ∨ w.heap.size ≤ b
 deadR:∀ o ver,σ[o]? = some .dead → ρ' o ver = ρ o ver
 deadS:∀ o:Nat,σ[o]? = some .dead → σ'[o]? = some .dead
theorem Grow.refl (I:Imm) (ρ:Rho) (σ:Store) (w:World):Grow I ρ σ w I ρ σ w :=
 ⟨fun _ _ _ h=>h,fun _ _ _ h=>h,rfl,rfl,rfl,Nat.le_refl _,fun _ _ _=>rfl,fun _ _ h h'=>absurd h h',fun _ h=>.inl h,fun _ _ _=>rfl,fun _ h=>h⟩
theorem Grow.trans {I I1 I2:Imm} {ρ ρ1 ρ2:Rho} {σ σ1 σ2:Store} {w w1 w2:World} (h:Grow I ρ σ w I1 ρ1 σ1 w1) (k:Grow I1 ρ1 σ1 w1 I2 ρ2 σ2 w2):Grow I ρ σ w I2 ρ2 σ2 w2 where
 imm b off v hv:=k.imm _ _ _ (h.imm _ _ _ hv)
 rho o ver L hL:=k.rho _ _ _ (h.rho _ _ _ hL)
 os:=k.os.trans h.os
 tape:=k.tape.trans h.tape
 output:=k.output.trans h.output
 size:=Nat.le_trans h.size k.size
 frame b hb hl:=by
  have h1:¬ Live ρ1 σ1 b:=fun hl1=>by
   rcases h.newLive b hl1 with h' | h'
   ·exact hl h'
   ·omega
  rw [k.frame b (Nat.lt_of_lt_of_le hb h.size) h1,h.frame b hb hl]
 newImm b off hn hs:=by
  cases hI1:I1 b off with
  | some v=>exact h.newImm b off hn (by simp [hI1])
  | none =>
   rcases k.newImm b off hI1 hs with h' | h'
   ·exact h.newLive b h'
   ·exact .inr (Nat.le_trans h.size h')
 newLive b hl:=by
  rcases k.newLive b hl with h' | h'
  ·exact h.newLive b h'
  ·exact .inr (Nat.le_trans h.size h')
 deadR o ver hd:=(k.deadR o ver (h.deadS o hd)).trans (h.deadR o ver hd)
 deadS o hd:=k.deadS o (h.deadS o hd)
theorem Grow.R {I I':Imm} {ρ ρ':Rho} {σ σ':Store} {w w':World} (h:Grow I ρ σ w I' ρ' σ' w') {p:PV} {v:Value} (hp:R I ρ p v):R I' ρ' p v:=hp.mono h.imm h.rho
theorem Inv.of_heap {I:Imm} {ρ:Rho} {σ:Store} {w w':World} (h:Inv I ρ σ w) (hh:w'.heap = w.heap):Inv I ρ σ w' where
 objs o obj ho:=by
  have:=h.objs o obj ho
  cases obj with
  | dead=>trivial
  | rows elem sz rows ver=>simpa only [ObjInv,hh] using this
  | map es=>simpa only [ObjInv,hh] using this
 apart:=h.apart
 imm b off v hv:=by have:=h.imm b off v hv; simpa only [World.cell?,hh] using this
 free:=h.free
theorem Grow.of_heap (I:Imm) (ρ:Rho) (σ:Store) {w w':World} (hh:w'.heap = w.heap) (ho:w'.os = w.os) (ht:w'.tape = w.tape) (hp:w'.output = w.output):Grow I ρ σ w I ρ σ w' :=
 ⟨fun _ _ _ h=>h,fun _ _ _ h=>h,ho,ht,hp,by simp [hh],fun _ _ _=>by rw [hh],fun _ _ h h'=>absurd h h',fun _ h=>.inl h,fun _ _ _=>rfl,fun _ h=>h⟩
abbrev Fr:=List (Nat × PV)
def look:Fr → Nat → PV
 | [],_=>.unk
 | (k,x) :: r,t=>if k = t then x else look r t
def setF:Fr → Nat → PV → Fr
 | [],d,v=>[(d,v)]
 | (k,x) :: r,d,v=>if k = d then (k,v) :: r else (k,x) :: setF r d v
theorem look_setF (fr:Fr) (d t:Nat) (v:PV):look (setF fr d v) t = if d = t then v else look fr t:=by
 induction fr with
 | nil=>rfl
 | cons kx r ih =>
  obtain ⟨k,x⟩:=kx
  simp only [setF]
  by_cases hk:k = d
  ·subst hk
   by_cases ht:k = t <;> simp [look,ht]
  ·simp only [hk,if_false,look,ih]
   by_cases ht:k = t
   ·subst ht; simp [Ne.symm hk]
   ·simp [ht]
def Frel (I:Imm) (ρ:Rho) (n:Nat) (fr:Fr) (tmps:Array Value):Prop :=
 tmps.size = n ∧ ∀ t,R I ρ (look fr t) (tmps.getD t Go.undef)
theorem Frel.mono {I I':Imm} {ρ ρ':Rho} {n:Nat} {fr:Fr} {tmps:Array Value} (hI:∀ b off v,I b off = some v → I' b off = some v) (hρ:∀ o ver L,ρ o ver = some L → ρ' o ver = some L)
  (h:Frel I ρ n fr tmps):Frel I' ρ' n fr tmps:=⟨h.1,fun t=>(h.2 t).mono hI hρ⟩
def putF (fr:Fr):Option Nat → PV → Fr
 | some d,v=>setF fr d v
 | none,_=>fr
def fits (n:Nat):Option Nat → Prop
 | some d=>d < n
 | none=>True
theorem Frel.put {I:Imm} {ρ:Rho} {n:Nat} {fr:Fr} {a:Act} {dst:Option Nat} {p:PV} {v:Value} (h:Frel I ρ n fr a.tmps) (hd:fits n dst) (hp:R I ρ p v):Frel I ρ n (putF fr dst p) (a.put dst v).tmps:=by
 cases dst with
 | none=>exact h
 | some d =>
  refine ⟨by simpa [Act.put] using h.1,fun t=>?_⟩
  simp only [putF,look_setF,Act.put]
  have hdn:d < a.tmps.size:=by rw [h.1]; exact hd
  by_cases ht:d = t
  ·subst ht
   simp only [if_true]
   rw [Array.getD_eq_getD_getElem?,Array.getElem?_setIfInBounds_self_of_lt hdn]
   exact hp
  ·simp only [ht,if_false]
   have:=h.2 t
   rw [Array.getD_eq_getD_getElem?] at this ⊢
   rwa [Array.getElem?_setIfInBounds_ne ht]
theorem Frel.weaken {I:Imm} {ρ:Rho} {n:Nat} {fr fr':Fr} {tmps:Array Value} (h:Frel I ρ n fr tmps) (hw:∀ t,look fr' t = look fr t ∨ look fr' t = .unk):Frel I ρ n fr' tmps :=
 ⟨h.1,fun t=>by
  rcases hw t with e | e
  ·rw [e]; exact h.2 t
  ·rw [e]; exact .unk _⟩
end Go.PV
