import Derived.Test.YtangodmcbmeeaaaPvA
import Derived.WideKeyRuns
import Derived.Laws.StructEq
set_option maxRecDepth 8000
namespace Go.PV
def ofVal:Value → PV
 | .bool b=>.bool b
 | .int k n=>.int k n
 | .string s=>.str s
 | .pointer none=>.nilp
 | .slice none 0 0=>.nils
 | .map none=>.nilm
 | .nilFunc=>.nilf
 | _=>.unk
theorem R.ofVal (I:Imm) (ρ:Rho) (v:Value):R I ρ (ofVal v) v:=by
 unfold PV.ofVal
 split <;> constructor
def evO (fr:Fr):Operand → PV
 | .tmp t=>look fr t
 | .const v=>ofVal v
 | .global _=>.unk
 | .func f=>.func (.func f) [] []
theorem Frel.evO {I:Imm} {ρ:Rho} {n:Nat} {fr:Fr} {a:Act} (h:Frel I ρ n fr a.tmps) (x:Operand):R I ρ (evO fr x) (a.eval x):=by
 cases x with
 | tmp t=>exact h.2 t
 | const v=>exact .ofVal _ _ v
 | global g=>exact .unk _
 | func f=>exact .func _ _ _ _ _ rfl rfl (by simp) (by simp)
def aggT (P:Program) (t:TypeId):Bool:=match P.underlying t with | some (.struct _)=>true | some (.array _ _)=>true | _=>false
def loadP (P:Program) (t:TypeId) (row:List PV) (off:Nat) (K:PV → Prop):Prop :=
 (P.underlying t).isSome = true ∧
 if aggT P t then off + P.cellsOf t ≤ row.length ∧ K (.agg ((row.drop off).take (P.cellsOf t))) else ∃ p,row[off]? = some p ∧ K p
def rowAt (σ:Store) (K:List PV → Nat → Prop):PV → Prop
 | .iptr row off=>K row off
 | .ptr o ver i off=>∃ elem sz rows row,σ[o]? = some (.rows elem sz rows ver) ∧ rows[i]? = some row ∧ K row off
 | _=>False
def rowsOf (σ:Store) (K:List (List PV) → Prop):PV → Prop
 | .nils=>K []
 | .sl rows=>K rows
 | .msl o ver=>∃ elem sz rows,σ[o]? = some (.rows elem sz rows ver) ∧ K rows
 | .mpre o ver h=>∃ elem sz rows,σ[o]? = some (.rows elem sz rows ver) ∧ h ≤ rows.length ∧ K (rows.take h)
 | .msuf o ver l=>∃ elem sz rows,σ[o]? = some (.rows elem sz rows ver) ∧ l ≤ rows.length ∧ K (rows.drop l)
 | _=>False
def evInt (op:BinOp) (k:IntKind) (a b:Int) (K:PV → Prop):Prop :=
 match op with
 | .add=>K (.int k (k.wrap (a + b)))
 | .sub=>K (.int k (k.wrap (a - b)))
 | .mul=>K (.int k (k.wrap (a * b)))
 | .quo=>b ≠ 0 ∧ K (.int k (k.wrap (a.tdiv b)))
 | .rem=>b ≠ 0 ∧ K (.int k (a.tmod b))
 | .and=>K (.int k (k.wrap (BitVec.ofInt k.bits a &&& BitVec.ofInt k.bits b).toNat))
 | .or=>K (.int k (k.wrap (BitVec.ofInt k.bits a ||| BitVec.ofInt k.bits b).toNat))
 | .xor=>K (.int k (k.wrap (BitVec.ofInt k.bits a ^^^ BitVec.ofInt k.bits b).toNat))
 | .eql=>K (.bool (a == b))
 | .neq=>K (.bool (a != b))
 | .lss=>K (.bool (decide (a < b)))
 | .leq=>K (.bool (decide (a ≤ b)))
 | .gtr=>K (.bool (decide (a > b)))
 | .geq=>K (.bool (decide (a ≥ b)))
 | _=>False
def isPtrT (P:Program) (t:TypeId):Bool:=match P.underlying t with | some (.pointer _)=>true | _=>false
theorem isPtrT_eq {P:Program} {t:TypeId} (h:isPtrT P t = true):∃ e,P.underlying t = some (.pointer e):=by
 unfold isPtrT at h
 split at h
 ·exact ⟨_,by assumption⟩
 ·cases h
def sameKs:List PV → List PV → Option Bool
 | [],[]=>some true
 | .int k a :: as,.int k' b :: bs=>if k = k' then (if a = b then sameKs as bs else some false) else none
 | _,_=>none
def isIntK:Option TypeDesc → IntKind → Bool
 | some (.int k),k'=>decide (k = k')
 | _,_=>false
theorem isIntK_eq {o:Option TypeDesc} {k:IntKind} (h:isIntK o k = true):o = some (.int k):=by
 unfold isIntK at h
 split at h
 ·rw [of_decide_eq_true h]
 ·cases h
def fieldsOk (P:Program):List Field → List PV → Nat → Bool
 | [],[],_=>true
 | f :: fs,.int k _ :: ps,off=>f.name != "_" && f.offset == off && isIntK (P.underlying f.type) k && fieldsOk P fs ps (off + 1)
 | _,_,_=>false
def itemsOk (P:Program) (e:TypeId):List PV → Bool
 | []=>true
 | .int k _ :: ps=>isIntK (P.underlying e) k && itemsOk P e ps
 | _=>false
def okAgg (P:Program) (t:TypeId) (cells:List PV):Bool:=!P.eqGuardType P.depth t && (match P.underlying t with
 | some (.struct fs)=>!P.stoodInHeld t && fieldsOk P fs.toList cells 0
 | some (.array n e)=>itemsOk P e cells && decide (cells.length = n ∧ P.cellsOf e = 1) && (P.info? e).isSome
 | _=>false)
def isSlcT (P:Program) (t:TypeId):Bool:=match P.underlying t with | some (.slice _)=>true | _=>false
theorem isSlcT_eq {P:Program} {t:TypeId} (h:isSlcT P t = true):∃ e,P.underlying t = some (.slice e):=by
 unfold isSlcT at h
 split at h
 ·exact ⟨_,by assumption⟩
 ·cases h
def evBin (P:Program) (op:BinOp) (t:TypeId) (x y:PV) (K:PV → Prop):Prop :=
 match op,x,y with
 | .shl,.int k a,.int _ b=>0 ≤ b ∧ K (.int k (k.wrap (a * 2 ^ (min b.toNat k.bits))))
 | .shr,.int k a,.int _ b=>0 ≤ b ∧ K (.int k (a.fdiv (2 ^ (min b.toNat k.bits))))
 | op,.int k a,.int k' b=>k = k' ∧ evInt op k a b K
 | .eql,.str a,.str b=>K (.bool (a.toList == b.toList))
 | .neq,.str a,.str b=>K (.bool !(a.toList == b.toList))
 | .add,.str a,.str b=>((a.size + b.size:Nat):Int) ≤ IntKind.i64.max ∧ K (.str (a ++ b))
 | .eql,.bool a,.bool b=>P.underlying t = some .bool ∧ K (.bool (a == b))
 | .neq,.bool a,.bool b=>P.underlying t = some .bool ∧ K (.bool (!(a == b)))
 | .eql,.nilp,.nilp=>isPtrT P t = true ∧ K (.bool true)
 | .neq,.nilp,.nilp=>isPtrT P t = true ∧ K (.bool (!true))
 | .eql,.ptr _ _ _ _,.nilp=>isPtrT P t = true ∧ K (.bool false)
 | .neq,.ptr _ _ _ _,.nilp=>isPtrT P t = true ∧ K (.bool (!false))
 | .eql,.agg as,.agg bs=>okAgg P t as = true ∧ ∃ b,sameKs as bs = some b ∧ K (.bool b)
 | .neq,.agg as,.agg bs=>okAgg P t as = true ∧ ∃ b,sameKs as bs = some b ∧ K (.bool (!b))
 | .eql,.nils,.nils=>isSlcT P t = true ∧ K (.bool true)
 | .neq,.nils,.nils=>isSlcT P t = true ∧ K (.bool (!true))
 | .eql,.msl _ _,.nils=>isSlcT P t = true ∧ K (.bool false)
 | .neq,.msl _ _,.nils=>isSlcT P t = true ∧ K (.bool (!false))
 | .eql,.sl (_ :: _),.nils=>isSlcT P t = true ∧ K (.bool false)
 | .neq,.sl (_ :: _),.nils=>isSlcT P t = true ∧ K (.bool (!false))
 | _,_,_=>False
def evUn (op:UnOp) (x:PV) (K:PV → Prop):Prop :=
 match op,x with
 | .not,.bool b=>K (.bool !b)
 | .neg,.int k n=>K (.int k (k.wrap (0 - n)))
 | _,_=>False
def isIntT (P:Program) (t:TypeId):Option IntKind:=match P.underlying t with | some (.int k)=>some k | _=>none
def evP (P:Program) (σ:Store) (e:Operand → PV) (K:PV → Prop):Op → Prop
 | .move x=>K (e x)
 | .assign x=>K (e x)
 | .pick c a b=>match e c with | .bool t=>K (if t then e a else e b) | _=>False
 | .nilCheck x=>match e x with | .ptr o ver i off=>K (.ptr o ver i off) | .iptr row off=>K (.iptr row off) | _=>False
 | .binOp op t x y _=>evBin P op t (e x) (e y) K
 | .unOp op _ x=>evUn op (e x) K
 | .convert s d x=>match isIntT P d,e x with | some k,.int _ n=>(P.underlying s).isSome = true ∧ K (.int k (k.wrap n)) | _,_=>False
 | .extract x i=>match e x with | .tup vs=>∃ p,vs[i]? = some p ∧ K p | _=>False
 | .field t x f=>match P.underlying t,e x with | some (.struct fs),.agg cells=>∃ fd,fs[f]? = some fd ∧ loadP P fd.type cells fd.offset K | _,_=>False
 | .fieldAddr t x f=>match P.underlying t,e x with
  | some (.struct fs),.ptr o ver i off=>∃ fd,fs[f]? = some fd ∧ P.cellsOf fd.type ≠ 0 ∧ K (.ptr o ver i (off + fd.offset))
  | some (.struct fs),.iptr row off=>∃ fd,fs[f]? = some fd ∧ P.cellsOf fd.type ≠ 0 ∧ K (.iptr row (off + fd.offset))
  | _,_=>False
 | .indexAddr t x i=>match P.underlying t,e x,e i with
  | some (.array len elem),.ptr o ver r off,.int _ n=>0 ≤ n ∧ n < len ∧ P.cellsOf elem ≠ 0 ∧ K (.ptr o ver r (off + n.toNat * P.cellsOf elem))
  | some (.array len elem),.iptr row off,.int _ n=>0 ≤ n ∧ n < len ∧ P.cellsOf elem ≠ 0 ∧ K (.iptr row (off + n.toNat * P.cellsOf elem))
  | some (.slice elem),.sl rows,.int _ n=>0 ≤ n ∧ ∃ row,rows[n.toNat]? = some row ∧ row.length = P.cellsOf elem ∧ P.cellsOf elem ≠ 0 ∧ K (.iptr row 0)
  | some (.slice elem),.msl o ver,.int _ n=>0 ≤ n ∧ ∃ el rows,σ[o]? = some (.rows el (P.cellsOf elem) rows ver) ∧ n.toNat < rows.length ∧ P.cellsOf elem ≠ 0 ∧ K (.ptr o ver n.toNat 0)
  | some (.slice elem),.msuf o ver l,.int _ n=>0 ≤ n ∧ ∃ el rows,σ[o]? = some (.rows el (P.cellsOf elem) rows ver) ∧ l + n.toNat < rows.length ∧ P.cellsOf elem ≠ 0 ∧ K (.ptr o ver (l + n.toNat) 0)
  | _,_,_=>False
 | .index t x i=>match P.underlying t,e x,e i with
  | some .string,.str s,.int _ n=>0 ≤ n ∧ ∃ b,s[n.toNat]? = some b ∧ K (.int .u8 b.toNat)
  | some (.array len elem),.agg cells,.int _ n=>0 ≤ n ∧ n < len ∧ P.cellsOf elem ≠ 0 ∧ loadP P elem cells (n.toNat * P.cellsOf elem) K
  | _,_,_=>False
 | .load t a=>rowAt σ (fun row off=>loadP P t row off K) (e a)
 | .makeFunc fn first cap=>K (.func fn (first.toList.map e) (cap.toList.map e))
 | .call c=>match c.callee,c.args.toList,c.argTypes[0]? with
  | .builtin .len,[x],some t=>(match P.underlying t,e x with
   | some (.slice _),.mpre _ _ h=>K (.int .i64 h)
   | some (.slice _),.msuf o ver l=>∃ el sz rows,σ[o]? = some (.rows el sz rows ver) ∧ l ≤ rows.length ∧ K (.int .i64 ((rows.length - l:Nat):Int))
   | some (.slice _),v=>rowsOf σ (fun rows=>K (.int .i64 rows.length)) v
   | some .string,.str s=>K (.int .i64 s.size)
   | some (.array n _),_=>K (.int .i64 n)
   | _,_=>False)
  | .builtin .max,[x,y],_=>(match e x,e y with | .int k a,.int _ b=>K (.int k (if b > a then b else a)) | _,_=>False)
  | .builtin .min,[x,y],_=>(match e x,e y with | .int k a,.int _ b=>K (.int k (if b < a then b else a)) | _,_=>False)
  | _,_,_=>False
 | _=>False
section
variable {I:Imm} {ρ:Rho} {σ:Store} {w:World} {P:Program}
theorem run_sizeOf {t:TypeId} (h:(P.info? t).isSome = true) (w:World):(sizeOf t).run P w = .ok (P.cellsOf t) w:=by
 obtain ⟨i,hi⟩:=Option.isSome_iff_exists.1 h
 simp [sizeOf,typeInfo,hi,Program.cellsOf]
theorem info_of_cells {t:TypeId} (h:P.cellsOf t ≠ 0):(P.info? t).isSome = true:=by
 cases hi:P.info? t with
 | none=>simp [Program.cellsOf,hi] at h
 | some i=>rfl
theorem info_of_underlying {t:TypeId} (h:(P.underlying t).isSome = true):(P.info? t).isSome = true:=by
 cases hi:P.info? t with
 | none=>simp [Program.underlying,hi] at h
 | some i=>rfl
theorem run_isAgg {t:TypeId} (h:(P.underlying t).isSome = true) (w:World):(isAgg t).run P w = .ok (aggT P t) w:=by
 obtain ⟨d,hd⟩:=Option.isSome_iff_exists.1 h
 simp only [isAgg,Sem.run_bind,run_underlying hd,Result.andThen_ok,aggT,hd]
 cases d <;> rfl
def RowIn (I:Imm) (ρ:Rho) (w:World) (b base:Nat) (row:List PV):Prop :=
 ∀ (j:Nat) (p:PV),row[j]? = some p → ∃ v,w.cell? ⟨b,base + j,none⟩ = some v ∧ R I ρ p v
theorem RowIn.load {b base:Nat} {row:List PV} (h:RowIn I ρ w b base row) {t:TypeId} {off:Nat} {K:PV → Prop} (hl:loadP P t row off K) :
  ∃ p v,K p ∧ R I ρ p v ∧ (loadVar t ⟨b,base + off,none⟩).run P w = .ok v w:=by
 obtain ⟨hu,hl⟩:=hl
 by_cases ha:aggT P t = true
 ·rw [if_pos ha] at hl
  obtain ⟨hle,hk⟩:=hl
  have hex:∀ j,j < P.cellsOf t → ∃ v,w.cell? ⟨b,base + off + j,none⟩ = some v ∧ ∀ p,row[off + j]? = some p → R I ρ p v:=fun j hj=>by
   obtain ⟨v,hv,hr⟩:=h (off + j) _ (List.getElem?_eq_getElem (by omega))
   exact ⟨v,by rw [Nat.add_assoc]; exact hv,fun p hp=>by rw [List.getElem?_eq_getElem (by omega)] at hp; cases hp; exact hr⟩
  let f:Nat → Value:=fun j=>if hj:j < P.cellsOf t then (hex j hj).choose else Go.undef
  have hf:∀ j,(hj:j < P.cellsOf t) → w.cell? ⟨b,base + off + j,none⟩ = some (f j) ∧ ∀ p,row[off + j]? = some p → R I ρ p (f j):=fun j hj=>by
   simp only [f,hj,dif_pos]; exact (hex j hj).choose_spec
  refine ⟨_,.agg ((List.range (P.cellsOf t)).map f).toArray,hk,.agg _ _ ?_ ?_,?_⟩
  ·simp; omega
  ·intro j p hj
   rw [List.getElem?_take] at hj
   split at hj
   ·rename_i hjl
    rw [List.getElem?_drop] at hj
    have:=(hf j hjl).2 p hj
    simpa [Array.getD_eq_getD_getElem?,hjl] using this
   ·cases hj
  ·have hr:=run_loadCells (P:=P) w ⟨b,base + off,none⟩ (P.cellsOf t) f (fun j hj=>by rw [Addr.add_lit]; exact (hf j hj).1)
   simp only [loadVar,Sem.run_bind,run_isAgg hu,Result.andThen_ok,ha,if_true,run_sizeOf (info_of_underlying hu),hr,Sem.run_pure]
 ·rw [if_neg ha] at hl
  obtain ⟨p,hp,hk⟩:=hl
  obtain ⟨v,hv,hr⟩:=h off p hp
  refine ⟨p,v,hk,hr,?_⟩
  simp only [loadVar,Sem.run_bind,run_isAgg hu,Result.andThen_ok,ha,Bool.false_eq_true,if_false,run_load,hv]
theorem run_part_of {cs:Array Value} {cells:List PV} (h:cs.size = cells.length) (hr:∀ (j:Nat) (p:PV),cells[j]? = some p → R I ρ p (cs.getD j Go.undef)) {t:TypeId} {off:Nat} {K:PV → Prop} (hl:loadP P t cells off K) :
  ∃ p v,K p ∧ R I ρ p v ∧ (part t cs off).run P w = .ok v w:=by
 obtain ⟨hu,hl⟩:=hl
 by_cases ha:aggT P t = true
 ·rw [if_pos ha] at hl
  obtain ⟨hle,hk⟩:=hl
  refine ⟨_,.agg (cs.extract off (off + P.cellsOf t)),hk,.agg _ _ ?_ ?_,?_⟩
  ·simp; omega
  ·intro j p hj
   rw [List.getElem?_take] at hj
   split at hj
   ·rename_i hjl
    rw [List.getElem?_drop] at hj
    have:=hr _ p hj
    rw [Array.getD_eq_getD_getElem?] at this ⊢
    rw [Array.getElem?_extract]
    rw [if_pos (by omega)]
    exact this
   ·cases hj
  ·simp only [part,Sem.run_bind,run_isAgg hu,Result.andThen_ok,ha,if_true,run_sizeOf (info_of_underlying hu),Sem.run_pure]
 ·rw [if_neg ha] at hl
  obtain ⟨p,hp,hk⟩:=hl
  have hlt:off < cs.size:=by have:=(List.getElem?_eq_some_iff.1 hp).1; omega
  refine ⟨p,cs.getD off Go.undef,hk,hr _ _ hp,?_⟩
  simp [part,run_isAgg hu,ha,Array.getD_eq_getD_getElem?,hlt]
theorem RowIn.of_iptr (hinv:Inv I ρ σ w) {row:List PV} {b base:Nat} {vs:Nat → Value} (h1:∀ (j:Nat) (p:PV),row[j]? = some p → I b (base + j) = some (vs j))
  (h2:∀ (j:Nat) (p:PV),row[j]? = some p → R I ρ p (vs j)):RowIn I ρ w b base row :=
 fun j p hj=>⟨vs j,hinv.imm _ _ _ (h1 j p hj),h2 j p hj⟩
theorem RowIn.of_obj (hinv:Inv I ρ σ w) {o ver i elem sz:Nat} {rows:List (List PV)} {row:List PV} {L:Loc} (ho:σ[o]? = some (.rows elem sz rows ver)) (hL:ρ o ver = some L) (hr:rows[i]? = some row) :
  RowIn I ρ w L.block (i * L.sz) row:=by
 obtain ⟨L',cs,hL',hsz,_,hh,_,_,_,_,hc,_⟩:=hinv.objs o _ ho
 cases hL.symm.trans hL'
 intro j p hj
 obtain ⟨v,hv,hR⟩:=hc i row j p hr hj
 refine ⟨v,?_,hR⟩
 rw [cell_of_row w _ _ _ _ _ hh,hsz]
 exact hv
theorem rowsOf_len (hinv:Inv I ρ σ w) {x:PV} {v:Value} (hx:R I ρ x v) {K:List (List PV) → Prop} (h:rowsOf σ K x):∃ a rows cap,v = .slice a rows.length cap ∧ K rows:=by
 cases hx <;> simp only [rowsOf] at h
 ·exact ⟨_,_,_,rfl,h⟩
 ·exact ⟨_,_,_,rfl,h⟩
 ·exact ⟨_,_,_,rfl,h⟩
 ·rename_i o ver L hL
  obtain ⟨elem,sz,rows,ho,hk⟩:=h
  obtain ⟨L',cs,hL',_,hlen,_⟩:=hinv.objs o _ ho
  cases hL.symm.trans hL'
  exact ⟨_,rows,_,by rw [hlen],hk⟩
 ·rename_i o ver h' L hL _
  obtain ⟨elem,sz,rows,ho,hh,hk⟩:=h
  exact ⟨_,rows.take h',_,by rw [List.length_take,Nat.min_eq_left hh],hk⟩
 ·rename_i o ver l L a hL _ _
  obtain ⟨elem,sz,rows,ho,hh,hk⟩:=h
  obtain ⟨L',cs,hL',_,hlen,_⟩:=hinv.objs o _ ho
  cases hL.symm.trans hL'
  exact ⟨_,rows.drop l,_,by rw [List.length_drop,hlen],hk⟩
theorem evInt_sound {op:BinOp} {k:IntKind} {a b:Int} {t:TypeId} {K:PV → Prop} (h:evInt op k a b K) (w:World):∃ p v,K p ∧ R I ρ p v ∧ (binOp op t (.int k a) (.int k b)).run P w = .ok v w:=by
 have hbits:∀ op,(op = .and ∨ op = .or ∨ op = .xor) → binOp op t (.int k a) (.int k b) = Op.intBits op k a b:=fun op h=>by rcases h with rfl | rfl | rfl <;> simp [binOp]
 cases op <;> simp only [evInt] at h
 case add | sub | mul=>exact ⟨_,_,h,.int _ _,by simp [binOp,Op.intArith]⟩
 case eql | neq | lss | leq | gtr | geq=>exact ⟨_,_,h,.bool _,by simp [binOp,Op.intCmp]⟩
 case quo | rem=>obtain ⟨hb,hk⟩:=h; exact ⟨_,_,hk,.int _ _,by simp [binOp,Op.intDiv,hb]⟩
 case and | or | xor=>exact ⟨_,_,h,.int _ _,by rw [hbits _ (by simp)]; rfl⟩
theorem eqGuard_int (op:BinOp) (t:TypeId) (ox oy:Operand) (k k':IntKind) (a b:Int) (w:World):(eqGuard op t ox oy (.int k a) (.int k' b)).run P w = .ok () w:=by
 simp only [eqGuard]
 split <;> simp
theorem run_equal_nn (w:World) {t e:TypeId} (h:P.underlying t = some (.pointer e)):(Op.equal t (.pointer none) (.pointer none)).run P w = .ok true w :=
 have h1:∀ d,(Op.equalIn (d + 1) t (.pointer none) (.pointer none)).run P w = .ok true w:=fun d=>by simp [Op.equalIn,run_underlying h]
 h1 9999
theorem run_equal_pn (w:World) {t e:TypeId} (h:P.underlying t = some (.pointer e)) {a:Addr}:(Op.equal t (.pointer (some a)) (.pointer none)).run P w = .ok false w :=
 have h1:∀ d,(Op.equalIn (d + 1) t (.pointer (some a)) (.pointer none)).run P w = .ok false w:=fun d=>by simp [Op.equalIn,run_underlying h]
 h1 9999
theorem part_int {t:TypeId} {k:IntKind} {n:Int} {xs:Array Value} {off:Nat} (ht:P.underlying t = some (.int k)) (hl:off < xs.size) (hx:xs.getD off Go.undef = .int k n) (w:World):(part t xs off).run P w = .ok (.int k n) w:=by
 refine run_part_plain w (by simp [Program.plainKey,ht]) ?_
 rw [Array.getD_eq_getD_getElem?,Array.getElem?_eq_getElem hl,Option.getD_some] at hx
 rw [Array.getElem?_eq_getElem hl,hx]
theorem fieldsOk_cons {f:Field} {fs:List Field} {p:PV} {ps:List PV} {off:Nat} (h:fieldsOk P (f :: fs) (p :: ps) off = true):∃ k n,p = .int k n ∧ f.name ≠ "_" ∧ f.offset = off ∧ P.underlying f.type = some (.int k) ∧ fieldsOk P fs ps (off + 1) = true:=by
 cases p <;> simp [fieldsOk] at h
 rename_i k n
 exact ⟨k,n,rfl,h.1.1.1,h.1.1.2,isIntK_eq h.1.2,h.2⟩
theorem run_eq_fields {m:Nat} {xs ys:Array Value} (w:World):∀ (fs:List Field) (ps qs:List PV) (off:Nat) (b:Bool),fieldsOk P fs ps off = true → sameKs ps qs = some b →
  (∀ (j:Nat) (p:PV),ps[j]? = some p → off + j < xs.size ∧ R I ρ p (xs.getD (off + j) Go.undef)) → (∀ (j:Nat) (p:PV),qs[j]? = some p → off + j < ys.size ∧ R I ρ p (ys.getD (off + j) Go.undef)) →
  (Op.eqFields (m + 1) xs ys fs).run P w = .ok b w
 | [],[],[],_,b,_,hs,_,_=>by simp [sameKs] at hs; subst hs; simp [Op.eqFields]
 | [],[],_ :: _,_,b,_,hs,_,_=>by simp [sameKs] at hs
 | [],_ :: _,_,_,b,h,_,_,_=>by simp [fieldsOk] at h
 | _ :: _,[],_,_,_,h,_,_,_=>by simp [fieldsOk] at h
 | f :: fs,p :: ps,qs,off,b,h,hs,hx,hy=>by
  obtain ⟨k,n,rfl,h1,h2,h3,h4⟩:=fieldsOk_cons h
  cases qs with
  | nil=>simp [sameKs] at hs
  | cons q qs =>
   cases q <;> simp only [sameKs,reduceCtorEq] at hs
   rename_i k' n'
   by_cases hk:k = k'
   ·subst hk
    rw [if_pos rfl] at hs
    obtain ⟨g1,g2⟩:=hx 0 _ rfl
    obtain ⟨e1,e2⟩:=hy 0 _ rfl
    rw [Nat.add_zero] at g1 g2 e1 e2
    have g3:xs.getD off Go.undef = .int k n:=by
     generalize xs.getD off Go.undef = v at g2
     cases g2; rfl
    have e3:ys.getD off Go.undef = .int k n':=by
     generalize ys.getD off Go.undef = v at e2
     cases e2; rfl
    have p1:=part_int h3 g1 g3 w
    have p2:=part_int h3 e1 e3 w
    have p3:=run_equalIn_int w m f.type k k n n' h3
    simp only [Op.eqFields,h1,ne_eq,not_false_eq_true,if_true,Sem.run_bind,h2,p1,p2,p3,Result.andThen_ok]
    by_cases hn:n = n'
    ·subst hn
     rw [if_pos rfl] at hs
     have:(Op.eqFields (m + 1) xs ys fs).run P w = .ok b w:=run_eq_fields w fs ps qs (off + 1) b h4 hs (fun j q hj=>by have:=hx (j + 1) q hj; rwa [show off + 1 + j = off + (j + 1) by omega]) (fun j q hj=>by have:=hy (j + 1) q hj; rwa [show off + 1 + j = off + (j + 1) by omega])
     simpa using this
    ·rw [if_neg hn] at hs
     cases hs
     have:(n == n') = false:=by simpa using hn
     simp [this]
   ·rw [if_neg hk] at hs; cases hs
theorem itemsOk_cons {e:TypeId} {p:PV} {ps:List PV} (h:itemsOk P e (p :: ps) = true):∃ k n,p = .int k n ∧ P.underlying e = some (.int k) ∧ itemsOk P e ps = true:=by
 cases p <;> simp [itemsOk] at h
 rename_i k n
 exact ⟨k,n,rfl,isIntK_eq h.1,h.2⟩
theorem run_eq_items {m:Nat} {e:TypeId} {xs ys:Array Value} (w:World):∀ (ps qs:List PV) (off:Nat) (b:Bool),itemsOk P e ps = true → sameKs ps qs = some b →
  (∀ (j:Nat) (p:PV),ps[j]? = some p → off + j < xs.size ∧ R I ρ p (xs.getD (off + j) Go.undef)) → (∀ (j:Nat) (p:PV),qs[j]? = some p → off + j < ys.size ∧ R I ρ p (ys.getD (off + j) Go.undef)) →
  (Op.eqItems (m + 1) e 1 xs ys (List.range' off ps.length)).run P w = .ok b w
 | [],[],_,b,_,hs,_,_=>by simp [sameKs] at hs; subst hs; simp [Op.eqItems]
 | [],_ :: _,_,b,_,hs,_,_=>by simp [sameKs] at hs
 | p :: ps,qs,off,b,h,hs,hx,hy=>by
  obtain ⟨k,n,rfl,h3,h4⟩:=itemsOk_cons h
  cases qs with
  | nil=>simp [sameKs] at hs
  | cons q qs =>
   cases q <;> simp only [sameKs,reduceCtorEq] at hs
   rename_i k' n'
   by_cases hk:k = k'
   ·subst hk
    rw [if_pos rfl] at hs
    obtain ⟨g1,g2⟩:=hx 0 _ rfl
    obtain ⟨e1,e2⟩:=hy 0 _ rfl
    rw [Nat.add_zero] at g1 g2 e1 e2
    have g3:xs.getD off Go.undef = .int k n:=by
     generalize xs.getD off Go.undef = v at g2
     cases g2; rfl
    have e3:ys.getD off Go.undef = .int k n':=by
     generalize ys.getD off Go.undef = v at e2
     cases e2; rfl
    have p1:=part_int h3 g1 g3 w
    have p2:=part_int h3 e1 e3 w
    have p3:=run_equalIn_int w m e k k n n' h3
    simp only [List.length_cons,List.range'_succ,Op.eqItems,Nat.mul_one,Sem.run_bind,p1,p2,p3,Result.andThen_ok]
    by_cases hn:n = n'
    ·subst hn
     rw [if_pos rfl] at hs
     have:(Op.eqItems (m + 1) e 1 xs ys (List.range' (off + 1) ps.length)).run P w = .ok b w:=run_eq_items w ps qs (off + 1) b h4 hs (fun j q hj=>by have:=hx (j + 1) q hj; rwa [show off + 1 + j = off + (j + 1) by omega]) (fun j q hj=>by have:=hy (j + 1) q hj; rwa [show off + 1 + j = off + (j + 1) by omega])
     simpa using this
    ·rw [if_neg hn] at hs
     cases hs
     have:(n == n') = false:=by simpa using hn
     simp [this]
   ·rw [if_neg hk] at hs; cases hs
theorem run_eq_agg {t:TypeId} {cells qs:List PV} {v u:Value} {b:Bool} (h:okAgg P t cells = true) (hr:R I ρ (.agg cells) v) (hu:R I ρ (.agg qs) u) (hs:sameKs cells qs = some b) (w:World):(Op.equal t v u).run P w = .ok b w ∧
  ∃ xs ys,v = .agg xs ∧ u = .agg ys ∧ P.eqGuardType P.depth t = false:=by
 cases hr
 rename_i cs hl hc
 cases hu
 rename_i ds hl2 hc2
 simp only [okAgg,Bool.and_eq_true,Bool.not_eq_true'] at h
 obtain ⟨hg,h⟩:=h
 refine ⟨?_,_,_,rfl,rfl,hg⟩
 have hx:∀ (j:Nat) (p:PV),cells[j]? = some p → 0 + j < cs.size ∧ R I ρ p (cs.getD (0 + j) Go.undef):=fun j p hj=>⟨by have:=(List.getElem?_eq_some_iff.1 hj).1; omega,by simpa using hc j p hj⟩
 have hy:∀ (j:Nat) (p:PV),qs[j]? = some p → 0 + j < ds.size ∧ R I ρ p (ds.getD (0 + j) Go.undef):=fun j p hj=>⟨by have:=(List.getElem?_eq_some_iff.1 hj).1; omega,by simpa using hc2 j p hj⟩
 split at h
 ·rename_i fs hd
  simp only [Bool.and_eq_true,Bool.not_eq_true'] at h
  have hfs:P.fieldsOf t = fs:=by simp [Program.fieldsOf,hd]
  rw [Op.equal,show Op.maxDepth = 9999 + 1 from rfl,run_equalIn_struct w 9999 t cs ds (by rw [hfs]; exact hd) h.1,hfs]
  exact run_eq_fields (I:=I) (ρ:=ρ) (m:=9998) w fs.toList cells qs 0 b h.2 hs hx hy
 ·rename_i n e hd
  simp only [Bool.and_eq_true,decide_eq_true_eq] at h
  obtain ⟨⟨h1,h2,h3⟩,h4⟩:=h
  obtain ⟨i,hi⟩:=Option.isSome_iff_exists.1 h4
  rw [Op.equal,show Op.maxDepth = 9999 + 1 from rfl,run_equalIn_array w 9999 cs ds hd hi,h3,List.range_eq_range',← h2]
  exact run_eq_items (I:=I) (ρ:=ρ) (m:=9998) w cells qs 0 b h1 hs hx hy
 ·cases h
theorem run_equal_sn (w:World) {t e:TypeId} (h:P.underlying t = some (.slice e)) {l c:Nat} {a:Option Addr}:(Op.equal t (.slice a l c) (.slice none 0 0)).run P w = .ok a.isNone w :=
 have h1:∀ d,(Op.equalIn (d + 1) t (.slice a l c) (.slice none 0 0)).run P w = .ok a.isNone w:=fun d=>by cases a <;> simp [Op.equalIn,run_underlying h]
 h1 9999
theorem evBin_sound {op:BinOp} {t:TypeId} {x y:PV} {vx vy:Value} (hx:R I ρ x vx) (hy:R I ρ y vy) {K:PV → Prop} (h:evBin P op t x y K) (ox oy:Operand) (w:World) :
  ∃ p v,K p ∧ R I ρ p v ∧ (do eqGuard op t ox oy vx vy; binOp op t vx vy).run P w = .ok v w:=by
 unfold evBin at h
 split at h
 ·obtain ⟨hb,hk⟩:=h
  cases hx; cases hy
  exact ⟨_,_,hk,.int _ _,by simp [eqGuard,binOp,Op.shift,Int.not_lt.2 hb]⟩
 ·obtain ⟨hb,hk⟩:=h
  cases hx; cases hy
  exact ⟨_,_,hk,.int _ _,by simp [eqGuard,binOp,Op.shift,Int.not_lt.2 hb]⟩
 ·obtain ⟨rfl,hk⟩:=h
  cases hx; cases hy
  obtain ⟨p,v,h1,h2,h3⟩:=evInt_sound (P:=P) (t:=t) (I:=I) (ρ:=ρ) hk w
  refine ⟨p,v,h1,h2,?_⟩
  rw [Sem.run_bind,eqGuard_int]
  exact h3
 ·cases hx; cases hy
  exact ⟨_,_,h,.bool _,by simp [eqGuard,binOp,Op.stringOp]⟩
 ·cases hx; cases hy
  exact ⟨_,_,h,.bool _,by simp [eqGuard,binOp,Op.stringOp]⟩
 ·obtain ⟨hs,hk⟩:=h
  cases hx; cases hy
  refine ⟨_,_,hk,.str _,?_⟩
  have hs':=Int.not_lt.2 hs
  simp only [eqGuard,binOp,Op.stringOp,Sem.run_bind]
  rw [if_neg hs']
  rfl
 ·obtain ⟨hb,hk⟩:=h
  cases hx; cases hy
  exact ⟨_,_,hk,.bool _,by simp [eqGuard,run_eql_bool w t _ _ hb]⟩
 ·obtain ⟨hb,hk⟩:=h
  cases hx; cases hy
  exact ⟨_,_,hk,.bool _,by simp [eqGuard,run_neq_bool w t _ _ hb]⟩
 ·obtain ⟨hb,hk⟩:=h
  obtain ⟨e,he⟩:=isPtrT_eq hb
  cases hx; cases hy
  exact ⟨_,_,hk,.bool _,by simp [eqGuard,binOp,run_equal_nn w he]⟩
 ·obtain ⟨hb,hk⟩:=h
  obtain ⟨e,he⟩:=isPtrT_eq hb
  cases hx; cases hy
  exact ⟨_,_,hk,.bool _,by simp [eqGuard,binOp,run_equal_nn w he]⟩
 ·obtain ⟨hb,hk⟩:=h
  obtain ⟨e,he⟩:=isPtrT_eq hb
  cases hx; cases hy
  exact ⟨_,_,hk,.bool _,by simp [eqGuard,binOp,run_equal_pn w he]⟩
 ·obtain ⟨hb,hk⟩:=h
  obtain ⟨e,he⟩:=isPtrT_eq hb
  cases hx; cases hy
  exact ⟨_,_,hk,.bool _,by simp [eqGuard,binOp,run_equal_pn w he]⟩
 ·obtain ⟨ho,r,hs,hk⟩:=h
  obtain ⟨he,xs,ys,rfl,rfl,hg⟩:=run_eq_agg ho hx hy hs w
  exact ⟨_,_,hk,.bool _,by simp [eqGuard,hg,binOp,he]⟩
 ·obtain ⟨ho,r,hs,hk⟩:=h
  obtain ⟨he,xs,ys,rfl,rfl,hg⟩:=run_eq_agg ho hx hy hs w
  exact ⟨_,_,hk,.bool _,by simp [eqGuard,hg,binOp,he]⟩
 ·obtain ⟨hb,hk⟩:=h
  obtain ⟨e,he⟩:=isSlcT_eq hb
  cases hx; cases hy
  exact ⟨_,_,hk,.bool _,by simp [eqGuard,binOp,run_equal_sn w he]⟩
 ·obtain ⟨hb,hk⟩:=h
  obtain ⟨e,he⟩:=isSlcT_eq hb
  cases hx; cases hy
  exact ⟨_,_,hk,.bool _,by simp [eqGuard,binOp,run_equal_sn w he]⟩
 ·obtain ⟨hb,hk⟩:=h
  obtain ⟨e,he⟩:=isSlcT_eq hb
  cases hx; cases hy
  exact ⟨_,_,hk,.bool _,by simp [eqGuard,binOp,run_equal_sn w he]⟩
 ·obtain ⟨hb,hk⟩:=h
  obtain ⟨e,he⟩:=isSlcT_eq hb
  cases hx; cases hy
  exact ⟨_,_,hk,.bool _,by simp [eqGuard,binOp,run_equal_sn w he]⟩
 ·obtain ⟨hb,hk⟩:=h
  obtain ⟨e,he⟩:=isSlcT_eq hb
  cases hx; cases hy
  exact ⟨_,_,hk,.bool _,by simp [eqGuard,binOp,run_equal_sn w he]⟩
 ·obtain ⟨hb,hk⟩:=h
  obtain ⟨e,he⟩:=isSlcT_eq hb
  cases hx; cases hy
  exact ⟨_,_,hk,.bool _,by simp [eqGuard,binOp,run_equal_sn w he]⟩
 ·exact h.elim
theorem evUn_sound {op:UnOp} {x:PV} {vx:Value} (hx:R I ρ x vx) {K:PV → Prop} (h:evUn op x K) (w:World):∃ p v,K p ∧ R I ρ p v ∧ (Op.unary op vx).run P w = .ok v w:=by
 unfold evUn at h
 split at h
 ·cases hx; exact ⟨_,_,h,.bool _,by simp [Op.unary]⟩
 ·cases hx; exact ⟨_,_,h,.int _ _,by simp [Op.unary,Op.intArith]⟩
 ·exact h.elim
theorem run_fieldPlace {b off:Nat} {f:Field} (h:P.cellsOf f.type ≠ 0) (w:World):(fieldPlace ⟨b,off,none⟩ f).run P w = .ok ⟨b,off + f.offset,none⟩ w:=by
 simp [fieldPlace,run_sizeOf (info_of_cells h),h,Addr.add_lit]
theorem rowAt_load (hinv:Inv I ρ σ w) {x:PV} {vx:Value} (hx:R I ρ x vx) {t:TypeId} {K:PV → Prop} (h:rowAt σ (fun row off=>loadP P t row off K) x) :
  ∃ p v,K p ∧ R I ρ p v ∧ (Instr.loadAt t vx).run P w = .ok v w:=by
 cases hx <;> simp only [rowAt] at h
 ·rename_i o ver i off L hL
  obtain ⟨elem,sz,rows,row,ho,hr,hl⟩:=h
  obtain ⟨p,v,h1,h2,h3⟩:=(RowIn.of_obj hinv ho hL hr).load hl
  exact ⟨p,v,h1,h2,by simpa [Instr.loadAt,Instr.sureAddr] using h3⟩
 ·rename_i row off b base vs h1 h2
  obtain ⟨p,v,h1,h2,h3⟩:=(RowIn.of_iptr hinv h1 h2).load h
  exact ⟨p,v,h1,h2,by simpa [Instr.loadAt,Instr.sureAddr] using h3⟩
theorem isIntT_eq {t:TypeId} {k:IntKind} (h:isIntT P t = some k):P.underlying t = some (.int k):=by
 unfold isIntT at h
 split at h
 ·cases h; assumption
 ·cases h
theorem evP_sound (hinv:Inv I ρ σ w) {e:Operand → PV} {ev:Operand → Value} (he:∀ x,R I ρ (e x) (ev x)) {K:PV → Prop} {o:Oper} (h:evP P σ e K o.op) :
  ∃ p v,K p ∧ R I ρ p v ∧ (execOp ev o).run P w = .ok (.value v) w:=by
 obtain ⟨dst,op,type,pos,after,guard⟩:=o
 simp only at h
 unfold evP at h
 split at h
 ·exact ⟨_,_,h,he _,by simp [execOp]⟩
 ·exact ⟨_,_,h,he _,by simp [execOp]⟩
 ·rename_i c a b
  split at h
  ·rename_i t hc
   have hr:=he c
   rw [hc] at hr
   generalize hev:ev c = vc at hr
   cases hr
   refine ⟨_,if t then ev a else ev b,h,?_,?_⟩
   ·cases t <;> simp [he]
   ·simp [execOp,hev,asBool]
  ·exact h.elim
 ·rename_i x
  have hr:=he x
  split at h
  ·rename_i hx
   rw [hx] at hr
   generalize hev:ev x = vx at hr
   have hr':=hr
   cases hr
   exact ⟨_,_,h,hr',by simp [execOp,hev]⟩
  ·rename_i hx
   rw [hx] at hr
   generalize hev:ev x = vx at hr
   have hr':=hr
   cases hr
   exact ⟨_,_,h,hr',by simp [execOp,hev]⟩
  ·exact h.elim
 ·rename_i op t x y yt
  obtain ⟨p,v,h1,h2,h3⟩:=evBin_sound (he x) (he y) h x y w
  exact ⟨p,v,h1,h2,by simp only [execOp]; rw [Sem.run_bind,h3]; rfl⟩
 ·rename_i op t x
  obtain ⟨p,v,h1,h2,h3⟩:=evUn_sound (P:=P) (he x) h w
  exact ⟨p,v,h1,h2,by simp [execOp,h3]⟩
 ·rename_i s d x
  split at h
  ·rename_i k k' n hk hx
   obtain ⟨hs,hK⟩:=h
   have hr:=he x
   rw [hx] at hr
   generalize hev:ev x = vx at hr
   cases hr
   obtain ⟨ds,hds⟩:=Option.isSome_iff_exists.1 hs
   refine ⟨_,_,hK,.int _ _,?_⟩
   have:(convert s d (.int k' n)).run P w = .ok (.int k (k.wrap n)) w:=by
    simp [convert,run_underlying hds,run_underlying (isIntT_eq hk),Conv.intToInt]
   simp [execOp,hev,this]
  ·exact h.elim
 ·rename_i x i
  split at h
  ·rename_i vs hx
   obtain ⟨p,hp,hK⟩:=h
   have hr:=he x
   rw [hx] at hr
   generalize hev:ev x = vx at hr
   cases hr
   rename_i cs hs hc
   have hlt:i < cs.size:=by have:=(List.getElem?_eq_some_iff.1 hp).1; omega
   refine ⟨p,_,hK,hc i p hp,?_⟩
   simp [execOp,hev,Instr.extract,Array.getD_eq_getD_getElem?,hlt]
  ·exact h.elim
 ·rename_i t x f
  split at h
  ·rename_i fs cells hu hx
   obtain ⟨fd,hf,hl⟩:=h
   have hr:=he x
   rw [hx] at hr
   generalize hev:ev x = vx at hr
   cases hr
   rename_i cs hs hc
   obtain ⟨p,v,h1,h2,h3⟩:=run_part_of (P:=P) (w:=w) hs hc hl
   exact ⟨p,v,h1,h2,by simp [execOp,hev,Instr.field,run_underlying hu,hf,asAgg,h3]⟩
  ·exact h.elim
 ·rename_i t x f
  split at h
  ·rename_i fs o ver i off hu hx
   obtain ⟨fd,hf,hc,hK⟩:=h
   have hr:=he x
   rw [hx] at hr
   generalize hev:ev x = vx at hr
   cases hr
   rename_i L hL
   refine ⟨_,_,hK,.ptr _ _ _ _ L hL,?_⟩
   simp [execOp,hev,Instr.fieldAt,run_underlying hu,hf,Instr.sureAddr,run_fieldPlace hc,Nat.add_assoc]
  ·rename_i fs row off hu hx
   obtain ⟨fd,hf,hc,hK⟩:=h
   have hr:=he x
   rw [hx] at hr
   generalize hev:ev x = vx at hr
   cases hr
   rename_i b base vs h1 h2
   refine ⟨_,_,hK,.iptr _ _ b base vs h1 h2,?_⟩
   simp [execOp,hev,Instr.fieldAt,run_underlying hu,hf,Instr.sureAddr,run_fieldPlace hc,Nat.add_assoc]
  ·exact h.elim
 ·rename_i t x i
  split at h
  ·rename_i len elem o ver r off k n hu hx hi
   obtain ⟨h0,hn,hc,hK⟩:=h
   have hr:=he x
   rw [hx] at hr
   generalize hev:ev x = vx at hr
   cases hr
   rename_i L hL
   have hri:=he i
   rw [hi] at hri
   generalize hevi:ev i = vi at hri
   cases hri
   refine ⟨_,_,hK,.ptr _ _ _ _ L hL,?_⟩
   simp [execOp,hev,hevi,Instr.indexAt,asIntOf,run_underlying hu,Instr.sureAddr,h0,hn,run_sizeOf (info_of_cells hc),Addr.add_lit,Nat.add_assoc]
  ·rename_i len elem row off k n hu hx hi
   obtain ⟨h0,hn,hc,hK⟩:=h
   have hr:=he x
   rw [hx] at hr
   generalize hev:ev x = vx at hr
   cases hr
   rename_i b base vs h1 h2
   have hri:=he i
   rw [hi] at hri
   generalize hevi:ev i = vi at hri
   cases hri
   refine ⟨_,_,hK,.iptr _ _ b base vs h1 h2,?_⟩
   simp [execOp,hev,hevi,Instr.indexAt,asIntOf,run_underlying hu,Instr.sureAddr,h0,hn,run_sizeOf (info_of_cells hc),Addr.add_lit,Nat.add_assoc]
  ·rename_i elem rows k n hu hx hi
   obtain ⟨h0,row,hrow,hlen,hc,hK⟩:=h
   have hr:=he x
   rw [hx] at hr
   generalize hev:ev x = vx at hr
   cases hr
   case slNil=>simp at hrow
   rename_i b base sz cap vs hcap h1 h2 h3
   have hri:=he i
   rw [hi] at hri
   generalize hevi:ev i = vi at hri
   cases hri
   have hsz:sz = P.cellsOf elem:=(h1 row (List.mem_of_getElem? hrow)).symm.trans hlen
   have hlt:n < rows.length:=by have:=(List.getElem?_eq_some_iff.1 hrow).1; omega
   refine ⟨_,_,hK,.iptr _ _ b (base + n.toNat * sz) (vs n.toNat) (fun j p hj=>h2 _ _ _ _ hrow hj) (fun j p hj=>h3 _ _ _ _ hrow hj),?_⟩
   simp [execOp,hev,hevi,Instr.indexAt,asIntOf,run_underlying hu,h0,hlt,run_sizeOf (info_of_cells hc),Addr.add_lit,hsz]
  ·rename_i elem o ver k n hu hx hi
   obtain ⟨h0,el,rows,ho,hlt,hc,hK⟩:=h
   have hr:=he x
   rw [hx] at hr
   generalize hev:ev x = vx at hr
   cases hr
   rename_i L hL
   have hri:=he i
   rw [hi] at hri
   generalize hevi:ev i = vi at hri
   cases hri
   obtain ⟨L',cs,hL',hsz,hlen,_⟩:=hinv.objs o _ ho
   cases hL.symm.trans hL'
   have hlt':n < (L.len:Int):=by rw [hlen]; omega
   refine ⟨_,_,hK,.ptr _ _ _ _ L hL,?_⟩
   simp [execOp,hev,hevi,Instr.indexAt,asIntOf,run_underlying hu,h0,hlt',run_sizeOf (info_of_cells hc),Addr.add_lit,hsz]
  ·rename_i elem o ver l k n hu hx hi
   obtain ⟨h0,el,rows,ho,hlt,hc,hK⟩:=h
   have hr:=he x
   rw [hx] at hr
   generalize hev:ev x = vx at hr
   cases hr
   rename_i L a hL hle ha
   have hri:=he i
   rw [hi] at hri
   generalize hevi:ev i = vi at hri
   cases hri
   obtain ⟨L',cs,hL',hsz,hlen,_⟩:=hinv.objs o _ ho
   cases hL.symm.trans hL'
   have hlt':n < ((L.len - l:Nat):Int):=by rw [hlen]; omega
   have ha':=ha (by rw [hlen]; omega)
   subst ha'
   refine ⟨_,_,hK,.ptr _ _ _ _ L hL,?_⟩
   simp [execOp,hev,hevi,Instr.indexAt,asIntOf,run_underlying hu,h0,hlt',run_sizeOf (info_of_cells hc),Addr.add_lit,hsz,Nat.add_mul]
  ·exact h.elim
 ·rename_i t x i
  split at h
  ·rename_i s k n hu hx hi
   obtain ⟨h0,b,hb,hK⟩:=h
   have hr:=he x
   rw [hx] at hr
   generalize hev:ev x = vx at hr
   cases hr
   have hri:=he i
   rw [hi] at hri
   generalize hevi:ev i = vi at hri
   cases hri
   refine ⟨_,_,hK,.int _ _,?_⟩
   simp [execOp,hev,hevi,Instr.index,asIntOf,run_underlying hu,h0,hb]
  ·rename_i len elem cells k n hu hx hi
   obtain ⟨h0,hn,hc,hl⟩:=h
   have hr:=he x
   rw [hx] at hr
   generalize hev:ev x = vx at hr
   cases hr
   rename_i cs hs hcs
   have hri:=he i
   rw [hi] at hri
   generalize hevi:ev i = vi at hri
   cases hri
   obtain ⟨p,v,h1,h2,h3⟩:=run_part_of (P:=P) (w:=w) hs hcs hl
   exact ⟨p,v,h1,h2,by simp [execOp,hev,hevi,Instr.index,asIntOf,run_underlying hu,h0,hn,run_sizeOf (info_of_cells hc),h3]⟩
  ·exact h.elim
 ·rename_i t a
  obtain ⟨p,v,h1,h2,h3⟩:=rowAt_load hinv (he a) h
  exact ⟨p,v,h1,h2,by simp [execOp,h3]⟩
 ·rename_i fn first cap
  refine ⟨_,.func fn (first.map ev) (cap.map ev),h,.func _ _ _ _ _ (by simp) (by simp) ?_ ?_,by simp [execOp,Instr.makeFunc]⟩
  ·intro j p hj
   simp only [List.getElem?_map,Array.getElem?_toList,Option.map_eq_some_iff] at hj
   obtain ⟨x,hx,rfl⟩:=hj
   simpa [Array.getD_eq_getD_getElem?,hx] using he x
  ·intro j p hj
   simp only [List.getElem?_map,Array.getElem?_toList,Option.map_eq_some_iff] at hj
   obtain ⟨x,hx,rfl⟩:=hj
   simpa [Array.getD_eq_getD_getElem?,hx] using he x
 ·rename_i c
  obtain ⟨callee,args,argTypes⟩:=c
  simp only at h
  split at h
  ·rename_i x t hargs ht
   have ha:args = #[x]:=by rw [← Array.toArray_toList (xs:=args),hargs]
   subst ha
   split at h
   ·rename_i hu hx
    have hr:=he x
    rw [hx] at hr
    generalize hev:ev x = vx at hr
    cases hr
    exact ⟨_,_,h,.int _ _,by simp [execOp,resolve,invoke,builtin,Builtin.len_,ht,run_underlying hu,hev,goInt]⟩
   ·rename_i hu hx
    obtain ⟨el,sz,rows,ho,hle,hK⟩:=h
    have hr:=he x
    rw [hx] at hr
    generalize hev:ev x = vx at hr
    cases hr
    rename_i L a hL hle' ha
    obtain ⟨L',cs,hL',hsz,hlen,_⟩:=hinv.objs _ _ ho
    cases hL.symm.trans hL'
    exact ⟨_,_,hK,.int _ _,by simp [execOp,resolve,invoke,builtin,Builtin.len_,ht,run_underlying hu,hev,goInt,hlen]⟩
   ·rename_i hu _ _
    obtain ⟨a,rows,cap,hv,hK⟩:=rowsOf_len hinv (he x) h
    exact ⟨_,_,hK,.int _ _,by simp [execOp,resolve,invoke,builtin,Builtin.len_,ht,run_underlying hu,hv,goInt]⟩
   ·rename_i s hu hx
    have hr:=he x
    rw [hx] at hr
    generalize hev:ev x = vx at hr
    cases hr
    exact ⟨_,_,h,.int _ _,by simp [execOp,resolve,invoke,builtin,Builtin.len_,ht,run_underlying hu,hev,goInt]⟩
   ·rename_i n elem hu
    refine ⟨_,_,h,.int _ _,?_⟩
    cases hv:ev x <;> simp [execOp,resolve,invoke,builtin,Builtin.len_,ht,run_underlying hu,goInt,hv]
   ·exact h.elim
  ·rename_i x y hargs
   have ha:args = #[x,y]:=by rw [← Array.toArray_toList (xs:=args),hargs]
   subst ha
   split at h
   ·rename_i k a k' b hx hy
    have hr:=he x
    rw [hx] at hr
    generalize hev:ev x = vx at hr
    cases hr
    have hry:=he y
    rw [hy] at hry
    generalize hevy:ev y = vy at hry
    cases hry
    exact ⟨_,_,h,.int _ _,by simp [execOp,resolve,invoke,builtin,hev,hevy,run_max_int2]⟩
   ·exact h.elim
  ·rename_i x y hargs
   have ha:args = #[x,y]:=by rw [← Array.toArray_toList (xs:=args),hargs]
   subst ha
   split at h
   ·rename_i k a k' b hx hy
    have hr:=he x
    rw [hx] at hr
    generalize hev:ev x = vx at hr
    cases hr
    have hry:=he y
    rw [hy] at hry
    generalize hevy:ev y = vy at hry
    cases hry
    exact ⟨_,_,h,.int _ _,by simp [execOp,resolve,invoke,builtin,hev,hevy,run_min_int2]⟩
   ·exact h.elim
  ·exact h.elim
 ·exact h.elim
end
end Go.PV
