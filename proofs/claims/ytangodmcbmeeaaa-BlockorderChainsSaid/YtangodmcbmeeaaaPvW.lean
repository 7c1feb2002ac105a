import Derived.Test.YtangodmcbmeeaaaPvV
set_option maxRecDepth 8000
set_option linter.unusedSimpArgs false
set_option linter.unusedVariables false
namespace Go.PV
theorem ofVal_bool (b:Bool):ofVal (.bool b) = .bool b:=rfl
theorem ofVal_int (k:IntKind) (n:Int):ofVal (.int k n) = .int k n:=rfl
theorem ofVal_str (s:ByteArray):ofVal (.string s) = .str s:=rfl
theorem ofVal_nilp:ofVal (.pointer none) = .nilp:=rfl
theorem ofVal_nils:ofVal (.slice none 0 0) = .nils:=rfl
theorem ofVal_nilm:ofVal (.map none) = .nilm:=rfl
theorem ofVal_nilf:ofVal .nilFunc = .nilf:=rfl
theorem ofVal_agg (cs:Array Value):ofVal (.agg cs) = .unk:=rfl
theorem ofVal_tup (cs:Array Value):ofVal (.tuple cs) = .unk:=rfl
theorem evO_tmp (fr:Fr) (t:Nat):evO fr (.tmp t) = look fr t:=nr rfl
theorem evO_const (fr:Fr) (v:Value):evO fr (.const v) = ofVal v:=nr rfl
theorem evO_func (fr:Fr) (f:FuncId):evO fr (.func f) = .func (.func f) [] []:=nr rfl
section
variable (P:Program) (m:Bool) (σ:Store) (e:Operand → PV)
theorem ev_move (x:Operand):evC P m σ e (.move x) = .val True (e x) σ:=nr rfl
theorem ev_assign (x:Operand):evC P m σ e (.assign x) = .val True (e x) σ:=nr rfl
theorem ev_pick (c a b:Operand):evC P m σ e (.pick c a b) = pickC σ (e c) (e a) (e b):=nr rfl
theorem ev_nilCheck (x:Operand):evC P m σ e (.nilCheck x) = nilC σ (e x):=nr rfl
theorem ev_binOp (op:BinOp) (t:TypeId) (x y:Operand) (u:TypeId):evC P m σ e (.binOp op t x y u) = binC P σ op t (e x) (e y):=nr rfl
theorem ev_unOp (op:UnOp) (t:TypeId) (x:Operand):evC P m σ e (.unOp op t x) = unC σ op (e x):=nr rfl
theorem ev_convert (s d:TypeId) (x:Operand):evC P m σ e (.convert s d x) = convC P σ s (isIntT P d) (e x):=nr rfl
theorem ev_extract (x:Operand) (i:Nat):evC P m σ e (.extract x i) = extC σ i (e x):=nr rfl
theorem ev_field (t:TypeId) (x:Operand) (f:Nat):evC P m σ e (.field t x f) = fieldC P σ f (P.underlying t) (e x):=nr rfl
theorem ev_fieldAddr (t:TypeId) (x:Operand) (f:Nat):evC P m σ e (.fieldAddr t x f) = fieldAddrC P σ f (P.underlying t) (e x):=nr rfl
theorem ev_indexAddr (t:TypeId) (x i:Operand):evC P m σ e (.indexAddr t x i) = idxC P σ (P.underlying t) (e x) (e i):=nr rfl
theorem ev_index (t:TypeId) (x i:Operand):evC P m σ e (.index t x i) = indexC P σ (P.underlying t) (e x) (e i):=nr rfl
theorem ev_load (t:TypeId) (a:Operand):evC P m σ e (.load t a) = loadC P σ t (e a):=nr rfl
theorem ev_makeFunc (fn:Fn) (first cap:List Operand):evC P m σ e (.makeFunc fn first.toArray cap.toArray) = .val True (.func fn (first.map e) (cap.map e)) σ:=nr rfl
theorem ev_alloc (t:TypeId):evC P m σ e (.alloc t) = allocC σ t (zeroCells P t):=nr rfl
theorem ev_box (t:TypeId) (x:Operand):evC P m σ e (.box t x) = boxC σ t (cellsV (e x)):=nr rfl
theorem ev_store (t:TypeId) (a x:Operand):evC P m σ e (.store t a x) = storeC P σ t (e a) (cellsV (e x)):=nr rfl
theorem ev_makeSlice (t:TypeId) (l c:Operand):evC P m σ e (.makeSlice t l c) = makeC P σ (P.underlying t) (e l) (e c):=nr rfl
theorem ev_slice (t:TypeId) (x:Operand) (lo hi:Option Operand):evC P m σ e (.slice t x lo hi none) = sliceC P m σ (P.underlying t) (e x) (lo.map e) (hi.map e):=nr rfl
def partsC (e:Operand → PV):List (Nat × Operand) → List (Nat × PV)
 | []=>[]
 | (i,x) :: l=>(i,e x) :: partsC e l
theorem partsC_nil:partsC e [] = []:=rfl
theorem partsC_cons (i:Nat) (x:Operand) (l:List (Nat × Operand)):partsC e ((i,x) :: l) = (i,e x) :: partsC e l:=rfl
theorem partsC_eq (l:List (Nat × Operand)):partsC e l = l.map fun (i,x)=>(i,e x):=by
 induction l with
 | nil=>rfl
 | cons p l ih=>obtain ⟨i,x⟩:=p; rw [partsC_cons,ih]; rfl
theorem ev_build (t:TypeId) (parts:List (Nat × Operand)):evC P m σ e (.build t parts.toArray) = buildC P σ (partsC e parts) (P.underlying t) (zeroCells P t):=by
 rw [partsC_eq]; rfl
theorem ev_buildSlice (t:TypeId) (len:Nat) (parts:List (Nat × Operand)):evC P m σ e (.buildSlice t len parts.toArray) = buildSliceC P σ m len (partsC e parts) (P.underlying t):=by
 rw [partsC_eq]; rfl
theorem ev_call (f:Operand) (args:List Operand) (ts:Array TypeId):evC P m σ e (.call ⟨.value f,args.toArray,ts⟩) = callC (args.map e) (e f):=nr rfl
theorem ev_builtin (b:Builtin) (args:List Operand) (ts:List TypeId):evC P m σ e (.call ⟨.builtin b,args.toArray,ts.toArray⟩) = builtinC P σ b (args.map e) ts:=nr rfl
theorem pick_b (t:Bool) (a b:PV):pickC σ (.bool t) a b = .val True (cond t a b) σ:=by cases t <;> rfl
theorem nil_ptr (o ver i off:Nat):nilC σ (.ptr o ver i off) = .val True (.ptr o ver i off) σ:=rfl
theorem nil_iptr (row:List PV) (off:Nat):nilC σ (.iptr row off) = .val True (.iptr row off) σ:=rfl
variable (t:TypeId) (k k':IntKind) (a b:Int)
theorem bin_add:binC P σ .add t (.int k a) (.int k b) = .val True (.int k (k.wrap (a + b))) σ:=by simp [binC,isShift,intC]
theorem bin_sub:binC P σ .sub t (.int k a) (.int k b) = .val True (.int k (k.wrap (a - b))) σ:=by simp [binC,isShift,intC]
theorem bin_mul:binC P σ .mul t (.int k a) (.int k b) = .val True (.int k (k.wrap (a * b))) σ:=by simp [binC,isShift,intC]
theorem bin_quo:binC P σ .quo t (.int k a) (.int k b) = .val (b ≠ 0) (.int k (k.wrap (a.tdiv b))) σ:=by simp [binC,isShift,intC]
theorem bin_rem:binC P σ .rem t (.int k a) (.int k b) = .val (b ≠ 0) (.int k (a.tmod b)) σ:=by simp [binC,isShift,intC]
theorem bin_and:binC P σ .and t (.int k a) (.int k b) = .val True (.int k (k.wrap (BitVec.ofInt k.bits a &&& BitVec.ofInt k.bits b).toNat)) σ:=by simp [binC,isShift,intC]
theorem bin_or:binC P σ .or t (.int k a) (.int k b) = .val True (.int k (k.wrap (BitVec.ofInt k.bits a ||| BitVec.ofInt k.bits b).toNat)) σ:=by simp [binC,isShift,intC]
theorem bin_xor:binC P σ .xor t (.int k a) (.int k b) = .val True (.int k (k.wrap (BitVec.ofInt k.bits a ^^^ BitVec.ofInt k.bits b).toNat)) σ:=by simp [binC,isShift,intC]
theorem bin_eql:binC P σ .eql t (.int k a) (.int k b) = boolR (a = b) σ:=by simp [binC,isShift,intC,boolR]
theorem bin_neq:binC P σ .neq t (.int k a) (.int k b) = boolR (¬ a = b) σ:=by simp [binC,isShift,intC,boolR]
theorem bin_lss:binC P σ .lss t (.int k a) (.int k b) = boolR (a < b) σ:=by simp [binC,isShift,intC,boolR]
theorem bin_leq:binC P σ .leq t (.int k a) (.int k b) = boolR (a ≤ b) σ:=by simp [binC,isShift,intC,boolR]
theorem bin_gtr:binC P σ .gtr t (.int k a) (.int k b) = boolR (b < a) σ:=by simp [binC,isShift,intC,boolR]
theorem bin_geq:binC P σ .geq t (.int k a) (.int k b) = boolR (b ≤ a) σ:=by simp [binC,isShift,intC,boolR]
theorem bin_shl:binC P σ .shl t (.int k a) (.int k' b) = .val (0 ≤ b) (.int k (k.wrap (a * 2 ^ (min b.toNat k.bits)))) σ:=by simp [binC,isShift,shiftC]
theorem bin_shr:binC P σ .shr t (.int k a) (.int k' b) = .val (0 ≤ b) (.int k (a.fdiv (2 ^ (min b.toNat k.bits)))) σ:=by simp [binC,isShift,shiftC]
theorem bin_seql (x y:ByteArray):binC P σ .eql t (.str x) (.str y) = boolR (x.toList = y.toList) σ:=by simp only [binC,strC,boolR]; congr 2; exact Bool.eq_iff_iff.2 (by simp)
theorem bin_sneq (x y:ByteArray):binC P σ .neq t (.str x) (.str y) = boolR (¬ x.toList = y.toList) σ:=by simp only [binC,strC,boolR]; congr 2; exact Bool.eq_iff_iff.2 (by simp)
theorem bin_sadd (x y:ByteArray):binC P σ .add t (.str x) (.str y) = .val (((x.size + y.size:Nat):Int) ≤ IntKind.i64.max) (.str (x ++ y)) σ:=rfl
theorem bin_beql (x y:Bool):binC P σ .eql t (.bool x) (.bool y) = .val (P.underlying t = some .bool) (.bool (x == y)) σ:=rfl
theorem bin_pnn:binC P σ .eql t .nilp .nilp = .val (isPtrT P t = true) (.bool true) σ:=rfl
theorem bin_ppn (o v i f:Nat):binC P σ .eql t (.ptr o v i f) .nilp = .val (isPtrT P t = true) (.bool false) σ:=rfl
theorem bin_nnn:binC P σ .neq t .nilp .nilp = .val (isPtrT P t = true) (.bool false) σ:=rfl
theorem bin_npn (o v i f:Nat):binC P σ .neq t (.ptr o v i f) .nilp = .val (isPtrT P t = true) (.bool true) σ:=rfl
theorem bin_snn:binC P σ .eql t .nils .nils = .val (isSlcT P t = true) (.bool true) σ:=rfl
theorem bin_snm (o ver:Nat):binC P σ .eql t (.msl o ver) .nils = .val (isSlcT P t = true) (.bool false) σ:=rfl
theorem bin_sns (r:List PV) (rows:List (List PV)):binC P σ .eql t (.sl (r :: rows)) .nils = .val (isSlcT P t = true) (.bool false) σ:=rfl
theorem bin_tnn:binC P σ .neq t .nils .nils = .val (isSlcT P t = true) (.bool false) σ:=rfl
theorem bin_tnm (o ver:Nat):binC P σ .neq t (.msl o ver) .nils = .val (isSlcT P t = true) (.bool true) σ:=rfl
theorem bin_tns (r:List PV) (rows:List (List PV)):binC P σ .neq t (.sl (r :: rows)) .nils = .val (isSlcT P t = true) (.bool true) σ:=rfl
theorem sameKs2 (k k':IntKind) (a b c d:Int):sameKs [.int k a,.int k' c] [.int k b,.int k' d] = some (decide (a = b ∧ c = d)):=by
 by_cases h1:a = b <;> by_cases h2:c = d <;> simp [sameKs,h1,h2]
theorem bin_aeq2 {k k':IntKind} {a b c d:Int} (h:okAgg P t [.int k a,.int k' c] = true):binC P σ .eql t (.agg [.int k a,.int k' c]) (.agg [.int k b,.int k' d]) = boolR (a = b ∧ c = d) σ:=by
 simp only [binC,sameKs2,aggC,h,boolR]
theorem bin_ane2 {k k':IntKind} {a b c d:Int} (h:okAgg P t [.int k a,.int k' c] = true):binC P σ .neq t (.agg [.int k a,.int k' c]) (.agg [.int k b,.int k' d]) = boolR (¬ (a = b ∧ c = d)) σ:=by
 simp only [binC,sameKs2,aggC,h,boolR,decide_not]
theorem bin_bneq (x y:Bool):binC P σ .neq t (.bool x) (.bool y) = .val (P.underlying t = some .bool) (.bool (!(x == y))) σ:=rfl
theorem un_not (x:Bool):unC σ .not (.bool x) = .val True (.bool !x) σ:=rfl
theorem un_neg:unC σ .neg (.int k a) = .val True (.int k (k.wrap (0 - a))) σ:=rfl
theorem conv_int (s:TypeId):convC P σ s (some k') (.int k a) = .val ((P.underlying s).isSome = true) (.int k' (k'.wrap a)) σ:=rfl
theorem ext_tup (i:Nat) (vs:List PV):extC σ i (.tup vs) = .val (i < vs.length) (vs.getD i .unk) σ:=rfl
def fldC (P:Program) (σ:Store) (cells:List PV):Option Field → OpRes
 | some fd=>.val (loadOk P fd.type cells fd.offset) (loadV P fd.type cells fd.offset) σ
 | none=>.bad
theorem fldC_some (cells:List PV) (nm:String) (ty off:Nat) (em:Bool) (tag pk:String) (bo:Nat):fldC P σ cells (some ⟨nm,ty,off,em,tag,pk,bo⟩) = .val (loadOk P ty cells off) (loadV P ty cells off) σ:=rfl
theorem field_agg (f:Nat) (fs:List Field) (cells:List PV):fieldC P σ f (some (.struct fs.toArray)) (.agg cells) = fldC P σ cells fs[f]?:=by
 simp only [fieldC,List.getElem?_toArray]
 cases fs[f]? <;> rfl
def fldP (P:Program) (σ:Store) (mk:Nat → PV):Option Field → OpRes
 | some fd=>.val (P.cellsOf fd.type ≠ 0) (mk fd.offset) σ
 | none=>.bad
theorem fldP_some (mk:Nat → PV) (nm:String) (ty off:Nat) (em:Bool) (tag pk:String) (bo:Nat):fldP P σ mk (some ⟨nm,ty,off,em,tag,pk,bo⟩) = .val (P.cellsOf ty ≠ 0) (mk off) σ:=rfl
theorem fieldA_ptr (f:Nat) (fs:List Field) (o ver i off:Nat):fieldAddrC P σ f (some (.struct fs.toArray)) (.ptr o ver i off) = fldP P σ (fun x=>.ptr o ver i (off + x)) fs[f]?:=by
 simp only [fieldAddrC,List.getElem?_toArray]
 cases fs[f]? <;> rfl
theorem fieldA_iptr (f:Nat) (fs:List Field) (row:List PV) (off:Nat):fieldAddrC P σ f (some (.struct fs.toArray)) (.iptr row off) = fldP P σ (fun x=>.iptr row (off + x)) fs[f]?:=by
 simp only [fieldAddrC,List.getElem?_toArray]
 cases fs[f]? <;> rfl
def rowsAt (g:TypeId → Nat → List (List PV) → Nat → OpRes):Option Obj → OpRes
 | some (.rows el sz rows v)=>g el sz rows v
 | _=>.bad
theorem rowsAt_some (g:TypeId → Nat → List (List PV) → Nat → OpRes) (el:TypeId) (sz:Nat) (rows:List (List PV)) (v:Nat):rowsAt g (some (.rows el sz rows v)) = g el sz rows v:=rfl
theorem rowsAt_eq (g:TypeId → Nat → List (List PV) → Nat → OpRes) (x:Option Obj):rowsAt g x = (match x with | some (.rows el sz rows v)=>g el sz rows v | _=>.bad):=by
 cases x with
 | none=>rfl
 | some o=>cases o <;> rfl
variable (elem len o ver r off:Nat) (rows:List (List PV)) (row:List PV)
theorem idx_arr:idxC P σ (some (.array len elem)) (.ptr o ver r off) (.int k a) = .val (0 ≤ a ∧ a < len ∧ P.cellsOf elem ≠ 0) (.ptr o ver r (off + a.toNat * P.cellsOf elem)) σ:=rfl
theorem idx_iarr:idxC P σ (some (.array len elem)) (.iptr row off) (.int k a) = .val (0 ≤ a ∧ a < len ∧ P.cellsOf elem ≠ 0) (.iptr row (off + a.toNat * P.cellsOf elem)) σ:=rfl
theorem idx_sl:idxC P σ (some (.slice elem)) (.sl rows) (.int k a) = .val (0 ≤ a ∧ a.toNat < rows.length ∧ (rows.getD a.toNat []).length = P.cellsOf elem ∧ P.cellsOf elem ≠ 0) (.iptr (rows.getD a.toNat []) 0) σ:=rfl
theorem idx_msl:idxC P σ (some (.slice elem)) (.msl o ver) (.int k a) = rowsAt (fun _ sz rows v=>.val (v = ver ∧ 0 ≤ a ∧ a.toNat < rows.length ∧ sz = P.cellsOf elem ∧ P.cellsOf elem ≠ 0) (.ptr o ver a.toNat 0) σ) σ[o]?:=by rw [rowsAt_eq]; rfl
theorem idx_msuf {l:Nat}:idxC P σ (some (.slice elem)) (.msuf o ver l) (.int k a) = rowsAt (fun _ sz rows v=>.val (v = ver ∧ 0 ≤ a ∧ l + a.toNat < rows.length ∧ sz = P.cellsOf elem ∧ P.cellsOf elem ≠ 0) (.ptr o ver (l + a.toNat) 0) σ) σ[o]?:=by rw [rowsAt_eq]; rfl
theorem index_str (s:ByteArray):indexC P σ (some .string) (.str s) (.int k a) = .val (0 ≤ a ∧ a.toNat < s.size) (.int .u8 (s.data.getD a.toNat 0).toNat) σ:=rfl
theorem index_arr (cells:List PV):indexC P σ (some (.array len elem)) (.agg cells) (.int k a) = .val (0 ≤ a ∧ a < len ∧ P.cellsOf elem ≠ 0 ∧ loadOk P elem cells (a.toNat * P.cellsOf elem)) (loadV P elem cells (a.toNat * P.cellsOf elem)) σ:=rfl
theorem load_iptr:loadC P σ t (.iptr row off) = .val (loadOk P t row off) (loadV P t row off) σ:=rfl
theorem load_ptr:loadC P σ t (.ptr o ver r off) = rowsAt (fun _ _ rows v=>.val (v = ver ∧ r < rows.length ∧ loadOk P t (rows.getD r []) off) (loadV P t (rows.getD r []) off) σ) σ[o]?:=by rw [rowsAt_eq]; rfl
def loadOkB (P:Program) (t:TypeId) (row:List PV) (off:Nat):Bool → Prop
 | true=>(P.underlying t).isSome = true ∧ off + P.cellsOf t ≤ row.length
 | false=>(P.underlying t).isSome = true ∧ off < row.length
def loadVB (P:Program) (t:TypeId) (row:List PV) (off:Nat):Bool → PV
 | true=>.agg ((row.drop off).take (P.cellsOf t))
 | false=>row.getD off .unk
theorem loadOk_B:loadOk P t row off = loadOkB P t row off (aggT P t):=by
 unfold loadOk
 cases aggT P t <;> simp [loadOkB]
theorem loadV_B:loadV P t row off = loadVB P t row off (aggT P t):=by
 unfold loadV
 cases aggT P t <;> simp [loadVB]
theorem loadOkB_t:loadOkB P t row off true = ((P.underlying t).isSome = true ∧ off + P.cellsOf t ≤ row.length):=rfl
theorem loadOkB_f:loadOkB P t row off false = ((P.underlying t).isSome = true ∧ off < row.length):=rfl
theorem loadVB_t:loadVB P t row off true = .agg ((row.drop off).take (P.cellsOf t)):=rfl
theorem loadVB_f:loadVB P t row off false = row.getD off .unk:=rfl
theorem bi_len (x:PV):builtinC P σ .len [x] [t] = lenC σ (P.underlying t) x:=rfl
theorem bi_max (x y:PV) (ts:List TypeId):builtinC P σ .max [x,y] ts = maxC σ x y:=rfl
theorem bi_min (x y:PV) (ts:List TypeId):builtinC P σ .min [x,y] ts = minC σ x y:=rfl
theorem bi_app (s x:PV) (tx:TypeId):builtinC P σ .append [s,x] [t,tx] = appTC P σ x s (P.underlying t) (P.underlying tx):=rfl
theorem len_nils:lenC σ (some (.slice elem)) .nils = .val True (.int .i64 0) σ:=rfl
theorem len_sl:lenC σ (some (.slice elem)) (.sl rows) = .val True (.int .i64 rows.length) σ:=rfl
theorem len_msl:lenC σ (some (.slice elem)) (.msl o ver) = rowsAt (fun _ _ rows v=>.val (v = ver) (.int .i64 rows.length) σ) σ[o]?:=by rw [rowsAt_eq]; rfl
theorem len_msuf {l:Nat}:lenC σ (some (.slice elem)) (.msuf o ver l) = rowsAt (fun _ _ rows v=>.val (v = ver ∧ l ≤ rows.length) (.int .i64 ((rows.length - l:Nat):Int)) σ) σ[o]?:=by rw [rowsAt_eq]; rfl
theorem len_str (s:ByteArray):lenC σ (some .string) (.str s) = .val True (.int .i64 s.size) σ:=rfl
theorem len_arr (x:PV):lenC σ (some (.array len elem)) x = .val True (.int .i64 len) σ:=by cases x <;> rfl
theorem max_int:maxC σ (.int k a) (.int k' b) = .val True (.int k (if b > a then b else a)) σ:=rfl
theorem min_int:minC σ (.int k a) (.int k' b) = .val True (.int k (if b < a then b else a)) σ:=rfl
theorem alloc_z (zs:List PV):allocC σ t (some zs) = .val True (.ptr σ.length 0 0 0) (σ ++ [.rows t zs.length [zs] 0]):=rfl
theorem box_z (cells:List PV):boxC σ t (some cells) = .val True (.ptr σ.length 0 0 0) (σ ++ [.rows t cells.length [cells] 0]):=rfl
theorem store_ptr (cells:List PV):storeC P σ t (.ptr o ver r off) (some cells) = rowsAt (fun el sz rows v=>.val (v = ver ∧ r < rows.length ∧ off + cells.length ≤ (rows.getD r []).length ∧ cells.length = P.cellsOf t ∧ P.cellsOf t ≠ 0) .undef (σ.set o (.rows el sz (rows.set r (splice (rows.getD r []) off cells)) ver))) σ[o]?:=by rw [rowsAt_eq]; rfl
theorem make_z (zs:List PV) (hz:zeroCells P elem = some zs):makeC P σ (some (.slice elem)) (.int k a) (.int k' b) = .val (a = b ∧ 0 ≤ a ∧ zs.length = P.cellsOf elem ∧ a.toNat * P.bytesOf elem ≤ maxBytes ∧ a ≤ 9223372036854775807) (.msl σ.length 0) (σ ++ [.rows elem zs.length (List.replicate a.toNat zs) 0]):=by
 simp only [makeC,hz]
def makeZ (P:Program) (σ:Store) (elem:Nat) (a b:Int):Option (List PV) → OpRes
 | some zs=>.val (a = b ∧ 0 ≤ a ∧ zs.length = P.cellsOf elem ∧ a.toNat * P.bytesOf elem ≤ maxBytes ∧ a ≤ 9223372036854775807) (.msl σ.length 0) (σ ++ [.rows elem zs.length (List.replicate a.toNat zs) 0])
 | none=>.bad
theorem make_eq:makeC P σ (some (.slice elem)) (.int k a) (.int k' b) = makeZ P σ elem a b (zeroCells P elem):=by
 cases h:zeroCells P elem <;> simp only [makeC,makeZ,h]
theorem makeZ_some (zs:List PV):makeZ P σ elem a b (some zs) = .val (a = b ∧ 0 ≤ a ∧ zs.length = P.cellsOf elem ∧ a.toNat * P.bytesOf elem ≤ maxBytes ∧ a ≤ 9223372036854775807) (.msl σ.length 0) (σ ++ [.rows elem zs.length (List.replicate a.toNat zs) 0]):=rfl
def slcN (P:Program) (σ:Store) (elem:Nat):Option Nat → Option Nat → OpRes
 | some l,some h=>.val (l = 0 ∧ h = 0 ∧ P.cellsOf elem ≠ 0) .nils σ
 | _,_=>.bad
def slcS (P:Program) (σ:Store) (elem:Nat) (rows:List (List PV)):Option Nat → Option Nat → OpRes
 | some l,some h=>.val (l ≤ h ∧ h ≤ rows.length ∧ P.cellsOf elem ≠ 0 ∧ (rows.all fun row=>row.length == P.cellsOf elem) = true) (.sl ((rows.take h).drop l)) σ
 | _,_=>.bad
def slcM (P:Program) (m:Bool) (σ:Store) (elem o ver:Nat) (el sz:Nat) (rows:List (List PV)) (v:Nat):Option Nat → Option Nat → OpRes
 | some l,some h=>.val (v = ver ∧ sz = P.cellsOf elem ∧ l = 0 ∧ h ≤ rows.length ∧ P.cellsOf elem ≠ 0) (if m then .mpre o ver h else .msl o (ver + 1)) (if m then σ else σ.set o (.rows el sz (rows.take h) (ver + 1)))
 | _,_=>.bad
def slcP (P:Program) (σ:Store) (elem o ver h0:Nat):Option Nat → Option Nat → OpRes
 | some l,some h=>.val (l = 0 ∧ h ≤ h0 ∧ P.cellsOf elem ≠ 0) (.mpre o ver h) σ
 | _,_=>.bad
theorem slice_mpre (h0:Nat) (lo hi:Option PV):sliceC P m σ (some (.slice elem)) (.mpre o ver h0) lo hi = slcP P σ elem o ver h0 (boundC 0 lo) (boundC h0 hi):=by
 simp only [sliceC]
 cases boundC 0 lo <;> cases boundC h0 hi <;> rfl
theorem slcP_some (h0 l h:Nat):slcP P σ elem o ver h0 (some l) (some h) = .val (l = 0 ∧ h ≤ h0 ∧ P.cellsOf elem ≠ 0) (.mpre o ver h) σ:=rfl
theorem len_mpre (h:Nat):lenC σ (some (.slice elem)) (.mpre o ver h) = .val True (.int .i64 h) σ:=rfl
theorem slice_nils (lo hi:Option PV):sliceC P m σ (some (.slice elem)) .nils lo hi = slcN P σ elem (boundC 0 lo) (boundC 0 hi):=by
 simp only [sliceC]
 cases boundC 0 lo <;> cases boundC 0 hi <;> rfl
theorem slice_sl (lo hi:Option PV):sliceC P m σ (some (.slice elem)) (.sl rows) lo hi = slcS P σ elem rows (boundC 0 lo) (boundC rows.length hi):=by
 simp only [sliceC]
 cases boundC 0 lo <;> cases boundC rows.length hi <;> rfl
theorem slice_mslN (hi:Option PV):sliceC P m σ (some (.slice elem)) (.msl o ver) none hi = rowsAt (fun el sz rows v=>slcM P m σ elem o ver el sz rows v (some 0) (boundC rows.length hi)) σ[o]?:=by
 rw [rowsAt_eq]
 simp only [sliceC]
 cases h:σ[o]? with
 | none=>rfl
 | some x =>
  cases x with
  | rows el sz rows v =>
   simp only [show boundC 0 none = some 0 from rfl]
   generalize boundC rows.length hi = b
   cases b <;> simp [slcM]
  | _=>rfl
def slcZ (P:Program) (m:Bool) (σ:Store) (elem o ver:Nat) (el sz:Nat) (rows:List (List PV)) (v:Nat) (l h:Option Nat):OpRes:=match l,h with
 | some l,some h=>if m = true then .val (v = ver ∧ sz = P.cellsOf elem ∧ l ≤ h ∧ h = rows.length ∧ P.cellsOf elem ≠ 0) (.msuf o ver l) σ else slcM P false σ elem o ver el sz rows v (some l) (some h)
 | _,_=>.bad
theorem slice_mslS (lo:PV) (hi:Option PV):sliceC P m σ (some (.slice elem)) (.msl o ver) (some lo) hi = rowsAt (fun el sz rows v=>slcZ P m σ elem o ver el sz rows v (boundC 0 (some lo)) (boundC rows.length hi)) σ[o]?:=by
 rw [rowsAt_eq]
 simp only [sliceC]
 cases h:σ[o]? with
 | none=>rfl
 | some x =>
  cases x with
  | rows el sz rows v=>simp only; cases boundC 0 (some lo) <;> cases boundC rows.length hi <;> cases m <;> simp [slcM,slcZ]
  | _=>rfl
theorem slcZ_f (el sz v l h:Nat):slcZ P false σ elem o ver el sz rows v (some l) (some h) = slcM P false σ elem o ver el sz rows v (some l) (some h):=rfl
theorem slcZ_t (el sz v l h:Nat):slcZ P true σ elem o ver el sz rows v (some l) (some h) = .val (v = ver ∧ sz = P.cellsOf elem ∧ l ≤ h ∧ h = rows.length ∧ P.cellsOf elem ≠ 0) (.msuf o ver l) σ:=rfl
def clrR (P:Program) (σ:Store) (elem o ver l:Nat) (zs:List PV) (el sz:Nat) (rows:List (List PV)) (v:Nat):OpRes :=
 .val (v = ver ∧ sz = P.cellsOf elem ∧ zs.length = P.cellsOf elem ∧ zs.all PV.cell = true ∧ l ≤ rows.length) (.tup []) (σ.set o (.rows el sz (rows.take l ++ List.replicate (rows.length - l) zs) ver))
theorem bi_clr (x:PV):builtinC P σ .clear [x] [t] = clrTC P σ x (P.underlying t):=rfl
theorem clr_sl (x:PV):clrTC P σ x (some (.slice elem)) = clrC P σ elem (zeroCells P elem) x:=rfl
theorem clr_msuf (zs:List PV) (l:Nat):clrC P σ elem (some zs) (.msuf o ver l) = rowsAt (fun el sz rows v=>clrR P σ elem o ver l zs el sz rows v) σ[o]?:=by
 rw [rowsAt_eq]
 simp only [clrC]
 cases h:σ[o]? with
 | none=>rfl
 | some x =>
  cases x with
  | rows el sz rows v=>rfl
  | _=>rfl
theorem clrR_def (l:Nat) (zs:List PV) (el sz v:Nat):clrR P σ elem o ver l zs el sz rows v = .val (v = ver ∧ sz = P.cellsOf elem ∧ zs.length = P.cellsOf elem ∧ zs.all PV.cell = true ∧ l ≤ rows.length) (.tup []) (σ.set o (.rows el sz (rows.take l ++ List.replicate (rows.length - l) zs) ver)):=rfl
theorem slcN_some (l h:Nat):slcN P σ elem (some l) (some h) = .val (l = 0 ∧ h = 0 ∧ P.cellsOf elem ≠ 0) .nils σ:=rfl
theorem slcS_some (l h:Nat):slcS P σ elem rows (some l) (some h) = .val (l ≤ h ∧ h ≤ rows.length ∧ P.cellsOf elem ≠ 0 ∧ (rows.all fun row=>row.length == P.cellsOf elem) = true) (.sl ((rows.take h).drop l)) σ:=rfl
theorem slcM_some (el sz v l h:Nat):slcM P m σ elem o ver el sz rows v (some l) (some h) = .val (v = ver ∧ sz = P.cellsOf elem ∧ l = 0 ∧ h ≤ rows.length ∧ P.cellsOf elem ≠ 0) (if m then .mpre o ver h else .msl o (ver + 1)) (if m then σ else σ.set o (.rows el sz (rows.take h) (ver + 1))):=rfl
theorem bound_none (d:Nat):boundC d none = some d:=rfl
theorem bound_some (d:Nat) (h:0 ≤ a):boundC d (some (.int .i64 a)) = some a.toNat:=by simp [boundC,h]
def fillK (place:Nat → Option (Nat × Nat)) (cells:List PV) (rest:List (Nat × PV)):Option (Nat × Nat) → Option (List PV) → Option (List PV)
 | some (off,size),some cs=>cond (cs.length == size && decide (off + size ≤ cells.length)) (fillP place (splice cells off cs) rest) none
 | _,_=>none
theorem fill_nil (place:Nat → Option (Nat × Nat)) (cells:List PV):fillP place cells [] = some cells:=rfl
theorem fill_cons (place:Nat → Option (Nat × Nat)) (cells:List PV) (i:Nat) (v:PV) (rest:List (Nat × PV)):fillP place cells ((i,v) :: rest) = fillK place cells rest (place i) (cellsV v):=by
 rw [fillP]
 cases place i with
 | none=>rfl
 | some q =>
  obtain ⟨of,sz⟩:=q
  cases cellsV v with
  | none=>rfl
  | some cs =>
   simp only [fillK]
   by_cases h:cs.length = sz ∧ of + sz ≤ cells.length
   ·rw [if_pos h]; simp [h.1,h.2]
   ·rw [if_neg h]
    have:(cs.length == sz && decide (of + sz ≤ cells.length)) = false:=by simpa using h
    rw [this]; rfl
theorem fillK_some (place:Nat → Option (Nat × Nat)) (cells:List PV) (rest:List (Nat × PV)) (of size:Nat) (cs:List PV):fillK place cells rest (some (of,size)) (some cs) = cond (cs.length == size && decide (of + size ≤ cells.length)) (fillP place (splice cells of cs) rest) none:=rfl
def buildK (σ:Store) (c:Prop):Option (List PV) → OpRes
 | some cells=>.val c (.agg cells) σ
 | none=>.bad
theorem buildK_some (c:Prop) (cells:List PV):buildK σ c (some cells) = .val c (.agg cells) σ:=rfl
def placeS (P:Program) (fs:List Field) (i:Nat):Option (Nat × Nat):=(fs[i]?).map fun f=>(f.offset,P.cellsOf f.type)
def placeF (P:Program):Option Field → Option (Nat × Nat)
 | some f=>some (f.offset,P.cellsOf f.type)
 | none=>none
theorem placeS_eq (fs:List Field) (i:Nat):placeS P fs i = placeF P fs[i]?:=by
 unfold placeS
 cases fs[i]? <;> rfl
theorem placeF_some (nm:String) (ty of:Nat) (em:Bool) (tag pk:String) (bo:Nat):placeF P (some ⟨nm,ty,of,em,tag,pk,bo⟩) = some (of,P.cellsOf ty):=rfl
theorem build_struct (parts:List (Nat × PV)) (fs:List Field) (zs:List PV):buildC P σ parts (some (.struct fs.toArray)) (some zs) = buildK σ (fs.toArray.all (fun f=>(P.info? f.type).isSome) = true) (fillP (placeS P fs) zs parts):=by
 have e:(fun i=>((fs.toArray)[i]?).map fun f=>(f.offset,P.cellsOf f.type)) = placeS P fs:=by
  funext i; simp [placeS]
 simp only [buildC,e]
 cases fillP (placeS P fs) zs parts <;> rfl
def placeA (sz i:Nat):Option (Nat × Nat):=some (i * sz,sz)
theorem placeA_eq (sz i:Nat):placeA sz i = some (i * sz,sz):=rfl
theorem build_arr (parts:List (Nat × PV)) (zs:List PV):buildC P σ parts (some (.array len elem)) (some zs) = buildK σ (P.cellsOf elem ≠ 0) (fillP (placeA (P.cellsOf elem)) zs parts):=by
 have e:(fun i=>some (i * P.cellsOf elem,P.cellsOf elem)) = placeA (P.cellsOf elem):=rfl
 simp only [buildC,e]
 cases fillP (placeA (P.cellsOf elem)) zs parts <;> rfl
def rowsK (sz k i:Nat) (rest:List (Nat × PV)):Option (List PV) → Option (List (List PV))
 | some cs=>cond (i == k && cs.length == sz) ((rowsP sz (k + 1) rest).map (cs :: ·)) none
 | none=>none
theorem rowsP_nil (sz k:Nat):rowsP sz k [] = some []:=rfl
theorem rowsP_cons (sz k i:Nat) (v:PV) (rest:List (Nat × PV)):rowsP sz k ((i,v) :: rest) = rowsK sz k i rest (cellsV v):=by
 rw [rowsP]
 cases cellsV v with
 | none=>rfl
 | some cs =>
  simp only [rowsK]
  by_cases h:i = k ∧ cs.length = sz
  ·rw [if_pos h]; simp [h.1,h.2]
  ·rw [if_neg h]
   have:(i == k && cs.length == sz) = false:=by simpa using h
   rw [this]; rfl
theorem rowsK_some (sz k i:Nat) (rest:List (Nat × PV)) (cs:List PV):rowsK sz k i rest (some cs) = cond (i == k && cs.length == sz) ((rowsP sz (k + 1) rest).map (cs :: ·)) none:=rfl
def bslK (P:Program) (σ:Store) (m:Bool) (len elem:Nat):Option (List PV) → Option (List (List PV)) → OpRes
 | some zs,some []=>.val (P.cellsOf elem ≠ 0 ∧ zs.length = P.cellsOf elem ∧ len = 0) (cond m (.msl σ.length 0) (.sl [])) (cond m (σ ++ [.rows elem (P.cellsOf elem) [] 0]) σ)
 | some zs,some (r :: rows)=>.val (P.cellsOf elem ≠ 0 ∧ zs.length = P.cellsOf elem ∧ rows.length + 1 = len ∧ len * P.cellsOf elem ≤ 16777216) (cond m (.msl σ.length 0) (.sl (r :: rows))) (cond m (σ ++ [.rows elem (P.cellsOf elem) (r :: rows) 0]) σ)
 | _,_=>.bad
theorem bsl_eq (parts:List (Nat × PV)):buildSliceC P σ m len parts (some (.slice elem)) = bslK P σ m len elem (zeroCells P elem) (rowsP (P.cellsOf elem) 0 parts):=by
 simp only [buildSliceC]
 cases zeroCells P elem with
 | none=>rfl
 | some zs =>
  cases rowsP (P.cellsOf elem) 0 parts with
  | none=>rfl
  | some l=>cases l with
   | nil=>cases m <;> rfl
   | cons r l=>cases m <;> rfl
theorem bslK_nil (zs:List PV):bslK P σ m len elem (some zs) (some []) = .val (P.cellsOf elem ≠ 0 ∧ zs.length = P.cellsOf elem ∧ len = 0) (cond m (.msl σ.length 0) (.sl [])) (cond m (σ ++ [.rows elem (P.cellsOf elem) [] 0]) σ):=rfl
theorem bslK_cons (zs:List PV) (rw1:List PV):bslK P σ m len elem (some zs) (some (rw1 :: rows)) = .val (P.cellsOf elem ≠ 0 ∧ zs.length = P.cellsOf elem ∧ rows.length + 1 = len ∧ len * P.cellsOf elem ≤ 16777216) (cond m (.msl σ.length 0) (.sl (rw1 :: rows))) (cond m (σ ++ [.rows elem (P.cellsOf elem) (rw1 :: rows) 0]) σ):=rfl
def rwAt (ver:Nat):Option Obj → Option (Prop × List (List PV))
 | some (.rows _ _ rows v)=>some (v = ver,rows)
 | _=>none
theorem rwAt_some (el sz v:Nat):rwAt ver (some (.rows el sz rows v)) = some (v = ver,rows):=rfl
theorem rows_nils:rowsC σ .nils = some (True,[]):=rfl
theorem rows_sl:rowsC σ (.sl rows) = some (True,rows):=rfl
theorem rows_msl:rowsC σ (.msl o ver) = rwAt ver σ[o]?:=by
 simp only [rowsC]
 cases σ[o]? with
 | none=>rfl
 | some x=>cases x <;> rfl
def rwPre (ver h:Nat):Option Obj → Option (Prop × List (List PV))
 | some (.rows _ _ rows v)=>some (v = ver ∧ h ≤ rows.length,rows.take h)
 | _=>none
def rwSuf (ver l:Nat):Option Obj → Option (Prop × List (List PV))
 | some (.rows _ _ rows v)=>some (v = ver ∧ l ≤ rows.length,rows.drop l)
 | _=>none
theorem rwPre_some (ver h el sz:Nat) (rows:List (List PV)) (v:Nat):rwPre ver h (some (.rows el sz rows v)) = some (v = ver ∧ h ≤ rows.length,rows.take h):=rfl
theorem rwSuf_some (ver l el sz:Nat) (rows:List (List PV)) (v:Nat):rwSuf ver l (some (.rows el sz rows v)) = some (v = ver ∧ l ≤ rows.length,rows.drop l):=rfl
theorem rows_mpre (ver h:Nat):rowsC σ (.mpre o ver h) = rwPre ver h σ[o]?:=by
 simp only [rowsC]
 cases σ[o]? with
 | none=>rfl
 | some x=>cases x <;> rfl
theorem rows_msuf (ver l:Nat):rowsC σ (.msuf o ver l) = rwSuf ver l σ[o]?:=by
 simp only [rowsC]
 cases σ[o]? with
 | none=>rfl
 | some x=>cases x <;> rfl
theorem app_eq (x s:PV):appTC P σ x s (some (.slice elem)) (some (.slice elem)) = appC P σ elem (zeroCells P elem) s (rowsC σ x):=by simp [appTC]
theorem app_nil0 (zs:List PV) (c:Prop):appC P σ elem (some zs) .nils (some (c,[])) = .val (c ∧ zs.length = P.cellsOf elem ∧ P.cellsOf elem ≠ 0) .nils σ:=rfl
theorem app_nil (zs:List PV) (c:Prop) (rw1:List PV) (news:List (List PV)):appC P σ elem (some zs) .nils (some (c,rw1 :: news)) = .val (c ∧ zs.length = P.cellsOf elem ∧ P.cellsOf elem ≠ 0 ∧ newsOk P elem (rw1 :: news) = true ∧ (news.length + 1) * P.bytesOf elem ≤ maxBytes ∧ news.length + 1 ≤ maxLen) (.msl σ.length 0)
   (σ ++ [.rows elem (P.cellsOf elem) (rw1 :: news) 0]):=rfl
theorem app_msl (zs:List PV) (c:Prop) (news:List (List PV)):appC P σ elem (some zs) (.msl o ver) (some (c,news)) = rowsAt (fun el sz rows v=>.val (c ∧ v = ver ∧ el = elem ∧ sz = P.cellsOf elem ∧ zs.length = P.cellsOf elem ∧ P.cellsOf elem ≠ 0 ∧ newsOk P elem news = true ∧ (rows.length + news.length) * P.bytesOf elem ≤ maxBytes ∧ rows.length + news.length ≤ maxLen)
    (.msl o (ver + 1)) (σ.set o (.rows el sz (rows ++ news) (ver + 1)))) σ[o]?:=by rw [rowsAt_eq]; rfl
theorem app_mpre (zs:List PV) (c:Prop) (h:Nat) (news:List (List PV)):appC P σ elem (some zs) (.mpre o ver h) (some (c,news)) = rowsAt (fun el sz rows v=>.val (c ∧ v = ver ∧ el = elem ∧ sz = P.cellsOf elem ∧ zs.length = P.cellsOf elem ∧ P.cellsOf elem ≠ 0 ∧ newsOk P elem news = true ∧ h ≤ rows.length ∧ (h + news.length) * P.bytesOf elem ≤ maxBytes ∧ h + news.length ≤ maxLen)
    (.msl o (ver + 1 + 1)) (σ.set o (.rows el sz (rows.take h ++ news) (ver + 1 + 1)))) σ[o]?:=by rw [rowsAt_eq]; rfl
theorem call_func (F:FuncId) (first cap args:List PV):callC args (.func (.func F) first cap) = .call F (first ++ args ++ cap):=rfl
end
theorem cells_bool (b:Bool):cellsV (.bool b) = some [.bool b]:=rfl
theorem cells_int (k:IntKind) (n:Int):cellsV (.int k n) = some [.int k n]:=rfl
theorem cells_str (s:ByteArray):cellsV (.str s) = some [.str s]:=rfl
theorem cells_nilp:cellsV .nilp = some [.nilp]:=rfl
theorem cells_ptr (o v i f:Nat):cellsV (.ptr o v i f) = some [.ptr o v i f]:=rfl
theorem cells_iptr (r:List PV) (f:Nat):cellsV (.iptr r f) = some [.iptr r f]:=rfl
theorem cells_nils:cellsV .nils = some [.nils]:=rfl
theorem cells_sl (r:List (List PV)):cellsV (.sl r) = some [.sl r]:=rfl
theorem cells_msl (o v:Nat):cellsV (.msl o v) = some [.msl o v]:=rfl
theorem cells_mpre (o v h:Nat):cellsV (.mpre o v h) = some [.mpre o v h]:=rfl
theorem cells_nilm:cellsV .nilm = some [.nilm]:=rfl
theorem cells_map (o:Nat):cellsV (.map o) = some [.map o]:=rfl
theorem cells_func (f:Fn) (a b:List PV):cellsV (.func f a b) = some [.func f a b]:=rfl
theorem cells_nilf:cellsV .nilf = some [.nilf]:=rfl
theorem cells_agg (cells:List PV):cellsV (.agg cells) = cond (cells.all PV.cell) (some cells) none:=by
 simp only [cellsV]
 cases cells.all PV.cell <;> rfl
theorem cell_bool (b:Bool):PV.cell (.bool b) = true:=rfl
theorem cell_int (k:IntKind) (n:Int):PV.cell (.int k n) = true:=rfl
theorem cell_str (s:ByteArray):PV.cell (.str s) = true:=rfl
theorem cell_nilp:PV.cell .nilp = true:=rfl
theorem cell_ptr (o v i f:Nat):PV.cell (.ptr o v i f) = true:=rfl
theorem cell_iptr (r:List PV) (f:Nat):PV.cell (.iptr r f) = true:=rfl
theorem cell_nils:PV.cell .nils = true:=rfl
theorem cell_sl (r:List (List PV)):PV.cell (.sl r) = true:=rfl
theorem cell_msl (o v:Nat):PV.cell (.msl o v) = true:=rfl
theorem cell_func (f:Fn) (a b:List PV):PV.cell (.func f a b) = true:=rfl
theorem news_nil (P:Program) (elem:Nat):newsOk P elem [] = true:=rfl
theorem news_cons (P:Program) (elem:Nat) (row:List PV) (rows:List (List PV)):newsOk P elem (row :: rows) = (row.length == P.cellsOf elem && row.all PV.cell && newsOk P elem rows):=rfl
def mapAt (g:List (PV × PV) → OpRes):Option Obj → OpRes
 | some (.map es)=>g es
 | _=>.bad
theorem mapAt_some (g:List (PV × PV) → OpRes) (es:List (PV × PV)):mapAt g (some (.map es)) = g es:=rfl
theorem mapAt_eq (g:List (PV × PV) → OpRes) (x:Option Obj):mapAt g x = (match x with | some (.map es)=>g es | _=>.bad):=by
 cases x with
 | none=>rfl
 | some o=>cases o <;> rfl
section
variable (P:Program) (m:Bool) (σ:Store) (e:Operand → PV)
theorem ev_makeMap (t:TypeId):evC P m σ e (.makeMap t none) = .val True (.map σ.length) (σ ++ [.map []]):=nr rfl
theorem ev_lookup (t:TypeId) (x i:Operand):evC P m σ e (.lookup t x i false) = lookupC P σ (e i) (e x) (P.underlying t):=nr rfl
theorem ev_mapUpdate (t:TypeId) (x i v:Operand):evC P m σ e (.mapUpdate t x i v) = mapUpdC P σ (e i) (e v) (e x) (P.underlying t):=nr rfl
def lookZ (P:Program) (σ:Store) (k:PV) (o kt:Nat):Option PV → OpRes
 | some z=>mapAt (fun es=>.val (okKind P kt (P.underlying kt) k = true ∧ (findP k es 0).isSome = true) (mgetP es k z) σ) σ[o]?
 | none=>.bad
theorem look_map (k:PV) (o kt et:Nat):lookupC P σ k (.map o) (some (.map kt et)) = lookZ P σ k o kt (zeroP P et):=by
 simp only [lookupC,mapC]
 cases zeroP P et with
 | none=>rfl
 | some z =>
  simp only [lookZ]
  cases σ[o]? with
  | none=>rfl
  | some x=>cases x <;> rfl
theorem lookZ_some (k:PV) (o kt:Nat) (z:PV):lookZ P σ k o kt (some z) = mapAt (fun es=>.val (okKind P kt (P.underlying kt) k = true ∧ (findP k es 0).isSome = true) (mgetP es k z) σ) σ[o]?:=rfl
theorem upd_map (k v:PV) (o kt et:Nat):mapUpdC P σ k v (.map o) (some (.map kt et)) = mapAt (fun es=>.val (okKind P kt (P.underlying kt) k = true ∧ (findP k es 0).isSome = true) .undef (σ.set o (.map (mputP es k v)))) σ[o]?:=by
 simp only [mapUpdC,mapC]
 cases σ[o]? with
 | none=>rfl
 | some x=>cases x <;> rfl
theorem okKind_int (kt:TypeId) (k:IntKind) (n:Int):okKind P kt (some (.int k)) (.int k n) = true:=by simp [okKind]
theorem okKind_str (kt:TypeId) (s:ByteArray):okKind P kt (some .string) (.str s) = true:=rfl
end
end Go.PV
