import Derived.Test.YtangodmcbmeeaaaPvQ
set_option maxRecDepth 8000
namespace Go.PV
inductive OpRes where
 | val (c:Prop) (v:PV) (σ:Store)
 | call (F:FuncId) (args:List PV)
 | bad
def loadOk (P:Program) (t:TypeId) (row:List PV) (off:Nat):Prop:=(P.underlying t).isSome = true ∧ (if aggT P t then off + P.cellsOf t ≤ row.length else off < row.length)
def loadV (P:Program) (t:TypeId) (row:List PV) (off:Nat):PV:=if aggT P t then .agg ((row.drop off).take (P.cellsOf t)) else row.getD off .unk
def pickC (σ:Store):PV → PV → PV → OpRes
 | .bool t,a,b=>.val True (if t then a else b) σ
 | _,_,_=>.bad
def nilC (σ:Store):PV → OpRes
 | .ptr o ver i off=>.val True (.ptr o ver i off) σ
 | .iptr row off=>.val True (.iptr row off) σ
 | _=>.bad
def intC (σ:Store) (k:IntKind) (a b:Int):BinOp → OpRes
 | .add=>.val True (.int k (k.wrap (a + b))) σ
 | .sub=>.val True (.int k (k.wrap (a - b))) σ
 | .mul=>.val True (.int k (k.wrap (a * b))) σ
 | .quo=>.val (b ≠ 0) (.int k (k.wrap (a.tdiv b))) σ
 | .rem=>.val (b ≠ 0) (.int k (a.tmod b)) σ
 | .and=>.val True (.int k (k.wrap (BitVec.ofInt k.bits a &&& BitVec.ofInt k.bits b).toNat)) σ
 | .or=>.val True (.int k (k.wrap (BitVec.ofInt k.bits a ||| BitVec.ofInt k.bits b).toNat)) σ
 | .xor=>.val True (.int k (k.wrap (BitVec.ofInt k.bits a ^^^ BitVec.ofInt k.bits b).toNat)) σ
 | .eql=>.val True (.bool (decide (a = b))) σ
 | .neq=>.val True (.bool (!decide (a = b))) σ
 | .lss=>.val True (.bool (decide (a < b))) σ
 | .leq=>.val True (.bool (decide (a ≤ b))) σ
 | .gtr=>.val True (.bool (decide (b < a))) σ
 | .geq=>.val True (.bool (decide (b ≤ a))) σ
 | _=>.bad
def strC (σ:Store) (a b:ByteArray):BinOp → OpRes
 | .eql=>.val True (.bool (a.toList == b.toList)) σ
 | .neq=>.val True (.bool (!(a.toList == b.toList))) σ
 | .add=>.val (((a.size + b.size:Nat):Int) ≤ IntKind.i64.max) (.str (a ++ b)) σ
 | _=>.bad
def boolC (P:Program) (σ:Store) (t:TypeId) (a b:Bool):BinOp → OpRes
 | .eql=>.val (P.underlying t = some .bool) (.bool (a == b)) σ
 | .neq=>.val (P.underlying t = some .bool) (.bool (!(a == b))) σ
 | _=>.bad
def ptrC (P:Program) (σ:Store) (t:TypeId) (b:Bool):BinOp → OpRes
 | .eql=>.val (isPtrT P t = true) (.bool b) σ
 | .neq=>.val (isPtrT P t = true) (.bool (!b)) σ
 | _=>.bad
def slcC (P:Program) (σ:Store) (t:TypeId) (b:Bool):BinOp → OpRes
 | .eql=>.val (isSlcT P t = true) (.bool b) σ
 | .neq=>.val (isSlcT P t = true) (.bool (!b)) σ
 | _=>.bad
def aggC (P:Program) (σ:Store) (t:TypeId) (as:List PV):Option Bool → BinOp → OpRes
 | some b,.eql=>.val (okAgg P t as = true) (.bool b) σ
 | some b,.neq=>.val (okAgg P t as = true) (.bool (!b)) σ
 | _,_=>.bad
def isShift:BinOp → Bool
 | .shl | .shr=>true
 | _=>false
def shiftC (σ:Store) (k:IntKind) (a b:Int):BinOp → OpRes
 | .shl=>.val (0 ≤ b) (.int k (k.wrap (a * 2 ^ (min b.toNat k.bits)))) σ
 | .shr=>.val (0 ≤ b) (.int k (a.fdiv (2 ^ (min b.toNat k.bits)))) σ
 | _=>.bad
def binC (P:Program) (σ:Store) (op:BinOp) (t:TypeId):PV → PV → OpRes
 | .int k a,.int k' b=>if isShift op then shiftC σ k a b op else if k = k' then intC σ k a b op else .bad
 | .str a,.str b=>strC σ a b op
 | .bool a,.bool b=>boolC P σ t a b op
 | .nilp,.nilp=>ptrC P σ t true op
 | .ptr _ _ _ _,.nilp=>ptrC P σ t false op
 | .agg as,.agg bs=>aggC P σ t as (sameKs as bs) op
 | .nils,.nils=>slcC P σ t true op
 | .msl _ _,.nils=>slcC P σ t false op
 | .sl (_ :: _),.nils=>slcC P σ t false op
 | _,_=>.bad
def unC (σ:Store):UnOp → PV → OpRes
 | .not,.bool b=>.val True (.bool !b) σ
 | .neg,.int k n=>.val True (.int k (k.wrap (0 - n))) σ
 | _,_=>.bad
def convC (P:Program) (σ:Store) (s:TypeId):Option IntKind → PV → OpRes
 | some k,.int _ n=>.val ((P.underlying s).isSome = true) (.int k (k.wrap n)) σ
 | _,_=>.bad
def extC (σ:Store) (i:Nat):PV → OpRes
 | .tup vs=>.val (i < vs.length) (vs.getD i .unk) σ
 | _=>.bad
def fieldC (P:Program) (σ:Store) (f:Nat):Option TypeDesc → PV → OpRes
 | some (.struct fs),.agg cells=>(match fs[f]? with | some fd=>.val (loadOk P fd.type cells fd.offset) (loadV P fd.type cells fd.offset) σ | none=>.bad)
 | _,_=>.bad
def fieldAddrC (P:Program) (σ:Store) (f:Nat):Option TypeDesc → PV → OpRes
 | some (.struct fs),.ptr o ver i off=>(match fs[f]? with | some fd=>.val (P.cellsOf fd.type ≠ 0) (.ptr o ver i (off + fd.offset)) σ | none=>.bad)
 | some (.struct fs),.iptr row off=>(match fs[f]? with | some fd=>.val (P.cellsOf fd.type ≠ 0) (.iptr row (off + fd.offset)) σ | none=>.bad)
 | _,_=>.bad
def idxC (P:Program) (σ:Store):Option TypeDesc → PV → PV → OpRes
 | some (.array len elem),.ptr o ver r off,.int _ n=>.val (0 ≤ n ∧ n < len ∧ P.cellsOf elem ≠ 0) (.ptr o ver r (off + n.toNat * P.cellsOf elem)) σ
 | some (.array len elem),.iptr row off,.int _ n=>.val (0 ≤ n ∧ n < len ∧ P.cellsOf elem ≠ 0) (.iptr row (off + n.toNat * P.cellsOf elem)) σ
 | some (.slice elem),.sl rows,.int _ n=>.val (0 ≤ n ∧ n.toNat < rows.length ∧ (rows.getD n.toNat []).length = P.cellsOf elem ∧ P.cellsOf elem ≠ 0) (.iptr (rows.getD n.toNat []) 0) σ
 | some (.slice elem),.msl o ver,.int _ n=>(match σ[o]? with
  | some (.rows _ sz rows v)=>.val (v = ver ∧ 0 ≤ n ∧ n.toNat < rows.length ∧ sz = P.cellsOf elem ∧ P.cellsOf elem ≠ 0) (.ptr o ver n.toNat 0) σ
  | _=>.bad)
 | some (.slice elem),.msuf o ver l,.int _ n=>(match σ[o]? with
  | some (.rows _ sz rows v)=>.val (v = ver ∧ 0 ≤ n ∧ l + n.toNat < rows.length ∧ sz = P.cellsOf elem ∧ P.cellsOf elem ≠ 0) (.ptr o ver (l + n.toNat) 0) σ
  | _=>.bad)
 | _,_,_=>.bad
def indexC (P:Program) (σ:Store):Option TypeDesc → PV → PV → OpRes
 | some .string,.str s,.int _ n=>.val (0 ≤ n ∧ n.toNat < s.size) (.int .u8 (s.data.getD n.toNat 0).toNat) σ
 | some (.array len elem),.agg cells,.int _ n=>.val (0 ≤ n ∧ n < len ∧ P.cellsOf elem ≠ 0 ∧ loadOk P elem cells (n.toNat * P.cellsOf elem)) (loadV P elem cells (n.toNat * P.cellsOf elem)) σ
 | _,_,_=>.bad
def loadC (P:Program) (σ:Store) (t:TypeId):PV → OpRes
 | .iptr row off=>.val (loadOk P t row off) (loadV P t row off) σ
 | .ptr o ver i off=>(match σ[o]? with
  | some (.rows _ _ rows v)=>.val (v = ver ∧ i < rows.length ∧ loadOk P t (rows.getD i []) off) (loadV P t (rows.getD i []) off) σ
  | _=>.bad)
 | _=>.bad
def lenC (σ:Store):Option TypeDesc → PV → OpRes
 | some (.slice _),.nils=>.val True (.int .i64 0) σ
 | some (.slice _),.sl rows=>.val True (.int .i64 rows.length) σ
 | some (.slice _),.msl o ver=>(match σ[o]? with | some (.rows _ _ rows v)=>.val (v = ver) (.int .i64 rows.length) σ | _=>.bad)
 | some (.slice _),.mpre _ _ h=>.val True (.int .i64 h) σ
 | some (.slice _),.msuf o ver l=>(match σ[o]? with | some (.rows _ _ rows v)=>.val (v = ver ∧ l ≤ rows.length) (.int .i64 ((rows.length - l:Nat):Int)) σ | _=>.bad)
 | some .string,.str s=>.val True (.int .i64 s.size) σ
 | some (.array n _),_=>.val True (.int .i64 n) σ
 | _,_=>.bad
def maxC (σ:Store):PV → PV → OpRes
 | .int k a,.int _ b=>.val True (.int k (if b > a then b else a)) σ
 | _,_=>.bad
def minC (σ:Store):PV → PV → OpRes
 | .int k a,.int _ b=>.val True (.int k (if b < a then b else a)) σ
 | _,_=>.bad
def allocC (σ:Store) (t:TypeId):Option (List PV) → OpRes
 | some zs=>.val True (.ptr σ.length 0 0 0) (σ ++ [.rows t zs.length [zs] 0])
 | none=>.bad
def boxC (σ:Store) (t:TypeId):Option (List PV) → OpRes
 | some cells=>.val True (.ptr σ.length 0 0 0) (σ ++ [.rows t cells.length [cells] 0])
 | none=>.bad
def storeC (P:Program) (σ:Store) (t:TypeId):PV → Option (List PV) → OpRes
 | .ptr o ver i off,some cells=>(match σ[o]? with
  | some (.rows elem sz rows v)=>.val (v = ver ∧ i < rows.length ∧ off + cells.length ≤ (rows.getD i []).length ∧ cells.length = P.cellsOf t ∧ P.cellsOf t ≠ 0) .undef (σ.set o (.rows elem sz (rows.set i (splice (rows.getD i []) off cells)) ver))
  | _=>.bad)
 | _,_=>.bad
def makeC (P:Program) (σ:Store):Option TypeDesc → PV → PV → OpRes
 | some (.slice elem),.int _ n,.int _ m=>(match zeroCells P elem with
  | some zs=>.val (n = m ∧ 0 ≤ n ∧ zs.length = P.cellsOf elem ∧ n.toNat * P.bytesOf elem ≤ maxBytes ∧ n ≤ 9223372036854775807) (.msl σ.length 0) (σ ++ [.rows elem zs.length (List.replicate n.toNat zs) 0])
  | none=>.bad)
 | _,_,_=>.bad
def boundC (d:Nat):Option PV → Option Nat
 | none=>some d
 | some (.int .i64 n)=>if 0 ≤ n then some n.toNat else none
 | _=>none
def sliceC (P:Program) (m:Bool) (σ:Store):Option TypeDesc → PV → Option PV → Option PV → OpRes
 | some (.slice elem),.nils,lo,hi=>(match boundC 0 lo,boundC 0 hi with | some l,some h=>.val (l = 0 ∧ h = 0 ∧ P.cellsOf elem ≠ 0) .nils σ | _,_=>.bad)
 | some (.slice elem),.sl rows,lo,hi=>(match boundC 0 lo,boundC rows.length hi with
  | some l,some h=>.val (l ≤ h ∧ h ≤ rows.length ∧ P.cellsOf elem ≠ 0 ∧ (rows.all fun row=>row.length == P.cellsOf elem) = true) (.sl ((rows.take h).drop l)) σ
  | _,_=>.bad)
 | some (.slice elem),.msl o ver,lo,hi=>(match σ[o]? with
  | some (.rows el sz rows v)=>(match boundC 0 lo,boundC rows.length hi with
   | some l,some h=>if (m && lo.isSome) = true then .val (v = ver ∧ sz = P.cellsOf elem ∧ l ≤ h ∧ h = rows.length ∧ P.cellsOf elem ≠ 0) (.msuf o ver l) σ else .val (v = ver ∧ sz = P.cellsOf elem ∧ l = 0 ∧ h ≤ rows.length ∧ P.cellsOf elem ≠ 0) (if m then .mpre o ver h else .msl o (ver + 1)) (if m then σ else σ.set o (.rows el sz (rows.take h) (ver + 1)))
   | _,_=>.bad)
  | _=>.bad)
 | some (.slice elem),.mpre o ver h0,lo,hi=>(match boundC 0 lo,boundC h0 hi with
  | some l,some h=>.val (l = 0 ∧ h ≤ h0 ∧ P.cellsOf elem ≠ 0) (.mpre o ver h) σ
  | _,_=>.bad)
 | _,_,_,_=>.bad
def buildC (P:Program) (σ:Store) (parts:List (Nat × PV)):Option TypeDesc → Option (List PV) → OpRes
 | some (.struct fields),some zs=>(match fillP (fun i=>(fields[i]?).map fun f=>(f.offset,P.cellsOf f.type)) zs parts with
  | some cells=>.val (fields.all (fun f=>(P.info? f.type).isSome) = true) (.agg cells) σ
  | none=>.bad)
 | some (.array _ elem),some zs=>(match fillP (fun i=>some (i * P.cellsOf elem,P.cellsOf elem)) zs parts with
  | some cells=>.val (P.cellsOf elem ≠ 0) (.agg cells) σ
  | none=>.bad)
 | _,_=>.bad
def buildSliceC (P:Program) (σ:Store) (m:Bool) (len:Nat) (parts:List (Nat × PV)):Option TypeDesc → OpRes
 | some (.slice elem)=>(match zeroCells P elem,rowsP (P.cellsOf elem) 0 parts with
  | some zs,some []=>.val (P.cellsOf elem ≠ 0 ∧ zs.length = P.cellsOf elem ∧ len = 0) (if m then .msl σ.length 0 else .sl []) (if m then σ ++ [.rows elem (P.cellsOf elem) [] 0] else σ)
  | some zs,some (r :: rows)=>.val (P.cellsOf elem ≠ 0 ∧ zs.length = P.cellsOf elem ∧ rows.length + 1 = len ∧ len * P.cellsOf elem ≤ 16777216)
    (if m then .msl σ.length 0 else .sl (r :: rows)) (if m then σ ++ [.rows elem (P.cellsOf elem) (r :: rows) 0] else σ)
  | _,_=>.bad)
 | _=>.bad
def rowsC (σ:Store):PV → Option (Prop × List (List PV))
 | .nils=>some (True,[])
 | .sl rows=>some (True,rows)
 | .msl o ver=>(match σ[o]? with | some (.rows _ _ rows v)=>some (v = ver,rows) | _=>none)
 | .mpre o ver h=>(match σ[o]? with | some (.rows _ _ rows v)=>some (v = ver ∧ h ≤ rows.length,rows.take h) | _=>none)
 | .msuf o ver l=>(match σ[o]? with | some (.rows _ _ rows v)=>some (v = ver ∧ l ≤ rows.length,rows.drop l) | _=>none)
 | _=>none
def newsOk (P:Program) (elem:TypeId) (news:List (List PV)):Bool:=news.all fun row=>row.length == P.cellsOf elem && row.all PV.cell
def appC (P:Program) (σ:Store) (elem:TypeId):Option (List PV) → PV → Option (Prop × List (List PV)) → OpRes
 | some zs,.nils,some (c,[])=>.val (c ∧ zs.length = P.cellsOf elem ∧ P.cellsOf elem ≠ 0) .nils σ
 | some zs,.nils,some (c,r :: news)=>.val (c ∧ zs.length = P.cellsOf elem ∧ P.cellsOf elem ≠ 0 ∧ newsOk P elem (r :: news) = true ∧ (news.length + 1) * P.bytesOf elem ≤ maxBytes ∧ news.length + 1 ≤ maxLen) (.msl σ.length 0)
   (σ ++ [.rows elem (P.cellsOf elem) (r :: news) 0])
 | some zs,.msl o ver,some (c,news)=>(match σ[o]? with
  | some (.rows el sz rows v)=>.val (c ∧ v = ver ∧ el = elem ∧ sz = P.cellsOf elem ∧ zs.length = P.cellsOf elem ∧ P.cellsOf elem ≠ 0 ∧ newsOk P elem news = true ∧ (rows.length + news.length) * P.bytesOf elem ≤ maxBytes ∧ rows.length + news.length ≤ maxLen)
    (.msl o (ver + 1)) (σ.set o (.rows el sz (rows ++ news) (ver + 1)))
  | _=>.bad)
 | some zs,.mpre o ver h,some (c,news)=>(match σ[o]? with
  | some (.rows el sz rows v)=>.val (c ∧ v = ver ∧ el = elem ∧ sz = P.cellsOf elem ∧ zs.length = P.cellsOf elem ∧ P.cellsOf elem ≠ 0 ∧ newsOk P elem news = true ∧ h ≤ rows.length ∧ (h + news.length) * P.bytesOf elem ≤ maxBytes ∧ h + news.length ≤ maxLen)
    (.msl o (ver + 1 + 1)) (σ.set o (.rows el sz (rows.take h ++ news) (ver + 1 + 1)))
  | _=>.bad)
 | _,_,_=>.bad
def appTC (P:Program) (σ:Store) (x s:PV):Option TypeDesc → Option TypeDesc → OpRes
 | some (.slice elem),some (.slice elem')=>if elem = elem' then appC P σ elem (zeroCells P elem) s (rowsC σ x) else .bad
 | _,_=>.bad
def callC (args:List PV):PV → OpRes
 | .func (.func F) first cap=>.call F (first ++ args ++ cap)
 | _=>.bad
def clrC (P:Program) (σ:Store) (elem:TypeId):Option (List PV) → PV → OpRes
 | some zs,.msuf o ver l=>(match σ[o]? with
  | some (.rows el sz rows v)=>.val (v = ver ∧ sz = P.cellsOf elem ∧ zs.length = P.cellsOf elem ∧ zs.all PV.cell = true ∧ l ≤ rows.length) (.tup []) (σ.set o (.rows el sz (rows.take l ++ List.replicate (rows.length - l) zs) ver))
  | _=>.bad)
 | _,_=>.bad
def clrTC (P:Program) (σ:Store) (x:PV):Option TypeDesc → OpRes
 | some (.slice elem)=>clrC P σ elem (zeroCells P elem) x
 | _=>.bad
def builtinC (P:Program) (σ:Store):Builtin → List PV → List TypeId → OpRes
 | .len,[x],[t]=>lenC σ (P.underlying t) x
 | .max,[x,y],_=>maxC σ x y
 | .min,[x,y],_=>minC σ x y
 | .append,[s,x],[t,tx]=>appTC P σ x s (P.underlying t) (P.underlying tx)
 | .clear,[x],[t]=>clrTC P σ x (P.underlying t)
 | _,_,_=>.bad
def mapC (σ:Store) (f:Nat → List (PV × PV) → OpRes):PV → OpRes
 | .map o=>match σ[o]? with
  | some (.map es)=>f o es
  | _=>.bad
 | _=>.bad
def lookupC (P:Program) (σ:Store) (k:PV) (x:PV):Option TypeDesc → OpRes
 | some (.map kt et)=>match zeroP P et with
  | some z=>mapC σ (fun _ es=>.val (okKind P kt (P.underlying kt) k = true ∧ (findP k es 0).isSome = true) (mgetP es k z) σ) x
  | none=>.bad
 | _=>.bad
def mapUpdC (P:Program) (σ:Store) (k v:PV) (x:PV):Option TypeDesc → OpRes
 | some (.map kt _)=>mapC σ (fun o es=>.val (okKind P kt (P.underlying kt) k = true ∧ (findP k es 0).isSome = true) .undef (σ.set o (.map (mputP es k v)))) x
 | _=>.bad
def evC (P:Program) (m:Bool) (σ:Store) (e:Operand → PV):Op → OpRes
 | .move x=>.val True (e x) σ
 | .assign x=>.val True (e x) σ
 | .pick c a b=>pickC σ (e c) (e a) (e b)
 | .nilCheck x=>nilC σ (e x)
 | .binOp op t x y _=>binC P σ op t (e x) (e y)
 | .unOp op _ x=>unC σ op (e x)
 | .convert s d x=>convC P σ s (isIntT P d) (e x)
 | .extract x i=>extC σ i (e x)
 | .field t x f=>fieldC P σ f (P.underlying t) (e x)
 | .fieldAddr t x f=>fieldAddrC P σ f (P.underlying t) (e x)
 | .indexAddr t x i=>idxC P σ (P.underlying t) (e x) (e i)
 | .index t x i=>indexC P σ (P.underlying t) (e x) (e i)
 | .load t a=>loadC P σ t (e a)
 | .makeFunc fn first cap=>.val True (.func fn (first.toList.map e) (cap.toList.map e)) σ
 | .alloc t=>allocC σ t (zeroCells P t)
 | .box t x=>boxC σ t (cellsV (e x))
 | .store t a x=>storeC P σ t (e a) (cellsV (e x))
 | .makeSlice t l c=>makeC P σ (P.underlying t) (e l) (e c)
 | .slice t x lo hi none=>sliceC P m σ (P.underlying t) (e x) (lo.map e) (hi.map e)
 | .build t parts=>buildC P σ (parts.toList.map fun (i,x)=>(i,e x)) (P.underlying t) (zeroCells P t)
 | .buildSlice t len parts=>buildSliceC P σ m len (parts.toList.map fun (i,x)=>(i,e x)) (P.underlying t)
 | .makeMap _ none=>.val True (.map σ.length) (σ ++ [.map []])
 | .lookup t x i false=>lookupC P σ (e i) (e x) (P.underlying t)
 | .mapUpdate t x i v=>mapUpdC P σ (e i) (e v) (e x) (P.underlying t)
 | .call ⟨.value f,args,_⟩=>callC (args.toList.map e) (e f)
 | .call ⟨.builtin b,args,ts⟩=>builtinC P σ b (args.toList.map e) ts.toList
 | _=>.bad
end Go.PV
