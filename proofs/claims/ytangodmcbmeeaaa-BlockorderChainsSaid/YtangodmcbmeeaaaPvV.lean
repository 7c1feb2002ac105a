import Derived.Test.YtangodmcbmeeaaaPvU
import Derived.Test.YtangodmcbmeeaaaPvS
set_option maxRecDepth 8000
set_option linter.unusedSimpArgs false
set_option linter.unusedVariables false
namespace Go.PV
universe u
theorem nr {α:Sort u} {a b:α} (h:a = b):a = b:=h
class Hold {α:Type} (a:α):Type where
instance {α:Type} (a:α):Hold a:=⟨⟩
def req (c Q:Prop):Prop:=c ∧ Q
def alt (c A B:Prop):Prop:=(c → A) ∧ (¬ c → B)
theorem req_congr {c c' Q Q':Prop} (h1:c = c') (h2:c' → Q = Q'):req c Q = req c' Q':=by
 subst h1
 apply propext
 exact ⟨fun h=>⟨h.1,h2 h.1 ▸ h.2⟩,fun h=>⟨h.1,(h2 h.1).symm ▸ h.2⟩⟩
theorem alt_congr {c c' A A' B B':Prop} (h1:c = c') (h2:c' → A = A') (h3:¬ c' → B = B'):alt c A B = alt c' A' B':=by
 subst h1
 apply propext
 exact ⟨fun h=>⟨fun q=>h2 q ▸ h.1 q,fun q=>h3 q ▸ h.2 q⟩,fun h=>⟨fun q=>(h2 q).symm ▸ h.1 q,fun q=>(h3 q).symm ▸ h.2 q⟩⟩
attribute [congr] req_congr alt_congr
theorem req_true (Q:Prop):req True Q = Q:=by simp [req]
theorem req_and (a b Q:Prop):req (a ∧ b) Q = req a (req b Q):=by simp [req,and_assoc]
theorem alt_true (A B:Prop):alt True A B = A:=by simp [alt]
theorem alt_false (A B:Prop):alt False A B = B:=by simp [alt]
theorem alt_not (c A B:Prop):alt (¬ c) A B = alt c B A:=by
 by_cases h:c <;> simp [alt,h]
def looks:Op → Bool
 | .move _ | .assign _ | .pick .. | .nilCheck _ | .binOp .. | .unOp .. | .convert .. | .extract .. | .field .. | .fieldAddr .. | .indexAddr .. | .index .. | .load .. | .makeFunc .. | .build ..=>true
 | .call ⟨.builtin .len,_,_⟩ | .call ⟨.builtin .max,_,_⟩ | .call ⟨.builtin .min,_,_⟩=>true
 | .slice _ _ _ _ none=>true
 | .lookup _ _ _ false=>true
 | _=>false
def OpRes.stays (σ:Store):OpRes → Prop
 | .val _ _ σ'=>σ' = σ
 | .call _ _=>False
 | .bad=>True
theorem lenC_stays (σ:Store) (d:Option TypeDesc) (p:PV):(lenC σ d p).stays σ:=by
 unfold lenC
 split <;> first | exact rfl | trivial | (split <;> first | exact rfl | trivial)
theorem looks_stays {P:Program} {m:Bool} {σ:Store} {e:Operand → PV} {op:Op} (h:looks op = true) (hs:∀ t x lo hi mx,op ≠ .slice t x lo hi mx):(evC P m σ e op).stays σ:=by
 cases op <;> simp only [looks,Bool.false_eq_true] at h
 case move | assign | makeFunc=>exact rfl
 case pick=>simp only [evC]; unfold pickC; split <;> first | exact rfl | trivial
 case nilCheck=>simp only [evC]; unfold nilC; split <;> first | exact rfl | trivial
 case binOp op t x y z =>
  simp only [evC]; unfold binC
  split
  ·split
   ·unfold shiftC; split <;> first | exact rfl | trivial
   ·split
    ·unfold intC; split <;> first | exact rfl | trivial
    ·trivial
  ·unfold strC; split <;> first | exact rfl | trivial
  ·unfold boolC; split <;> first | exact rfl | trivial
  ·unfold ptrC; split <;> first | exact rfl | trivial
  ·unfold ptrC; split <;> first | exact rfl | trivial
  ·unfold aggC; split <;> first | exact rfl | trivial
  ·unfold slcC; split <;> first | exact rfl | trivial
  ·unfold slcC; split <;> first | exact rfl | trivial
  ·unfold slcC; split <;> first | exact rfl | trivial
  ·trivial
 case unOp=>simp only [evC]; unfold unC; split <;> first | exact rfl | trivial
 case convert=>simp only [evC]; unfold convC; split <;> first | exact rfl | trivial
 case extract=>simp only [evC]; unfold extC; split <;> first | exact rfl | trivial
 case field=>simp only [evC]; unfold fieldC; split <;> first | trivial | (split <;> first | exact rfl | trivial)
 case fieldAddr=>simp only [evC]; unfold fieldAddrC; split <;> first | trivial | (split <;> first | exact rfl | trivial)
 case indexAddr=>simp only [evC]; unfold idxC; split <;> first | exact rfl | trivial | (split <;> first | exact rfl | trivial)
 case index=>simp only [evC]; unfold indexC; split <;> first | exact rfl | trivial
 case load=>simp only [evC]; unfold loadC; split <;> first | exact rfl | trivial | (split <;> first | exact rfl | trivial)
 case build=>simp only [evC]; unfold buildC; split <;> first | trivial | (split <;> first | exact rfl | trivial)
 case slice t x lo hi mx=>exact absurd rfl (hs _ _ _ _ _)
 case lookup t x i ok =>
  cases ok with
  | true=>simp [looks] at h
  | false =>
   simp only [evC]
   unfold lookupC mapC
   split
   ·split
    ·split
     ·split <;> first | exact rfl | trivial
     ·trivial
    ·trivial
   ·trivial
 case call c =>
  obtain ⟨callee,args,ts⟩:=c
  cases callee with
  | builtin b =>
   cases b <;> simp only [Bool.false_eq_true] at h
   all_goals (simp only [evC]; unfold builtinC; split)
   all_goals first | exact lenC_stays _ _ _ | trivial | skip
   all_goals first | (unfold maxC; split <;> first | exact rfl | trivial) | (unfold minC; split <;> first | exact rfl | trivial) | skip
   all_goals (rename_i hb _; cases hb)
  | _=>cases h
def notSlice:Op → Bool
 | .slice ..=>false
 | _=>true
section
variable {P:Program} {m:Bool} {σ:Store} {e:Operand → PV}
theorem closed_len {d:Option TypeDesc} {p:PV} {c:Prop} {v:PV} (h:lenC [] d p = .val c v []):lenC σ d p = .val c v σ:=by
 unfold lenC at h ⊢
 split at h <;> first | (cases h; rfl) | (simp at h)
theorem closed_rows {x:PV} {c:Prop} {rows:List (List PV)} (h:rowsC [] x = some (c,rows)):rowsC σ x = some (c,rows):=by
 unfold rowsC at h ⊢
 split at h <;> first | exact h | (simp at h)
theorem closed_app {elem:TypeId} {z:Option (List PV)} {s:PV} {r:Option (Prop × List (List PV))} {c:Prop} {v:PV} (h:appC P [] elem z s r = .val c v []):appC P σ elem z s r = .val c v σ:=by
 unfold appC at h ⊢
 split at h <;> first | (cases h; rfl) | (simp at h)
theorem closed_evC {op:Op} {c:Prop} {v:PV} (h:evC P m [] e op = .val c v []):evC P m σ e op = .val c v σ:=by
 cases op <;> simp only [evC] at h ⊢
 case move | assign | makeFunc=>cases h; rfl
 case pick=>unfold pickC at h ⊢; split at h <;> first | (cases h; rfl) | (simp at h)
 case nilCheck=>unfold nilC at h ⊢; split at h <;> first | (cases h; rfl) | (simp at h)
 case binOp op t x y z =>
  unfold binC at h ⊢
  split at h
  ·split at h
   ·rename_i hs; rw [if_pos hs]
    unfold shiftC at h ⊢; split at h <;> first | (cases h; rfl) | (simp at h)
   ·rename_i hs; rw [if_neg hs]
    split at h
    ·rename_i hk; rw [if_pos hk]
     unfold intC at h ⊢; split at h <;> first | (cases h; rfl) | (simp at h)
    ·simp at h
  ·unfold strC at h ⊢; split at h <;> first | (cases h; rfl) | (simp at h)
  ·unfold boolC at h ⊢; split at h <;> first | (cases h; rfl) | (simp at h)
  ·unfold ptrC at h ⊢; split at h <;> first | (cases h; rfl) | (simp at h)
  ·unfold ptrC at h ⊢; split at h <;> first | (cases h; rfl) | (simp at h)
  ·unfold aggC at h ⊢; split at h <;> first | (cases h; rfl) | (simp at h)
  ·unfold slcC at h ⊢; split at h <;> first | (cases h; rfl) | (simp at h)
  ·unfold slcC at h ⊢; split at h <;> first | (cases h; rfl) | (simp at h)
  ·unfold slcC at h ⊢; split at h <;> first | (cases h; rfl) | (simp at h)
  ·simp at h
 case unOp=>unfold unC at h ⊢; split at h <;> first | (cases h; rfl) | (simp at h)
 case convert=>unfold convC at h ⊢; split at h <;> first | (cases h; rfl) | (simp at h)
 case extract=>unfold extC at h ⊢; split at h <;> first | (cases h; rfl) | (simp at h)
 case field =>
  unfold fieldC at h ⊢
  split at h
  ·split at h
   ·cases h; rfl
   ·simp at h
  ·simp at h
 case fieldAddr =>
  unfold fieldAddrC at h ⊢
  split at h
  ·split at h
   ·cases h; rfl
   ·simp at h
  ·split at h
   ·cases h; rfl
   ·simp at h
  ·simp at h
 case indexAddr=>unfold idxC at h ⊢; split at h <;> first | (cases h; rfl) | (simp at h)
 case index=>unfold indexC at h ⊢; split at h <;> first | (cases h; rfl) | (simp at h)
 case load=>unfold loadC at h ⊢; split at h <;> first | (cases h; rfl) | (simp at h)
 case build =>
  unfold buildC at h ⊢
  split at h
  ·split at h
   ·cases h; rfl
   ·simp at h
  ·split at h
   ·cases h; rfl
   ·simp at h
  ·simp at h
 case buildSlice =>
  unfold buildSliceC at h ⊢
  split at h
  ·split at h
   ·cases hm:m with
    | true=>rw [hm] at h; simp at h
    | false=>rw [hm] at h; simp at h ⊢; exact h
   ·cases hm:m with
    | true=>rw [hm] at h; simp at h
    | false=>rw [hm] at h; simp at h ⊢; exact h
   ·simp at h
  ·simp at h
 case alloc=>unfold allocC at h; split at h <;> simp at h
 case box=>unfold boxC at h; split at h <;> simp at h
 case makeSlice=>unfold makeC at h; split at h <;> first | (split at h <;> simp at h) | (simp at h)
 case store =>
  unfold storeC at h
  split at h
  ·split at h
   ·rename_i hq; simp at hq
   ·simp at h
  ·simp at h
 case slice t x lo hi mx =>
  cases mx with
  | some _=>simp at h
  | none =>
   simp only at h ⊢
   unfold sliceC at h ⊢
   split at h
   ·split at h
    ·cases h; rfl
    ·simp at h
   ·split at h
    ·cases h; rfl
    ·simp at h
   ·simp at h
   ·split at h
    ·cases h; rfl
    ·simp at h
   ·simp at h
 case call c0 =>
  obtain ⟨callee,args,ts⟩:=c0
  cases callee with
  | value f=>simp only at h; unfold callC at h; split at h <;> simp at h
  | invoke r i=>simp at h
  | builtin b =>
   simp only at h ⊢
   unfold builtinC at h ⊢
   split at h
   ·exact closed_len h
   ·unfold maxC at h ⊢; split at h <;> first | (cases h; rfl) | (simp at h)
   ·unfold minC at h ⊢; split at h <;> first | (cases h; rfl) | (simp at h)
   ·unfold appTC at h ⊢
    split at h
    ·split at h
     ·rename_i he
      rw [if_pos he]
      cases hr:rowsC [] _ with
      | none=>rw [hr] at h; unfold appC at h; split at h <;> simp_all
      | some q =>
       obtain ⟨c1,rows⟩:=q
       rw [hr] at h
       rw [closed_rows hr]
       exact closed_app h
     ·simp at h
    ·simp at h
   ·unfold clrTC clrC at h ⊢
    split at h
    ·split at h <;> simp at h
    ·simp at h
   ·simp at h
 case makeMap t r=>cases r <;> simp at h
 case lookup t x i ok =>
  cases ok with
  | true=>simp at h
  | false =>
   simp only at h
   unfold lookupC mapC at h
   split at h
   ·split at h
    ·split at h <;> simp at h
    ·simp at h
   ·simp at h
 case mapUpdate t x i v =>
  unfold mapUpdC mapC at h
  split at h
  ·split at h <;> simp at h
  ·simp at h
 all_goals (simp at h)
end
def FrEq (fr fr':Fr):Prop:=∀ t,look fr t = look fr' t
theorem FrEq.refl (fr:Fr):FrEq fr fr:=fun _=>rfl
theorem FrEq.evO {fr fr':Fr} (h:FrEq fr fr'):evO fr = evO fr':=by
 funext x
 cases x <;> first | exact h _ | rfl
theorem FrEq.evR {fr fr':Fr} (h:FrEq fr fr') (l:List Nat):evR l fr = evR l fr':=by
 funext x
 cases x with
 | tmp t=>simp only [Go.PV.evR,h t]
 | _=>simp only [Go.PV.evR,h.evO]
theorem FrEq.guard {fr fr':Fr} (h:FrEq fr fr') (ops:Array Oper) (o:Oper):guardP ops fr o = guardP ops fr' o:=by
 have:look fr = look fr':=funext h
 simp only [guardP,this]
def consF (fr:Fr):Option Nat → PV → Fr
 | some d,v=>(d,v) :: fr
 | none,_=>fr
theorem FrEq.put {fr fr':Fr} (h:FrEq fr fr') (d:Option Nat) (v:PV):FrEq (consF fr d v) (putF fr' d v):=by
 cases d with
 | none=>exact h
 | some d =>
  intro t
  simp only [consF,putF,look_setF,look]
  by_cases hd:d = t
  ·simp [hd]
  ·simp [hd,h t]
theorem resW_eq {P:Program} {σ:Store} {fr fr':Fr} (h:FrEq fr fr'):∀ (l:List ResultVar) (K:List PV → Prop),resW P σ fr K l → resW P σ fr' K l
 | [],K,hk=>hk
 | .tmp t :: r,K,hk=>by
  simp only [resW] at hk ⊢
  rw [← h t]
  exact resW_eq h r _ hk
 | .cell a t :: r,K,hk=>by
  simp only [resW] at hk ⊢
  rw [← h a]
  have hl:∀ (row:List PV) (off:Nat),loadP P t row off (fun p=>resW P σ fr (fun l=>K (p :: l)) r) → loadP P t row off (fun p=>resW P σ fr' (fun l=>K (p :: l)) r):=fun row off hh=>by
   refine ⟨hh.1,?_⟩
   have h2:=hh.2
   split
   ·rename_i hc; rw [if_pos hc] at h2; exact ⟨h2.1,resW_eq h r _ h2.2⟩
   ·rename_i hc; rw [if_neg hc] at h2
    obtain ⟨p,q1,q2⟩:=h2
    exact ⟨p,q1,resW_eq h r _ q2⟩
  cases hla:look fr a with
  | iptr row off=>rw [hla] at hk; exact hl _ _ hk
  | ptr o ver i off =>
   rw [hla] at hk
   obtain ⟨elem,sz,rows,row,q1,q2,q3⟩:=hk
   exact ⟨elem,sz,rows,row,q1,q2,hl _ _ q3⟩
  | _=>rw [hla] at hk; exact hk.elim
def isCallV:Op → Bool
 | .call ⟨.value _,_,_⟩=>true
 | _=>false
def pureCall (pu:List FuncId):Op → Bool
 | .call ⟨.value (.func F),_,_⟩=>pu.contains F
 | _=>false
def callsOf (ops:Array Oper):List Nat:=(List.range ops.size).filter fun i=>match ops[i]? with | some o=>isCallV o.op | none=>false
def okLook (ops:Array Oper) (pu:List FuncId):Bool:=drawB ops (callsOf ops) && ops.toList.all fun o=>(looks o.op && notSlice o.op && !isCallV o.op) || pureCall pu o.op
structure Ext where
 f:FuncId → List PV → Store → Option (Prop × PV × Store)
 pu:List FuncId
structure ExtOk (P:Program) (E:Ext):Prop where
 ok:∀ F args σ c p σ',E.f F args σ = some (c,p,σ') → c → PCall P F args σ (fun q τ=>q = p ∧ τ = σ')
 pure:∀ F ∈ E.pu,∀ args σ,∃ c p,E.f F args σ = some (c,p,σ)
def noE:Ext:=⟨fun _ _ _=>none,[]⟩
theorem noE_ok (P:Program):ExtOk P noE:=⟨(fun _ _ _ _ _ _ h=>by cases h),(fun _ h=>by cases h)⟩
def stepE (P:Program) (E:Ext) (m:Bool) (σ:Store) (e:Operand → PV) (K:PV → Store → Prop) (op:Op):Prop :=
 match evC P m σ e op with
 | .val c v σ'=>c ∧ K v σ'
 | .call F args=>(match E.f F args σ with | some (c,p,σ')=>c ∧ K p σ' | none=>PCall P F args σ K)
 | .bad=>False
theorem float_msl {P:Program} {M:List Nat} {ops:Array Oper} {fr:Fr} {o:Oper} {c:Prop} {t:TypeId} {sz:Nat} {rows:List (List PV)} (hop:(match o.op with | .makeSlice .. | .alloc _=>true | _=>false) = true)
  (h:evC P (mutOf M o.dst) [] (evO fr) o.op = .val c (.msl 0 0) [.rows t sz rows 0]) (hc:c):ObjBel 0 (.rows t sz rows 0) ∧ ∀ σ,stepC P (mutOf M o.dst) σ (evR (o.looksAt ops) fr) (fun q σ''=>q = .msl σ.length 0 ∧ σ'' = σ ++ [.rows t sz rows 0]) o.op:=by
 simp only [stepC,evC_evR]
 obtain ⟨d,op,ty,pos,after,guard⟩:=o
 cases op with
 | alloc t =>
  simp only [evC,allocC] at h
  cases hz:zeroCells P t with
  | none=>rw [hz] at h; cases h
  | some zs=>rw [hz] at h; simp at h
 | makeSlice t l cp =>
  simp only [evC] at h ⊢
  cases hu:P.underlying t with
  | none=>rw [hu] at h; simp only [makeC] at h; cases h
  | some td =>
   cases td with
   | slice elem =>
    cases hl:evO fr l with
    | int k1 a =>
     cases hcp:evO fr cp with
     | int k2 b =>
      cases hz:zeroCells P elem with
      | none=>rw [hu,hl,hcp] at h; simp only [makeC,hz] at h; cases h
      | some zs =>
       rw [hu,hl,hcp] at h
       simp only [makeC,hz,List.length_nil,List.nil_append] at h ⊢
       have hb:∀ t,ObjBel 0 (.rows t zs.length (List.replicate a.toNat zs) 0):=fun t row hr p hp=>by
        rw [List.eq_of_mem_replicate hr] at hp
        exact bel_zero hz p hp
       injection h with h1 h2 h3
       injection h3 with h3 _
       injection h3 with h4 h5 h6
       subst h1 h4 h5 h6
       exact ⟨hb _,fun σ=>⟨hc,by simp⟩⟩
     | _=>rw [hu,hl,hcp] at h; simp only [makeC] at h; cases h
    | _=>rw [hu,hl] at h; simp only [makeC] at h; cases h
   | _=>rw [hu] at h; simp only [makeC] at h; cases h
 | _=>cases hop
theorem float_ptr {P:Program} {M:List Nat} {ops:Array Oper} {fr:Fr} {o:Oper} {c:Prop} {t:TypeId} {sz:Nat} {rows:List (List PV)} (hop:(match o.op with | .makeSlice .. | .alloc _=>true | _=>false) = true)
  (h:evC P (mutOf M o.dst) [] (evO fr) o.op = .val c (.ptr 0 0 0 0) [.rows t sz rows 0]) (hc:c):ObjBel 0 (.rows t sz rows 0) ∧ ∀ σ,stepC P (mutOf M o.dst) σ (evR (o.looksAt ops) fr) (fun q σ''=>q = .ptr σ.length 0 0 0 ∧ σ'' = σ ++ [.rows t sz rows 0]) o.op:=by
 simp only [stepC,evC_evR]
 obtain ⟨d,op,ty,pos,after,guard⟩:=o
 cases op with
 | alloc t =>
  simp only [evC,allocC] at h ⊢
  cases hz:zeroCells P t with
  | none=>rw [hz] at h; cases h
  | some zs =>
   rw [hz] at h
   simp only [List.length_nil,List.nil_append] at h
   cases h
   have hb:ObjBel 0 (.rows t zs.length [zs] 0):=fun row hr p hp=>by
    rw [List.mem_singleton] at hr
    rw [hr] at hp
    exact bel_zero hz p hp
   exact ⟨hb,fun σ=>⟨hc,rfl,rfl⟩⟩
 | makeSlice t l cp =>
  simp only [evC] at h
  unfold makeC at h
  split at h <;> first | (split at h <;> simp at h) | (cases h)
 | _=>cases hop
section
variable (P:Program) (M:List Nat) (n:Nat)
section
variable (E:Ext)
def vops (ops:Array Oper) (Q:Fr → Store → Prop):List Oper → Fr → Store → Prop
 | [],fr,σ=>Q fr σ
 | o :: rest,fr,σ=>fits n o.dst ∧ (match guardP ops fr o with
  | some true=>stepE P E (mutOf M o.dst) σ (evO fr) (fun p σ'=>vops ops Q rest (consF fr o.dst p) σ') o.op
  | some false=>vops ops Q rest (consF fr o.dst .undef) σ
  | none=>False)
theorem vops_pops (hE:ExtOk P E) {ops:Array Oper} {Q Q':Fr → Store → Prop} (hq:∀ f f' σ,FrEq f f' → Q f σ → Q' f' σ):∀ (l:List Oper) (fr fr':Fr) (σ:Store),FrEq fr fr' → vops P M n E ops Q l fr σ → pops P M n ops Q' l fr' σ
 | [],fr,fr',σ,he,h=>hq _ _ _ he h
 | o :: l,fr,fr',σ,he,h=>by
  simp only [vops] at h
  simp only [pops]
  refine ⟨h.1,?_⟩
  have h2:=h.2
  rw [he.guard] at h2
  cases hg:guardP ops fr' o with
  | none=>rw [hg] at h2; exact h2
  | some b =>
   rw [hg] at h2
   cases b with
   | false=>exact vops_pops hE hq l _ _ _ (he.put _ _) h2
   | true =>
    simp only [stepE,stepC,he.evO] at h2 ⊢
    cases hv:evC P (mutOf M o.dst) σ (evO fr') o.op with
    | val c v σ'=>rw [hv] at h2; exact ⟨h2.1,vops_pops hE hq l _ _ _ (he.put _ _) h2.2⟩
    | call F args =>
     rw [hv] at h2
     simp only at h2 ⊢
     cases hx:E.f F args σ with
     | none=>rw [hx] at h2; exact PCall.mono h2 (fun p σ' h=>vops_pops hE hq l _ _ _ (he.put _ _) h)
     | some q =>
      obtain ⟨c,p,σ'⟩:=q
      rw [hx] at h2
      refine PCall.mono (hE.ok _ _ _ _ _ _ hx h2.1) ?_
      rintro _ _ ⟨rfl,rfl⟩
      exact vops_pops hE hq l _ _ _ (he.put _ _) h2.2
    | bad=>rw [hv] at h2; exact h2
def vpdr (ops:Array Oper) (effs fls:List Nat) (N:Nat) (Q:Fr → Store → Prop):Nat → List (Oper × Nat × Nat) → List (Nat × (Store → Prop)) → List Store → Store → List Obj → Fr → Prop
 | _,[],_,_,σ,acc,fr=>Q fr (place σ N acc)
 | i,(o,lo,hi) :: rest,pend,past,σ,acc,fr=>fits n o.dst ∧ (match guardP ops fr o with
  | some true=>if effs.contains i then lo ≤ acc.length ∧ (match evC P (mutOf M o.dst) (place σ N (acc.take lo)) (evO fr) o.op with
     | .val c v σ'=>c ∧ (∀ q ∈ pend,past.length + 1 ≤ q.1 → q.2 σ') ∧ vpdr ops effs fls (N + lo) Q (i + 1) rest pend (past ++ [σ]) σ' (acc.drop lo) (consF fr o.dst v)
     | .call F args=>(match E.f F args (place σ N (acc.take lo)) with
      | some (c,p,σ')=>(c ∧ ∀ q ∈ pend,past.length + 1 ≤ q.1 → q.2 σ') ∧ vpdr ops effs fls (N + lo) Q (i + 1) rest pend (past ++ [σ]) σ' (acc.drop lo) (consF fr o.dst p)
      | none=>∃ p σ',PCall P F args (place σ N (acc.take lo)) (fun q σ''=>q = p ∧ σ'' = σ') ∧ (∀ q ∈ pend,past.length + 1 ≤ q.1 → q.2 σ') ∧ vpdr ops effs fls (N + lo) Q (i + 1) rest pend (past ++ [σ]) σ' (acc.drop lo) (consF fr o.dst p))
     | .bad=>False)
    else if fls.contains i then (match o.op with | .makeSlice .. | .alloc _=>True | _=>False) ∧ (match evC P (mutOf M o.dst) [] (evO fr) o.op with
     | .val c (.msl 0 0) [.rows t sz rows 0]=>c ∧ vpdr ops effs fls N Q (i + 1) rest pend past σ (acc ++ [.rows t sz rows 0]) (consF fr o.dst (.msl (N + acc.length) 0))
     | .val c (.ptr 0 0 0 0) [.rows t sz rows 0]=>c ∧ vpdr ops effs fls N Q (i + 1) rest pend past σ (acc ++ [.rows t sz rows 0]) (consF fr o.dst (.ptr (N + acc.length) 0 0 0))
     | _=>False)
    else (match evC P (mutOf M o.dst) [] (evO fr) o.op with
     | .val c v []=>c ∧ vpdr ops effs fls N Q (i + 1) rest pend past σ acc (consF fr o.dst v)
     | _=>∃ p,(∀ τ ∈ (past ++ [σ]).drop lo,outR P p τ τ (evC P (mutOf M o.dst) τ (evO fr) o.op)) ∧ vpdr ops effs fls N Q (i + 1) rest (pend ++ [(hi,fun τ=>outR P p τ τ (evC P (mutOf M o.dst) τ (evO fr) o.op))]) past σ acc (consF fr o.dst p))
  | some false=>if effs.contains i then lo ≤ acc.length ∧ (∀ q ∈ pend,past.length + 1 ≤ q.1 → q.2 (place σ N (acc.take lo))) ∧ vpdr ops effs fls (N + lo) Q (i + 1) rest pend (past ++ [σ]) (place σ N (acc.take lo)) (acc.drop lo) (consF fr o.dst .undef)
    else if fls.contains i then vpdr ops effs fls N Q (i + 1) rest pend past σ (acc ++ [.dead]) (consF fr o.dst .undef)
    else vpdr ops effs fls N Q (i + 1) rest pend past σ acc (consF fr o.dst .undef)
  | none=>False)
theorem vpdr_pdrA (hE:ExtOk P E) {ops:Array Oper} {effs fls:List Nat} {Q Q':Fr → Store → Prop} (hq:∀ f f' σ,FrEq f f' → Q f σ → Q' f' σ):∀ (l:List (Oper × Nat × Nat)) (i:Nat) (pend pend':List (Nat × (Store → Prop))) (past:List Store) (σ:Store) (N:Nat) (acc:List Obj) (fr fr':Fr),
  FrEq fr fr' → (∀ q ∈ pend',q ∈ pend ∨ ∀ τ,q.2 τ) → vpdr P M n E ops effs fls N Q i l pend past σ acc fr → pdrA P M n ops effs fls Q' i l pend' (past ++ [σ]) N acc fr'
 | [],i,pend,pend',past,σ,N,acc,fr,fr',he,hp,h=>⟨σ,by simp,hq _ _ _ he h⟩
 | (o,lo,hi) :: l,i,pend,pend',past,σ,N,acc,fr,fr',he,hp,h=>by
  simp only [vpdr] at h
  simp only [pdrA]
  refine ⟨h.1,?_⟩
  have h2:=h.2
  rw [he.guard] at h2
  have hpe:∀ (k:Nat) (τ:Store),(∀ q ∈ pend,k ≤ q.1 → q.2 τ) → ∀ q ∈ pend',k ≤ q.1 → q.2 τ:=fun k τ hh q hq hk=>by
   rcases hp q hq with h | h
   ·exact hh q h hk
   ·exact h τ
  have hadd:∀ x,∀ q ∈ pend' ++ [x],q ∈ pend ++ [x] ∨ ∀ τ,q.2 τ:=fun x q hq=>by
   rcases List.mem_append.1 hq with h | h
   ·exact (hp q h).imp (fun h=>List.mem_append.2 (.inl h)) id
   ·exact .inl (List.mem_append.2 (.inr h))
  have hpl:(past ++ [σ]).length = past.length + 1:=by simp
  cases hg:guardP ops fr' o with
  | none=>rw [hg] at h2; exact h2.elim
  | some b =>
   rw [hg] at h2
   cases b with
   | false =>
    simp only at h2 ⊢
    cases hc:effs.contains i with
    | true =>
     rw [hc] at h2
     simp only [if_true] at h2 ⊢
     obtain ⟨q1,q2,q3⟩:=h2
     exact ⟨σ,by simp,q1,by rw [hpl]; exact hpe _ _ q2,vpdr_pdrA hE hq l _ _ _ _ _ _ _ _ _ (he.put _ _) hp q3⟩
    | false =>
     rw [hc] at h2
     simp only [Bool.false_eq_true,if_false] at h2 ⊢
     cases hf:fls.contains i with
     | true =>
      rw [hf] at h2
      simp only [if_true] at h2 ⊢
      exact vpdr_pdrA hE hq l _ _ _ _ _ _ _ _ _ (he.put _ _) hp h2
     | false =>
      rw [hf] at h2
      simp only [Bool.false_eq_true,if_false] at h2 ⊢
      exact vpdr_pdrA hE hq l _ _ _ _ _ _ _ _ _ (he.put _ _) hp h2
   | true =>
    simp only at h2 ⊢
    rw [he.evO] at h2
    cases hc:effs.contains i with
    | true =>
     rw [hc] at h2
     simp only [if_true] at h2 ⊢
     obtain ⟨hlo,h2⟩:=h2
     cases hv:evC P (mutOf M o.dst) (place σ N (acc.take lo)) (evO fr') o.op with
     | val c v σ' =>
      rw [hv] at h2
      exact ⟨σ,v,σ',by simp,hlo,by rw [Out_eq,hv]; exact ⟨h2.1,rfl,rfl⟩,by rw [hpl]; exact hpe _ _ h2.2.1,vpdr_pdrA hE hq l _ _ _ _ _ _ _ _ _ (he.put _ _) hp h2.2.2⟩
     | call F args =>
      rw [hv] at h2
      simp only at h2
      cases hx:E.f F args (place σ N (acc.take lo)) with
      | none =>
       rw [hx] at h2
       obtain ⟨p,σ',q1,q2,q3⟩:=h2
       exact ⟨σ,p,σ',by simp,hlo,by rw [Out_eq,hv]; exact q1,by rw [hpl]; exact hpe _ _ q2,vpdr_pdrA hE hq l _ _ _ _ _ _ _ _ _ (he.put _ _) hp q3⟩
      | some q =>
       obtain ⟨c,p,σ'⟩:=q
       rw [hx] at h2
       exact ⟨σ,p,σ',by simp,hlo,by rw [Out_eq,hv]; exact hE.ok _ _ _ _ _ _ hx h2.1.1,by rw [hpl]; exact hpe _ _ h2.1.2,vpdr_pdrA hE hq l _ _ _ _ _ _ _ _ _ (he.put _ _) hp h2.2⟩
     | bad=>rw [hv] at h2; exact h2.elim
    | false =>
     rw [hc] at h2
     simp only [Bool.false_eq_true,if_false] at h2 ⊢
     cases hf:fls.contains i with
     | true =>
      rw [hf] at h2
      simp only [if_true] at h2 ⊢
      obtain ⟨hop,h2⟩:=h2
      have hop3:(match o.op with | .makeSlice .. | .alloc _=>true | _=>false) = true:=by
       revert hop
       cases o.op <;> first | exact fun _=>rfl | exact False.elim
      split at h2
      ·rename_i hv
       obtain ⟨a2,a3⟩:=float_msl (ops:=ops) hop3 hv h2.1
       exact ⟨fun o=>.msl o 0,_,.inl rfl,a2,a3,vpdr_pdrA hE hq l _ _ _ _ _ _ _ _ _ (he.put _ _) hp h2.2⟩
      ·rename_i hv
       obtain ⟨a2,a3⟩:=float_ptr (ops:=ops) hop3 hv h2.1
       exact ⟨fun o=>.ptr o 0 0 0,_,.inr rfl,a2,a3,vpdr_pdrA hE hq l _ _ _ _ _ _ _ _ _ (he.put _ _) hp h2.2⟩
      ·exact h2.elim
     | false =>
      rw [hf] at h2
      simp only [Bool.false_eq_true,if_false] at h2 ⊢
      split at h2
      ·rename_i c v hv
       refine ⟨v,fun τ _=>?_,?_⟩
       ·rw [Out_eq,closed_evC hv]; exact ⟨h2.1,rfl,rfl⟩
       ·refine vpdr_pdrA hE hq l _ pend _ _ _ _ _ _ _ (he.put _ _) (fun q hq=>?_) h2.2
        rcases List.mem_append.1 hq with h | h
        ·exact hp q h
        ·rw [List.mem_singleton] at h
         rw [h]
         refine .inr (fun τ=>?_)
         show Out P M ops τ fr' o v τ
         rw [Out_eq,closed_evC hv]; exact ⟨h2.1,rfl,rfl⟩
      ·obtain ⟨p,q1,q2⟩:=h2
       have ho:∀ τ,Out P M ops τ fr' o p τ = outR P p τ τ (evC P (mutOf M o.dst) τ (evO fr') o.op):=fun τ=>Out_eq _ _ _ _ _ _ _ _
       have e:(fun τ=>Out P M ops τ fr' o p τ) = fun τ=>outR P p τ τ (evC P (mutOf M o.dst) τ (evO fr') o.op):=funext ho
       refine ⟨p,fun τ hτ=>by rw [ho]; exact q1 τ hτ,?_⟩
       rw [e]
       exact vpdr_pdrA hE hq l _ _ _ _ _ _ _ _ _ (he.put _ _) (hadd _) q2
end
theorem callsOf_at {ops:Array Oper} {i:Nat} {o:Oper} (h:ops[i]? = some o):(callsOf ops).contains i = isCallV o.op:=by
 have hi:i < ops.size:=(Array.getElem?_eq_some_iff.1 h).1
 cases hc:isCallV o.op with
 | true=>rw [List.contains_iff_mem]; exact List.mem_filter.2 ⟨List.mem_range.2 hi,by simp only [h]; exact hc⟩
 | false =>
  rw [Bool.eq_false_iff]
  intro h2
  rw [List.contains_iff_mem] at h2
  have:=(List.mem_filter.1 h2).2
  simp only [h] at this
  rw [hc] at this; cases this
theorem look_vpdr {E:Ext} (hE:ExtOk P E) {ops:Array Oper} {Q:Fr → Store → Prop} {N:Nat} {σ:Store}:∀ (l:List Oper) (i:Nat) (lh:List (Nat × Nat)) (pend:List (Nat × (Store → Prop))) (past:List Store) (fr:Fr),lh.length = l.length → (∀ j o,l[j]? = some o → ops[i + j]? = some o) →
  (∀ o ∈ l,((looks o.op && notSlice o.op && !isCallV o.op) || pureCall E.pu o.op) = true) → (∀ (j:Nat) (o:Oper) (x:Nat × Nat),l[j]? = some o → lh[j]? = some x → isCallV o.op = true → x.1 = 0) → (∀ τ ∈ past,τ = σ) → (∀ q ∈ pend,q.2 σ) → vops P M n E ops Q l fr σ → vpdr P M n E ops (callsOf ops) [] N Q i (l.zip lh) pend past σ [] fr
 | [],i,lh,pend,past,fr,hl,hi,hop,hlo,hpast,hpend,h=>by
  have:lh = []:=List.length_eq_zero_iff.1 hl
  subst this
  exact h
 | o :: l,i,lh,pend,past,fr,hl,hi,hop,hlo,hpast,hpend,h=>by
  cases lh with
  | nil=>cases hl
  | cons x lh =>
   obtain ⟨lo,hi2⟩:=x
   simp only [vops] at h
   simp only [List.zip_cons_cons,vpdr]
   refine ⟨h.1,?_⟩
   have h2:=h.2
   have ih:=fun pend past fr hp1 hp2=>look_vpdr hE (N:=N) (σ:=σ) (Q:=Q) (ops:=ops) l (i + 1) lh pend past fr (by simpa using hl) (fun j o hj=>by rw [Nat.add_assoc,Nat.add_comm 1 j]; exact hi (j + 1) o (by simpa using hj)) (fun o ho=>hop o (by simp [ho])) (fun j o x h1 h2 h3=>hlo (j + 1) o x (by simpa using h1) (by simpa using h2) h3) hp1 hp2
   have hc:=callsOf_at (hi 0 o rfl)
   rw [Nat.add_zero] at hc
   rw [hc]
   have hall:∀ τ ∈ (past ++ [σ]),τ = σ:=fun τ hτ=>by
    rcases List.mem_append.1 hτ with h | h
    ·exact hpast τ h
    ·exact List.mem_singleton.1 h
   cases hg:guardP ops fr o with
   | none=>rw [hg] at h2; exact h2.elim
   | some b =>
    rw [hg] at h2
    cases b with
    | false =>
     simp only at h2 ⊢
     cases hcv:isCallV o.op with
     | true =>
      have hl0:lo = 0:=hlo 0 o _ rfl rfl hcv
      subst hl0
      simp only [if_true,List.take_zero,place,List.drop_zero,Nat.add_zero]
      exact ⟨Nat.zero_le _,fun q hq _=>hpend q hq,ih _ _ _ hall hpend h2⟩
     | false=>simp only [Bool.false_eq_true,if_false,List.contains_nil]; exact ih _ _ _ hpast hpend h2
    | true =>
     simp only [stepE] at h2 ⊢
     have ho:=hop o (by simp)
     cases hcv:isCallV o.op with
     | true =>
      rw [hcv] at ho
      simp only [Bool.not_true,Bool.and_false,Bool.false_or] at ho
      have hl0:lo = 0:=hlo 0 o _ rfl rfl hcv
      subst hl0
      simp only [if_true,List.take_zero,place,List.drop_zero,Nat.add_zero]
      refine ⟨Nat.zero_le _,?_⟩
      cases he:evC P (mutOf M o.dst) σ (evO fr) o.op with
      | val c v σ' =>
       rw [he] at h2
       exfalso
       unfold pureCall at ho
       split at ho
       ·rename_i heq
        rw [heq] at he
        simp only [evC,evO,callC] at he
        cases he
       ·cases ho
      | call F args =>
       rw [he] at h2
       have hF:F ∈ E.pu:=by
        unfold pureCall at ho
        split at ho
        ·rename_i heq
         rw [heq] at he
         simp only [evC,evO,callC] at he
         cases he
         exact List.contains_iff_mem.1 ho
        ·cases ho
       obtain ⟨c,p,hcp⟩:=hE.pure F hF args σ
       simp only at h2 ⊢
       rw [hcp] at h2 ⊢
       exact ⟨⟨h2.1,fun q hq _=>hpend q hq⟩,ih _ _ _ hall hpend h2.2⟩
      | bad=>rw [he] at h2; exact h2.elim
     | false =>
      have hno:pureCall E.pu o.op = false:=by
       cases hpc:pureCall E.pu o.op with
       | false=>rfl
       | true =>
        exfalso
        unfold pureCall at hpc
        split at hpc
        ·rename_i heq; rw [heq] at hcv; cases hcv
        ·cases hpc
      rw [hno,hcv] at ho
      simp only [Bool.not_false,Bool.and_true,Bool.or_false,Bool.and_eq_true] at ho
      simp only [Bool.false_eq_true,if_false,List.contains_nil]
      have hst:=looks_stays (P:=P) (m:=mutOf M o.dst) (σ:=σ) (e:=evO fr) ho.1 (fun t x lo hi mx he=>by have:=ho.2; rw [he] at this; cases this)
      split
      ·rename_i c v hv
       rw [closed_evC hv] at h2
       exact ⟨h2.1,ih _ _ _ hpast hpend h2.2⟩
      ·cases he:evC P (mutOf M o.dst) σ (evO fr) o.op with
       | val c v σ' =>
        rw [he] at h2 hst
        have hst':σ' = σ:=hst
        subst hst'
        have hout:∀ τ,τ = σ' → outR P v τ τ (evC P (mutOf M o.dst) τ (evO fr) o.op):=fun τ hτ=>by
         rw [hτ,he]; exact ⟨h2.1,rfl,rfl⟩
        refine ⟨v,fun τ hτ=>hout τ (hall τ (List.mem_of_mem_drop hτ)),ih _ _ _ hpast (fun q hq=>?_) h2.2⟩
        rcases List.mem_append.1 hq with h | h
        ·exact hpend q h
        ·rw [List.mem_singleton] at h; rw [h]; exact hout _ rfl
       | call F args=>rw [he] at hst; exact hst.elim
       | bad=>rw [he] at h2; exact h2.elim
def lhZ (ops:Array Oper) (effs:List Nat):List (Nat × Nat):=(List.range ops.size).map fun i=>if effs.contains i then (0,0) else (loE ops effs i,hiE ops effs i)
theorem lhZ_getD {ops:Array Oper} {effs:List Nat} {i:Nat} (h:i < ops.size):(lhZ ops effs).getD i (0,0) = if effs.contains i then (0,0) else (loE ops effs i,hiE ops effs i):=by
 simp only [lhZ,List.getD_eq_getElem?_getD,List.getElem?_map,List.getElem?_range h,Option.map_some,Option.getD_some]
theorem adB_lhZ (ops:Array Oper) (effs:List Nat):adB ops effs [] (lhZ ops effs) = true:=by
 simp only [adB,Bool.and_eq_true,List.all_eq_true,decide_eq_true_eq,List.mem_range]
 refine ⟨⟨by simp [lhZ],fun i hi=>?_⟩,fun k _ j hj=>absurd hj (by simp)⟩
 rw [lhZ_getD hi]
 cases h:effs.contains i <;> simp
theorem look_region {E:Ext} (hE:ExtOk P E) {ops:Array Oper} {Q:Fr → Store → Prop} {fr:Fr} {σ:Store} (h:okLook ops E.pu = true) (hp:vops P M n E ops Q ops.toList fr σ) :
  ∃ effs fls lh,drawB ops effs = true ∧ floatB ops effs fls = true ∧ adB ops effs fls lh = true ∧ vpdr P M n E ops effs fls σ.length Q 0 (ops.toList.zip lh) [] [] (σ ++ List.replicate fls.length .dead) [] fr:=by
 simp only [okLook,Bool.and_eq_true,List.all_eq_true] at h
 refine ⟨callsOf ops,[],lhZ ops (callsOf ops),h.1,rfl,adB_lhZ _ _,?_⟩
 have:=look_vpdr P M n hE (N:=σ.length) ops.toList 0 (lhZ ops (callsOf ops)) [] [] fr (by simp [lhZ]) (fun j o hj=>by simpa using hj) (fun o ho=>h.2 o ho) (fun j o x h1 h2 h3=>by
   have hj:j < ops.size:=by simpa using (List.getElem?_eq_some_iff.1 h1).1
   have h4:=lhZ_getD (effs:=callsOf ops) hj
   rw [List.getD_eq_getElem?_getD,h2,Option.getD_some,callsOf_at (by simpa using h1),h3] at h4
   rw [h4]; rfl) (by simp) (by simp) hp
 simpa using this
def keepF (U:Nat):Fr → Fr
 | []=>[]
 | (t,v) :: r=>cond ((U >>> t) &&& 1 == 1) ((t,v) :: keepF U r) (keepF U r)
theorem keepF_nil (U:Nat):keepF U [] = []:=nr rfl
theorem keepF_cons (U t:Nat) (v:PV) (r:Fr):keepF U ((t,v) :: r) = cond ((U >>> t) &&& 1 == 1) ((t,v) :: keepF U r) (keepF U r):=nr rfl
theorem look_keep (U:Nat) (fr:Fr) (t:Nat):look (keepF U fr) t = look fr t ∨ look (keepF U fr) t = .unk:=by
 by_cases hb:((U >>> t) &&& 1 == 1) = true
 ·left
  induction fr with
  | nil=>rfl
  | cons kx r ih =>
   obtain ⟨k,x⟩:=kx
   rw [keepF_cons]
   by_cases hk:k = t
   ·subst hk; rw [hb]; simp [look]
   ·cases h2:((U >>> k) &&& 1 == 1)
    ·simp [look,hk,ih]
    ·simp [look,hk,ih]
 ·right
  induction fr with
  | nil=>rfl
  | cons kx r ih =>
   obtain ⟨k,x⟩:=kx
   rw [keepF_cons]
   by_cases hk:k = t
   ·subst hk
    have:((U >>> k) &&& 1 == 1) = false:=by simpa using hb
    simp only [this,cond_false]
    exact ih
   ·cases h2:((U >>> k) &&& 1 == 1)
    ·simp only [cond_false]; exact ih
    ·simp only [cond_true,look,hk,if_false]; exact ih
theorem Frel.keep {I:Imm} {ρ:Rho} {n U:Nat} {fr:Fr} {tmps:Array Value} (h:Frel I ρ n fr tmps):Frel I ρ n (keepF U fr) tmps:=h.weaken (look_keep U fr)
theorem Frel.eq {I:Imm} {ρ:Rho} {n:Nat} {fr fr':Fr} {tmps:Array Value} (h:Frel I ρ n fr' tmps) (he:FrEq fr fr'):Frel I ρ n fr tmps:=⟨h.1,fun t=>by rw [he t]; exact h.2 t⟩
variable (E:Ext) (U:Nat)
def vwp:Code → (Exit → Fr → Store → Prop) → Fr → Store → Prop
 | .skip,Q,fr,σ=>Q .normal fr σ
 | .region _ ops d,Q,fr,σ=>if d = true ∧ okLook ops E.pu = false then ∃ effs fls lh,drawB ops effs = true ∧ floatB ops effs fls = true ∧ adB ops effs fls lh = true ∧ vpdr P M n E ops effs fls σ.length (fun fr σ=>Q .normal (keepF U fr) σ) 0 (ops.toList.zip lh) [] [] (σ ++ List.replicate fls.length .dead) [] fr else vops P M n E ops (fun fr σ=>Q .normal (keepF U fr) σ) ops.toList fr σ
 | .seq a b,Q,fr,σ=>vwp a (fun e fr σ=>match e with | .normal=>vwp b Q fr σ | e=>Q e fr σ) fr σ
 | .cond c a b,Q,fr,σ=>(match evO fr c with | .bool t=>if t then vwp a Q fr σ else vwp b Q fr σ | _=>False)
 | .block id c,Q,fr,σ=>vwp c (fun e fr σ=>match e with | .exit id'=>if id' = id then Q .normal fr σ else Q (.exit id') fr σ | e=>Q e fr σ) fr σ
 | .loop c,Q,fr,σ=>∃ (J:Nat → Fr → Store → Prop) (k:Nat) (fr0:Fr) (σ0:Store),frzTo fr σ fr0 σ0 ∧ J k fr0 σ0 ∧
   ∀ k fr σ,J k fr σ → vwp c (fun e fr' σ'=>match e with | .normal=>∃ k' fr0 σ0,k' < k ∧ frzTo fr' σ' fr0 σ0 ∧ J k' fr0 σ0 | e=>Q e fr' σ') fr σ
 | .exit id,Q,fr,σ=>Q (.exit id) fr σ
 | .ret,Q,fr,σ=>Q .ret fr σ
 | _,_,_,_=>False
theorem vwp_sound (hE:ExtOk P E) (hmix:P.follows .mixedOrders = true):∀ (c:Code) (Q:Exit → Fr → Store → Prop) (fr:Fr) (σ:Store),vwp P M n E U c Q fr σ → ∀ (I:Imm) (ρ:Rho) (a:Act) (w:World),Inv I ρ σ w → Frel I ρ n fr a.tmps →
  c.wp P (Lift n Q I ρ σ w a.defers) a w
 | .skip,Q,fr,σ,h,I,ρ,a,w,hinv,hf=>wp_skip ⟨I,ρ,fr,σ,h,hinv,hf,.refl _ _ _ _,rfl⟩
 | .exit id,Q,fr,σ,h,I,ρ,a,w,hinv,hf=>wp_exit ⟨I,ρ,fr,σ,h,hinv,hf,.refl _ _ _ _,rfl⟩
 | .ret,Q,fr,σ,h,I,ρ,a,w,hinv,hf=>wp_ret ⟨I,ρ,fr,σ,h,hinv,hf,.refl _ _ _ _,rfl⟩
 | .region id ops d,Q,fr,σ,h,I,ρ,a,w,hinv,hf=>by
  simp only [vwp] at h
  have hq:∀ f f' σ,FrEq f f' → Q .normal (keepF U f) σ → (fun (e:Exit) (f':Fr) (σ:Store)=>∃ f,FrEq f f' ∧ Q e (keepF U f) σ) .normal f' σ:=fun f f' σ he h=>⟨f,he,h⟩
  have hp:(Code.region id ops d).wp P (Lift n (fun (e:Exit) (f':Fr) (σ:Store)=>∃ f,FrEq f f' ∧ Q e (keepF U f) σ) I ρ σ w a.defers) a w:=by
   cases d with
   | false =>
    simp only [Bool.false_eq_true,false_and,if_false] at h
    have hp:pwp P M n (.region id ops false) (fun (e:Exit) (f':Fr) (σ:Store)=>∃ f,FrEq f f' ∧ Q e (keepF U f) σ) fr σ:=by
     simp only [pwp]
     exact vops_pops P M n E hE hq _ _ _ _ (.refl _) h
    exact pwp_sound hmix _ _ fr σ hp I ρ a w hinv hf
   | true =>
    simp only [true_and] at h
    by_cases ho:okLook ops E.pu = false
    ·rw [if_pos ho] at h
     obtain ⟨effs,fls,lh,h1,h2,h3,h4⟩:=h
     exact pdrawA_sound (Q:=fun (e:Exit) (f':Fr) (σ:Store)=>∃ f,FrEq f f' ∧ Q e (keepF U f) σ) hmix h1 h2 h3 (vpdr_pdrA P M n E hE hq _ _ _ [] [] _ _ _ _ _ (.refl _) (by simp) h4) hinv hf
    ·rw [if_neg ho] at h
     obtain ⟨effs,fls,lh,h1,h2,h3,h4⟩:=look_region P M n hE (by simpa using ho) h
     exact pdrawA_sound (Q:=fun (e:Exit) (f':Fr) (σ:Store)=>∃ f,FrEq f f' ∧ Q e (keepF U f) σ) hmix h1 h2 h3 (vpdr_pdrA P M n E hE hq _ _ _ [] [] _ _ _ _ _ (.refl _) (by simp) h4) hinv hf
  refine wp_mono hp ?_
  rintro e a' w' ⟨I',ρ',fr',σ',⟨f,he,q⟩,hinv',hf',hg,hd⟩
  exact ⟨I',ρ',keepF U f,σ',q,hinv',(hf'.eq he).keep,hg,hd⟩
 | .seq x y,Q,fr,σ,h,I,ρ,a,w,hinv,hf=>by
  simp only [vwp] at h
  refine wp_seq (wp_mono (vwp_sound hE hmix x _ fr σ h I ρ a w hinv hf) ?_)
  rintro e a' w' ⟨I',ρ',fr',σ',q,hinv',hf',hg,hd⟩
  cases e with
  | normal =>
   refine wp_mono (vwp_sound hE hmix y Q fr' σ' q I' ρ' a' w' hinv' hf') ?_
   rintro e a2 w2 ⟨I2,ρ2,fr2,σ2,q2,hinv2,hf2,hg2,hd2⟩
   exact ⟨I2,ρ2,fr2,σ2,q2,hinv2,hf2,hg.trans hg2,hd2.trans hd⟩
  | _=>exact ⟨I',ρ',fr',σ',q,hinv',hf',hg,hd⟩
 | .cond c x y,Q,fr,σ,h,I,ρ,a,w,hinv,hf=>by
  simp only [vwp] at h
  split at h
  ·rename_i t hc
   have hr:=hf.evO c
   rw [hc] at hr
   generalize hv:a.eval c = v at hr
   cases hr
   refine wp_cond hv ?_
   cases t with
   | true=>exact vwp_sound hE hmix x Q fr σ h I ρ a w hinv hf
   | false=>exact vwp_sound hE hmix y Q fr σ h I ρ a w hinv hf
  ·exact h.elim
 | .block id c,Q,fr,σ,h,I,ρ,a,w,hinv,hf=>by
  simp only [vwp] at h
  refine wp_block (wp_mono (vwp_sound hE hmix c _ fr σ h I ρ a w hinv hf) ?_)
  rintro e a' w' ⟨I',ρ',fr',σ',q,hinv',hf',hg,hd⟩
  cases e with
  | exit id' =>
   simp only [Exit.inBlock]
   simp only at q
   split at q
   ·rename_i hid
    rw [if_pos hid]
    exact ⟨I',ρ',fr',σ',q,hinv',hf',hg,hd⟩
   ·rename_i hid
    rw [if_neg hid]
    exact ⟨I',ρ',fr',σ',q,hinv',hf',hg,hd⟩
  | _=>exact ⟨I',ρ',fr',σ',q,hinv',hf',hg,hd⟩
 | .loop c,Q,fr,σ,h,I,ρ,a,w,hinv,hf=>by
  simp only [vwp] at h
  obtain ⟨J,k,fr0,σ0,hw,hJ,hround⟩:=h
  obtain ⟨I0,hinv0,hg0,hf0⟩:=frzTo_sound hw hinv hf
  refine wp_loop_nat (fun k a' w'=>∃ I' ρ' fr' σ',J k fr' σ' ∧ Inv I' ρ' σ' w' ∧ Frel I' ρ' n fr' a'.tmps ∧ Grow I ρ σ w I' ρ' σ' w' ∧ a'.defers = a.defers) ?_ k a w ⟨I0,ρ,fr0,σ0,hJ,hinv0,hf0,hg0,rfl⟩
  rintro k a' w' ⟨I',ρ',fr',σ',hJ',hinv',hf',hg,hd⟩
  refine wp_mono (vwp_sound hE hmix c _ fr' σ' (hround k fr' σ' hJ') I' ρ' a' w' hinv' hf') ?_
  rintro e a2 w2 ⟨I2,ρ2,fr2,σ2,q2,hinv2,hf2,hg2,hd2⟩
  cases e with
  | normal =>
   obtain ⟨k',fr0',σ0',hlt,hw',hJ2⟩:=q2
   obtain ⟨I3,hinv3,hg3,hf3⟩:=frzTo_sound hw' hinv2 hf2
   exact ⟨k',hlt,I3,ρ2,fr0',σ0',hJ2,hinv3,hf3,(hg.trans hg2).trans hg3,hd2.trans hd⟩
  | _=>exact ⟨I2,ρ2,fr2,σ2,q2,hinv2,hf2,hg.trans hg2,hd2.trans hd⟩
 | .rangeFunc ..,_,_,_,h,_,_,_,_,_,_=>h.elim
 | .scope _,_,_,_,h,_,_,_,_,_,_=>h.elim
 | .label _,_,_,_,h,_,_,_,_,_,_=>h.elim
 | .goto _,_,_,_,h,_,_,_,_,_,_=>h.elim
 | .refuse _,_,_,_,h,_,_,_,_,_,_=>h.elim
theorem vops_mono {ops:Array Oper} {Q Q':Fr → Store → Prop} (hq:∀ fr σ,Q fr σ → Q' fr σ):∀ (l:List Oper) (fr:Fr) (σ:Store),vops P M n E ops Q l fr σ → vops P M n E ops Q' l fr σ
 | [],fr,σ,h=>hq _ _ h
 | o :: l,fr,σ,h=>by
  simp only [vops] at h ⊢
  refine ⟨h.1,?_⟩
  have h2:=h.2
  cases hg:guardP ops fr o with
  | none=>rw [hg] at h2; exact h2
  | some b =>
   rw [hg] at h2
   cases b with
   | false=>exact vops_mono hq l _ _ h2
   | true =>
    simp only [stepE] at h2 ⊢
    cases hv:evC P (mutOf M o.dst) σ (evO fr) o.op with
    | val c v σ'=>rw [hv] at h2; exact ⟨h2.1,vops_mono hq l _ _ h2.2⟩
    | call F args =>
     rw [hv] at h2
     simp only at h2 ⊢
     cases hx:E.f F args σ with
     | none=>rw [hx] at h2; exact PCall.mono h2 (fun p σ' h=>vops_mono hq l _ _ h)
     | some q=>obtain ⟨c,p,σ'⟩:=q; rw [hx] at h2; exact ⟨h2.1,vops_mono hq l _ _ h2.2⟩
    | bad=>rw [hv] at h2; exact h2
theorem vpdr_mono {ops:Array Oper} {effs fls:List Nat} {Q Q':Fr → Store → Prop} (hq:∀ fr σ,Q fr σ → Q' fr σ):∀ (l:List (Oper × Nat × Nat)) (i:Nat) (pend:List (Nat × (Store → Prop))) (past:List Store) (σ:Store) (N:Nat) (acc:List Obj) (fr:Fr),vpdr P M n E ops effs fls N Q i l pend past σ acc fr → vpdr P M n E ops effs fls N Q' i l pend past σ acc fr
 | [],i,pend,past,σ,N,acc,fr,h=>hq _ _ h
 | (o,lo,hi) :: l,i,pend,past,σ,N,acc,fr,h=>by
  simp only [vpdr] at h ⊢
  refine ⟨h.1,?_⟩
  have h2:=h.2
  cases hg:guardP ops fr o with
  | none=>rw [hg] at h2; exact h2
  | some b =>
   rw [hg] at h2
   cases b with
   | false =>
    simp only at h2 ⊢
    cases hc:effs.contains i with
    | true =>
     rw [hc] at h2
     simp only [if_true] at h2 ⊢
     exact ⟨h2.1,h2.2.1,vpdr_mono hq l _ _ _ _ _ _ _ h2.2.2⟩
    | false =>
     rw [hc] at h2
     simp only [Bool.false_eq_true,if_false] at h2 ⊢
     cases hf:fls.contains i with
     | true =>
      rw [hf] at h2
      simp only [if_true] at h2 ⊢
      exact vpdr_mono hq l _ _ _ _ _ _ _ h2
     | false =>
      rw [hf] at h2
      simp only [Bool.false_eq_true,if_false] at h2 ⊢
      exact vpdr_mono hq l _ _ _ _ _ _ _ h2
   | true =>
    simp only at h2 ⊢
    cases hc:effs.contains i with
    | true =>
     rw [hc] at h2
     simp only [if_true] at h2 ⊢
     refine ⟨h2.1,?_⟩
     replace h2:=h2.2
     cases hv:evC P (mutOf M o.dst) (place σ N (acc.take lo)) (evO fr) o.op with
     | val c v σ'=>rw [hv] at h2; exact ⟨h2.1,h2.2.1,vpdr_mono hq l _ _ _ _ _ _ _ h2.2.2⟩
     | call F args =>
      rw [hv] at h2
      simp only at h2 ⊢
      cases hx:E.f F args (place σ N (acc.take lo)) with
      | none =>
       rw [hx] at h2
       obtain ⟨p,σ',q1,q2,q3⟩:=h2
       exact ⟨p,σ',q1,q2,vpdr_mono hq l _ _ _ _ _ _ _ q3⟩
      | some q=>obtain ⟨c,p,σ'⟩:=q; rw [hx] at h2; exact ⟨h2.1,vpdr_mono hq l _ _ _ _ _ _ _ h2.2⟩
     | bad=>rw [hv] at h2; exact h2
    | false =>
     rw [hc] at h2
     simp only [Bool.false_eq_true,if_false] at h2 ⊢
     cases hf:fls.contains i with
     | true =>
      rw [hf] at h2
      simp only [if_true] at h2 ⊢
      refine ⟨h2.1,?_⟩
      have h3:=h2.2
      split at h3
      ·exact ⟨h3.1,vpdr_mono hq l _ _ _ _ _ _ _ h3.2⟩
      ·exact ⟨h3.1,vpdr_mono hq l _ _ _ _ _ _ _ h3.2⟩
      ·exact h3.elim
     | false =>
      rw [hf] at h2
      simp only [Bool.false_eq_true,if_false] at h2 ⊢
      split at h2
      ·exact ⟨h2.1,vpdr_mono hq l _ _ _ _ _ _ _ h2.2⟩
      ·obtain ⟨p,q1,q2⟩:=h2
       exact ⟨p,q1,vpdr_mono hq l _ _ _ _ _ _ _ q2⟩
theorem vwp_mono:∀ (c:Code) (Q Q':Exit → Fr → Store → Prop) (fr:Fr) (σ:Store),(∀ e fr σ,Q e fr σ → Q' e fr σ) → vwp P M n E U c Q fr σ → vwp P M n E U c Q' fr σ
 | .skip,Q,Q',fr,σ,hq,h=>hq _ _ _ h
 | .exit id,Q,Q',fr,σ,hq,h=>hq _ _ _ h
 | .ret,Q,Q',fr,σ,hq,h=>hq _ _ _ h
 | .region id ops d,Q,Q',fr,σ,hq,h=>by
  simp only [vwp] at h ⊢
  split
  ·rename_i hc
   rw [if_pos hc] at h
   obtain ⟨effs,fls,lh,h1,h2,h3,h4⟩:=h
   exact ⟨effs,fls,lh,h1,h2,h3,vpdr_mono P M n E (fun _ _=>hq _ _ _) _ _ _ _ _ _ _ _ h4⟩
  ·rename_i hc
   rw [if_neg hc] at h
   exact vops_mono P M n E (fun _ _=>hq _ _ _) _ _ _ h
 | .seq x y,Q,Q',fr,σ,hq,h=>by
  simp only [vwp] at h ⊢
  refine vwp_mono x _ _ fr σ (fun e fr σ h=>?_) h
  cases e with
  | normal=>exact vwp_mono y Q Q' fr σ hq h
  | _=>exact hq _ _ _ h
 | .cond c x y,Q,Q',fr,σ,hq,h=>by
  simp only [vwp] at h ⊢
  cases hc:evO fr c with
  | bool t =>
   rw [hc] at h
   cases t with
   | true=>exact vwp_mono x Q Q' fr σ hq h
   | false=>exact vwp_mono y Q Q' fr σ hq h
  | _=>rw [hc] at h; exact h.elim
 | .block id c,Q,Q',fr,σ,hq,h=>by
  simp only [vwp] at h ⊢
  refine vwp_mono c _ _ fr σ (fun e fr σ h=>?_) h
  cases e with
  | exit id' =>
   simp only at h ⊢
   split
   ·rename_i hi; rw [if_pos hi] at h; exact hq _ _ _ h
   ·rename_i hi; rw [if_neg hi] at h; exact hq _ _ _ h
  | _=>exact hq _ _ _ h
 | .loop c,Q,Q',fr,σ,hq,h=>by
  simp only [vwp] at h ⊢
  obtain ⟨J,k,fr0,σ0,hw,hJ,hround⟩:=h
  refine ⟨J,k,fr0,σ0,hw,hJ,fun k fr σ hJ=>vwp_mono c _ _ fr σ (fun e fr σ h=>?_) (hround k fr σ hJ)⟩
  cases e with
  | normal=>exact h
  | _=>exact hq _ _ _ h
 | .rangeFunc ..,_,_,_,_,_,h=>h.elim
 | .scope _,_,_,_,_,_,h=>h.elim
 | .label _,_,_,_,_,_,h=>h.elim
 | .goto _,_,_,_,_,_,h=>h.elim
 | .refuse _,_,_,_,_,_,h=>h.elim
variable (Q:Exit → Fr → Store → Prop)
def vQ:List KI → Exit → Fr → Store → Prop
 | [],e=>Q e
 | .code c :: ks,.normal=>vwp P M n E U c (vQ ks)
 | .code _ :: ks,e=>vQ ks e
 | .endB _ :: ks,.normal=>vQ ks .normal
 | .endB id :: ks,.exit id'=>if id' = id then vQ ks .normal else vQ ks (.exit id')
 | .endB _ :: ks,e=>vQ ks e
 | .again R :: _,.normal=>R
 | .again _ :: ks,e=>vQ ks e
def vk (ks:List KI) (fr:Fr) (σ:Store):Prop:=vQ P M n E U Q ks .normal fr σ
def ve (id:Nat) (ks:List KI) (fr:Fr) (σ:Store):Prop:=vQ P M n E U Q ks (.exit id) fr σ
def vo (ops:Array Oper) (l:List Oper) (ks:List KI) (fr:Fr) (σ:Store):Prop:=vops P M n E ops (fun fr σ=>vk P M n E U Q ks (keepF U fr) σ) l fr σ
def vog (ops:Array Oper) (o:Oper) (l:List Oper) (ks:List KI) (fr:Fr) (σ:Store):Option Bool → Prop
 | some true=>stepE P E (mutOf M o.dst) σ (evO fr) (fun p σ'=>vo P M n E U Q ops l ks (consF fr o.dst p) σ') o.op
 | some false=>vo P M n E U Q ops l ks (consF fr o.dst .undef) σ
 | none=>False
def vor (ops:Array Oper) (l:List Oper) (ks:List KI) (fr:Fr) (σ:Store) (d:Option Nat):OpRes → Prop
 | .val c v σ'=>c ∧ vo P M n E U Q ops l ks (consF fr d v) σ'
 | .call F args=>(match E.f F args σ with | some (c,p,σ')=>c ∧ vo P M n E U Q ops l ks (consF fr d p) σ' | none=>PCall P F args σ (fun p σ'=>vo P M n E U Q ops l ks (consF fr d p) σ'))
 | .bad=>False
def vcall (F:FuncId) (args:List PV) (ops:Array Oper) (l:List Oper) (ks:List KI) (fr:Fr) (σ:Store) (d:Option Nat) [Hold Q] [Hold F] [Hold args] [Hold ops] [Hold l] [Hold ks] [Hold fr] [Hold σ] [Hold d]:Prop :=
 PCall P F args σ (fun p σ'=>vo P M n E U Q ops l ks (consF fr d p) σ')
def vex (F:FuncId) (args:List PV) (ops:Array Oper) (l:List Oper) (ks:List KI) (fr:Fr) (σ:Store) (d:Option Nat):Option (Prop × PV × Store) → Prop
 | some (c,p,σ')=>c ∧ vo P M n E U Q ops l ks (consF fr d p) σ'
 | none=>PCall P F args σ (fun p σ'=>vo P M n E U Q ops l ks (consF fr d p) σ')
theorem vex_none (F:FuncId) (args:List PV) (ops:Array Oper) (l:List Oper) (ks:List KI) (fr:Fr) (σ:Store) (d:Option Nat):vex P M n E U Q F args ops l ks fr σ d none = vcall P M n E U Q F args ops l ks fr σ d:=rfl
theorem vex_some (F:FuncId) (args:List PV) (ops:Array Oper) (l:List Oper) (ks:List KI) (fr:Fr) (σ:Store) (d:Option Nat) (c:Prop) (p:PV) (σ':Store):vex P M n E U Q F args ops l ks fr σ d (some (c,p,σ')) = req c (vo P M n E U Q ops l ks (consF fr d p) σ'):=rfl
def vc (a b:Code) (ks:List KI) (fr:Fr) (σ:Store):PV → Prop
 | .bool t=>if t then vk P M n E U Q (.code a :: ks) fr σ else vk P M n E U Q (.code b :: ks) fr σ
 | _=>False
def vloop (c:Code) (ks:List KI) (fr:Fr) (σ:Store) [Hold Q] [Hold c] [Hold ks] [Hold fr] [Hold σ]:Prop:=vk P M n E U Q (.code (.loop c) :: ks) fr σ
def vdraw (id:Nat) (ops:Array Oper) (ks:List KI) (fr:Fr) (σ:Store) [Hold Q] [Hold ops] [Hold ks] [Hold fr] [Hold σ]:Prop:=vk P M n E U Q (.code (.region id ops true) :: ks) fr σ
theorem vo_nil (ops:Array Oper) (ks:List KI) (fr:Fr) (σ:Store):vo P M n E U Q ops [] ks fr σ = vk P M n E U Q ks (keepF U fr) σ:=rfl
theorem vo_cons (ops:Array Oper) (o:Oper) (l:List Oper) (ks:List KI) (fr:Fr) (σ:Store):vo P M n E U Q ops (o :: l) ks fr σ = (fits n o.dst ∧ vog P M n E U Q ops o l ks fr σ (guardP ops fr o)):=by
 unfold vo
 rw [vops]
 cases guardP ops fr o with
 | none=>rfl
 | some b=>cases b <;> rfl
theorem vog_true (ops:Array Oper) (o:Oper) (l:List Oper) (ks:List KI) (fr:Fr) (σ:Store):vog P M n E U Q ops o l ks fr σ (some true) = vor P M n E U Q ops l ks fr σ o.dst (evC P (mutOf M o.dst) σ (evO fr) o.op):=by
 unfold vog stepE
 cases evC P (mutOf M o.dst) σ (evO fr) o.op <;> rfl
theorem vog_false (ops:Array Oper) (o:Oper) (l:List Oper) (ks:List KI) (fr:Fr) (σ:Store):vog P M n E U Q ops o l ks fr σ (some false) = vo P M n E U Q ops l ks (consF fr o.dst .undef) σ:=rfl
theorem vog_dec (ops:Array Oper) (o:Oper) (l:List Oper) (ks:List KI) (fr:Fr) (σ:Store) (c:Prop) [Decidable c]:vog P M n E U Q ops o l ks fr σ (some (decide c)) = alt c (vog P M n E U Q ops o l ks fr σ (some true)) (vog P M n E U Q ops o l ks fr σ (some false)):=by
 by_cases h:c <;> simp [alt,h]
theorem vog_ndec (ops:Array Oper) (o:Oper) (l:List Oper) (ks:List KI) (fr:Fr) (σ:Store) (c:Prop) [Decidable c]:vog P M n E U Q ops o l ks fr σ (some (!decide c)) = alt c (vog P M n E U Q ops o l ks fr σ (some false)) (vog P M n E U Q ops o l ks fr σ (some true)):=by
 by_cases h:c <;> simp [alt,h]
theorem vor_val (ops:Array Oper) (l:List Oper) (ks:List KI) (fr:Fr) (σ:Store) (d:Option Nat) (c:Prop) (v:PV) (σ':Store):vor P M n E U Q ops l ks fr σ d (.val c v σ') = req c (vo P M n E U Q ops l ks (consF fr d v) σ'):=rfl
theorem vor_call (ops:Array Oper) (l:List Oper) (ks:List KI) (fr:Fr) (σ:Store) (d:Option Nat) (F:FuncId) (args:List PV):vor P M n E U Q ops l ks fr σ d (.call F args) = vex P M n E U Q F args ops l ks fr σ d (E.f F args σ):=rfl
theorem vc_true (a b:Code) (ks:List KI) (fr:Fr) (σ:Store):vc P M n E U Q a b ks fr σ (.bool true) = vk P M n E U Q (.code a :: ks) fr σ:=rfl
theorem vc_false (a b:Code) (ks:List KI) (fr:Fr) (σ:Store):vc P M n E U Q a b ks fr σ (.bool false) = vk P M n E U Q (.code b :: ks) fr σ:=rfl
theorem vc_dec (a b:Code) (ks:List KI) (fr:Fr) (σ:Store) (c:Prop) [Decidable c]:vc P M n E U Q a b ks fr σ (.bool (decide c)) = alt c (vk P M n E U Q (.code a :: ks) fr σ) (vk P M n E U Q (.code b :: ks) fr σ):=by
 by_cases h:c <;> simp [alt,h,vc]
theorem vc_ndec (a b:Code) (ks:List KI) (fr:Fr) (σ:Store) (c:Prop) [Decidable c]:vc P M n E U Q a b ks fr σ (.bool (!decide c)) = alt c (vk P M n E U Q (.code b :: ks) fr σ) (vk P M n E U Q (.code a :: ks) fr σ):=by
 by_cases h:c <;> simp [alt,h,vc]
theorem vk_nil (fr:Fr) (σ:Store):vk P M n E U Q [] fr σ = Q .normal fr σ:=rfl
theorem vk_skip (ks:List KI) (fr:Fr) (σ:Store):vk P M n E U Q (.code .skip :: ks) fr σ = vk P M n E U Q ks fr σ:=by simp only [vk,vQ,vwp]
theorem vk_seq (a b:Code) (ks:List KI) (fr:Fr) (σ:Store):vk P M n E U Q (.code (.seq a b) :: ks) fr σ = vk P M n E U Q (.code a :: .code b :: ks) fr σ:=by
 simp only [vk,vQ,vwp]
 congr 1
 funext e
 cases e <;> rfl
theorem vk_block (id:Nat) (c:Code) (ks:List KI) (fr:Fr) (σ:Store):vk P M n E U Q (.code (.block id c) :: ks) fr σ = vk P M n E U Q (.code c :: .endB id :: ks) fr σ:=by
 simp only [vk,vQ,vwp]
 congr 1
 funext e fr σ
 cases e with
 | exit id'=>simp only [vQ]; split <;> rfl
 | _=>rfl
theorem vk_region (id:Nat) (l:List Oper) (ks:List KI) (fr:Fr) (σ:Store):vk P M n E U Q (.code (.region id l.toArray false) :: ks) fr σ = vo P M n E U Q l.toArray l ks fr σ:=by
 simp only [List.toList_toArray,vk,vQ,vwp,vo,Bool.false_eq_true,false_and,if_false]
theorem vk_draw_def (id:Nat) (ops:Array Oper) (ks:List KI) (fr:Fr) (σ:Store):vk P M n E U Q (.code (.region id ops true) :: ks) fr σ = vdraw P M n E U Q id ops ks fr σ:=rfl
theorem vk_look (id:Nat) (l:List Oper) (ks:List KI) (fr:Fr) (σ:Store) (h:okLook l.toArray E.pu = true):vdraw P M n E U Q id l.toArray ks fr σ = vo P M n E U Q l.toArray l ks fr σ:=by
 simp only [List.toList_toArray,vdraw,vk,vQ,vwp,vo,h,Bool.true_eq_false,and_false,if_false]
theorem vk_cond (c:Operand) (a b:Code) (ks:List KI) (fr:Fr) (σ:Store):vk P M n E U Q (.code (.cond c a b) :: ks) fr σ = vc P M n E U Q a b ks fr σ (evO fr c):=by
 simp only [vk,vQ,vwp]
 cases evO fr c <;> rfl
theorem vk_exit (id:Nat) (ks:List KI) (fr:Fr) (σ:Store):vk P M n E U Q (.code (.exit id) :: ks) fr σ = ve P M n E U Q id ks fr σ:=by simp only [vk,ve,vQ,vwp]
theorem vk_endB (id:Nat) (ks:List KI) (fr:Fr) (σ:Store):vk P M n E U Q (.endB id :: ks) fr σ = vk P M n E U Q ks fr σ:=rfl
theorem vk_again (R:Fr → Store → Prop) (ks:List KI) (fr:Fr) (σ:Store):vk P M n E U Q (.again R :: ks) fr σ = R fr σ:=rfl
theorem ve_nil (id:Nat) (fr:Fr) (σ:Store):ve P M n E U Q id [] fr σ = Q (.exit id) fr σ:=rfl
theorem ve_code (id:Nat) (c:Code) (ks:List KI) (fr:Fr) (σ:Store):ve P M n E U Q id (.code c :: ks) fr σ = ve P M n E U Q id ks fr σ:=rfl
theorem ve_again (id:Nat) (R:Fr → Store → Prop) (ks:List KI) (fr:Fr) (σ:Store):ve P M n E U Q id (.again R :: ks) fr σ = ve P M n E U Q id ks fr σ:=rfl
theorem ve_endB (id id':Nat) (ks:List KI) (fr:Fr) (σ:Store):ve P M n E U Q id (.endB id' :: ks) fr σ = if id = id' then vk P M n E U Q ks fr σ else ve P M n E U Q id ks fr σ:=by
 simp only [ve,vQ,vk]
 split <;> rfl
def vend (id:Nat) (ks:List KI) (fr:Fr) (σ:Store):Bool → Prop
 | true=>vk P M n E U Q ks fr σ
 | false=>ve P M n E U Q id ks fr σ
theorem vend_true (id:Nat) (ks:List KI) (fr:Fr) (σ:Store):vend P M n E U Q id ks fr σ true = vk P M n E U Q ks fr σ:=rfl
theorem vend_false (id:Nat) (ks:List KI) (fr:Fr) (σ:Store):vend P M n E U Q id ks fr σ false = ve P M n E U Q id ks fr σ:=rfl
theorem vQ_ret:∀ (ks:List KI),vQ P M n E U Q ks .ret = Q .ret
 | []=>rfl
 | .code _ :: ks=>vQ_ret ks
 | .endB _ :: ks=>vQ_ret ks
 | .again _ :: ks=>vQ_ret ks
theorem vk_ret (ks:List KI) (fr:Fr) (σ:Store):vk P M n E U Q (.code .ret :: ks) fr σ = Q .ret fr σ:=by simp only [vk,vQ,vwp,vQ_ret]
theorem vk_loop_def (c:Code) (ks:List KI) (fr:Fr) (σ:Store):vk P M n E U Q (.code (.loop c) :: ks) fr σ = vloop P M n E U Q c ks fr σ:=rfl
section
variable (ops:Array Oper) (effs fls:List Nat) (N:Nat) (ks:List KI)
def vd (i:Nat) (l:List Oper) (lh:List (Nat × Nat)) (pend:List (Nat × (Store → Prop))) (past:List Store) (acc:List Obj) (fr:Fr) (σ:Store):Prop:=vpdr P M n E ops effs fls N (fun fr σ=>vk P M n E U Q ks (keepF U fr) σ) i (l.zip lh) pend past σ acc fr
def vdg (i:Nat) (o:Oper) (lo hi:Nat) (rest:List Oper) (lh:List (Nat × Nat)) (pend:List (Nat × (Store → Prop))) (past:List Store) (acc:List Obj) (fr:Fr) (σ:Store) (g:Option Bool) (e f:Bool):Prop:=match g with
  | some true=>if e then lo ≤ acc.length ∧ (match evC P (mutOf M o.dst) (place σ N (acc.take lo)) (evO fr) o.op with
     | .val c v σ'=>c ∧ (∀ q ∈ pend,past.length + 1 ≤ q.1 → q.2 σ') ∧ vd P M n E U Q ops effs fls (N + lo) ks (i + 1) rest lh pend (past ++ [σ]) (acc.drop lo) (consF fr o.dst v) σ'
     | .call F args=>(match E.f F args (place σ N (acc.take lo)) with
      | some (c,p,σ')=>(c ∧ ∀ q ∈ pend,past.length + 1 ≤ q.1 → q.2 σ') ∧ vd P M n E U Q ops effs fls (N + lo) ks (i + 1) rest lh pend (past ++ [σ]) (acc.drop lo) (consF fr o.dst p) σ'
      | none=>∃ p σ',PCall P F args (place σ N (acc.take lo)) (fun q σ''=>q = p ∧ σ'' = σ') ∧ (∀ q ∈ pend,past.length + 1 ≤ q.1 → q.2 σ') ∧ vd P M n E U Q ops effs fls (N + lo) ks (i + 1) rest lh pend (past ++ [σ]) (acc.drop lo) (consF fr o.dst p) σ')
     | .bad=>False)
    else if f then (match o.op with | .makeSlice .. | .alloc _=>True | _=>False) ∧ (match evC P (mutOf M o.dst) [] (evO fr) o.op with
     | .val c (.msl 0 0) [.rows t sz rows 0]=>c ∧ vd P M n E U Q ops effs fls N ks (i + 1) rest lh pend past (acc ++ [.rows t sz rows 0]) (consF fr o.dst (.msl (N + acc.length) 0)) σ
     | .val c (.ptr 0 0 0 0) [.rows t sz rows 0]=>c ∧ vd P M n E U Q ops effs fls N ks (i + 1) rest lh pend past (acc ++ [.rows t sz rows 0]) (consF fr o.dst (.ptr (N + acc.length) 0 0 0)) σ
     | _=>False)
    else (match evC P (mutOf M o.dst) [] (evO fr) o.op with
     | .val c v []=>c ∧ vd P M n E U Q ops effs fls N ks (i + 1) rest lh pend past acc (consF fr o.dst v) σ
     | _=>∃ p,(∀ τ ∈ (past ++ [σ]).drop lo,outR P p τ τ (evC P (mutOf M o.dst) τ (evO fr) o.op)) ∧ vd P M n E U Q ops effs fls N ks (i + 1) rest lh (pend ++ [(hi,fun τ=>outR P p τ τ (evC P (mutOf M o.dst) τ (evO fr) o.op))]) past acc (consF fr o.dst p) σ)
  | some false=>if e then lo ≤ acc.length ∧ (∀ q ∈ pend,past.length + 1 ≤ q.1 → q.2 (place σ N (acc.take lo))) ∧ vd P M n E U Q ops effs fls (N + lo) ks (i + 1) rest lh pend (past ++ [σ]) (acc.drop lo) (consF fr o.dst .undef) (place σ N (acc.take lo))
    else if f then vd P M n E U Q ops effs fls N ks (i + 1) rest lh pend past (acc ++ [.dead]) (consF fr o.dst .undef) σ
    else vd P M n E U Q ops effs fls N ks (i + 1) rest lh pend past acc (consF fr o.dst .undef) σ
  | none=>False
theorem vd_nil (i:Nat) (pend:List (Nat × (Store → Prop))) (past:List Store) (acc:List Obj) (fr:Fr) (σ:Store):vd P M n E U Q ops effs fls N ks i [] [] pend past acc fr σ = vk P M n E U Q ks (keepF U fr) (place σ N acc):=rfl
theorem vd_cons (i:Nat) (o:Oper) (lo hi:Nat) (rest:List Oper) (lh:List (Nat × Nat)) (pend:List (Nat × (Store → Prop))) (past:List Store) (acc:List Obj) (fr:Fr) (σ:Store) :
  vd P M n E U Q ops effs fls N ks i (o :: rest) ((lo,hi) :: lh) pend past acc fr σ = (fits n o.dst ∧ vdg P M n E U Q ops effs fls N ks i o lo hi rest lh pend past acc fr σ (guardP ops fr o) (effs.contains i) (fls.contains i)):=by
 unfold vd
 rw [List.zip_cons_cons,vpdr]
 rfl
def vde (i:Nat) (rest:List Oper) (lh:List (Nat × Nat)) (pend:List (Nat × (Store → Prop))) (past:List Store) (acc:List Obj) (fr:Fr) (σ τ:Store) (d:Option Nat):OpRes → Prop
 | .val c v σ'=>req (c ∧ ∀ q ∈ pend,past.length + 1 ≤ q.1 → q.2 σ') (vd P M n E U Q ops effs fls N ks (i + 1) rest lh pend (past ++ [σ]) acc (consF fr d v) σ')
 | .call F args=>(match E.f F args τ with
  | some (c,p,σ')=>(c ∧ ∀ q ∈ pend,past.length + 1 ≤ q.1 → q.2 σ') ∧ vd P M n E U Q ops effs fls N ks (i + 1) rest lh pend (past ++ [σ]) acc (consF fr d p) σ'
  | none=>∃ p σ',PCall P F args τ (fun q σ''=>q = p ∧ σ'' = σ') ∧ (∀ q ∈ pend,past.length + 1 ≤ q.1 → q.2 σ') ∧ vd P M n E U Q ops effs fls N ks (i + 1) rest lh pend (past ++ [σ]) acc (consF fr d p) σ')
 | .bad=>False
def vdm (i:Nat) (rest:List Oper) (lh:List (Nat × Nat)) (pend:List (Nat × (Store → Prop))) (past:List Store) (acc:List Obj) (fr:Fr) (σ:Store) (d:Option Nat) (op:Op) (τ:Store):Prop:=vde P M n E U Q ops effs fls N ks i rest lh pend past acc fr σ τ d (evC P (mutOf M d) τ (evO fr) op)
theorem vdg_effA (i:Nat) (o:Oper) (lo hi:Nat) (rest:List Oper) (lh:List (Nat × Nat)) (pend:List (Nat × (Store → Prop))) (past:List Store) (acc:List Obj) (fr:Fr) (σ:Store) (f:Bool) :
  vdg P M n E U Q ops effs fls N ks i o lo hi rest lh pend past acc fr σ (some true) true f = req (lo ≤ acc.length) (vdm P M n E U Q ops effs fls (N + lo) ks i rest lh pend past (acc.drop lo) fr σ o.dst o.op (place σ N (acc.take lo))):=by
 unfold vdg vdm vde
 simp only [if_true]
 cases evC P (mutOf M o.dst) (place σ N (acc.take lo)) (evO fr) o.op <;> simp only [req,and_assoc]
theorem vdg_eff (i:Nat) (o:Oper) (hi:Nat) (rest:List Oper) (lh:List (Nat × Nat)) (pend:List (Nat × (Store → Prop))) (past:List Store) (acc:List Obj) (fr:Fr) (σ:Store) (f:Bool) :
  vdg P M n E U Q ops effs fls N ks i o 0 hi rest lh pend past acc fr σ (some true) true f = vde P M n E U Q ops effs fls N ks i rest lh pend past acc fr σ σ o.dst (evC P (mutOf M o.dst) σ (evO fr) o.op):=by
 rw [vdg_effA]
 simp only [req,List.take_zero,place,List.drop_zero,Nat.add_zero,Nat.zero_le,true_and,vdm]
theorem vde_val (i:Nat) (rest:List Oper) (lh:List (Nat × Nat)) (pend:List (Nat × (Store → Prop))) (past:List Store) (acc:List Obj) (fr:Fr) (σ τ:Store) (d:Option Nat) (c:Prop) (v:PV) (σ':Store) :
  vde P M n E U Q ops effs fls N ks i rest lh pend past acc fr σ τ d (.val c v σ') = req (c ∧ ∀ q ∈ pend,past.length + 1 ≤ q.1 → q.2 σ') (vd P M n E U Q ops effs fls N ks (i + 1) rest lh pend (past ++ [σ]) acc (consF fr d v) σ'):=rfl
def vdcall (F:FuncId) (args:List PV) (i:Nat) (rest:List Oper) (lh:List (Nat × Nat)) (pend:List (Nat × (Store → Prop))) (past:List Store) (acc:List Obj) (fr:Fr) (σ τ:Store) (d:Option Nat) [Hold Q] [Hold ops] [Hold effs] [Hold fls] [Hold ks] [Hold rest] [Hold lh] [Hold pend] [Hold past] [Hold acc] [Hold fr] [Hold σ] [Hold τ] [Hold i] [Hold N] [Hold d] [Hold F] [Hold args]:Prop :=
 ∃ p σ',PCall P F args τ (fun q σ''=>q = p ∧ σ'' = σ') ∧ (∀ q ∈ pend,past.length + 1 ≤ q.1 → q.2 σ') ∧ vd P M n E U Q ops effs fls N ks (i + 1) rest lh pend (past ++ [σ]) acc (consF fr d p) σ'
def vdx (F:FuncId) (args:List PV) (i:Nat) (rest:List Oper) (lh:List (Nat × Nat)) (pend:List (Nat × (Store → Prop))) (past:List Store) (acc:List Obj) (fr:Fr) (σ τ:Store) (d:Option Nat):Option (Prop × PV × Store) → Prop
 | some (c,p,σ')=>(c ∧ ∀ q ∈ pend,past.length + 1 ≤ q.1 → q.2 σ') ∧ vd P M n E U Q ops effs fls N ks (i + 1) rest lh pend (past ++ [σ]) acc (consF fr d p) σ'
 | none=>∃ p σ',PCall P F args τ (fun q σ''=>q = p ∧ σ'' = σ') ∧ (∀ q ∈ pend,past.length + 1 ≤ q.1 → q.2 σ') ∧ vd P M n E U Q ops effs fls N ks (i + 1) rest lh pend (past ++ [σ]) acc (consF fr d p) σ'
theorem vdx_none (F:FuncId) (args:List PV) (i:Nat) (rest:List Oper) (lh:List (Nat × Nat)) (pend:List (Nat × (Store → Prop))) (past:List Store) (acc:List Obj) (fr:Fr) (σ τ:Store) (d:Option Nat):vdx P M n E U Q ops effs fls N ks F args i rest lh pend past acc fr σ τ d none = vdcall P M n E U Q ops effs fls N ks F args i rest lh pend past acc fr σ τ d:=rfl
theorem vdx_some (F:FuncId) (args:List PV) (i:Nat) (rest:List Oper) (lh:List (Nat × Nat)) (pend:List (Nat × (Store → Prop))) (past:List Store) (acc:List Obj) (fr:Fr) (σ τ:Store) (d:Option Nat) (c:Prop) (p:PV) (σ':Store):vdx P M n E U Q ops effs fls N ks F args i rest lh pend past acc fr σ τ d (some (c,p,σ')) = req (c ∧ ∀ q ∈ pend,past.length + 1 ≤ q.1 → q.2 σ') (vd P M n E U Q ops effs fls N ks (i + 1) rest lh pend (past ++ [σ]) acc (consF fr d p) σ'):=rfl
theorem vde_call (i:Nat) (rest:List Oper) (lh:List (Nat × Nat)) (pend:List (Nat × (Store → Prop))) (past:List Store) (acc:List Obj) (fr:Fr) (σ τ:Store) (d:Option Nat) (F:FuncId) (args:List PV) :
  vde P M n E U Q ops effs fls N ks i rest lh pend past acc fr σ τ d (.call F args) = vdx P M n E U Q ops effs fls N ks F args i rest lh pend past acc fr σ τ d (E.f F args τ):=rfl
theorem vdg_noeffA (i:Nat) (o:Oper) (lo hi:Nat) (rest:List Oper) (lh:List (Nat × Nat)) (pend:List (Nat × (Store → Prop))) (past:List Store) (acc:List Obj) (fr:Fr) (σ:Store) (f:Bool) :
  vdg P M n E U Q ops effs fls N ks i o lo hi rest lh pend past acc fr σ (some false) true f = (lo ≤ acc.length ∧ (∀ q ∈ pend,past.length + 1 ≤ q.1 → q.2 (place σ N (acc.take lo))) ∧ vd P M n E U Q ops effs fls (N + lo) ks (i + 1) rest lh pend (past ++ [σ]) (acc.drop lo) (consF fr o.dst .undef) (place σ N (acc.take lo))):=rfl
theorem vdg_noeff (i:Nat) (o:Oper) (hi:Nat) (rest:List Oper) (lh:List (Nat × Nat)) (pend:List (Nat × (Store → Prop))) (past:List Store) (acc:List Obj) (fr:Fr) (σ:Store) (f:Bool) :
  vdg P M n E U Q ops effs fls N ks i o 0 hi rest lh pend past acc fr σ (some false) true f = ((∀ q ∈ pend,past.length + 1 ≤ q.1 → q.2 σ) ∧ vd P M n E U Q ops effs fls N ks (i + 1) rest lh pend (past ++ [σ]) acc (consF fr o.dst .undef) σ):=by
 rw [vdg_noeffA]
 simp only [List.take_zero,place,List.drop_zero,Nat.add_zero,Nat.zero_le,true_and]
theorem vdg_nofloat (i:Nat) (o:Oper) (lo hi:Nat) (rest:List Oper) (lh:List (Nat × Nat)) (pend:List (Nat × (Store → Prop))) (past:List Store) (acc:List Obj) (fr:Fr) (σ:Store) :
  vdg P M n E U Q ops effs fls N ks i o lo hi rest lh pend past acc fr σ (some false) false true = vd P M n E U Q ops effs fls N ks (i + 1) rest lh pend past (acc ++ [.dead]) (consF fr o.dst .undef) σ:=rfl
theorem vdg_noread (i:Nat) (o:Oper) (lo hi:Nat) (rest:List Oper) (lh:List (Nat × Nat)) (pend:List (Nat × (Store → Prop))) (past:List Store) (acc:List Obj) (fr:Fr) (σ:Store) :
  vdg P M n E U Q ops effs fls N ks i o lo hi rest lh pend past acc fr σ (some false) false false = vd P M n E U Q ops effs fls N ks (i + 1) rest lh pend past acc (consF fr o.dst .undef) σ:=rfl
def vdr (i:Nat) (o:Oper) (lo hi:Nat) (rest:List Oper) (lh:List (Nat × Nat)) (pend:List (Nat × (Store → Prop))) (past:List Store) (acc:List Obj) (fr:Fr) (σ:Store):OpRes → Prop
 | .val c v []=>c ∧ vd P M n E U Q ops effs fls N ks (i + 1) rest lh pend past acc (consF fr o.dst v) σ
 | _=>∃ p,(∀ τ ∈ (past ++ [σ]).drop lo,outR P p τ τ (evC P (mutOf M o.dst) τ (evO fr) o.op)) ∧ vd P M n E U Q ops effs fls N ks (i + 1) rest lh (pend ++ [(hi,fun τ=>outR P p τ τ (evC P (mutOf M o.dst) τ (evO fr) o.op))]) past acc (consF fr o.dst p) σ
theorem vdg_read (i:Nat) (o:Oper) (lo hi:Nat) (rest:List Oper) (lh:List (Nat × Nat)) (pend:List (Nat × (Store → Prop))) (past:List Store) (acc:List Obj) (fr:Fr) (σ:Store) :
  vdg P M n E U Q ops effs fls N ks i o lo hi rest lh pend past acc fr σ (some true) false false = vdr P M n E U Q ops effs fls N ks i o lo hi rest lh pend past acc fr σ (evC P (mutOf M o.dst) [] (evO fr) o.op):=rfl
theorem vdr_val (i:Nat) (o:Oper) (lo hi:Nat) (rest:List Oper) (lh:List (Nat × Nat)) (pend:List (Nat × (Store → Prop))) (past:List Store) (acc:List Obj) (fr:Fr) (σ:Store) (c:Prop) (v:PV) :
  vdr P M n E U Q ops effs fls N ks i o lo hi rest lh pend past acc fr σ (.val c v []) = req c (vd P M n E U Q ops effs fls N ks (i + 1) rest lh pend past acc (consF fr o.dst v) σ):=rfl
def vdq (i:Nat) (o:Oper) (hi:Nat) (rest:List Oper) (lh:List (Nat × Nat)) (pend:List (Nat × (Store → Prop))) (past:List Store) (acc:List Obj) (fr:Fr) (σ:Store) (l:List Store):Prop :=
 ∃ p,(∀ τ ∈ l,outR P p τ τ (evC P (mutOf M o.dst) τ (evO fr) o.op)) ∧ vd P M n E U Q ops effs fls N ks (i + 1) rest lh (pend ++ [(hi,fun τ=>outR P p τ τ (evC P (mutOf M o.dst) τ (evO fr) o.op))]) past acc (consF fr o.dst p) σ
theorem vdr_bad (i:Nat) (o:Oper) (lo hi:Nat) (rest:List Oper) (lh:List (Nat × Nat)) (pend:List (Nat × (Store → Prop))) (past:List Store) (acc:List Obj) (fr:Fr) (σ:Store) :
  vdr P M n E U Q ops effs fls N ks i o lo hi rest lh pend past acc fr σ .bad = vdq P M n E U Q ops effs fls N ks i o hi rest lh pend past acc fr σ ((past ++ [σ]).drop lo):=rfl
def vdv (i:Nat) (o:Oper) (hi:Nat) (rest:List Oper) (lh:List (Nat × Nat)) (pend:List (Nat × (Store → Prop))) (past:List Store) (acc:List Obj) (fr:Fr) (σ:Store) (σ1:Store) (l:List Store):OpRes → Prop
 | .val c v σ'=>(c ∧ σ' = σ1 ∧ ∀ τ ∈ l,outR P v τ τ (evC P (mutOf M o.dst) τ (evO fr) o.op)) ∧ vd P M n E U Q ops effs fls N ks (i + 1) rest lh (pend ++ [(hi,fun τ=>outR P v τ τ (evC P (mutOf M o.dst) τ (evO fr) o.op))]) past acc (consF fr o.dst v) σ
 | _=>False
theorem vdq_cons (i:Nat) (o:Oper) (hi:Nat) (rest:List Oper) (lh:List (Nat × Nat)) (pend:List (Nat × (Store → Prop))) (past:List Store) (acc:List Obj) (fr:Fr) (σ:Store) (σ1:Store) (l:List Store)
  (h:vdv P M n E U Q ops effs fls N ks i o hi rest lh pend past acc fr σ σ1 l (evC P (mutOf M o.dst) σ1 (evO fr) o.op)):vdq P M n E U Q ops effs fls N ks i o hi rest lh pend past acc fr σ (σ1 :: l):=by
 cases he:evC P (mutOf M o.dst) σ1 (evO fr) o.op with
 | val c v σ' =>
  rw [he] at h
  obtain ⟨⟨h1,h2,h3⟩,h4⟩:=h
  refine ⟨v,fun τ hτ=>?_,h4⟩
  rcases List.mem_cons.1 hτ with rfl | hτ
  ·rw [he]; exact ⟨h1,rfl,h2⟩
  ·exact h3 τ hτ
 | _=>rw [he] at h; exact h.elim
def vdf (i:Nat) (rest:List Oper) (lh:List (Nat × Nat)) (pend:List (Nat × (Store → Prop))) (past:List Store) (acc:List Obj) (fr:Fr) (σ:Store) (d:Option Nat):OpRes → Prop
 | .val c (.msl 0 0) [.rows t sz rows 0]=>c ∧ vd P M n E U Q ops effs fls N ks (i + 1) rest lh pend past (acc ++ [.rows t sz rows 0]) (consF fr d (.msl (N + acc.length) 0)) σ
 | .val c (.ptr 0 0 0 0) [.rows t sz rows 0]=>c ∧ vd P M n E U Q ops effs fls N ks (i + 1) rest lh pend past (acc ++ [.rows t sz rows 0]) (consF fr d (.ptr (N + acc.length) 0 0 0)) σ
 | _=>False
theorem vdg_floatS (i:Nat) (d:Option Nat) (t:TypeId) (a b:Operand) (ty:TypeId) (pos:String) (after:Array Edge) (gd:Option (Nat × Bool)) (lo hi:Nat) (rest:List Oper) (lh:List (Nat × Nat)) (pend:List (Nat × (Store → Prop))) (past:List Store) (acc:List Obj) (fr:Fr) (σ:Store) :
  vdg P M n E U Q ops effs fls N ks i ⟨d,.makeSlice t a b,ty,pos,after,gd⟩ lo hi rest lh pend past acc fr σ (some true) false true = vdf P M n E U Q ops effs fls N ks i rest lh pend past acc fr σ d (evC P (mutOf M d) [] (evO fr) (.makeSlice t a b)):=by
 unfold vdg vdf
 simp
theorem vdg_floatA (i:Nat) (d:Option Nat) (t:TypeId) (ty:TypeId) (pos:String) (after:Array Edge) (gd:Option (Nat × Bool)) (lo hi:Nat) (rest:List Oper) (lh:List (Nat × Nat)) (pend:List (Nat × (Store → Prop))) (past:List Store) (acc:List Obj) (fr:Fr) (σ:Store) :
  vdg P M n E U Q ops effs fls N ks i ⟨d,.alloc t,ty,pos,after,gd⟩ lo hi rest lh pend past acc fr σ (some true) false true = vdf P M n E U Q ops effs fls N ks i rest lh pend past acc fr σ d (evC P (mutOf M d) [] (evO fr) (.alloc t)):=by
 unfold vdg vdf
 simp
theorem vdf_msl (i:Nat) (rest:List Oper) (lh:List (Nat × Nat)) (pend:List (Nat × (Store → Prop))) (past:List Store) (acc:List Obj) (fr:Fr) (σ:Store) (d:Option Nat) (c:Prop) (t:TypeId) (sz:Nat) (rows:List (List PV)) :
  vdf P M n E U Q ops effs fls N ks i rest lh pend past acc fr σ d (.val c (.msl 0 0) [.rows t sz rows 0]) = req c (vd P M n E U Q ops effs fls N ks (i + 1) rest lh pend past (acc ++ [.rows t sz rows 0]) (consF fr d (.msl (N + acc.length) 0)) σ):=rfl
theorem vdf_ptr (i:Nat) (rest:List Oper) (lh:List (Nat × Nat)) (pend:List (Nat × (Store → Prop))) (past:List Store) (acc:List Obj) (fr:Fr) (σ:Store) (d:Option Nat) (c:Prop) (t:TypeId) (sz:Nat) (rows:List (List PV)) :
  vdf P M n E U Q ops effs fls N ks i rest lh pend past acc fr σ d (.val c (.ptr 0 0 0 0) [.rows t sz rows 0]) = req c (vd P M n E U Q ops effs fls N ks (i + 1) rest lh pend past (acc ++ [.rows t sz rows 0]) (consF fr d (.ptr (N + acc.length) 0 0 0)) σ):=rfl
end
theorem v_draws {id:Nat} {l:List Oper} {ks:List KI} {fr:Fr} {σ:Store} (effs fls:List Nat) (lh:List (Nat × Nat)) (hl:okLook l.toArray E.pu = false) (h1:drawB l.toArray effs = true) (hf:floatB l.toArray effs fls = true) (h2:adB l.toArray effs fls lh = true)
  (h:vd P M n E U Q l.toArray effs fls σ.length ks 0 l lh [] [] [] fr (σ ++ List.replicate fls.length .dead)):vdraw P M n E U Q id l.toArray ks fr σ:=by
 simp only [vdraw,vk,vQ,vwp,hl,and_self,if_true,List.toList_toArray]
 exact ⟨effs,fls,lh,h1,hf,h2,h⟩
end
theorem vkBody (P:Program) (M:List Nat) (n:Nat) (E:Ext) (U:Nat) (Q:Exit → Fr → Store → Prop) {c:Code} {fr:Fr} {σ:Store} (h:vk P M n E U Q [.code c] fr σ):vwp P M n E U c Q fr σ:=by
 have hq:(fun e=>vQ P M n E U Q [] e) = Q:=by funext e; rfl
 simp only [vk,vQ] at h
 exact h
def rQ (P:Program) (K:PV → Store → Prop) (rs:List ResultVar):Exit → Fr → Store → Prop:=fun e fr σ'=>(e = .ret ∨ e = .normal) ∧ resW P σ' fr (fun l=>K (fnRet l) σ') rs
theorem rQ_ret (P:Program) (K:PV → Store → Prop) (rs:List ResultVar) (fr:Fr) (σ':Store):rQ P K rs .ret fr σ' = resW P σ' fr (fun l=>K (fnRet l) σ') rs:=by simp [rQ]
theorem rQ_normal (P:Program) (K:PV → Store → Prop) (rs:List ResultVar) (fr:Fr) (σ':Store):rQ P K rs .normal fr σ' = resW P σ' fr (fun l=>K (fnRet l) σ') rs:=by simp [rQ]
theorem PCall.vwith {P:Program} {M:List Nat} {E:Ext} (U:Nat) (hE:ExtOk P E) (hmix:P.follows .mixedOrders = true) {F:FuncId} {fn:Func} {c:Code} {args:List PV} {σ:Store} {K:PV → Store → Prop} (hfn:P.funcs[F]? = some fn) (hb:fn.body = some c) (hname:(fn.name != "runtime.NumGoroutine") = true)
  (hargs:args.length ≤ fn.ntmps) (E2:PV → Store → Prop) (h:vk P M fn.ntmps E U (rQ P E2 fn.results.toList) [.code c] (initFr args) σ)
  (hend:∀ (I:Imm) (ρ:Rho) (w:World) (p:PV) (v:Value) (σ':Store) (I':Imm) (ρ':Rho) (w':World),Inv I ρ σ w → E2 p σ' → R I' ρ' p v → Inv I' ρ' σ' w' → Grow I ρ σ w I' ρ' σ' w' →
   ∃ p2 I2 ρ2 σ2,R I2 ρ2 p2 v ∧ Inv I2 ρ2 σ2 w' ∧ Grow I ρ σ w I2 ρ2 σ2 w' ∧ K p2 σ2):PCall P F args σ K:=by
 refine ⟨?_,fun I ρ w vs hinv ha=>?_⟩
 ·simp only [hasBody,hfn,hb,hname,Option.isSome_some,Bool.and_self]
 ·refine calls_of_wp hfn hb ?_
  have hsz:(vs ++ Array.replicate (fn.ntmps - vs.size) Go.undef).size = fn.ntmps:=by
   have:=ha.1
   simp; omega
  have hf:Frel I ρ fn.ntmps (initFr args) (vs ++ Array.replicate (fn.ntmps - vs.size) Go.undef):=by
   refine ⟨hsz,fun t=>?_⟩
   have hl:=look_init args 0 t
   simp only [Nat.zero_le,if_true,Nat.sub_zero] at hl
   unfold initFr
   rw [hl]
   by_cases ht:t < args.length
   ·have:=ha.2 t args[t] (List.getElem?_eq_getElem ht)
    rw [List.getD_eq_getElem?_getD,List.getElem?_eq_getElem ht,Option.getD_some]
    rw [Array.getD_eq_getD_getElem?] at this ⊢
    rw [Array.getElem?_append_left (by rw [ha.1]; exact ht)]
    exact this
   ·rw [List.getD_eq_getElem?_getD,List.getElem?_eq_none (by omega)]
    exact .unk _
  refine wp_mono (vwp_sound P M fn.ntmps E U hE hmix c _ _ σ (vkBody P M fn.ntmps E U _ h) I ρ { tmps:=vs ++ Array.replicate (fn.ntmps - vs.size) Go.undef,defers:=[] } w hinv hf) ?_
  rintro e a' w' ⟨I',ρ',fr',σ',⟨he,hres⟩,hinv',hf',hg,hd⟩
  obtain ⟨ps,rs,h1,h2,h3,h4⟩:=resW_sound hinv' hf'.2 _ _ hres
  have hrun:(results fn a'.tmps).run P w' = .ok (if h:rs.toArray.size = 1 then rs.toArray[0] else .tuple rs.toArray) w':=by
   rw [results_eq,Sem.run_bind,Array.mapM_eq_mapM_toList,Sem.run_map,h4]
   rfl
  have hR:R I' ρ' (fnRet ps) (if h:rs.toArray.size = 1 then rs.toArray[0] else .tuple rs.toArray):=by
   match ps,rs,h2,h3 with
   | [],[],_,_=>exact .tup _ _ rfl (by simp)
   | [p],[v],_,h3=>exact h3 0 p v rfl rfl
   | p :: q :: ps,v :: u :: rs,h2,h3 =>
    rw [dif_neg (by simp)]
    exact .tup _ _ (by simpa using h2) (fun j x hj=>by
     have hlt:j < (v :: u :: rs).length:=by have:=(List.getElem?_eq_some_iff.1 hj).1; omega
     have:=h3 j x _ hj (List.getElem?_eq_getElem hlt)
     rw [Array.getD_eq_getD_getElem?,List.getElem?_toArray,List.getElem?_eq_getElem hlt]
     exact this)
  obtain ⟨p2,I2,ρ2,σ2,k1,k2,k3,k4⟩:=hend I ρ w _ _ σ' I' ρ' w' hinv h1 hR hinv' hg
  rcases he with rfl | rfl
  ·exact ⟨hd,_,hrun,_,p2,I2,ρ2,σ2,rfl,k1,k2,k3,k4⟩
  ·exact ⟨hd,_,hrun,_,p2,I2,ρ2,σ2,rfl,k1,k2,k3,k4⟩
theorem PCall.vraw {P:Program} (M:List Nat) (U n:Nat) (rs:List ResultVar) {E:Ext} (hE:ExtOk P E) (hmix:P.follows .mixedOrders = true) {F:FuncId} {fn:Func} {c:Code} {args:List PV} {σ:Store} {K:PV → Store → Prop} (hfn:P.funcs[F]? = some fn) (hb:fn.body = some c) (hname:(fn.name != "runtime.NumGoroutine") = true)
  (hn:fn.ntmps = n) (hrs:fn.results.toList = rs) (hargs:args.length ≤ n) (h:vk P M n E U (rQ P K rs) [.code c] (initFr args) σ):PCall P F args σ K
 := by
 subst hn hrs
 exact PCall.vwith U hE hmix hfn hb hname hargs K h fun _ _ _ p _ σ' I' ρ' _ _ hE hR hinv hg=>⟨p,I',ρ',σ',hR,hinv,hg,hE⟩
theorem PCall.vfrz {P:Program} (M:List Nat) (U n:Nat) (rs:List ResultVar) {E:Ext} (hE:ExtOk P E) (hmix:P.follows .mixedOrders = true) {F:FuncId} {fn:Func} {c:Code} {args:List PV} {σ:Store} {K:PV → Store → Prop} (hfn:P.funcs[F]? = some fn) (hb:fn.body = some c) (hname:(fn.name != "runtime.NumGoroutine") = true)
  (hn:fn.ntmps = n) (hrs:fn.results.toList = rs) (hargs:args.length ≤ n) (h:vk P M n E U (rQ P (Fin σ K) rs) [.code c] (initFr args) σ):PCall P F args σ K
 := by
 subst hn hrs
 exact PCall.vwith U hE hmix hfn hb hname hargs (Fin σ K) h fun I ρ w p v σ' I' ρ' w' hinv ⟨p2,hf,hold,hK⟩ hR hinv' hg =>
  ⟨p2,frzI I' ρ' σ' w' σ.length,cutR σ.length ρ',σ'.take σ.length,hf.sound hinv' v hR,hinv'.cut (fun o ho=>by
   obtain ⟨obj,h1,h2⟩:=hold o ho
   refine ⟨obj,h1,?_⟩
   rcases h2 with h2 | h2
   ·exact objBel_of_inv hinv h2
   ·exact h2),hg.cut hinv hinv',hK⟩
theorem fin0 {K:PV → Store → Prop} {p p2:PV} {σ':Store} (hf:Frz 0 σ' p p2) (hk:K p2 []):Fin [] K p σ':=⟨p2,hf,fun o ho=>absurd ho (Nat.not_lt_zero _),by simpa using hk⟩
def back {S:Type} (F:S → Fr) (T:S → Store) (I:S → Prop) (μ:S → Nat) (m:Nat) [Hold F] [Hold T] [Hold I] [Hold μ] [Hold m] (fr:Fr) (σ:Store):Prop:=∃ s,μ s < m ∧ weaker (F s) fr ∧ σ = T s ∧ I s
def backF {S:Type} (F:S → Fr) (T:S → Store) (I:S → Prop) (μ:S → Nat) (m:Nat) [Hold F] [Hold T] [Hold I] [Hold μ] [Hold m] (fr:Fr) (σ:Store):Prop:=∃ s,μ s < m ∧ frzTo fr σ (F s) (T s) ∧ I s
theorem v_loopF {P:Program} {M:List Nat} {n:Nat} {E:Ext} {U:Nat} {Q:Exit → Fr → Store → Prop} {c:Code} {ks:List KI} {fr:Fr} {σ:Store} {S:Type} (F:S → Fr) (T:S → Store) (I:S → Prop) (μ:S → Nat) (s0:S) (hw:frzTo fr σ (F s0) (T s0)) (h0:I s0)
  (round:∀ s,I s → vk P M n E U Q (.code c :: .again (backF F T I μ (μ s)) :: ks) (F s) (T s)):vloop P M n E U Q c ks fr σ:=by
 simp only [vloop,vk,vQ,vwp]
 refine ⟨fun k fr σ=>∃ s,μ s = k ∧ fr = F s ∧ σ = T s ∧ I s,μ s0,F s0,T s0,hw,⟨s0,rfl,rfl,rfl,h0⟩,?_⟩
 rintro k fr σ ⟨s,rfl,rfl,rfl,hI⟩
 have:=round s hI
 simp only [vk,vQ] at this
 have e:(fun (e:Exit) (fr':Fr) (σ':Store)=>match e with
   | .normal=>∃ k' fr0 σ0,k' < μ s ∧ frzTo fr' σ' fr0 σ0 ∧ ∃ s',μ s' = k' ∧ fr0 = F s' ∧ σ0 = T s' ∧ I s'
   | e=>vQ P M n E U Q ks e fr' σ') = vQ P M n E U Q (.again (backF F T I μ (μ s)) :: ks):=by
  funext e fr' σ'
  cases e with
  | normal =>
   simp only [vQ,backF]
   apply propext
   constructor
   ·rintro ⟨_,_,_,h1,h2,s',rfl,rfl,rfl,h4⟩
    exact ⟨s',h1,h2,h4⟩
   ·rintro ⟨s',h1,h2,h4⟩
    exact ⟨_,_,_,h1,h2,s',rfl,rfl,rfl,h4⟩
  | _=>rfl
 rw [e]
 exact this
theorem vk_again_mono {P:Program} {M:List Nat} {n:Nat} {E:Ext} {U:Nat} {Q:Exit → Fr → Store → Prop} {c:Code} {ks:List KI} {R R':Fr → Store → Prop} (h:∀ fr σ,R fr σ → R' fr σ) {fr:Fr} {σ:Store} (hk:vk P M n E U Q (.code c :: .again R :: ks) fr σ):vk P M n E U Q (.code c :: .again R' :: ks) fr σ:=by
 simp only [vk,vQ] at hk ⊢
 exact vwp_mono P M n E U c _ _ fr σ (fun e fr σ hq=>by
  cases e with
  | normal=>exact h fr σ hq
  | _=>exact hq) hk
theorem v_loopS {P:Program} {M:List Nat} {n:Nat} {E:Ext} {U:Nat} {Q:Exit → Fr → Store → Prop} {c:Code} {ks:List KI} {fr:Fr} {σ:Store} {S:Type} (F:S → Fr) (T:S → Store) (I:S → Prop) (μ:S → Nat) (s0:S) (hw:weaker (F s0) fr) (hσ:σ = T s0) (h0:I s0)
  (round:∀ s,I s → vk P M n E U Q (.code c :: .again (back F T I μ (μ s)) :: ks) (F s) (T s)):vloop P M n E U Q c ks fr σ:=by
 subst hσ
 refine v_loopF F T I μ s0 (frzTo_weaker hw) h0 (fun s hI=>vk_again_mono ?_ (round s hI))
 rintro fr σ ⟨s',h1,h2,rfl,h3⟩
 exact ⟨s',h1,frzTo_weaker h2,h3⟩
section
variable {P:Program} {M:List Nat} {n:Nat} {E:Ext} {U:Nat} {Q:Exit → Fr → Store → Prop}
def vkeep (P:Program) (M:List Nat) (n:Nat) (E:Ext) (U:Nat) (Q:Exit → Fr → Store → Prop) (ks:List KI) (σ:Store) (fr:Fr):Prop:=vk P M n E U Q ks fr σ
theorem vkeep_go (ks:List KI) (σ:Store) (fr:Fr):vkeep P M n E U Q ks σ fr = vk P M n E U Q ks fr σ:=rfl
theorem vkeep_congr (ks:List KI) (σ:Store) {fr fr':Fr} (h:fr = fr'):vkeep P M n E U Q ks σ fr = vkeep P M n E U Q ks σ fr':=by rw [h]
theorem vo_end (ops:Array Oper) (ks:List KI) (fr:Fr) (σ:Store):vo P M n E U Q ops [] ks fr σ = vkeep P M n E U Q ks σ (keepF U fr):=rfl
def vx (P:Program) (M:List Nat) (n:Nat) (E:Ext) (U:Nat) (Q:Exit → Fr → Store → Prop) (ops:Array Oper) (d:Option Nat) (op:Op) (l:List Oper) (ks:List KI) (fr:Fr) (σ:Store):Option Bool → Prop
 | some true=>vor P M n E U Q ops l ks fr σ d (evC P (mutOf M d) σ (evO fr) op)
 | some false=>vo P M n E U Q ops l ks (consF fr d .undef) σ
 | none=>False
def gslotL (l:List Oper) (j:Nat):Option Nat:=(l[j]?).bind (·.dst)
def gval (fr:Fr) (w:Bool):Option Nat → Option Bool
 | some d=>(match look fr d with | .bool b=>some (b == w) | .undef=>some false | _=>none)
 | none=>none
def gpv (w:Bool):PV → Option Bool
 | .bool b=>some (b == w)
 | .undef=>some false
 | _=>none
theorem gval_some (fr:Fr) (w:Bool) (d:Nat):gval fr w (some d) = gpv w (look fr d):=by
 simp only [gval,gpv]
theorem gpv_bool (w b:Bool):gpv w (.bool b) = some (b == w):=nr rfl
theorem gpv_undef (w:Bool):gpv w .undef = some false:=nr rfl
theorem gslotL_zero (d:Option Nat) (op:Op) (ty:TypeId) (pos:String) (after:Array Edge) (gd:Option (Nat × Bool)) (l:List Oper):gslotL (⟨d,op,ty,pos,after,gd⟩ :: l) 0 = d:=nr rfl
theorem gslotL_succ (o:Oper) (l:List Oper) (j:Nat):gslotL (o :: l) (j + 1) = gslotL l j:=nr rfl
theorem guard_some (l:List Oper) (fr:Fr) (d:Option Nat) (op:Op) (ty:TypeId) (pos:String) (after:Array Edge) (j:Nat) (w:Bool):guardP l.toArray fr ⟨d,op,ty,pos,after,some (j,w)⟩ = gval fr w (gslotL l j):=by
 simp only [guardP,gval,gslotL,List.getElem?_toArray]
 cases (l[j]?).bind (·.dst) <;> rfl
def vgs (P:Program) (M:List Nat) (n:Nat) (E:Ext) (U:Nat) (Q:Exit → Fr → Store → Prop) (ops:Array Oper) (d:Option Nat) (op:Op) (l:List Oper) (ks:List KI) (fr:Fr) (σ:Store) (w:Bool) (s:Option Nat):Prop:=vx P M n E U Q ops d op l ks fr σ (gval fr w s)
theorem vgs_some (ops:Array Oper) (d:Option Nat) (op:Op) (l:List Oper) (ks:List KI) (fr:Fr) (σ:Store) (w:Bool) (s:Nat):vgs P M n E U Q ops d op l ks fr σ w (some s) = vx P M n E U Q ops d op l ks fr σ (gpv w (look fr s)):=by
 rw [vgs,gval_some]
theorem vo_op (ops:Array Oper) (d:Nat) (op:Op) (ty:TypeId) (pos:String) (after:Array Edge) (l:List Oper) (ks:List KI) (fr:Fr) (σ:Store) :
  vo P M n E U Q ops (⟨some d,op,ty,pos,after,none⟩ :: l) ks fr σ = (d < n ∧ vor P M n E U Q ops l ks fr σ (some d) (evC P (M.contains d) σ (evO fr) op)):=by
 rw [vo_cons]
 exact congrArg _ (vog_true P M n E U Q ops _ l ks fr σ)
theorem vo_opn (ops:Array Oper) (op:Op) (ty:TypeId) (pos:String) (after:Array Edge) (l:List Oper) (ks:List KI) (fr:Fr) (σ:Store) :
  vo P M n E U Q ops (⟨none,op,ty,pos,after,none⟩ :: l) ks fr σ = vor P M n E U Q ops l ks fr σ none (evC P false σ (evO fr) op):=by
 rw [vo_cons]
 have:=vog_true P M n E U Q ops ⟨none,op,ty,pos,after,none⟩ l ks fr σ
 simp only [fits,true_and]
 exact this
theorem vo_opg (l0:List Oper) (d:Nat) (op:Op) (ty:TypeId) (pos:String) (after:Array Edge) (j:Nat) (w:Bool) (l:List Oper) (ks:List KI) (fr:Fr) (σ:Store) :
  vo P M n E U Q l0.toArray (⟨some d,op,ty,pos,after,some (j,w)⟩ :: l) ks fr σ = (d < n ∧ vgs P M n E U Q l0.toArray (some d) op l ks fr σ w (gslotL l0 j)):=by
 rw [vo_cons,guard_some,vgs]
 simp only [fits]
 congr 1
theorem vo_opgn (l0:List Oper) (op:Op) (ty:TypeId) (pos:String) (after:Array Edge) (j:Nat) (w:Bool) (l:List Oper) (ks:List KI) (fr:Fr) (σ:Store) :
  vo P M n E U Q l0.toArray (⟨none,op,ty,pos,after,some (j,w)⟩ :: l) ks fr σ = vgs P M n E U Q l0.toArray none op l ks fr σ w (gslotL l0 j):=by
 rw [vo_cons,guard_some,vgs]
 simp only [fits,true_and]
 cases gval fr w (gslotL l0 j) with
 | none=>rfl
 | some b =>
  cases b with
  | false=>rfl
  | true=>exact vog_true P M n E U Q l0.toArray _ l ks fr σ
theorem vx_true (ops:Array Oper) (d:Nat) (op:Op) (l:List Oper) (ks:List KI) (fr:Fr) (σ:Store):vx P M n E U Q ops (some d) op l ks fr σ (some true) = vor P M n E U Q ops l ks fr σ (some d) (evC P (M.contains d) σ (evO fr) op):=rfl
theorem vx_truen (ops:Array Oper) (op:Op) (l:List Oper) (ks:List KI) (fr:Fr) (σ:Store):vx P M n E U Q ops none op l ks fr σ (some true) = vor P M n E U Q ops l ks fr σ none (evC P false σ (evO fr) op):=rfl
theorem vx_false (ops:Array Oper) (d:Nat) (op:Op) (l:List Oper) (ks:List KI) (fr:Fr) (σ:Store):vx P M n E U Q ops (some d) op l ks fr σ (some false) = vo P M n E U Q ops l ks ((d,.undef) :: fr) σ:=rfl
theorem vx_falsen (ops:Array Oper) (op:Op) (l:List Oper) (ks:List KI) (fr:Fr) (σ:Store):vx P M n E U Q ops none op l ks fr σ (some false) = vo P M n E U Q ops l ks fr σ:=rfl
theorem vx_dec (ops:Array Oper) (d:Option Nat) (op:Op) (l:List Oper) (ks:List KI) (fr:Fr) (σ:Store) (c:Prop) [Decidable c]:vx P M n E U Q ops d op l ks fr σ (some (decide c)) = alt c (vx P M n E U Q ops d op l ks fr σ (some true)) (vx P M n E U Q ops d op l ks fr σ (some false)):=by
 by_cases h:c <;> simp [alt,h]
theorem vx_ndec (ops:Array Oper) (d:Option Nat) (op:Op) (l:List Oper) (ks:List KI) (fr:Fr) (σ:Store) (c:Prop) [Decidable c]:vx P M n E U Q ops d op l ks fr σ (some (!decide c)) = alt c (vx P M n E U Q ops d op l ks fr σ (some false)) (vx P M n E U Q ops d op l ks fr σ (some true)):=by
 by_cases h:c <;> simp [alt,h]
theorem vor_some (ops:Array Oper) (l:List Oper) (ks:List KI) (fr:Fr) (σ:Store) (d:Nat) (c:Prop) (v:PV) (σ':Store):vor P M n E U Q ops l ks fr σ (some d) (.val c v σ') = req c (vo P M n E U Q ops l ks ((d,v) :: fr) σ'):=rfl
theorem vor_none (ops:Array Oper) (l:List Oper) (ks:List KI) (fr:Fr) (σ:Store) (c:Prop) (v:PV) (σ':Store):vor P M n E U Q ops l ks fr σ none (.val c v σ') = req c (vo P M n E U Q ops l ks fr σ'):=rfl
def boolR (c:Prop) [Decidable c] (σ:Store):OpRes:=.val True (.bool (decide c)) σ
theorem boolR_t (σ:Store) (d:Decidable True):@boolR True d σ = .val True (.bool true) σ:=by simp [boolR]
theorem boolR_f (σ:Store) (d:Decidable False):@boolR False d σ = .val True (.bool false) σ:=by simp [boolR]
theorem vor_bool (ops:Array Oper) (l:List Oper) (ks:List KI) (fr:Fr) (σ:Store) (d:Nat) (c:Prop) [Decidable c] (σ':Store):vor P M n E U Q ops l ks fr σ (some d) (boolR c σ') = alt c (vo P M n E U Q ops l ks ((d,.bool true) :: fr) σ') (vo P M n E U Q ops l ks ((d,.bool false) :: fr) σ'):=by
 rw [boolR,vor_some]
 by_cases h:c <;> simp [alt,h,req]
theorem vex_someD (F:FuncId) (args:List PV) (ops:Array Oper) (l:List Oper) (ks:List KI) (fr:Fr) (σ:Store) (d:Nat) (c:Prop) (p:PV) (σ':Store):vex P M n E U Q F args ops l ks fr σ (some d) (some (c,p,σ')) = req c (vo P M n E U Q ops l ks ((d,p) :: fr) σ'):=rfl
theorem vex_someN (F:FuncId) (args:List PV) (ops:Array Oper) (l:List Oper) (ks:List KI) (fr:Fr) (σ:Store) (c:Prop) (p:PV) (σ':Store):vex P M n E U Q F args ops l ks fr σ none (some (c,p,σ')) = req c (vo P M n E U Q ops l ks fr σ'):=rfl
theorem vgs_congr (ops:Array Oper) (d:Option Nat) (op:Op) (l:List Oper) (ks:List KI) (fr:Fr) (σ:Store) (w:Bool) {s s':Option Nat} (h:s = s'):vgs P M n E U Q ops d op l ks fr σ w s = vgs P M n E U Q ops d op l ks fr σ w s':=by rw [h]
theorem vx_congr (ops:Array Oper) (d:Option Nat) (op:Op) (l:List Oper) (ks:List KI) (fr:Fr) (σ:Store) {g g':Option Bool} (h:g = g'):vx P M n E U Q ops d op l ks fr σ g = vx P M n E U Q ops d op l ks fr σ g':=by rw [h]
theorem vor_congr (ops:Array Oper) (l:List Oper) (ks:List KI) (fr:Fr) (σ:Store) (d:Option Nat) {r r':OpRes} (h:r = r'):vor P M n E U Q ops l ks fr σ d r = vor P M n E U Q ops l ks fr σ d r':=by rw [h]
theorem vex_congr (F:FuncId) (args:List PV) (ops:Array Oper) (l:List Oper) (ks:List KI) (fr:Fr) (σ:Store) (d:Option Nat) {r r':Option (Prop × PV × Store)} (h:r = r'):vex P M n E U Q F args ops l ks fr σ d r = vex P M n E U Q F args ops l ks fr σ d r':=by rw [h]
theorem vc_congr (a b:Code) (ks:List KI) (fr:Fr) (σ:Store) {p p':PV} (h:p = p'):vc P M n E U Q a b ks fr σ p = vc P M n E U Q a b ks fr σ p':=by rw [h]
theorem vend_congr (id:Nat) (ks:List KI) (fr:Fr) (σ:Store) {b b':Bool} (h:b = b'):vend P M n E U Q id ks fr σ b = vend P M n E U Q id ks fr σ b':=by rw [h]
theorem gslotL_congr (l:List Oper) {j j':Nat} (h:j = j'):gslotL l j = gslotL l j':=by rw [h]
attribute [congr] vkeep_congr vgs_congr vx_congr vor_congr vex_congr vc_congr vend_congr
variable (ops:Array Oper) (effs fls:List Nat) (N:Nat) (ks:List KI)
def vdo (P:Program) (M:List Nat) (n:Nat) (E:Ext) (U:Nat) (Q:Exit → Fr → Store → Prop) (ops:Array Oper) (effs fls:List Nat) (N:Nat) (ks:List KI) (i:Nat) (o:Oper) (lo hi:Nat) (rest:List Oper) (lh:List (Nat × Nat)) (pend:List (Nat × (Store → Prop))) (past:List Store) (acc:List Obj) (fr:Fr) (σ:Store) (g:Option Bool × Bool × Bool):Prop :=
 vdg P M n E U Q ops effs fls N ks i o lo hi rest lh pend past acc fr σ g.1 g.2.1 g.2.2
theorem vd_op (l0:List Oper) (i:Nat) (o:Oper) (lo hi:Nat) (rest:List Oper) (lh:List (Nat × Nat)) (pend:List (Nat × (Store → Prop))) (past:List Store) (acc:List Obj) (fr:Fr) (σ:Store) :
  vd P M n E U Q l0.toArray effs fls N ks i (o :: rest) ((lo,hi) :: lh) pend past acc fr σ = (fits n o.dst ∧ vdo P M n E U Q l0.toArray effs fls N ks i o lo hi rest lh pend past acc fr σ (guardP l0.toArray fr o,effs.contains i,fls.contains i)):=vd_cons P M n E U Q _ _ _ _ _ _ _ _ _ _ _ _ _ _ _ _
end
theorem guard_none (ops:Array Oper) (fr:Fr) (d:Option Nat) (op:Op) (ty:TypeId) (pos:String) (after:Array Edge):guardP ops fr ⟨d,op,ty,pos,after,none⟩ = some true:=rfl
theorem look_hit (r:Fr) (t:Nat) (x:PV):look ((t,x) :: r) t = x:=by simp [look]
noncomputable def lookP (p:Prop) (x:PV) (r:Fr) (t:Nat):PV:=@ite _ p (Classical.propDecidable p) x (look r t)
theorem lookP_t (x:PV) (r:Fr) (t:Nat):lookP True x r t = x:=by simp [lookP]
theorem lookP_f (x:PV) (r:Fr) (t:Nat):lookP False x r t = look r t:=by simp [lookP]
theorem lookP_congr (x:PV) (r:Fr) (t:Nat) {p p':Prop} (h:p = p'):lookP p x r t = lookP p' x r t:=by rw [h]
attribute [congr] lookP_congr
theorem look_miss (r:Fr) (k t:Nat) (x:PV):look ((k,x) :: r) t = lookP (k = t) x r t:=by
 by_cases h:k = t
 ·subst h; simp [look,lookP]
 ·simp [look,lookP,h]
theorem gval_congr (fr:Fr) (w:Bool) {s s':Option Nat} (h:s = s'):gval fr w s = gval fr w s':=by rw [h]
attribute [congr] gval_congr
theorem look_nil (t:Nat):look [] t = .unk:=rfl
theorem ve_hit (P:Program) (M:List Nat) (n:Nat) (E:Ext) (U:Nat) (Q:Exit → Fr → Store → Prop) (id:Nat) (ks:List KI) (fr:Fr) (σ:Store):ve P M n E U Q id (.endB id :: ks) fr σ = vk P M n E U Q ks fr σ:=by
 rw [ve_endB,if_pos rfl]
theorem ve_miss (P:Program) (M:List Nat) (n:Nat) (E:Ext) (U:Nat) (Q:Exit → Fr → Store → Prop) (id id':Nat) (ks:List KI) (fr:Fr) (σ:Store) (h:id ≠ id'):ve P M n E U Q id (.endB id' :: ks) fr σ = ve P M n E U Q id ks fr σ:=by
 rw [ve_endB,if_neg h]
theorem noE_none (F:FuncId) (args:List PV) (σ:Store):noE.f F args σ = none:=nr rfl
theorem consF_some (fr:Fr) (d:Nat) (v:PV):consF fr (some d) v = (d,v) :: fr:=rfl
theorem consF_none (fr:Fr) (v:PV):consF fr none v = fr:=rfl
theorem nlt_t {a b:Nat} (h:a < b):(a < b) = True:=eq_true h
theorem nlt_f {a b:Nat} (h:b ≤ a):(a < b) = False:=eq_false (Nat.not_lt.2 h)
theorem nle_t {a b:Nat} (h:a ≤ b):(a ≤ b) = True:=eq_true h
theorem nle_f {a b:Nat} (h:b < a):(a ≤ b) = False:=eq_false (Nat.not_le.2 h)
theorem ilt_t {a b:Int} (h:a < b):(a < b) = True:=eq_true h
theorem ilt_f {a b:Int} (h:b ≤ a):(a < b) = False:=eq_false (Int.not_lt.2 h)
theorem ile_t {a b:Int} (h:a ≤ b):(a ≤ b) = True:=eq_true h
theorem ile_f {a b:Int} (h:b < a):(a ≤ b) = False:=eq_false (Int.not_le.2 h)
theorem ieq_t {a b:Int} (h:a = b):(a = b) = True:=eq_true h
theorem ieq_f {a b:Int} (h:¬ a = b):(a = b) = False:=eq_false h
end Go.PV
