import Derived.Test.YtangodmcbmeeaaaPvN
set_option maxRecDepth 8000
set_option linter.unusedSimpArgs false
namespace Go.PV
theorem evC_congr {P:Program} {m:Bool} {σ:Store} {e e':Operand → PV} {op:Op} (h:∀ x ∈ op.operands.toList,e x = e' x):evC P m σ e op = evC P m σ e' op:=by
 have two:∀ (l:List (Nat × Operand)),(∀ x ∈ l.map (·.2),e x = e' x) → (l.map fun (i,x)=>(i,e x)) = l.map fun (i,x)=>(i,e' x):=fun l hl=>by
  refine List.map_congr_left (fun p hp=>?_)
  obtain ⟨i,x⟩:=p
  simp only
  rw [hl x (List.mem_map.2 ⟨(i,x),hp,rfl⟩)]
 cases op <;> simp only [Op.operands,List.mem_toArray,List.toList_toArray,List.mem_cons,List.not_mem_nil,or_false,forall_eq_or_imp,forall_eq,Array.toList_append,List.mem_append] at h <;> (try simp only [evC]) <;> (try rfl)
 case move=>rw [h]
 case assign=>rw [h]
 case pick=>rw [h.1,h.2.1,h.2.2]
 case box=>rw [h]
 case build t parts=>rw [two _ h]
 case buildSlice t len parts=>rw [two _ h]
 case load=>rw [h]
 case store=>rw [h.1,h.2]
 case nilCheck=>rw [h]
 case binOp=>rw [h.1,h.2]
 case unOp=>rw [h]
 case convert=>rw [h]
 case makeFunc fn first cap =>
  rw [List.map_congr_left (fun x hx=>h x (.inl hx)),List.map_congr_left (f:=e) (g:=e') (l:=cap.toList) (fun x hx=>h x (.inr hx))]
 case makeSlice=>rw [h.1,h.2]
 case slice t x lo hi mx =>
  cases mx with
  | some _=>rfl
  | none =>
   simp only [evC]
   rw [h x (by simp)]
   have h1:lo.map e = lo.map e':=by
    cases lo with
    | none=>rfl
    | some a=>simp only [Option.map_some]; rw [h a (by simp)]
   have h2:hi.map e = hi.map e':=by
    cases hi with
    | none=>rfl
    | some a=>simp only [Option.map_some]; rw [h a (by simp)]
   rw [h1,h2]
 case fieldAddr=>rw [h]
 case field=>rw [h]
 case indexAddr=>rw [h.1,h.2]
 case index=>rw [h.1,h.2]
 case extract=>rw [h]
 case makeMap t r=>cases r <;> rfl
 case lookup t x i ok =>
  cases ok with
  | true=>rfl
  | false=>simp only [evC]; rw [h.1,h.2]
 case mapUpdate=>rw [h.1,h.2.1,h.2.2]
 case call c =>
  obtain ⟨callee,args,ts⟩:=c
  simp only [Call.operands] at h
  have ha:args.toList.map e = args.toList.map e':=List.map_congr_left (fun x hx=>h x (by
   cases callee <;> simp [hx]))
  cases callee with
  | value f=>simp only [evC]; rw [ha,h f (by simp)]
  | builtin b=>simp only [evC]; rw [ha]
  | invoke r i=>rfl
theorem evC_evR (P:Program) (m:Bool) (σ:Store) (ops:Array Oper) (fr:Fr) (o:Oper):evC P m σ (evR (o.looksAt ops) fr) o.op = evC P m σ (evO fr) o.op:=by
 refine evC_congr (fun x hx=>?_)
 cases x with
 | tmp t =>
  simp only [evR,evO]
  rw [if_pos]
  simp only [List.contains_eq_mem,decide_eq_true_eq,Oper.looksAt,List.mem_append,List.mem_filterMap]
  exact .inl ⟨.tmp t,hx,rfl⟩
 | _=>rfl
section
variable (P:Program) (M:List Nat) (n:Nat) (ops:Array Oper) (effs fls:List Nat) (N:Nat) (Q:Fr → Store → Prop)
def outR (p:PV) (σ σ':Store):OpRes → Prop
 | .val c v σ''=>c ∧ v = p ∧ σ'' = σ'
 | .call F args=>PCall P F args σ (fun q σ''=>q = p ∧ σ'' = σ')
 | .bad=>False
theorem Out_eq (σ:Store) (fr:Fr) (o:Oper) (p:PV) (σ':Store):Out P M ops σ fr o p σ' = outR P p σ σ' (evC P (mutOf M o.dst) σ (evO fr) o.op):=by
 unfold Out stepC
 rw [evC_evR]
 cases evC P (mutOf M o.dst) σ (evO fr) o.op <;> rfl
theorem outR_val (p:PV) (σ σ':Store) (c:Prop) (v:PV) (σ'':Store):outR P p σ σ' (.val c v σ'') = (c ∧ v = p ∧ σ'' = σ'):=rfl
def pdg (i:Nat) (o:Oper) (lo hi:Nat) (rest:List (Oper × Nat × Nat)) (pend:List (Nat × (Store → Prop))) (past:List Store) (σ0:Store) (acc:List Obj) (fr:Fr):Option Bool → Bool → Bool → Prop
 | some true,true,_=>∃ σ p σ',(past ++ [σ0]).getLast? = some σ ∧ Out P M ops σ fr o p σ' ∧ (∀ c ∈ pend,(past ++ [σ0]).length ≤ c.1 → c.2 σ') ∧ pdr P M n ops effs fls N Q (i + 1) rest pend ((past ++ [σ0]) ++ [σ']) acc (putF fr o.dst p)
 | some true,false,true=>∃ mk obj,isMk mk ∧ ObjBel 0 obj ∧ (∀ σ,stepC P (mutOf M o.dst) σ (evR (o.looksAt ops) fr) (fun q σ''=>q = mk σ.length ∧ σ'' = σ ++ [obj]) o.op) ∧
   pdr P M n ops effs fls N Q (i + 1) rest pend (past ++ [σ0]) (acc ++ [obj]) (putF fr o.dst (mk (N + acc.length)))
 | some true,false,false=>∃ p,(∀ σ ∈ (past ++ [σ0]).drop lo,Out P M ops σ fr o p σ) ∧ pdr P M n ops effs fls N Q (i + 1) rest (pend ++ [(hi,fun σ=>Out P M ops σ fr o p σ)]) (past ++ [σ0]) acc (putF fr o.dst p)
 | some false,true,_=>∃ σ,(past ++ [σ0]).getLast? = some σ ∧ (∀ c ∈ pend,(past ++ [σ0]).length ≤ c.1 → c.2 σ) ∧ pdr P M n ops effs fls N Q (i + 1) rest pend ((past ++ [σ0]) ++ [σ]) acc (putF fr o.dst .undef)
 | some false,false,true=>pdr P M n ops effs fls N Q (i + 1) rest pend (past ++ [σ0]) (acc ++ [.dead]) (putF fr o.dst .undef)
 | some false,false,false=>pdr P M n ops effs fls N Q (i + 1) rest pend (past ++ [σ0]) acc (putF fr o.dst .undef)
 | none,_,_=>False
def pds (i:Nat) (l:List (Oper × Nat × Nat)) (pend:List (Nat × (Store → Prop))) (past:List Store) (σ0:Store) (acc:List Obj) (fr:Fr):Prop:=pdr P M n ops effs fls N Q i l pend (past ++ [σ0]) acc fr
theorem pds_nil (i:Nat) (pend:List (Nat × (Store → Prop))) (past:List Store) (acc:List Obj) (fr:Fr) (σ:Store):pds P M n ops effs fls N Q i [] pend past σ acc fr = Q fr (place σ N acc):=by
 unfold pds pdr
 simp
theorem pds_cons (i:Nat) (o:Oper) (lo hi:Nat) (rest:List (Oper × Nat × Nat)) (pend:List (Nat × (Store → Prop))) (past:List Store) (σ:Store) (acc:List Obj) (fr:Fr) :
  pds P M n ops effs fls N Q i ((o,lo,hi) :: rest) pend past σ acc fr = (fits n o.dst ∧ pdg P M n ops effs fls N Q i o lo hi rest pend past σ acc fr (guardP ops fr o) (effs.contains i) (fls.contains i)):=by
 unfold pds
 rw [pdr]
 congr 1
 cases guardP ops fr o with
 | none=>cases effs.contains i <;> cases fls.contains i <;> rfl
 | some b=>cases b <;> cases effs.contains i <;> cases fls.contains i <;> rfl
def pde (i:Nat) (rest:List (Oper × Nat × Nat)) (pend:List (Nat × (Store → Prop))) (past:List Store) (σ:Store) (acc:List Obj) (fr:Fr) (d:Option Nat):OpRes → Prop
 | .val c v σ'=>c ∧ (∀ q ∈ pend,past.length + 1 ≤ q.1 → q.2 σ') ∧ pds P M n ops effs fls N Q (i + 1) rest pend (past ++ [σ]) σ' acc (putF fr d v)
 | .call F args=>∃ p σ',PCall P F args σ (fun q σ''=>q = p ∧ σ'' = σ') ∧ (∀ q ∈ pend,past.length + 1 ≤ q.1 → q.2 σ') ∧ pds P M n ops effs fls N Q (i + 1) rest pend (past ++ [σ]) σ' acc (putF fr d p)
 | .bad=>False
theorem pdg_eff (i:Nat) (o:Oper) (lo hi:Nat) (rest:List (Oper × Nat × Nat)) (pend:List (Nat × (Store → Prop))) (past:List Store) (σ:Store) (acc:List Obj) (fr:Fr) (b:Bool) :
  pdg P M n ops effs fls N Q i o lo hi rest pend past σ acc fr (some true) true b = pde P M n ops effs fls N Q i rest pend past σ acc fr o.dst (evC P (mutOf M o.dst) σ (evO fr) o.op):=by
 have h0:pdg P M n ops effs fls N Q i o lo hi rest pend past σ acc fr (some true) true b =
   ∃ p σ',outR P p σ σ' (evC P (mutOf M o.dst) σ (evO fr) o.op) ∧ (∀ c ∈ pend,past.length + 1 ≤ c.1 → c.2 σ') ∧ pdr P M n ops effs fls N Q (i + 1) rest pend ((past ++ [σ]) ++ [σ']) acc (putF fr o.dst p):=by
  unfold pdg
  simp only [← Out_eq P M ops]
  apply propext
  constructor
  ·rintro ⟨τ,p,σ',h1,h2,h3,h4⟩
   have:σ = τ:=by simpa using h1
   subst this
   exact ⟨p,σ',h2,by simpa using h3,h4⟩
  ·rintro ⟨p,σ',h2,h3,h4⟩
   exact ⟨σ,p,σ',by simp,h2,by simpa using h3,h4⟩
 rw [h0]
 cases evC P (mutOf M o.dst) σ (evO fr) o.op with
 | val c v σ' =>
  simp only [outR,pde,pds]
  apply propext
  constructor
  ·rintro ⟨_,_,⟨h1,rfl,rfl⟩,h2,h3⟩
   exact ⟨h1,h2,h3⟩
  ·rintro ⟨h1,h2,h3⟩
   exact ⟨_,_,⟨h1,rfl,rfl⟩,h2,h3⟩
 | call F args=>rfl
 | bad =>
  apply propext
  constructor
  ·rintro ⟨_,_,h,_⟩; exact h
  ·exact False.elim
def pdq (i:Nat) (o:Oper) (hi:Nat) (rest:List (Oper × Nat × Nat)) (pend:List (Nat × (Store → Prop))) (past:List Store) (σ0:Store) (acc:List Obj) (fr:Fr):List Store → Prop
 | []=>∃ p,pds P M n ops effs fls N Q (i + 1) rest (pend ++ [(hi,fun σ=>Out P M ops σ fr o p σ)]) past σ0 acc (putF fr o.dst p)
 | σ1 :: l=>∃ p,(∀ σ ∈ σ1 :: l,Out P M ops σ fr o p σ) ∧ pds P M n ops effs fls N Q (i + 1) rest (pend ++ [(hi,fun σ=>Out P M ops σ fr o p σ)]) past σ0 acc (putF fr o.dst p)
def pdv (i:Nat) (o:Oper) (hi:Nat) (rest:List (Oper × Nat × Nat)) (pend:List (Nat × (Store → Prop))) (past:List Store) (σ0:Store) (acc:List Obj) (fr:Fr) (σ1:Store) (l:List Store):OpRes → Prop
 | .val c v σ'=>c ∧ σ' = σ1 ∧ (∀ σ ∈ l,Out P M ops σ fr o v σ) ∧ pds P M n ops effs fls N Q (i + 1) rest (pend ++ [(hi,fun σ=>Out P M ops σ fr o v σ)]) past σ0 acc (putF fr o.dst v)
 | .call F args=>∃ p,PCall P F args σ1 (fun q σ''=>q = p ∧ σ'' = σ1) ∧ (∀ σ ∈ l,Out P M ops σ fr o p σ) ∧ pds P M n ops effs fls N Q (i + 1) rest (pend ++ [(hi,fun σ=>Out P M ops σ fr o p σ)]) past σ0 acc (putF fr o.dst p)
 | .bad=>False
theorem pdg_read (i:Nat) (o:Oper) (lo hi:Nat) (rest:List (Oper × Nat × Nat)) (pend:List (Nat × (Store → Prop))) (past:List Store) (σ:Store) (acc:List Obj) (fr:Fr) :
  pdg P M n ops effs fls N Q i o lo hi rest pend past σ acc fr (some true) false false = pdq P M n ops effs fls N Q i o hi rest pend past σ acc fr ((past ++ [σ]).drop lo):=by
 unfold pdg
 cases (past ++ [σ]).drop lo with
 | nil=>simp [pdq,pds]
 | cons σ1 l=>rfl
theorem pdq_cons (i:Nat) (o:Oper) (hi:Nat) (rest:List (Oper × Nat × Nat)) (pend:List (Nat × (Store → Prop))) (past:List Store) (σ0:Store) (acc:List Obj) (fr:Fr) (σ1:Store) (l:List Store) :
  pdq P M n ops effs fls N Q i o hi rest pend past σ0 acc fr (σ1 :: l) = pdv P M n ops effs fls N Q i o hi rest pend past σ0 acc fr σ1 l (evC P (mutOf M o.dst) σ1 (evO fr) o.op):=by
 have h0:pdq P M n ops effs fls N Q i o hi rest pend past σ0 acc fr (σ1 :: l) =
  (∃ p,(outR P p σ1 σ1 (evC P (mutOf M o.dst) σ1 (evO fr) o.op) ∧ ∀ x ∈ l,Out P M ops x fr o p x) ∧ pds P M n ops effs fls N Q (i + 1) rest (pend ++ [(hi,fun σ=>Out P M ops σ fr o p σ)]) past σ0 acc (putF fr o.dst p)):=by
  unfold pdq
  simp only [List.forall_mem_cons,← Out_eq P M ops]
 rw [h0]
 cases evC P (mutOf M o.dst) σ1 (evO fr) o.op with
 | val c v σ' =>
  simp only [outR,pdv]
  apply propext
  constructor
  ·rintro ⟨_,⟨⟨h1,rfl,h2⟩,h3⟩,h4⟩
   exact ⟨h1,h2,h3,h4⟩
  ·rintro ⟨h1,h2,h3,h4⟩
   exact ⟨_,⟨⟨h1,rfl,h2⟩,h3⟩,h4⟩
 | call F args =>
  simp only [outR,pdv]
  apply propext
  constructor
  ·rintro ⟨p,⟨h1,h3⟩,h4⟩
   exact ⟨p,h1,h3,h4⟩
  ·rintro ⟨p,h1,h3,h4⟩
   exact ⟨p,⟨h1,h3⟩,h4⟩
 | bad =>
  simp only [outR,pdv]
  apply propext
  constructor
  ·rintro ⟨_,⟨h,_⟩,_⟩; exact h
  ·exact False.elim
def pdf (i:Nat) (rest:List (Oper × Nat × Nat)) (pend:List (Nat × (Store → Prop))) (past:List Store) (σ:Store) (acc:List Obj) (fr:Fr) (d:Option Nat):OpRes → Prop
 | .val c (.msl 0 0) [.rows t sz rows 0]=>c ∧ pds P M n ops effs fls N Q (i + 1) rest pend past σ (acc ++ [.rows t sz rows 0]) (putF fr d (.msl (N + acc.length) 0))
 | .val c (.ptr 0 0 0 0) [.rows t sz rows 0]=>c ∧ pds P M n ops effs fls N Q (i + 1) rest pend past σ (acc ++ [.rows t sz rows 0]) (putF fr d (.ptr (N + acc.length) 0 0 0))
 | _=>False
theorem bel_ofVal (k:Nat) (v:Value):Bel k (ofVal v):=by
 unfold ofVal
 split
 ·exact bel_bool _ _
 ·exact bel_int _ _ _
 ·exact bel_str _ _
 ·exact bel_nilp _
 ·exact bel_nils _
 ·exact bel_nilm _
 ·exact bel_nilf _
 ·exact bel_unk _
theorem bel_zero {P:Program} {t:TypeId} {zs:List PV} (h:zeroCells P t = some zs):∀ p ∈ zs,Bel 0 p:=by
 unfold zeroCells at h
 obtain ⟨z,hz,rfl⟩:=Option.map_eq_some_iff.1 h
 intro p hp
 obtain ⟨v,_,rfl⟩:=List.mem_map.1 hp
 exact bel_ofVal _ _
theorem pdg_float (i:Nat) (o:Oper) (lo hi:Nat) (rest:List (Oper × Nat × Nat)) (pend:List (Nat × (Store → Prop))) (past:List Store) (σ0:Store) (acc:List Obj) (fr:Fr) (hop:(match o.op with | .makeSlice .. | .alloc _=>true | _=>false) = true)
  (h:pdf P M n ops effs fls N Q i rest pend past σ0 acc fr o.dst (evC P (mutOf M o.dst) [] (evO fr) o.op)) :
  pdg P M n ops effs fls N Q i o lo hi rest pend past σ0 acc fr (some true) false true:=by
 unfold pdg
 simp only [stepC,evC_evR]
 obtain ⟨d,op,ty,pos,after,guard⟩:=o
 cases op with
 | alloc t =>
  simp only [evC,allocC] at h ⊢
  cases hz:zeroCells P t with
  | none=>rw [hz] at h; exact h.elim
  | some zs =>
   rw [hz] at h
   simp only [List.length_nil,List.nil_append,pdf] at h
   have hb:ObjBel 0 (.rows t zs.length [zs] 0):=fun row hr p hp=>by
    rw [List.mem_singleton] at hr
    rw [hr] at hp
    exact bel_zero hz p hp
   exact ⟨fun o=>.ptr o 0 0 0,_,.inr rfl,hb,fun σ=>⟨trivial,rfl,rfl⟩,h.2⟩
 | makeSlice t l c =>
  simp only [evC] at h ⊢
  cases hu:P.underlying t with
  | none=>rw [hu] at h; simp only [makeC,pdf] at h
  | some td =>
   cases td with
   | slice elem =>
    cases hl:evO fr l with
    | int k1 a =>
     cases hc:evO fr c with
     | int k2 b =>
      cases hz:zeroCells P elem with
      | none=>rw [hu,hl,hc] at h; simp only [makeC,hz,pdf] at h
      | some zs =>
       rw [hu,hl,hc] at h
       simp only [makeC,hz,List.length_nil,List.nil_append,pdf] at h ⊢
       have hb:ObjBel 0 (.rows elem zs.length (List.replicate a.toNat zs) 0):=fun row hr p hp=>by
        rw [List.eq_of_mem_replicate hr] at hp
        exact bel_zero hz p hp
       exact ⟨fun o=>.msl o 0,_,.inl rfl,hb,fun σ=>⟨h.1,rfl,rfl⟩,h.2⟩
     | _=>rw [hu,hl,hc] at h; simp only [makeC,pdf] at h
    | _=>rw [hu,hl] at h; simp only [makeC,pdf] at h
   | _=>rw [hu] at h; simp only [makeC,pdf] at h
 | _=>cases hop
theorem pdf_msl (i:Nat) (rest:List (Oper × Nat × Nat)) (pend:List (Nat × (Store → Prop))) (past:List Store) (σ:Store) (acc:List Obj) (fr:Fr) (d:Option Nat) (c:Prop) (t:TypeId) (sz:Nat) (rows:List (List PV)) :
  pdf P M n ops effs fls N Q i rest pend past σ acc fr d (.val c (.msl 0 0) [.rows t sz rows 0]) = (c ∧ pds P M n ops effs fls N Q (i + 1) rest pend past σ (acc ++ [.rows t sz rows 0]) (putF fr d (.msl (N + acc.length) 0))):=rfl
theorem pdf_ptr (i:Nat) (rest:List (Oper × Nat × Nat)) (pend:List (Nat × (Store → Prop))) (past:List Store) (σ:Store) (acc:List Obj) (fr:Fr) (d:Option Nat) (c:Prop) (t:TypeId) (sz:Nat) (rows:List (List PV)) :
  pdf P M n ops effs fls N Q i rest pend past σ acc fr d (.val c (.ptr 0 0 0 0) [.rows t sz rows 0]) = (c ∧ pds P M n ops effs fls N Q (i + 1) rest pend past σ (acc ++ [.rows t sz rows 0]) (putF fr d (.ptr (N + acc.length) 0 0 0))):=rfl
theorem pdg_noeff (i:Nat) (o:Oper) (lo hi:Nat) (rest:List (Oper × Nat × Nat)) (pend:List (Nat × (Store → Prop))) (past:List Store) (σ:Store) (acc:List Obj) (fr:Fr) (b:Bool) :
  pdg P M n ops effs fls N Q i o lo hi rest pend past σ acc fr (some false) true b = ((∀ c ∈ pend,past.length + 1 ≤ c.1 → c.2 σ) ∧ pds P M n ops effs fls N Q (i + 1) rest pend (past ++ [σ]) σ acc (putF fr o.dst .undef)):=by
 unfold pdg pds
 simp
theorem pdg_nofloat (i:Nat) (o:Oper) (lo hi:Nat) (rest:List (Oper × Nat × Nat)) (pend:List (Nat × (Store → Prop))) (past:List Store) (σ:Store) (acc:List Obj) (fr:Fr) :
  pdg P M n ops effs fls N Q i o lo hi rest pend past σ acc fr (some false) false true = pds P M n ops effs fls N Q (i + 1) rest pend past σ (acc ++ [.dead]) (putF fr o.dst .undef):=rfl
theorem pdg_noread (i:Nat) (o:Oper) (lo hi:Nat) (rest:List (Oper × Nat × Nat)) (pend:List (Nat × (Store → Prop))) (past:List Store) (σ:Store) (acc:List Obj) (fr:Fr) :
  pdg P M n ops effs fls N Q i o lo hi rest pend past σ acc fr (some false) false false = pds P M n ops effs fls N Q (i + 1) rest pend past σ acc (putF fr o.dst .undef):=rfl
theorem pde_val (i:Nat) (rest:List (Oper × Nat × Nat)) (pend:List (Nat × (Store → Prop))) (past:List Store) (σ:Store) (acc:List Obj) (fr:Fr) (d:Option Nat) (c:Prop) (v:PV) (σ':Store) :
  pde P M n ops effs fls N Q i rest pend past σ acc fr d (.val c v σ') = (c ∧ (∀ q ∈ pend,past.length + 1 ≤ q.1 → q.2 σ') ∧ pds P M n ops effs fls N Q (i + 1) rest pend (past ++ [σ]) σ' acc (putF fr d v)):=rfl
theorem pde_call (i:Nat) (rest:List (Oper × Nat × Nat)) (pend:List (Nat × (Store → Prop))) (past:List Store) (σ:Store) (acc:List Obj) (fr:Fr) (d:Option Nat) (F:FuncId) (args:List PV) :
  pde P M n ops effs fls N Q i rest pend past σ acc fr d (.call F args) = ∃ p σ',PCall P F args σ (fun q σ''=>q = p ∧ σ'' = σ') ∧ (∀ q ∈ pend,past.length + 1 ≤ q.1 → q.2 σ') ∧ pds P M n ops effs fls N Q (i + 1) rest pend (past ++ [σ]) σ' acc (putF fr d p):=rfl
theorem pdv_val (i:Nat) (o:Oper) (hi:Nat) (rest:List (Oper × Nat × Nat)) (pend:List (Nat × (Store → Prop))) (past:List Store) (σ0:Store) (acc:List Obj) (fr:Fr) (σ1:Store) (l:List Store) (c:Prop) (v:PV) (σ':Store) :
  pdv P M n ops effs fls N Q i o hi rest pend past σ0 acc fr σ1 l (.val c v σ') = (c ∧ σ' = σ1 ∧ (∀ σ ∈ l,Out P M ops σ fr o v σ) ∧ pds P M n ops effs fls N Q (i + 1) rest (pend ++ [(hi,fun σ=>Out P M ops σ fr o v σ)]) past σ0 acc (putF fr o.dst v)):=rfl
theorem pk_draws {P:Program} {M:List Nat} {n:Nat} {Q:Exit → Fr → Store → Prop} {id:Nat} {ops:Array Oper} {ks:List KI} {fr:Fr} {σ:Store} (effs fls:List Nat) (lh:List (Nat × Nat)) (h1:drawB ops effs = true) (hf:floatB ops effs fls = true) (h2:lhOf ops effs = lh)
  (h:pds P M n ops effs fls σ.length (fun fr σ=>pk P M n Q ks fr σ) 0 (ops.toList.zip lh) [] [] (σ ++ List.replicate fls.length .dead) [] fr):pk P M n Q (.code (.region id ops true) :: ks) fr σ :=
 pk_draw _ _ _ _ effs fls lh h1 hf h2 h
end
end Go.PV
