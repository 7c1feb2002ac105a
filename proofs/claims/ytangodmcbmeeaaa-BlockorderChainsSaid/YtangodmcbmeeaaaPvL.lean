import Derived.Test.YtangodmcbmeeaaaPvK
set_option maxRecDepth 8000
namespace Go.PV
inductive KI where
 | code (c:Code)
 | endB (id:Nat)
 | again (R:Fr → Store → Prop)
section
variable (P:Program) (M:List Nat) (n:Nat) (Q:Exit → Fr → Store → Prop)
def kQ:List KI → Exit → Fr → Store → Prop
 | [],e=>Q e
 | .code c :: ks,.normal=>pwp P M n c (kQ ks)
 | .code _ :: ks,e=>kQ ks e
 | .endB _ :: ks,.normal=>kQ ks .normal
 | .endB id :: ks,.exit id'=>if id' = id then kQ ks .normal else kQ ks (.exit id')
 | .endB _ :: ks,e=>kQ ks e
 | .again R :: _,.normal=>R
 | .again _ :: ks,e=>kQ ks e
def pk (ks:List KI) (fr:Fr) (σ:Store):Prop:=kQ P M n Q ks .normal fr σ
def pe (id:Nat) (ks:List KI) (fr:Fr) (σ:Store):Prop:=kQ P M n Q ks (.exit id) fr σ
def po (ops:Array Oper) (l:List Oper) (ks:List KI) (fr:Fr) (σ:Store):Prop:=pops P M n ops (fun fr σ=>pk P M n Q ks fr σ) l fr σ
def pog (ops:Array Oper) (o:Oper) (l:List Oper) (ks:List KI) (fr:Fr) (σ:Store):Option Bool → Prop
 | some true=>stepC P (mutOf M o.dst) σ (evO fr) (fun p σ'=>po P M n Q ops l ks (putF fr o.dst p) σ') o.op
 | some false=>po P M n Q ops l ks (putF fr o.dst .undef) σ
 | none=>False
def por (ops:Array Oper) (l:List Oper) (ks:List KI) (fr:Fr) (σ:Store) (d:Option Nat):OpRes → Prop
 | .val c v σ'=>c ∧ po P M n Q ops l ks (putF fr d v) σ'
 | .call F args=>PCall P F args σ (fun p σ'=>po P M n Q ops l ks (putF fr d p) σ')
 | .bad=>False
def pcall (F:FuncId) (args:List PV) (ops:Array Oper) (l:List Oper) (ks:List KI) (fr:Fr) (σ:Store) (d:Option Nat):Prop :=
 PCall P F args σ (fun p σ'=>po P M n Q ops l ks (putF fr d p) σ')
def pc (a b:Code) (ks:List KI) (fr:Fr) (σ:Store):PV → Prop
 | .bool t=>if t then pk P M n Q (.code a :: ks) fr σ else pk P M n Q (.code b :: ks) fr σ
 | _=>False
theorem po_nil (ops:Array Oper) (ks:List KI) (fr:Fr) (σ:Store):po P M n Q ops [] ks fr σ = pk P M n Q ks fr σ:=rfl
theorem po_cons (ops:Array Oper) (o:Oper) (l:List Oper) (ks:List KI) (fr:Fr) (σ:Store):po P M n Q ops (o :: l) ks fr σ = (fits n o.dst ∧ pog P M n Q ops o l ks fr σ (guardP ops fr o)):=by
 unfold po
 rw [pops]
 cases guardP ops fr o with
 | none=>rfl
 | some b=>cases b <;> rfl
theorem pog_true (ops:Array Oper) (o:Oper) (l:List Oper) (ks:List KI) (fr:Fr) (σ:Store):pog P M n Q ops o l ks fr σ (some true) = por P M n Q ops l ks fr σ o.dst (evC P (mutOf M o.dst) σ (evO fr) o.op):=by
 unfold pog stepC
 cases evC P (mutOf M o.dst) σ (evO fr) o.op <;> rfl
theorem pog_false (ops:Array Oper) (o:Oper) (l:List Oper) (ks:List KI) (fr:Fr) (σ:Store):pog P M n Q ops o l ks fr σ (some false) = po P M n Q ops l ks (putF fr o.dst .undef) σ:=rfl
theorem por_val (ops:Array Oper) (l:List Oper) (ks:List KI) (fr:Fr) (σ:Store) (d:Option Nat) (c:Prop) (v:PV) (σ':Store):por P M n Q ops l ks fr σ d (.val c v σ') = (c ∧ po P M n Q ops l ks (putF fr d v) σ'):=rfl
theorem por_call (ops:Array Oper) (l:List Oper) (ks:List KI) (fr:Fr) (σ:Store) (d:Option Nat) (F:FuncId) (args:List PV):por P M n Q ops l ks fr σ d (.call F args) = pcall P M n Q F args ops l ks fr σ d:=rfl
theorem pc_bool (a b:Code) (ks:List KI) (fr:Fr) (σ:Store) (t:Bool):pc P M n Q a b ks fr σ (.bool t) = if t = true then pk P M n Q (.code a :: ks) fr σ else pk P M n Q (.code b :: ks) fr σ:=rfl
theorem pk_nil (fr:Fr) (σ:Store):pk P M n Q [] fr σ = Q .normal fr σ:=rfl
theorem pk_skip (ks:List KI) (fr:Fr) (σ:Store):pk P M n Q (.code .skip :: ks) fr σ = pk P M n Q ks fr σ:=by simp only [pk,kQ,pwp]
theorem pk_seq (a b:Code) (ks:List KI) (fr:Fr) (σ:Store):pk P M n Q (.code (.seq a b) :: ks) fr σ = pk P M n Q (.code a :: .code b :: ks) fr σ:=by
 simp only [pk,kQ,pwp]
 congr 1
 funext e
 cases e <;> rfl
theorem pk_block (id:Nat) (c:Code) (ks:List KI) (fr:Fr) (σ:Store):pk P M n Q (.code (.block id c) :: ks) fr σ = pk P M n Q (.code c :: .endB id :: ks) fr σ:=by
 simp only [pk,kQ,pwp]
 congr 1
 funext e fr σ
 cases e with
 | exit id'=>simp only [kQ]; split <;> rfl
 | _=>rfl
theorem pk_region (id:Nat) (ops:Array Oper) (ks:List KI) (fr:Fr) (σ:Store):pk P M n Q (.code (.region id ops false) :: ks) fr σ = po P M n Q ops ops.toList ks fr σ:=by
 simp only [pk,kQ,pwp,po]
 rfl
theorem pk_cond (c:Operand) (a b:Code) (ks:List KI) (fr:Fr) (σ:Store):pk P M n Q (.code (.cond c a b) :: ks) fr σ = pc P M n Q a b ks fr σ (evO fr c):=by
 simp only [pk,kQ,pwp]
 cases evO fr c <;> rfl
theorem pk_exit (id:Nat) (ks:List KI) (fr:Fr) (σ:Store):pk P M n Q (.code (.exit id) :: ks) fr σ = pe P M n Q id ks fr σ:=by simp only [pk,pe,kQ,pwp]
theorem pk_endB (id:Nat) (ks:List KI) (fr:Fr) (σ:Store):pk P M n Q (.endB id :: ks) fr σ = pk P M n Q ks fr σ:=rfl
theorem pk_again (R:Fr → Store → Prop) (ks:List KI) (fr:Fr) (σ:Store):pk P M n Q (.again R :: ks) fr σ = R fr σ:=rfl
theorem pe_nil (id:Nat) (fr:Fr) (σ:Store):pe P M n Q id [] fr σ = Q (.exit id) fr σ:=rfl
theorem pe_code (id:Nat) (c:Code) (ks:List KI) (fr:Fr) (σ:Store):pe P M n Q id (.code c :: ks) fr σ = pe P M n Q id ks fr σ:=rfl
theorem pe_again (id:Nat) (R:Fr → Store → Prop) (ks:List KI) (fr:Fr) (σ:Store):pe P M n Q id (.again R :: ks) fr σ = pe P M n Q id ks fr σ:=rfl
theorem pe_endB (id id':Nat) (ks:List KI) (fr:Fr) (σ:Store):pe P M n Q id (.endB id' :: ks) fr σ = if id = id' then pk P M n Q ks fr σ else pe P M n Q id ks fr σ:=by
 simp only [pe,kQ,pk]
 split <;> rfl
theorem kQ_ret:∀ (ks:List KI),kQ P M n Q ks .ret = Q .ret
 | []=>rfl
 | .code _ :: ks=>kQ_ret ks
 | .endB _ :: ks=>kQ_ret ks
 | .again _ :: ks=>kQ_ret ks
theorem pk_ret (ks:List KI) (fr:Fr) (σ:Store):pk P M n Q (.code .ret :: ks) fr σ = Q .ret fr σ:=by simp only [pk,kQ,pwp,kQ_ret]
theorem pk_loop {c:Code} {ks:List KI} {fr:Fr} {σ:Store} (J:Nat → Fr → Store → Prop) (k:Nat) (fr0:Fr) (hw:weaker fr0 fr) (h0:J k fr0 σ)
  (round:∀ (k:Nat) (fr:Fr) (σ:Store),J k fr σ → ∀ R:Fr → Store → Prop,(∀ (fr':Fr) (σ':Store) (k':Nat) (fr0:Fr),k' < k → weaker fr0 fr' → J k' fr0 σ' → R fr' σ') → pk P M n Q (.code c :: .again R :: ks) fr σ) :
  pk P M n Q (.code (.loop c) :: ks) fr σ:=by
 simp only [pk,kQ,pwp]
 refine ⟨J,k,fr0,hw,h0,fun k fr σ hJ=>?_⟩
 have:=round k fr σ hJ (fun fr' σ'=>∃ k' fr0,k' < k ∧ weaker fr0 fr' ∧ J k' fr0 σ') (fun fr' σ' k' fr0 h1 h2 h3=>⟨k',fr0,h1,h2,h3⟩)
 simp only [pk,kQ] at this
 refine Eq.mp (congrFun (congrFun (congrArg (pwp P M n c) ?_) fr) σ) this
 funext e
 cases e <;> rfl
theorem pk_draw {id:Nat} {ops:Array Oper} {ks:List KI} {fr:Fr} {σ:Store} (effs fls:List Nat) (lh:List (Nat × Nat)) (h1:drawB ops effs = true) (hf:floatB ops effs fls = true) (h2:lhOf ops effs = lh) (h:pdr P M n ops effs fls σ.length (fun fr σ=>pk P M n Q ks fr σ) 0 (ops.toList.zip lh) [] [σ ++ List.replicate fls.length .dead] [] fr) :
  pk P M n Q (.code (.region id ops true) :: ks) fr σ:=by
 simp only [pk,kQ,pwp,if_true]
 exact ⟨effs,fls,lh,h1,hf,h2,h⟩
end
theorem PCall.walk {P:Program} (M:List Nat) (hmix:P.follows .mixedOrders = true) {F:FuncId} {fn:Func} {c:Code} {args:List PV} {σ:Store} {K:PV → Store → Prop} (hfn:P.funcs[F]? = some fn) (hb:fn.body = some c) (hname:(fn.name != "runtime.NumGoroutine") = true)
  (hargs:args.length ≤ fn.ntmps) (h:∀ Q:Exit → Fr → Store → Prop,(∀ fr σ',resW P σ' fr (fun l=>Fin σ K (fnRet l) σ') fn.results.toList → Q .ret fr σ' ∧ Q .normal fr σ') → pk P M fn.ntmps Q [.code c] (initFr args) σ):PCall P F args σ K :=
 PCall.of_body_frz (M:=M) hmix hfn hb hname hargs (h _ fun _ _ hr=>⟨⟨.inl rfl,hr⟩,⟨.inr rfl,hr⟩⟩)
theorem PCall.walk_raw {P:Program} (M:List Nat) (hmix:P.follows .mixedOrders = true) {F:FuncId} {fn:Func} {c:Code} {args:List PV} {σ:Store} {K:PV → Store → Prop} (hfn:P.funcs[F]? = some fn) (hb:fn.body = some c) (hname:(fn.name != "runtime.NumGoroutine") = true)
  (hargs:args.length ≤ fn.ntmps) (h:∀ Q:Exit → Fr → Store → Prop,(∀ fr σ',resW P σ' fr (fun l=>K (fnRet l) σ') fn.results.toList → Q .ret fr σ' ∧ Q .normal fr σ') → pk P M fn.ntmps Q [.code c] (initFr args) σ):PCall P F args σ K :=
 PCall.of_body (M:=M) hmix hfn hb hname hargs (h _ fun _ _ hr=>⟨⟨.inl rfl,hr⟩,⟨.inr rfl,hr⟩⟩)
theorem Fin.closed {K:PV → Store → Prop} {p:PV} {σ':Store} (hb:Bel 0 p) (hk:K p []):Fin [] K p σ' :=
 ⟨p,.keep p hb,fun o ho=>absurd ho (Nat.not_lt_zero _),by simpa using hk⟩
end Go.PV
