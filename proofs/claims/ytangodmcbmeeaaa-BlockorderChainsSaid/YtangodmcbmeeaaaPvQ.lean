import Derived.Test.YtangodmcbmeeaaaPvF
import Derived.MapKept
import Derived.WideKeyRuns
import Derived.Laws.StructEq
set_option maxRecDepth 8000
namespace Go.PV
open Go.MapKept
def sameK:PV → PV → Option Bool
 | .int k a,.int k' b=>if k = k' then some (a == b) else none
 | .str a,.str b=>some (a == b)
 | .agg as,.agg bs=>sameKs as bs
 | _,_=>none
def findP (k:PV):List (PV × PV) → Nat → Option (Option (Nat × PV))
 | [],_=>some none
 | e :: es,i=>match sameK k e.1 with
  | some true=>some (some (i,e.2))
  | some false=>findP k es (i + 1)
  | none=>none
def okKind (P:Program) (kt:TypeId):Option TypeDesc → PV → Bool
 | some (.int k),.int k' _=>decide (k = k')
 | some .string,.str _=>true
 | some (.struct fs),.agg cells=>!P.stoodInHeld kt && fieldsOk P fs.toList cells 0
 | _,_=>false
def zeroP (P:Program) (t:TypeId):Option PV:=((P.info? t).bind (·.zero)).map ofVal
def mgetP (es:List (PV × PV)) (k z:PV):PV:=match findP k es 0 with
 | some (some (_,v))=>v
 | _=>z
def mputP (es:List (PV × PV)) (k v:PV):List (PV × PV):=match findP k es 0 with
 | some (some (i,_))=>es.set i (k,v)
 | _=>es ++ [(k,v)]
def evM (P:Program) (σ:Store) (e:Operand → PV) (K:PV → Store → Prop):Op → Prop
 | .makeMap _ none=>K (.map σ.length) (σ ++ [.map []])
 | .lookup t x i false=>match e x with
  | .map o=>∃ kt et z es,P.underlying t = some (.map kt et) ∧ okKind P kt (P.underlying kt) (e i) = true ∧ zeroP P et = some z ∧ σ[o]? = some (.map es) ∧ (findP (e i) es 0).isSome = true ∧ K (mgetP es (e i) z) σ
  | _=>False
 | .mapUpdate t x i v=>match e x with
  | .map o=>∃ kt et es,P.underlying t = some (.map kt et) ∧ okKind P kt (P.underlying kt) (e i) = true ∧ σ[o]? = some (.map es) ∧ (findP (e i) es 0).isSome = true ∧ K .undef (σ.set o (.map (mputP es (e i) (e v))))
  | _=>False
 | _=>False
section
variable {I:Imm} {ρ:Rho} {σ:Store} {w:World} {P:Program}
def plainK:TypeDesc → Bool
 | .struct _=>false
 | _=>true
theorem okKind_isKey {kt:TypeId} {d:TypeDesc} {p:PV} {v:Value} (hpl:plainK d = true) (h:okKind P kt (some d) p = true) (hr:R I ρ p v):IsKey d v:=by
 cases d <;> simp [plainK] at hpl <;> cases p <;> simp [okKind] at h <;> cases hr <;> simp [IsKey,h]
theorem sameK_now {kt:TypeId} {d:TypeDesc} {p q:PV} {v u:Value} {b:Bool} (hpl:plainK d = true) (h:okKind P kt (some d) p = true) (hp:R I ρ p v) (hq:R I ρ q u) (hs:sameK p q = some b):Instr.sameNow d v u = some b:=by
 cases d <;> simp [plainK] at hpl <;> cases p <;> simp [okKind] at h <;> cases q <;> simp [sameK] at hs <;> cases hp <;> cases hq <;> simp [Instr.sameNow,hs]
theorem findP_now {kt:TypeId} {d:TypeDesc} {p:PV} {v:Value} (hpl:plainK d = true) (h:okKind P kt (some d) p = true) (hp:R I ρ p v):∀ (es:List (PV × PV)) (ms:List MapEntry) (i:Nat),ms.length = es.length →
  (∀ (j:Nat) (e:PV × PV),es[j]? = some e → ∃ m,ms[j]? = some m ∧ R I ρ e.1 m.key ∧ R I ρ e.2 m.val) → (findP p es i).isSome = true →
  (findP p es i = some none ∧ Instr.findNow d v ms i = some none) ∨ ∃ j e m,es[j]? = some e ∧ ms[j]? = some m ∧ findP p es i = some (some (i + j,e.2)) ∧ Instr.findNow d v ms i = some (some (i + j,m.val)) ∧ sameK p e.1 = some true
 | [],[],i,_,_,_=>.inl ⟨rfl,rfl⟩
 | e :: es,m :: ms,i,hl,hr,hs=>by
  obtain ⟨m',hm,hk,hv⟩:=hr 0 e rfl
  simp at hm
  subst hm
  unfold findP at hs ⊢
  unfold Instr.findNow
  cases hb:sameK p e.1 with
  | none=>simp [hb] at hs
  | some b =>
   have hn:=sameK_now hpl h hp hk hb
   cases b with
   | true=>exact .inr ⟨0,e,m,rfl,rfl,by simp,by simp [hn],hb⟩
   | false =>
    simp only [hb] at hs ⊢
    simp only [hn]
    rcases findP_now hpl h hp es ms (i + 1) (by simpa using hl) (fun j e' hj=>hr (j + 1) e' hj) hs with h1 | ⟨j,e',m',h1,h2,h3,h4,h5⟩
    ·exact .inl h1
    ·exact .inr ⟨j + 1,e',m',h1,h2,by rw [h3]; simp; omega,by rw [h4]; simp; omega,h5⟩
 | [],_ :: _,_,hl,_,_=>by simp at hl
 | _ :: _,[],_,hl,_,_=>by simp at hl
theorem run_check_struct {kt:TypeId} {fs:Array Field} {cells:List PV} {v:Value} (hd:P.underlying kt = some (.struct fs)) (h:okKind P kt (some (.struct fs)) (.agg cells) = true) (hr:R I ρ (.agg cells) v) (em:Bool) (m:Nat) (w:World) :
  (Instr.checkKey em (m + 2) kt v).run P w = .ok () w:=by
 cases hr
 rename_i cs hl hc
 simp only [okKind,Bool.and_eq_true] at h
 rw [Instr.checkKey]
 simp only [Sem.run_bind,run_underlying hd,Result.andThen_ok]
 rw [← Array.forIn_toList]
 have h2:=h.2
 have hx:∀ (j:Nat) (p:PV),cells[j]? = some p → 0 + j < cs.size ∧ R I ρ p (cs.getD (0 + j) Go.undef):=fun j p hj=>⟨by have:=(List.getElem?_eq_some_iff.1 hj).1; omega,by simpa using hc j p hj⟩
 clear h hl hc hd
 generalize (0:Nat) = off at h2 hx
 generalize fs.toList = L at h2 ⊢
 induction L generalizing cells off with
 | nil=>simp
 | cons f L ih =>
  cases cells with
  | nil=>simp [fieldsOk] at h2
  | cons p ps =>
   obtain ⟨k,n,rfl,h1,h2,h3,h4⟩:=fieldsOk_cons h2
   obtain ⟨g1,g2⟩:=hx 0 _ rfl
   rw [Nat.add_zero] at g1 g2
   have g3:cs.getD off Go.undef = .int k n:=by
    generalize cs.getD off Go.undef = v at g2
    cases g2; rfl
   have p1:=part_int h3 g1 g3 w
   have p2:(Instr.checkKey em (m + 1) f.type (.int k n)).run P w = .ok () w:=by simp [Instr.checkKey,run_underlying h3]
   simp only [List.forIn_cons,Sem.run_bind,h1,ne_eq,not_false_eq_true,if_true,Result.andThen_ok,h2,p1,p2,Sem.run_pure]
   exact ih (cells:=ps) (off + 1) (fun j q hj=>by have:=hx (j + 1) q hj; rwa [show off + 1 + j = off + (j + 1) by omega]) h4
theorem run_eq_struct {kt:TypeId} {fs:Array Field} {cells qs:List PV} {v u:Value} {b:Bool} (hd:P.underlying kt = some (.struct fs)) (h:okKind P kt (some (.struct fs)) (.agg cells) = true) (hr:R I ρ (.agg cells) v) (hu:R I ρ (.agg qs) u)
  (hs:sameKs cells qs = some b) (w:World):(Op.equal kt v u).run P w = .ok b w:=by
 cases hr
 rename_i cs hl hc
 cases hu
 rename_i ds hl2 hc2
 simp only [okKind,Bool.and_eq_true,Bool.not_eq_true'] at h
 have hfs:P.fieldsOf kt = fs:=by simp [Program.fieldsOf,hd]
 rw [Op.equal,show Op.maxDepth = 9999 + 1 from rfl,run_equalIn_struct w 9999 kt cs ds (by rw [hfs]; exact hd) h.1,hfs]
 exact run_eq_fields (I:=I) (ρ:=ρ) (m:=9998) w fs.toList cells qs 0 b h.2 hs (fun j p hj=>⟨by have:=(List.getElem?_eq_some_iff.1 hj).1; omega,by simpa using hc j p hj⟩) (fun j p hj=>⟨by have:=(List.getElem?_eq_some_iff.1 hj).1; omega,by simpa using hc2 j p hj⟩)
theorem findP_asking {kt:TypeId} {fs:Array Field} {cells:List PV} {v:Value} (hd:P.underlying kt = some (.struct fs)) (h:okKind P kt (some (.struct fs)) (.agg cells) = true) (hp:R I ρ (.agg cells) v) (w:World):∀ (es:List (PV × PV)) (ms:List MapEntry) (i:Nat),ms.length = es.length →
  (∀ (j:Nat) (e:PV × PV),es[j]? = some e → ∃ m,ms[j]? = some m ∧ R I ρ e.1 m.key ∧ R I ρ e.2 m.val) → (findP (.agg cells) es i).isSome = true →
  (findP (.agg cells) es i = some none ∧ (Instr.findAsking kt v ms i).run P w = .ok none w) ∨ ∃ j e m,es[j]? = some e ∧ ms[j]? = some m ∧ findP (.agg cells) es i = some (some (i + j,e.2)) ∧ (Instr.findAsking kt v ms i).run P w = .ok (some (i + j,m.val)) w ∧ sameK (.agg cells) e.1 = some true
 | [],[],i,_,_,_=>.inl ⟨rfl,by simp [Instr.findAsking]⟩
 | e :: es,m :: ms,i,hl,hr,hs=>by
  obtain ⟨m',hm,hk,hv⟩:=hr 0 e rfl
  simp at hm
  subst hm
  unfold findP at hs ⊢
  unfold Instr.findAsking
  cases hb:sameK (.agg cells) e.1 with
  | none=>simp [hb] at hs
  | some b =>
   have hq:∃ qs,e.1 = .agg qs ∧ sameKs cells qs = some b:=by
    generalize e.1 = q at hb
    cases q <;> simp [sameK] at hb
    exact ⟨_,rfl,hb⟩
   obtain ⟨qs,hq,hsk⟩:=hq
   rw [hq] at hk
   have hn:=run_eq_struct hd h hp hk hsk w
   cases b with
   | true=>exact .inr ⟨0,e,m,rfl,rfl,by simp,by simp [hn],hb⟩
   | false =>
    simp only [hb] at hs ⊢
    simp only [Sem.run_bind,hn,Result.andThen_ok,Bool.false_eq_true,if_false]
    rcases findP_asking hd h hp w es ms (i + 1) (by simpa using hl) (fun j e' hj=>hr (j + 1) e' hj) hs with h1 | ⟨j,e',m',h1,h2,h3,h4,h5⟩
    ·exact .inl h1
    ·exact .inr ⟨j + 1,e',m',h1,h2,by rw [h3]; simp; omega,by rw [h4]; simp; omega,h5⟩
 | [],_ :: _,_,hl,_,_=>by simp at hl
 | _ :: _,[],_,hl,_,_=>by simp at hl
theorem run_findP {kt:TypeId} {p:PV} {v:Value} (h:okKind P kt (P.underlying kt) p = true) (hp:R I ρ p v) (w:World) (es:List (PV × PV)) (ms:List MapEntry) (hl:ms.length = es.length)
  (hr:∀ (j:Nat) (e:PV × PV),es[j]? = some e → ∃ m,ms[j]? = some m ∧ R I ρ e.1 m.key ∧ R I ρ e.2 m.val) (hs:(findP p es 0).isSome = true) :
  (findP p es 0 = some none ∧ (Instr.findKey kt v ms).run P w = .ok none w) ∨ ∃ j e m,es[j]? = some e ∧ ms[j]? = some m ∧ findP p es 0 = some (some (j,e.2)) ∧ (Instr.findKey kt v ms).run P w = .ok (some (j,m.val)) w ∧ sameK p e.1 = some true:=by
 cases hd:P.underlying kt with
 | none=>rw [hd] at h; simp [okKind] at h
 | some d =>
  rw [hd] at h
  by_cases hpl:plainK d = true
  ·rcases findP_now hpl h hp es ms 0 hl hr hs with ⟨h1,h2⟩ | ⟨j,e,m,h1,h2,h3,h4,h5⟩
   ·exact .inl ⟨h1,Go.MapKept.run_findKey hd h2⟩
   ·rw [Nat.zero_add] at h3 h4
    exact .inr ⟨j,e,m,h1,h2,h3,Go.MapKept.run_findKey hd h4,h5⟩
  ·cases d <;> simp [plainK] at hpl
   rename_i fs
   cases p <;> simp only [okKind,Bool.false_eq_true] at h
   rename_i cells
   have hk:(Instr.findKey kt v ms).run P w = (Instr.findAsking kt v ms).run P w:=run_findKey_eq w (by rw [hd]) v ms
   rcases findP_asking hd (by simpa only [okKind] using h) hp w es ms 0 hl hr hs with ⟨h1,h2⟩ | ⟨j,e,m,h1,h2,h3,h4,h5⟩
   ·exact .inl ⟨h1,by rw [hk]; exact h2⟩
   ·rw [Nat.zero_add] at h3 h4
    exact .inr ⟨j,e,m,h1,h2,h3,by rw [hk]; exact h4,h5⟩
theorem run_checkP {kt:TypeId} {p:PV} {v:Value} (h:okKind P kt (P.underlying kt) p = true) (hp:R I ρ p v) (w:World) (em:Bool):(Instr.checkKey em 10000 kt v).run P w = .ok () w:=by
 cases hd:P.underlying kt with
 | none=>rw [hd] at h; simp [okKind] at h
 | some d =>
  rw [hd] at h
  by_cases hpl:plainK d = true
  ·exact run_checkKey hd (okKind_isKey hpl h hp) em 9999
  ·cases d <;> simp [plainK] at hpl
   rename_i fs
   cases p <;> simp only [okKind,Bool.false_eq_true] at h
   exact run_check_struct hd (by simpa only [okKind] using h) hp em 9998 w
theorem sameBits_ints:∀ (ps qs:List PV) (xs ys:List Value),sameKs ps qs = some true → xs.length = ps.length → ys.length = qs.length → (∀ (j:Nat) (p:PV),ps[j]? = some p → R I ρ p (xs.getD j Go.undef)) → (∀ (j:Nat) (p:PV),qs[j]? = some p → R I ρ p (ys.getD j Go.undef)) →
  xs = ys ∧ ∀ x ∈ xs,∃ k n,x = .int k n
 | [],[],xs,ys,_,h1,h2,_,_=>by
  have e1:xs = []:=List.length_eq_zero_iff.1 h1
  have e2:ys = []:=List.length_eq_zero_iff.1 h2
  subst e1 e2
  exact ⟨rfl,by simp⟩
 | [],_ :: _,_,_,h,_,_,_,_=>by simp [sameKs] at h
 | p :: ps,qs,xs,ys,h,h1,h2,hx,hy=>by
  cases qs with
  | nil=>cases p <;> simp [sameKs] at h
  | cons q qs =>
   cases p <;> cases q <;> simp only [sameKs,reduceCtorEq] at h
   rename_i k a k' b
   by_cases hk:k = k'
   ·subst hk
    rw [if_pos rfl] at h
    by_cases hab:a = b
    ·subst hab
     rw [if_pos rfl] at h
     match xs,ys,h1,h2 with
     | x :: xs,y :: ys,h1,h2 =>
      have a1:=hx 0 _ rfl
      have a2:=hy 0 _ rfl
      simp at a1 a2
      cases a1; cases a2
      obtain ⟨e,hall⟩:=sameBits_ints ps qs xs ys h (by simpa using h1) (by simpa using h2) (fun j p hj=>by simpa using hx (j + 1) p hj) (fun j p hj=>by simpa using hy (j + 1) p hj)
      subst e
      exact ⟨rfl,fun z hz=>by
       rcases List.mem_cons.1 hz with rfl | hz
       ·exact ⟨_,_,rfl⟩
       ·exact hall z hz⟩
    ·rw [if_neg hab] at h; cases h
   ·rw [if_neg hk] at h; cases h
theorem run_staysP {kt:TypeId} {p q:PV} {v u:Value} (h:okKind P kt (P.underlying kt) p = true) (hp:R I ρ p v) (hq:R I ρ q u) (hs:sameK p q = some true) (w:World):u = v ∧ (Instr.keyThatStays v v).run P w = .ok v w:=by
 cases hd:P.underlying kt with
 | none=>rw [hd] at h; simp [okKind] at h
 | some d =>
  rw [hd] at h
  by_cases hpl:plainK d = true
  ·have hn:=sameK_now hpl h hp hq hs
   refine ⟨?_,run_keyThatStays (okKind_isKey hpl h hp)⟩
   generalize u = mk at hq hn ⊢
   cases d <;> simp [plainK] at hpl <;> cases p <;> simp [okKind] at h <;> cases hp <;> cases mk <;> simp [Instr.sameNow] at hn <;> simp_all [Go.MapKept.bytes_beq]
  ·cases d <;> simp [plainK] at hpl
   cases p <;> simp only [okKind,Bool.false_eq_true] at h
   cases q <;> simp only [sameK,reduceCtorEq] at hs
   cases hp
   rename_i cs hl hc
   cases hq
   rename_i ds hl2 hc2
   obtain ⟨e,hall⟩:=sameBits_ints (I:=I) (ρ:=ρ) _ _ cs.toList ds.toList hs (by simpa using hl) (by simpa using hl2) (fun j p hj=>by simpa [Array.getD_eq_getD_getElem?,List.getD_eq_getElem?_getD] using hc j p hj) (fun j p hj=>by simpa [Array.getD_eq_getD_getElem?,List.getD_eq_getElem?_getD] using hc2 j p hj)
   have e':cs = ds:=Array.toList_inj.1 e
   subst e'
   refine ⟨rfl,?_⟩
   have:Instr.sameBits 10000 (.agg cs) (.agg cs) = true:=by
    rw [Instr.sameBits]
    simp only [beq_self_eq_true,Bool.true_and,List.all_eq_true]
    rintro ⟨x,y⟩ hxy
    obtain ⟨i,hi⟩:=List.mem_iff_getElem?.1 hxy
    rw [List.getElem?_zip_eq_some] at hi
    have exy:x = y:=Option.some.inj (hi.1.symm.trans hi.2)
    subst exy
    obtain ⟨k,n,rfl⟩:=hall x (List.mem_of_getElem? hi.1)
    simp [Instr.sameBits]
   simp [Instr.keyThatStays,this]
theorem run_zeroP {t:TypeId} {z:PV} (h:zeroP P t = some z) (w:World):∃ v,(zeroValue t).run P w = .ok v w ∧ R I ρ z v:=by
 unfold zeroP at h
 cases hi:P.info? t with
 | none=>simp [hi] at h
 | some i =>
  cases hz:i.zero with
  | none=>simp [hi,hz] at h
  | some v =>
   simp [hi,hz] at h
   subst h
   exact ⟨v,by simp [zeroValue,typeInfo,hi,hz],.ofVal I ρ v⟩
theorem does_makeMap (hinv:Inv I ρ σ w) {t:TypeId} {K:PV → Store → Prop} (hK:K (.map σ.length) (σ ++ [.map []])):Does P I ρ σ w K (Instr.makeMap t none):=by
 have hobj:ObjInv I (extR ρ σ.length 0 ⟨w.heap.size,0,0,0⟩) (w.alloc (.map #[] 0)) σ.length (.map []) :=
  ⟨⟨w.heap.size,0,0,0⟩,#[],0,extR_same _ _ _ _,(heap_alloc w _).1,rfl,fun i e hi=>by simp at hi,imm_new hinv (Nat.le_refl _)⟩
 obtain ⟨h1,h2⟩:=hinv.newObj (w':=w.alloc (.map #[] 0)) rfl (Nat.le_refl _) (fun b hb=>alloc_heap_old w _ b hb) (by simp) rfl rfl rfl hobj
 refine ⟨_,_,I,_,.map (some w.heap.size),_,hK,.map _ _ (extR_same ρ σ.length 0 ⟨w.heap.size,0,0,0⟩),?_,h1,h2⟩
 simp [Instr.makeMap,Result.andThen]
theorem does_lookup (hinv:Inv I ρ σ w) {t kt et:TypeId} {o:Nat} {es:List (PV × PV)} {k z:PV} {vm vk:Value} {K:PV → Store → Prop} (hm:R I ρ (.map o) vm) (hk:R I ρ k vk) (hu:P.underlying t = some (.map kt et)) (hok:okKind P kt (P.underlying kt) k = true)
  (hz:zeroP P et = some z) (ho:σ[o]? = some (.map es)) (hs:(findP k es 0).isSome = true) (hK:K (mgetP es k z) σ):Does P I ρ σ w K (Instr.lookup t vm vk false):=by
 obtain ⟨L,ms,clock,hL,hh,hl,hr,_⟩:=hinv.objs o _ ho
 cases hm
 rename_i L' hL'
 cases hL.symm.trans hL'
 have hr':∀ (j:Nat) (e:PV × PV),es[j]? = some e → ∃ m,ms.toList[j]? = some m ∧ R I ρ e.1 m.key ∧ R I ρ e.2 m.val:=fun j e hj=>by simpa using hr j e hj
 have hck:=fun b=>run_checkP hok hk w b
 rcases run_findP hok hk w es ms.toList (by simpa using hl) hr' hs with ⟨h1,h2⟩ | ⟨j,e,m,h1,h2,h3,h4,_⟩
 ·obtain ⟨v,hv,hR⟩:=run_zeroP (I:=I) (ρ:=ρ) hz w
  refine ⟨_,_,I,ρ,v,w,hK,?_,?_,hinv,.refl _ _ _ _⟩
  ·simpa [mgetP,h1] using hR
  ·simp [Instr.lookup,run_underlying hu,Go.MapKept.run_getObj_map hh,hck,h2,hv,Result.andThen]
 ·refine ⟨_,_,I,ρ,m.val,w,hK,?_,?_,hinv,.refl _ _ _ _⟩
  ·obtain ⟨m',hm',_,hv⟩:=hr' j e h1
   rw [h2] at hm'
   cases hm'
   simpa [mgetP,h3] using hv
  ·simp [Instr.lookup,run_underlying hu,Go.MapKept.run_getObj_map hh,hck,h4,Result.andThen]
theorem does_mapUpdate (hinv:Inv I ρ σ w) {t kt et:TypeId} {o:Nat} {es:List (PV × PV)} {k x:PV} {vm vk vx:Value} (hm:R I ρ (.map o) vm) (hk:R I ρ k vk) (hx:R I ρ x vx) (hu:P.underlying t = some (.map kt et)) (hok:okKind P kt (P.underlying kt) k = true)
  (ho:σ[o]? = some (.map es)) (hs:(findP k es 0).isSome = true):∃ ρ' w',(Instr.mapUpdate t vm vk vx).run P w = .ok () w' ∧ Inv I ρ' (σ.set o (.map (mputP es k x))) w' ∧ Grow I ρ σ w I ρ' (σ.set o (.map (mputP es k x))) w':=by
 obtain ⟨L,ms,clock,hL,hh,hl,hr,himm⟩:=hinv.objs o _ ho
 cases hm
 rename_i L' hL'
 cases hL.symm.trans hL'
 have hr':∀ (j:Nat) (e:PV × PV),es[j]? = some e → ∃ m,ms.toList[j]? = some m ∧ R I ρ e.1 m.key ∧ R I ρ e.2 m.val:=fun j e hj=>by simpa using hr j e hj
 have hck:=fun b=>run_checkP hok hk w b
 have hle:=extR_le (L:=L) (.inr hL)
 have fin:∀ (ms':Array MapEntry) (clock':Nat),ms'.size = (mputP es k x).length → (∀ (j:Nat) (e:PV × PV),(mputP es k x)[j]? = some e → ∃ m,ms'[j]? = some m ∧ R I ρ e.1 m.key ∧ R I ρ e.2 m.val) →
   ∃ ρ',Inv I ρ' (σ.set o (.map (mputP es k x))) { w with heap:=w.heap.setIfInBounds L.block (.map ms' clock') } ∧ Grow I ρ σ w I ρ' (σ.set o (.map (mputP es k x))) { w with heap:=w.heap.setIfInBounds L.block (.map ms' clock') }:=by
  intro ms' clock' g1 g2
  obtain ⟨s1,s2⟩:=heap_set (o':=.map ms' clock') hh
  have:=hinv.update (obj':=.map (mputP es k x)) (L':=L) (w':={ w with heap:=w.heap.setIfInBounds L.block (.map ms' clock') }) ho (by simp) hL (.inr hL) (.inl rfl) (fun b _ hb=>s2 b hb) (by simp) rfl rfl rfl
   ⟨L,ms',clock',extR_same _ _ _ _,s1,g1,fun i e hi=>by
    obtain ⟨m,hm,h1,h2⟩:=g2 i e hi
    exact ⟨m,hm,h1.mono (fun _ _ _ h=>h) hle,h2.mono (fun _ _ _ h=>h) hle⟩,himm⟩
  exact ⟨_,this.1,this.2⟩
 rcases run_findP hok hk w es ms.toList (by simpa using hl) hr' hs with ⟨h1,h2⟩ | ⟨j,e,m,h1,h2,h3,h4,h5⟩
 ·obtain ⟨ρ',hi,hg⟩:=fin (ms.push ⟨vk,vx,clock⟩) (clock + 1) (by simp [mputP,h1,hl]) (fun j e hj=>by
   simp only [mputP,h1] at hj
   rw [List.getElem?_append] at hj
   rw [Array.getElem?_push]
   split at hj
   ·rename_i hlt
    rw [if_neg (by omega)]
    exact hr j e hj
   ·rename_i hge
    have:j = es.length:=by
     have:=(List.getElem?_eq_some_iff.1 hj).1
     simp at this; omega
    subst this
    simp at hj
    subst hj
    rw [if_pos hl.symm]
    exact ⟨_,rfl,hk,hx⟩)
  refine ⟨ρ',_,?_,hi,hg⟩
  simp [Instr.mapUpdate,run_underlying hu,Go.MapKept.run_getObj_map hh,hck,h2,Go.MapKept.run_setObj_map _ hh,Result.andThen]
 ·obtain ⟨hmk,hstay⟩:m.key = vk ∧ (Instr.keyThatStays vk vk).run P w = .ok vk w:=by
   obtain ⟨m',hm',hk',_⟩:=hr' j e h1
   rw [h2] at hm'
   cases hm'
   exact run_staysP hok hk hk' h5 w
  have hj:ms[j]? = some m:=by simpa using h2
  have hjl:j < es.length:=(List.getElem?_eq_some_iff.1 h1).1
  obtain ⟨ρ',hi,hg⟩:=fin (ms.modify j (fun e'=>{ e' with key:=vk,val:=vx })) clock (by simp [mputP,h3,hl]) (fun i e' hi=>by
   simp only [mputP,h3] at hi
   rw [Array.getElem?_modify]
   by_cases hij:j = i
   ·subst hij
    rw [List.getElem?_set_self hjl] at hi
    cases hi
    exact ⟨_,by simp [hj]; rfl,hk,hx⟩
   ·rw [List.getElem?_set_ne hij] at hi
    rw [if_neg hij]
    exact hr i e' hi)
  refine ⟨ρ',_,?_,hi,hg⟩
  simp [Instr.mapUpdate,run_underlying hu,Go.MapKept.run_getObj_map hh,hck,h4,hj,hmk,hstay,Go.MapKept.run_setObj_map _ hh,Result.andThen]
theorem evM_sound (hinv:Inv I ρ σ w) {e:Operand → PV} {ev:Operand → Value} (he:∀ x,R I ρ (e x) (ev x)) {K:PV → Store → Prop} {o:Oper} (h:evM P σ e K o.op) :
  ∃ p σ' I' ρ' w',K p σ' ∧ Inv I' ρ' σ' w' ∧ Grow I ρ σ w I' ρ' σ' w' ∧ ((∃ v,R I' ρ' p v ∧ (execOp ev o).run P w = .ok (.value v) w') ∨ (p = .undef ∧ (execOp ev o).run P w = .ok .skip w')):=by
 have fin:∀ (s:Sem Value),Does P I ρ σ w K s → (execOp ev o = (do pure (Next.value (← s)))) → ∃ p σ' I' ρ' w',K p σ' ∧ Inv I' ρ' σ' w' ∧ Grow I ρ σ w I' ρ' σ' w' ∧ ((∃ v,R I' ρ' p v ∧ (execOp ev o).run P w = .ok (.value v) w') ∨ (p = .undef ∧ (execOp ev o).run P w = .ok .skip w')):=by
  rintro s ⟨p,σ',I',ρ',v,w',h1,h2,h3,h4,h5⟩ hs
  exact ⟨p,σ',I',ρ',w',h1,h4,h5,.inl ⟨v,h2,by rw [hs,Sem.run_bind,h3]; rfl⟩⟩
 obtain ⟨dst,op,type,pos,after,guard⟩:=o
 simp only at h
 unfold evM at h
 split at h
 ·exact fin _ (does_makeMap hinv h) rfl
 ·rename_i t x i
  split at h
  ·rename_i o hm
   obtain ⟨kt,et,z,es,h1,h2,h3,h4,h5,h6⟩:=h
   have hx:=he x
   rw [hm] at hx
   exact fin _ (does_lookup hinv hx (he i) h1 h2 h3 h4 h5 h6) rfl
  ·exact h.elim
 ·rename_i t x i v
  split at h
  ·rename_i o hm
   obtain ⟨kt,et,es,h1,h2,h4,h5,h6⟩:=h
   have hx:=he x
   rw [hm] at hx
   obtain ⟨ρ',w',g1,g2,g3⟩:=does_mapUpdate hinv hx (he i) (he v) h1 h2 h4 h5
   exact ⟨_,_,I,ρ',w',h6,g2,g3,.inr ⟨rfl,by simp [execOp,g1]⟩⟩
  ·exact h.elim
 ·exact h.elim
end
end Go.PV
