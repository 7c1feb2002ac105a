import Derived.Test.YtangodmcbmeeaaaPvM
import Derived.WalkKit
import Derived.ProofKit
import Derived.OpenShut
import Derived.WideKeyArgs
import Derived.ChangeSame
import Derived.JoinedOf
import Derived.Deep.OwnRows
import Derived.Deep.Matrix
set_option maxRecDepth 8000
namespace Go.PV
open Go.ChangeShapes Go.WideShapes Go.ChangeAt Go.RowKit
def allI (W:World):Imm:=fun b off=>W.cell? ⟨b,off,Option.none⟩
def noR:Rho:=fun _ _=>Option.none
theorem inv_all (W:World):Inv (allI W) noR [] W:=⟨fun _ _ h=>by simp at h,fun _ _ _ ⟨_,_,h,_⟩=>by simp at h,fun _ _ _ h=>h,fun _ _ _=>rfl⟩
theorem Calls.of_pcall {P:Program} {F:FuncId} {pvs:List PV} {args:Array Value} {W:World} (h:PCall P F pvs [] (fun p _=>p = .bool true)) (ha:ArgsR (allI W) noR pvs args) :
  Calls P F args W fun e W'=>e = .returned (.bool true) ∧ W.Since W.heap.size W':=by
 refine (h.2 _ _ W args (inv_all W) ha).mono fun e W'=>?_
 rintro ⟨rv,p,I',ρ',σ',rfl,hR,_,hg,rfl⟩
 cases hR
 exact ⟨rfl,hg.os,hg.tape,hg.output,hg.size,fun b hb=>hg.frame b hb (fun ⟨o,obj,L,h1,_⟩=>by simp at h1)⟩
section
variable {H:Type} {enc:TypeId × Value → H} {P:Program}
theorem trodAll_stays {W W':World} (hl:laidOutB P = true) {sp':Nat → Bool}:∀ {ts:List TypeId} {vs:List Value} {ds:List (DataW H)} {ps:List MemPlace},(∀ t ∈ ts,P.readableRec t = true ∧ t < P.types.size) →
  DataW.TrodAll enc P W 0 (fun _=>true) true ts vs ds ps → (∀ p ∈ ps,W.sameAt W' p) → (∀ p ∈ ps,sp' p.block = true) → DataW.TrodAll enc P W' 0 sp' true ts vs ds ps
 | [],_,_,_,_,h,_,_=>by
  obtain ⟨rfl,rfl,rfl⟩:=trodAll_nil h
  exact trodAll_mk0
 | t :: ts,_,_,_,hr,h,hsame,hs=>by
  obtain ⟨v,vs1,d,ds1,a,b,rfl,rfl,rfl,h1,h2⟩:=trodAll_cons h
  exact trodAll_cons_mk (WideElems.Trod_stays hl (hr t (by simp)).1 (hr t (by simp)).2 h1 (fun p hp=>hsame p (by simp [hp])) (fun p hp=>hs p (by simp [hp])))
   (trodAll_stays hl (fun t ht=>hr t (by simp [ht])) h2 (fun p hp=>hsame p (by simp [hp])) (fun p hp=>hs p (by simp [hp])))
theorem trodAll_len {W:World} {sp:Nat → Bool}:∀ {ts:List TypeId} {vs:List Value} {ds:List (DataW H)} {ps:List MemPlace},DataW.TrodAll enc P W 0 sp true ts vs ds ps → ds.length = ts.length
 | [],_,_,_,h=>by
  obtain ⟨_,rfl,_⟩:=trodAll_nil h
  rfl
 | t :: ts,_,_,_,h=>by
  obtain ⟨v,vs1,d,ds1,a,b,rfl,rfl,rfl,_,h2⟩:=trodAll_cons h
  simp [trodAll_len h2]
theorem post_of_law {f:Func} {s:ChangeSpec} {apart:Bool} {W W':World} {args:Array Value} {ds gs:List (DataW H)} {before:List MemPlace} {t:TypeId} (hl:laidOutB P = true) (hv:s.vars = []) (hr:f.resultTypes = #[t]) (ht:P.underlying t = some .bool)
  (hp:∀ t ∈ f.params.toList,P.readableRec t = true ∧ t < P.types.size) (hW:DataW.Whole enc P f.params.toList s.vars apart W args.toList ds gs before) (hs:s.fn H (ds ++ gs) = { results:=[.lit (.bool true)],args:=ds }) (h:W.Since W.heap.size W') :
  s.post enc P f apart true false false W args (.bool true) W':=by
 have hW':=hW
 obtain ⟨p,q,hA,hV,hb,_,_⟩:=hW
 rw [hv] at hV
 obtain ⟨rfl,rfl⟩:=trodVars_none hV
 have hlt:∀ x ∈ p,x.block < W.heap.size:=fun x hx=>hW'.lt x (by simp [hb,hx])
 refine ⟨_,_,_,[],p,[],hW',?_,?_,?_,h.frame _,fun h=>by cases h⟩
 ·rw [hs,hr]
  exact trodAll_mk1 (shut_bool ht true)
 ·rw [hs]
  exact trodAll_stays hl hp hA (fun x hx=>h.sameAt (hlt x hx)) (fun x hx=>by simpa using hlt x hx)
 ·rw [hs,hv]
  exact rfl
theorem law_contract {f:FuncId} {fn:Func} {s:ChangeSpec} {apart:Bool} {t:TypeId} (hl:laidOutB P = true) (hv:s.vars = []) (hr:fn.resultTypes = #[t]) (ht:P.underlying t = some .bool)
  (hp:∀ t ∈ fn.params.toList,P.readableRec t = true ∧ t < P.types.size) (hs:∀ ds:List (DataW H),ds.length = fn.params.toList.length → s.fn H ds = { results:=[.lit (.bool true)],args:=ds })
  (hcall:∀ (W:World) (args:Array Value) (ds:List (DataW H)) (p:List MemPlace),(∀ (j:Nat) t v,fn.params[j]? = some t → args[j]? = some v → Value.okWide P W .any 0 t v) → DataW.TrodAll enc P W 0 (fun _=>true) true fn.params.toList args.toList ds p →
   ∃ pvs,ArgsR (allI W) noR pvs args ∧ PCall P f pvs [] (fun p _=>p = .bool true))
  (W:World) (args:Array Value) (ds gs:List (DataW H)) (before:List MemPlace) (hval:∀ (j:Nat) t v,fn.params[j]? = some t → args[j]? = some v → Value.okWide P W .any 0 t v)
  (hW:DataW.Whole enc P fn.params.toList s.vars apart W args.toList ds gs before):Calls P f args W fun e W'=>∃ v,e = .returned v ∧ s.post enc P fn apart true false false W args v W':=by
 have hW':=hW
 obtain ⟨p,q,hA,hV,hb,_,_⟩:=hW
 rw [hv] at hV
 obtain ⟨rfl,rfl⟩:=trodVars_none hV
 obtain ⟨pvs,ha,hc⟩:=hcall W args ds p hval hA
 have hlen:ds.length = fn.params.toList.length:=trodAll_len hA
 refine (Calls.of_pcall hc ha).mono fun e W' ⟨he,hsince⟩=>?_
 exact ⟨_,he,post_of_law hl hv hr ht hp hW' (by rw [List.append_nil]; exact hs ds hlen) hsince⟩
theorem argsR_nil (I:Imm) (ρ:Rho):ArgsR I ρ [] #[]:=⟨rfl,fun j p h=>by simp at h⟩
theorem argsR_cons {I:Imm} {ρ:Rho} {p:PV} {v:Value} {ps:List PV} {vs:List Value} (h:R I ρ p v) (hl:ArgsR I ρ ps ⟨vs⟩):ArgsR I ρ (p :: ps) ⟨v :: vs⟩ :=
 ⟨by have:=hl.1; simp at this ⊢; omega,fun j q hj=>by
  cases j with
  | zero =>
   simp at hj
   subst hj
   exact h
  | succ j =>
   have:=hl.2 j q (by simpa using hj)
   simpa [Array.getD_eq_getD_getElem?] using this⟩
def encI (k:IntKind) (l:List Int):List (List PV):=l.map fun x=>[.int k x]
def encII (k:IntKind) (l:List (List Int)):List (List PV):=l.map fun x=>[.sl (encI k x)]
def okInts (k:IntKind) (l:List Int):Prop:=∀ n ∈ l,(Lit.int k n).wf = true
theorem R.ints {I:Imm} {ρ:Rho} {k:IntKind} {b off cap:Nat} {zs:List Int} {len:Nat} (hl:len ≤ zs.length) (hcap:len ≤ cap) (h:∀ i,i < len → I b (off + i) = some (.int k (zs.getD i 0))) :
  R I ρ (.sl (encI k (zs.take len))) (.slice (some ⟨b,off,Option.none⟩) len cap):=by
 have hn:(encI k (zs.take len)).length = len:=by simp [encI,Nat.min_eq_left hl]
 have hrow:∀ (i:Nat) (row:List PV),(encI k (zs.take len))[i]? = some row → i < len ∧ row = [.int k (zs.getD i 0)]:=fun i row hi=>by
  have hlt:i < len:=by have:=(List.getElem?_eq_some_iff.1 hi).1; omega
  refine ⟨hlt,?_⟩
  simp only [encI,List.getElem?_map,List.getElem?_take,hlt,if_true,Option.map_eq_some_iff] at hi
  obtain ⟨x,hx,rfl⟩:=hi
  rw [List.getD_eq_getElem?_getD,hx]
  rfl
 have:=R.sl (I:=I) (ρ:=ρ) (encI k (zs.take len)) b off 1 cap (fun i _=>.int k (zs.getD i 0)) (by omega) (fun row hr=>by
  obtain ⟨i,hi⟩:=List.mem_iff_getElem?.1 hr
  rw [(hrow i row hi).2]; rfl) (fun i row j p hi hj=>by
  obtain ⟨hlt,rfl⟩:=hrow i row hi
  have:j = 0:=by have:=(List.getElem?_eq_some_iff.1 hj).1; simp at this; omega
  subst this
  simpa using h i hlt) (fun i row j p hi hj=>by
  obtain ⟨hlt,rfl⟩:=hrow i row hi
  have:j = 0:=by have:=(List.getElem?_eq_some_iff.1 hj).1; simp at this; omega
  subst this
  simp at hj
  subst hj
  exact .int _ _)
 rw [hn] at this
 exact this
theorem open_arg_ints {W:World} {t e:TypeId} {k:IntKind} {v:Value} {d:DataW H} {p:List MemPlace} (ht:P.underlying t = some (.slice e)) (he:P.underlying e = some (.int k)) (hc:P.cellsOf e = 1)
  (hval:Value.okWide P W .any 0 t v) (h:DataW.Trod enc P W 0 (fun _=>true) true t v d p):∃ l:List Int,okInts k l ∧ l.length ≤ maxLen ∧ R (allI W) noR (.sl (encI k l)) v:=by
 obtain ⟨a0,len,cap,rfl⟩:=okWide_slice ht hval
 obtain ⟨fuel,hf⟩:=h
 rcases open_ints ht he hc hf with ⟨hcs,_⟩ | ⟨a,len',cap',zs,hcs,_,hl,hm,hz,_,hcell,hw⟩
 ·simp [Value.cells] at hcs
  obtain ⟨rfl,rfl,rfl⟩:=hcs
  exact ⟨[],fun n hn=>by simp at hn,Nat.zero_le _,.slNil _ _⟩
 ·simp [Value.cells] at hcs
  obtain ⟨rfl,rfl,rfl⟩:=hcs
  simp only [if_true] at hz
  refine ⟨zs.take len,fun n hn=>hw n (List.mem_of_mem_take hn),by simp; omega,?_⟩
  cases len with
  | zero=>simpa [encI] using R.slNil (I:=allI W) (ρ:=noR) (some a) cap
  | succ len =>
   obtain ⟨b,off,sp⟩:=a
   have hs:sp = Option.none:=by simpa [Addr.add] using World.cell?_spot (hcell 0 (by omega))
   subst hs
   exact R.ints (by omega) hl (fun i hi=>by
    have:=hcell i (by omega)
    rwa [add_plain] at this)
theorem open_arg_int {W:World} {t:TypeId} {k:IntKind} {v:Value} {d:DataW H} {p:List MemPlace} (ht:P.underlying t = some (.int k)) (hval:Value.okWide P W .any 0 t v) (h:DataW.Trod enc P W 0 (fun _=>true) true t v d p) :
  ∃ n:Int,(Lit.int k n).wf = true ∧ R (allI W) noR (.int k n) v:=by
 obtain ⟨n,rfl,_,_,hw⟩:=open_int ht hval h
 exact ⟨n,hw,.int _ _⟩
end
end Go.PV
