import Derived.Test.YthjoehaglonjaaaLwN
import Derived.Test.YthjoehaglonjaaaStE
set_option maxRecDepth 8000
set_option linter.unusedSimpArgs false
set_option linter.unusedVariables false
namespace Go.PV
open Go.ChangeShapes Go.WideShapes Go.ChangeAt Go.RowKit
section
variable {P:Program} {H:Type} {enc:TypeId × Value → H} {W:World}
def Op1 (enc:TypeId × Value → H) (P:Program) (W:World) (bulk:DataW H → Nat) (N:Nat) (t:TypeId) {α:Type} (pv:α → PV) (ok:α → Prop):Prop :=
 ∀ (fuel:Nat) (cs:List Value) (x:DataW H × List MemPlace),DataW.trod enc P W 0 (fun _=>true) true fuel t cs = some x → bulk x.1 ≤ N → ∃ (a:α) (v:Value),ok a ∧ cs = [v] ∧ R (allI W) noR (pv a) v
def OpK (enc:TypeId × Value → H) (P:Program) (W:World) (bulk:DataW H → Nat) (N:Nat) (t:TypeId) {α:Type} (k:Nat) (row:α → List PV) (ok:α → Prop):Prop :=
 ∀ (fuel:Nat) (cs:List Value) (x:DataW H × List MemPlace),DataW.trod enc P W 0 (fun _=>true) true fuel t cs = some x → bulk x.1 ≤ N → ∃ a:α,ok a ∧ cs.length = k ∧ (row a).length = k ∧ ∀ (j:Nat) (p:PV) (v:Value),(row a)[j]? = some p → cs[j]? = some v → R (allI W) noR p v
structure BulkOk (bulk:DataW H → Nat):Prop where
 sl:∀ es rs d,d ∈ es → bulk d ≤ bulk (.slice es rs)
 len:∀ es rs,es.length ≤ bulk (.slice es rs)
 agg:∀ ps d,d ∈ ps → bulk d ≤ bulk (.agg ps)
variable {bulk:DataW H → Nat} {N:Nat}
theorem op_int {t:TypeId} {k:IntKind} (ht:P.underlying t = some (.int k)):Op1 enc P W bulk N t (fun z=>PV.int k z) (fun z=>(Lit.int k z).wf = true):=fun fuel cs x h _=>by
 obtain ⟨z,hz,_,hw⟩:=DataW.trod_int ht h
 exact ⟨z,_,hw,hz,.int _ _⟩
theorem Op1.toK {t:TypeId} {α:Type} {pv:α → PV} {ok:α → Prop} (h:Op1 enc P W bulk N t pv ok):OpK enc P W bulk N t 1 (fun a=>[pv a]) ok:=fun fuel cs x hx hb=>by
 obtain ⟨a,v,h1,rfl,h2⟩:=h fuel cs x hx hb
 refine ⟨a,h1,rfl,rfl,fun j p v' hj hv=>?_⟩
 match j,hj,hv with
 | 0,hj,hv=>simp at hj hv; subst hj; subst hv; exact h2
theorem op_slice (hB:BulkOk bulk) {t e:TypeId} {α:Type} {k:Nat} {row:α → List PV} {ok:α → Prop} [Inhabited α] (ht:P.underlying t = some (.slice e)) (hk:P.cellsOf e = k) (hk0:0 < k) (hel:OpK enc P W bulk N e k row ok) :
  Op1 enc P W bulk N t (fun l:List α=>PV.sl (l.map row)) (fun l=>l.length ≤ N ∧ l.length ≤ maxLen ∧ ∀ a ∈ l,ok a):=fun fuel cs x h hb=>by
 rcases DataW.trod_slice ht h with ⟨hcs,_⟩ | ⟨a,len0,cap0,elems,rest,n,_,hcs,hx,_,hl,hm,hlen,hel0,_,_⟩
 ·exact ⟨[],_,⟨Nat.zero_le _,Nat.zero_le _,fun _ h=>by simp at h⟩,hcs,.slNil _ _⟩
 ·rw [hx] at hb
  have hex:∀ i,i < len0 → ∃ c:α,ok c ∧ (row c).length = k ∧ ∀ j,j < k → ∃ v,W.cell? ((a.add (i * k)).add j) = some v ∧ ∀ p,(row c)[j]? = some p → R (allI W) noR p v:=fun i hi=>by
   have h1:=hel0 i hi
   have hie:i < elems.length:=by omega
   rw [List.getElem?_eq_getElem hie,hk,Option.bind_eq_some_iff] at h1
   obtain ⟨cs',hcs',hy⟩:=h1
   obtain ⟨c,hc,hl1,hl2,hr⟩:=hel _ _ _ hy (Nat.le_trans (hB.sl _ _ _ (List.mem_map.2 ⟨_,List.getElem_mem hie,rfl⟩)) hb)
   refine ⟨c,hc,hl2,fun j hj=>?_⟩
   have h3:=(World.cells?_some hcs').2.2 j hj
   have hjc:j < cs'.length:=by omega
   rw [List.getElem?_eq_getElem hjc] at h3
   exact ⟨_,h3,fun p hp=>hr j p _ hp (List.getElem?_eq_getElem hjc)⟩
  let L:Nat → α:=fun i=>if hi:i < len0 then (hex i hi).choose else default
  have hL:∀ i,i < len0 → ok (L i) ∧ (row (L i)).length = k ∧ ∀ j,j < k → ∃ v,W.cell? ((a.add (i * k)).add j) = some v ∧ ∀ p,(row (L i))[j]? = some p → R (allI W) noR p v:=fun i hi=>by
   simp only [L,hi,dif_pos]; exact (hex i hi).choose_spec
  have hbl:=hB.len (elems.map (·.1)) (rest.map (·.1))
  have hmem:∀ c ∈ (List.range len0).map L,ok c:=fun c hc=>by
   obtain ⟨i,hi,rfl⟩:=List.mem_map.1 hc
   exact (hL i (List.mem_range.1 hi)).1
  refine ⟨(List.range len0).map L,_,⟨by simp only [List.length_map,List.length_range] at hbl ⊢; simp only at hb; omega,by simp; omega,hmem⟩,hcs,?_⟩
  cases hlz:len0 with
  | zero=>simpa using R.slNil (I:=allI W) (ρ:=noR) (some a) cap0
  | succ q =>
   obtain ⟨b,off,sp⟩:=a
   have hs:sp = Option.none:=by
    obtain ⟨v,h0,_⟩:=(hL 0 (by omega)).2.2 0 hk0
    simp [Addr.add] at h0
    exact World.cell?_spot h0
   subst hs
   rw [← hlz]
   have hrow:∀ (i:Nat) (r:List PV),(((List.range len0).map L).map row)[i]? = some r → i < len0 ∧ r = row (L i):=fun i r hi=>by
    have hlt:i < len0:=by have:=(List.getElem?_eq_some_iff.1 hi).1; simpa using this
    refine ⟨hlt,?_⟩
    simp only [List.map_map,List.getElem?_map,List.getElem?_range hlt,Option.map_some,Option.some.injEq] at hi
    exact hi.symm
   have key:=R.sl (I:=allI W) (ρ:=noR) (((List.range len0).map L).map row) b off k cap0 (fun i j=>(W.cell? ⟨b,off + i * k + j,none⟩).getD Go.undef) (by simp; omega) (fun r hr=>by
    obtain ⟨i,hi⟩:=List.mem_iff_getElem?.1 hr
    obtain ⟨h1,rfl⟩:=hrow i r hi
    exact (hL i h1).2.1) (fun i r j p hi hj=>by
    obtain ⟨hlt,rfl⟩:=hrow i r hi
    have hjk:j < k:=by have:=(List.getElem?_eq_some_iff.1 hj).1; rw [(hL i hlt).2.1] at this; exact this
    obtain ⟨v,hv,_⟩:=(hL i hlt).2.2 j hjk
    rw [add_plain,add_plain] at hv
    show W.cell? _ = _
    rw [hv]; rfl) (fun i r j p hi hj=>by
    obtain ⟨hlt,rfl⟩:=hrow i r hi
    have hjk:j < k:=by have:=(List.getElem?_eq_some_iff.1 hj).1; rw [(hL i hlt).2.1] at this; exact this
    obtain ⟨v,hv,hr⟩:=(hL i hlt).2.2 j hjk
    rw [add_plain,add_plain] at hv
    rw [hv]
    exact hr p hj)
   simpa using key
theorem op_fields (hB:BulkOk bulk) {t:TypeId} {fs:Array Field} {fuel:Nat} {cs:List Value} {x:DataW H × List MemPlace} (ht:P.underlying t = some (.struct fs)) (hc:P.cellsOf t = fs.size)
  (h1:∀ (i:Nat) (f:Field),fs[i]? = some f → f.offset = i ∧ P.cellsOf f.type = 1) (h:DataW.trod enc P W 0 (fun _=>true) true fuel t cs = some x) (hb:bulk x.1 ≤ N) :
  cs.length = fs.size ∧ ∀ (i:Nat) (f:Field),fs[i]? = some f → ∃ v n y,cs[i]? = some v ∧ DataW.trod enc P W 0 (fun _=>true) true n f.type [v] = some y ∧ bulk y.1 ≤ N:=by
 obtain ⟨xs,n,_,rfl,hl,hlen,hf⟩:=DataW.trod_struct ht h
 rw [hc] at hl
 refine ⟨hl,fun i f hi=>?_⟩
 have hif:i < fs.size:=(Array.getElem?_eq_some_iff.1 hi).1
 have hix:i < xs.length:=by omega
 have hic:i < cs.length:=by omega
 have q:=hf i f hi
 rw [(h1 i f hi).1,(h1 i f hi).2,List.getElem?_eq_getElem hix] at q
 refine ⟨cs[i],n,xs[i],List.getElem?_eq_getElem hic,?_,Nat.le_trans (hB.agg _ _ (List.mem_map.2 ⟨_,List.getElem_mem hix,rfl⟩)) hb⟩
 rw [← q]
 congr 1
 rw [List.drop_eq_getElem_cons hic]; rfl
def chkS (P:Program) (t:TypeId) (ts:List TypeId):Bool:=match P.underlying t with
 | some (.struct fs)=>decide (fs.toList.map (·.type) = ts) && decide (fs.toList.map (·.offset) = List.range ts.length) && ts.all (fun u=>P.cellsOf u == 1) && P.cellsOf t == ts.length
 | _=>false
theorem op_struct (hB:BulkOk bulk) {t:TypeId} {ts:List TypeId} {fuel:Nat} {cs:List Value} {x:DataW H × List MemPlace} (hc:chkS P t ts = true)
  (h:DataW.trod enc P W 0 (fun _=>true) true fuel t cs = some x) (hb:bulk x.1 ≤ N) :
  cs.length = ts.length ∧ ∀ (i:Nat) (u:TypeId),ts[i]? = some u → ∃ v n y,cs[i]? = some v ∧ DataW.trod enc P W 0 (fun _=>true) true n u [v] = some y ∧ bulk y.1 ≤ N:=by
 unfold chkS at hc
 split at hc
 ·rename_i fs hu
  simp only [Bool.and_eq_true,decide_eq_true_eq,List.all_eq_true,beq_iff_eq] at hc
  obtain ⟨⟨⟨h1,h2⟩,h3⟩,h4⟩:=hc
  have hsz:fs.size = ts.length:=by rw [← h1]; simp
  have key:∀ (i:Nat) (f:Field),fs[i]? = some f → f.offset = i ∧ ts[i]? = some f.type:=fun i f hi=>by
   have hi':fs.toList[i]? = some f:=by simpa using hi
   have e1:(fs.toList.map (·.offset))[i]? = some f.offset:=by rw [List.getElem?_map,hi']; rfl
   have e2:(fs.toList.map (·.type))[i]? = some f.type:=by rw [List.getElem?_map,hi']; rfl
   rw [h2] at e1
   rw [h1] at e2
   refine ⟨?_,e2⟩
   have hlt:=(List.getElem?_eq_some_iff.1 e2).1
   rw [List.getElem?_range hlt] at e1
   exact (Option.some.inj e1).symm
  obtain ⟨hl,hf⟩:=op_fields (N:=N) hB hu (by rw [h4,hsz]) (fun i f hi=>⟨(key i f hi).1,h3 _ (List.mem_of_getElem? (key i f hi).2)⟩) h hb
  refine ⟨by rw [hl,hsz],fun i u hi=>?_⟩
  have hlt:i < fs.size:=by have:=(List.getElem?_eq_some_iff.1 hi).1; omega
  have hfi:fs[i]? = some fs[i]:=Array.getElem?_eq_getElem hlt
  have:=hf i fs[i] hfi
  rw [(key i fs[i] hfi).2] at hi
  cases hi
  exact this
 ·cases hc
theorem Op1.at_ {t:TypeId} {α:Type} {pv:α → PV} {ok:α → Prop} (ho:Op1 enc P W bulk N t pv ok) {cs:List Value} {i:Nat} (hf:∃ v n y,cs[i]? = some v ∧ DataW.trod enc P W 0 (fun _=>true) true n t [v] = some y ∧ bulk y.1 ≤ N) :
  ∃ a,ok a ∧ ∀ v,cs[i]? = some v → R (allI W) noR (pv a) v:=by
 obtain ⟨v,n,y,h1,h2,h3⟩:=hf
 obtain ⟨a,v',h4,h5,h6⟩:=ho _ _ _ h2 h3
 obtain rfl:v = v':=by simpa using h5
 exact ⟨a,h4,fun w hw=>by rw [h1] at hw; cases hw; exact h6⟩
theorem op_arg {t:TypeId} {fs:Array Field} {α:Type} {k:Nat} {row:α → List PV} {ok:α → Prop} (ht:P.underlying t = some (.struct fs)) (ho:OpK enc P W bulk N t k row ok) {v:Value} {d:DataW H} {p:List MemPlace}
  (hval:Value.okWide P W .any 0 t v) (h:DataW.Trod enc P W 0 (fun _=>true) true t v d p) (hb:bulk d ≤ N):∃ a,ok a ∧ R (allI W) noR (.agg (row a)) v:=by
 obtain ⟨cs,rfl,hs⟩:=okWide_struct ht hval
 obtain ⟨fuel,hf⟩:=h
 obtain ⟨a,h1,h2,h3,h4⟩:=ho _ _ _ hf hb
 simp only [Value.cells] at h2 h4
 refine ⟨a,h1,.agg _ _ (by simp at h2; omega) (fun j p hj=>?_)⟩
 have hjk:j < cs.size:=by have:=(List.getElem?_eq_some_iff.1 hj).1; simp at h2; omega
 have:=h4 j p cs[j] hj (by simp [hjk])
 simpa [Array.getD,hjk] using this
theorem law_contract1 {f:FuncId} {fn:Func} {s:ChangeSpec} {apart:Bool} {t:TypeId} (hl:laidOutB P = true) (hv:s.vars = []) (hr:fn.resultTypes = #[t]) (ht:P.underlying t = some .bool)
  (hp:∀ t ∈ fn.params.toList,P.readableRec t = true ∧ t < P.types.size) (hs:∀ ds:List (DataW H),ds.length = fn.params.toList.length → s.fn H ds = { results:=[.lit (.bool true)],args:=ds })
  (W:World) (args:Array Value) (ds gs:List (DataW H)) (before:List MemPlace)
  (hcall:∀ p,DataW.TrodAll enc P W 0 (fun _=>true) true fn.params.toList args.toList ds p → ∃ pvs,ArgsR (allI W) noR pvs args ∧ PCall P f pvs [] (fun p _=>p = .bool true))
  (hW:DataW.Whole enc P fn.params.toList s.vars apart W args.toList ds gs before):Calls P f args W fun e W'=>∃ v,e = .returned v ∧ s.post enc P fn apart true false false W args v W':=by
 have hW':=hW
 obtain ⟨p,q,hA,hV,hb,_,_⟩:=hW
 rw [hv] at hV
 obtain ⟨rfl,rfl⟩:=trodVars_none hV
 obtain ⟨pvs,ha,hc⟩:=hcall p hA
 have hlen:ds.length = fn.params.toList.length:=trodAll_len hA
 refine (Calls.of_pcall hc ha).mono fun e W' ⟨he,hsince⟩=>?_
 exact ⟨_,he,post_of_law hl hv hr ht hp hW' (by rw [List.append_nil]; exact hs ds hlen) hsince⟩
end
end Go.PV
namespace Go.Proofs.Ythjoehaglonjaaa
open Go.PV Go.ChangeShapes Go.WideShapes Go.ChangeAt Go.RowKit
theorem bulkAll_len {H:Type}:∀ l:List (DataW H),l.length ≤ Rows.uptoBulkAll l
 | []=>Nat.zero_le _
 | d :: r=>by
  have:=bulkAll_len r
  have h1:1 ≤ Rows.uptoBulk d:=by
   cases d with
   | lit q=>cases q <;> simp [Rows.uptoBulk]
   | _=>simp [Rows.uptoBulk]
  simp only [Rows.uptoBulkAll,List.length_cons]; omega
theorem bulkAll_mem {H:Type}:∀ (l:List (DataW H)) (d:DataW H),d ∈ l → Rows.uptoBulk d ≤ Rows.uptoBulkAll l
 | x :: r,d,h=>by
  rcases List.mem_cons.1 h with rfl | h
  ·simp only [Rows.uptoBulkAll]; omega
  ·have:=bulkAll_mem r d h
   simp only [Rows.uptoBulkAll]; omega
theorem bulkOk {H:Type}:BulkOk (Rows.uptoBulk (H:=H)) where
 sl es rs d h:=by have:=bulkAll_mem es d h; simp only [Rows.uptoBulk]; omega
 len es rs:=by have:=bulkAll_len es; simp only [Rows.uptoBulk]; omega
 agg ps d h:=by have:=bulkAll_mem ps d h; simp only [Rows.uptoBulk]; omega
section
variable {H:Type} {enc:TypeId × Value → H} {W:World}
abbrev mostB:Nat:=1048576
theorem op_i:Op1 enc Try.prog W Rows.uptoBulk mostB 3 (fun z=>PV.int .i64 z) (fun z=>(Lit.int .i64 z).wf = true):=op_int (by kernel_rfl)
theorem op_ints:Op1 enc Try.prog W Rows.uptoBulk mostB 55 (fun l:List Int=>PV.sl (ints l)) (fun l=>l.length ≤ mostB):=fun f cs x h hb=>by
 obtain ⟨a,v,h1,h2,h3⟩:=op_slice (k:=1) bulkOk (t:=55) (e:=3) (by kernel_rfl) (by kernel_rfl) (by omega) op_i.toK f cs x h hb
 exact ⟨a,v,h1.1,h2,h3⟩
theorem op_target:OpK enc Try.prog W Rows.uptoBulk mostB 88 2 (fun t:Int × Int=>[PV.int .i64 t.1,.int .i64 t.2]) (fun _=>True):=fun f cs x h hb=>by
 obtain ⟨hl,hf⟩:=op_struct (N:=mostB) bulkOk (t:=88) (ts:=[3,3]) (by kernel_rfl) h hb
 obtain ⟨a0,k0,r0⟩:=op_i.at_ (hf 0 _ rfl)
 obtain ⟨a1,k1,r1⟩:=op_i.at_ (hf 1 _ rfl)
 refine ⟨(a0,a1),trivial,hl,rfl,fun j p v hj hv=>?_⟩
 match j,hj,hv with
 | 0,hj,hv=>cases hj; exact r0 v hv
 | 1,hj,hv=>cases hj; exact r1 v hv
 | j + 2,hj,_=>simp at hj
theorem op_targets:Op1 enc Try.prog W Rows.uptoBulk mostB 89 (fun l:List (Int × Int)=>PV.sl (encT l)) (fun l=>l.length ≤ mostB):=fun f cs x h hb=>by
 obtain ⟨a,v,h1,h2,h3⟩:=op_slice (k:=2) bulkOk (t:=89) (e:=88) (by kernel_rfl) (by kernel_rfl) (by omega) op_target f cs x h hb
 exact ⟨a,v,h1.1,h2,h3⟩
theorem op_site:OpK enc Try.prog W Rows.uptoBulk mostB 91 3 Site.row (fun s=>s.tg.length ≤ mostB):=fun f cs x h hb=>by
 obtain ⟨hl,hf⟩:=op_struct (N:=mostB) bulkOk (t:=91) (ts:=[3,3,89]) (by kernel_rfl) h hb
 obtain ⟨a0,k0,r0⟩:=op_i.at_ (hf 0 _ rfl)
 obtain ⟨a1,k1,r1⟩:=op_i.at_ (hf 1 _ rfl)
 obtain ⟨a2,k2,r2⟩:=op_targets.at_ (hf 2 _ rfl)
 refine ⟨⟨a0,a1,a2⟩,k2,hl,rfl,fun j p v hj hv=>?_⟩
 match j,hj,hv with
 | 0,hj,hv=>cases hj; exact r0 v hv
 | 1,hj,hv=>cases hj; exact r1 v hv
 | 2,hj,hv=>cases hj; exact r2 v hv
 | j + 3,hj,_=>exact absurd (show none = some p from hj) (by simp)
theorem op_sites:Op1 enc Try.prog W Rows.uptoBulk mostB 64 (fun l:List Site=>PV.sl (encS l)) (fun l=>l.length ≤ mostB ∧ ∀ s ∈ l,s.tg.length ≤ mostB):=fun f cs x h hb=>by
 obtain ⟨a,v,h1,h2,h3⟩:=op_slice (k:=3) bulkOk (t:=64) (e:=91) (by kernel_rfl) (by kernel_rfl) (by omega) op_site f cs x h hb
 exact ⟨a,v,⟨h1.1,h1.2.2⟩,h2,h3⟩
theorem op_edge:OpK enc Try.prog W Rows.uptoBulk mostB 80 2 (fun t:Int × Int=>[PV.int .i64 t.1,.int .i64 t.2]) (fun _=>True):=fun f cs x h hb=>by
 obtain ⟨xs,m,_,rfl,hl,hlen,hf⟩:=DataW.trod_array (n:=2) (e:=3) (show Try.prog.underlying 80 = some (.array 2 3) by kernel_rfl) h
 have hc2:Try.prog.cellsOf 80 = 2:=by kernel_rfl
 have hc1:Try.prog.cellsOf 3 = 1:=by kernel_rfl
 have hui:Try.prog.underlying 3 = some (.int .i64):=by kernel_rfl
 rw [hc2] at hl
 obtain ⟨v0,v1,rfl⟩:∃ v0 v1,cs = [v0,v1]:=by
  match cs,hl with
  | [a,b],_=>exact ⟨a,b,rfl⟩
 have q0:=hf 0 (by omega)
 have q1:=hf 1 (by omega)
 rw [hc1,List.getElem?_eq_getElem (by omega)] at q0 q1
 obtain ⟨z0,e0,_,_⟩:=DataW.trod_int hui q0
 obtain ⟨z1,e1,_,_⟩:=DataW.trod_int hui q1
 simp at e0 e1
 refine ⟨(z0,z1),trivial,rfl,rfl,fun j p v hj hv=>?_⟩
 match j,hj,hv with
 | 0,hj,hv=>cases hj; simp at hv; rw [← hv,e0]; exact .int _ _
 | 1,hj,hv=>cases hj; simp at hv; rw [← hv,e1]; exact .int _ _
 | j + 2,hj,_=>simp at hj
theorem op_edges:Op1 enc Try.prog W Rows.uptoBulk mostB 63 (fun l:List (Int × Int)=>PV.sl (encT l)) (fun l=>l.length ≤ mostB):=fun f cs x h hb=>by
 obtain ⟨a,v,h1,h2,h3⟩:=op_slice (k:=2) bulkOk (t:=63) (e:=80) (by kernel_rfl) (by kernel_rfl) (by omega) op_edge f cs x h hb
 exact ⟨a,v,h1.1,h2,h3⟩
def SzF (x:FC):Prop:=x.blocks.length ≤ mostB ∧ x.edges.length ≤ mostB ∧ x.sites.length ≤ mostB ∧ ∀ s ∈ x.sites,s.tg.length ≤ mostB
theorem op_fc:OpK enc Try.prog W Rows.uptoBulk mostB 66 4 FC.row SzF:=fun f cs x h hb=>by
 obtain ⟨hl,hf⟩:=op_struct (N:=mostB) bulkOk (t:=66) (ts:=[3,55,63,64]) (by kernel_rfl) h hb
 obtain ⟨a0,k0,r0⟩:=op_i.at_ (hf 0 _ rfl)
 obtain ⟨a1,k1,r1⟩:=op_ints.at_ (hf 1 _ rfl)
 obtain ⟨a2,k2,r2⟩:=op_edges.at_ (hf 2 _ rfl)
 obtain ⟨a3,k3,r3⟩:=op_sites.at_ (hf 3 _ rfl)
 refine ⟨⟨a0,a1,a2,a3⟩,⟨k1,k2,k3.1,k3.2⟩,hl,rfl,fun j p v hj hv=>?_⟩
 match j,hj,hv with
 | 0,hj,hv=>cases hj; exact r0 v hv
 | 1,hj,hv=>cases hj; exact r1 v hv
 | 2,hj,hv=>cases hj; exact r2 v hv
 | 3,hj,hv=>cases hj; exact r3 v hv
 | j + 4,hj,_=>exact absurd (show none = some p from hj) (by simp)
theorem op_fcs:Op1 enc Try.prog W Rows.uptoBulk mostB 28 (fun l:List FC=>PV.sl (encF l)) (fun l=>l.length ≤ mostB ∧ ∀ x ∈ l,SzF x):=fun f cs x h hb=>by
 obtain ⟨a,v,h1,h2,h3⟩:=op_slice (k:=4) bulkOk (t:=28) (e:=66) (by kernel_rfl) (by kernel_rfl) (by omega) op_fc f cs x h hb
 exact ⟨a,v,⟨h1.1,h1.2.2⟩,h2,h3⟩
theorem op_counts:Op1 enc Try.prog W Rows.uptoBulk mostB 30 (fun l:List FC=>PV.sl (encF l)) (fun l=>l.length ≤ mostB ∧ ∀ x ∈ l,SzF x):=fun f cs x h hb=>by
 obtain ⟨hl,hf⟩:=op_struct (N:=mostB) bulkOk (t:=30) (ts:=[28]) (by kernel_rfl) h hb
 obtain ⟨v,n,y,h1,h2,h3⟩:=hf 0 _ rfl
 obtain ⟨a,v',k,e,r⟩:=op_fcs _ _ _ h2 h3
 obtain rfl:v = v':=by simpa using e
 refine ⟨a,v,k,?_,r⟩
 match cs,hl,h1 with
 | [w],_,h1=>simp at h1; rw [h1]
theorem op_d:Op1 enc Try.prog W Rows.uptoBulk mostB 27 (fun z=>PV.int .u64 z) (fun z=>(Lit.int .u64 z).wf = true):=op_int (by kernel_rfl)
def SzP (p:Pc):Prop:=p.fs.length ≤ mostB ∧ ∀ x ∈ p.fs,SzF x
theorem op_pc:OpK enc Try.prog W Rows.uptoBulk mostB 32 5 Pc.row SzP:=fun f cs x h hb=>by
 obtain ⟨hl,hf⟩:=op_struct (N:=mostB) bulkOk (t:=32) (ts:=[3,3,3,27,30]) (by kernel_rfl) h hb
 obtain ⟨a0,k0,r0⟩:=op_i.at_ (hf 0 _ rfl)
 obtain ⟨a1,k1,r1⟩:=op_i.at_ (hf 1 _ rfl)
 obtain ⟨a2,k2,r2⟩:=op_i.at_ (hf 2 _ rfl)
 obtain ⟨a3,k3,r3⟩:=op_d.at_ (hf 3 _ rfl)
 obtain ⟨a4,k4,r4⟩:=op_counts.at_ (hf 4 _ rfl)
 refine ⟨⟨(a0,a1,a2),a3,a4⟩,k4,hl,rfl,fun j p v hj hv=>?_⟩
 match j,hj,hv with
 | 0,hj,hv=>cases hj; exact r0 v hv
 | 1,hj,hv=>cases hj; exact r1 v hv
 | 2,hj,hv=>cases hj; exact r2 v hv
 | 3,hj,hv=>cases hj; exact r3 v hv
 | 4,hj,hv=>cases hj; exact r4 v hv
 | j + 5,hj,_=>exact absurd (show none = some p from hj) (by simp)
theorem op_idn:OpK enc Try.prog W Rows.uptoBulk mostB 58 3 idRow (fun _=>True):=fun f cs x h hb=>by
 obtain ⟨hl,hf⟩:=op_struct (N:=mostB) bulkOk (t:=58) (ts:=[3,3,3]) (by kernel_rfl) h hb
 obtain ⟨a0,k0,r0⟩:=op_i.at_ (hf 0 _ rfl)
 obtain ⟨a1,k1,r1⟩:=op_i.at_ (hf 1 _ rfl)
 obtain ⟨a2,k2,r2⟩:=op_i.at_ (hf 2 _ rfl)
 refine ⟨(a0,a1,a2),trivial,hl,rfl,fun j p v hj hv=>?_⟩
 match j,hj,hv with
 | 0,hj,hv=>cases hj; exact r0 v hv
 | 1,hj,hv=>cases hj; exact r1 v hv
 | 2,hj,hv=>cases hj; exact r2 v hv
 | j + 3,hj,_=>exact absurd (show none = some p from hj) (by simp)
theorem op_pcs:Op1 enc Try.prog W Rows.uptoBulk mostB 23 (fun l:List Pc=>PV.sl (encP l)) (fun l=>l.length ≤ mostB ∧ ∀ x ∈ l,SzP x):=fun f cs x h hb=>by
 obtain ⟨a,v,h1,h2,h3⟩:=op_slice (k:=5) bulkOk (t:=23) (e:=32) (by kernel_rfl) (by kernel_rfl) (by omega) op_pc f cs x h hb
 exact ⟨a,v,⟨h1.1,h1.2.2⟩,h2,h3⟩
theorem op_idns:Op1 enc Try.prog W Rows.uptoBulk mostB 24 (fun l:List Idn=>PV.sl (encD l)) (fun l=>l.length ≤ mostB):=fun f cs x h hb=>by
 obtain ⟨a,v,h1,h2,h3⟩:=op_slice (k:=3) bulkOk (t:=24) (e:=58) (by kernel_rfl) (by kernel_rfl) (by omega) op_idn f cs x h hb
 exact ⟨a,v,h1.1,h2,h3⟩
def SzS (s:StS):Prop:=s.ps.length ≤ mostB ∧ s.cs.length ≤ mostB ∧ ∀ p ∈ s.ps,SzP p
theorem op_store:OpK enc Try.prog W Rows.uptoBulk mostB 26 2 (fun s:StS=>[PV.sl (encP s.ps),.sl (encD s.cs)]) SzS:=fun f cs x h hb=>by
 obtain ⟨hl,hf⟩:=op_struct (N:=mostB) bulkOk (t:=26) (ts:=[23,24]) (by kernel_rfl) h hb
 obtain ⟨a0,k0,r0⟩:=op_pcs.at_ (hf 0 _ rfl)
 obtain ⟨a1,k1,r1⟩:=op_idns.at_ (hf 1 _ rfl)
 refine ⟨⟨a0,a1⟩,⟨k0.1,k1,k0.2⟩,hl,rfl,fun j p v hj hv=>?_⟩
 match j,hj,hv with
 | 0,hj,hv=>cases hj; exact r0 v hv
 | 1,hj,hv=>cases hj; exact r1 v hv
 | j + 2,hj,_=>simp at hj
end
end Go.Proofs.Ythjoehaglonjaaa
