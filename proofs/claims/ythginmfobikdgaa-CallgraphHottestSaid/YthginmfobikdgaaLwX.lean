/- Chapter 33: the law CallgraphHottest holds for every input: the calls by their counts are the reference's, none without a count, none lost, in order. No condition. -/
import Derived.Test.YthginmfobikdgaaTy
import Derived.Test.YthginmfobikdgaaEnA
import Derived.Test.YthginmfobikdgaaPvO
import Derived.Test.YthginmfobikdgaaPvY
import Derived.Test.YthginmfobikdgaaRows
import Derived.Test.YthginmfobikdgaaPlA
import Derived.Test.YthginmfobikdgaaHtB
import Derived.Test.YthginmfobikdgaaDrA
import Derived.Test.YthginmfobikdgaaCgI
set_option maxRecDepth 8000
/- The rows: facts on the program. -/
set_option maxRecDepth 8000
set_option linter.unusedSimpArgs false
set_option linter.unusedVariables false
namespace Go.Proofs.Ythginmfobikdgaa
open Go.PV
theorem own:ownKnob Try.prog.godebug = none:=by kernel_rfl
theorem laidOut:laidOutB Try.prog = true:=by kernel_rfl
end Go.Proofs.Ythginmfobikdgaa

set_option linter.unusedSimpArgs false
set_option linter.unusedVariables false
namespace Go.Proofs.Ythginmfobikdgaa
open Go.PV Go.ChangeShapes Go.WideShapes Go.ChangeAt Go.RowKit
theorem u_call:Try.prog.underlying 78 = some (.struct #[{ name := "Func",type:=3,offset:=0,embedded:=false,tag := "",pkgPath := "",byteOffset:=0 },{ name := "Block",type:=3,offset:=1,embedded:=false,tag := "",pkgPath := "",byteOffset:=8 },{ name := "Instr",type:=3,offset:=2,embedded:=false,tag := "",pkgPath := "",byteOffset:=16 },{ name := "Callee",type:=3,offset:=3,embedded:=false,tag := "",pkgPath := "",byteOffset:=24 },{ name := "Count",type:=3,offset:=4,embedded:=false,tag := "",pkgPath := "",byteOffset:=32 }]):=by kernel_rfl
theorem c_call:Try.prog.cellsOf 78 = 5:=by kernel_rfl
theorem u_calls:Try.prog.underlying 74 = some (.slice 78):=by kernel_rfl
theorem c_calls:Try.prog.cellsOf 74 = 1:=by kernel_rfl
theorem u_graph:Try.prog.underlying 76 = some (.struct #[{ name := "Entries",type:=40,offset:=0,embedded:=false,tag := "",pkgPath := "",byteOffset:=0 },{ name := "Calls",type:=74,offset:=1,embedded:=false,tag := "",pkgPath := "",byteOffset:=24 }]):=by kernel_rfl
theorem c_graph:Try.prog.cellsOf 76 = 2:=by kernel_rfl
section
variable {H:Type} {enc:TypeId × Value → H}
end
end Go.Proofs.Ythginmfobikdgaa
namespace Go.PV
open Go.ChangeShapes Go.WideShapes Go.ChangeAt Go.RowKit
theorem five_of {α:Type} {l:List α} (h:l.length = 5):∃ a b c d e,l = [a,b,c,d,e]:=by
 match l,h with
 | [a,b,c,d,e],_=>exact ⟨a,b,c,d,e,rfl⟩
theorem two_of {α:Type} {l:List α} (h:l.length = 2):∃ a b,l = [a,b]:=by
 match l,h with
 | [a,b],_=>exact ⟨a,b,rfl⟩
theorem open_int5 {P:Program} {H:Type} {enc:TypeId × Value → H} {W:World} {fuel:Nat} {cs:List Value} {x:DataW H × List MemPlace} {tc ti:TypeId} {f0 f1 f2 f3 f4:Field} (hu:P.underlying tc = some (.struct #[f0,f1,f2,f3,f4])) (hc:P.cellsOf tc = 5)
  (hi:P.underlying ti = some (.int .i64)) (hci:P.cellsOf ti = 1) (h0:f0.type = ti ∧ f0.offset = 0) (h1:f1.type = ti ∧ f1.offset = 1) (h2:f2.type = ti ∧ f2.offset = 2) (h3:f3.type = ti ∧ f3.offset = 3) (h4:f4.type = ti ∧ f4.offset = 4)
  (h:DataW.trod enc P W 0 (fun _=>true) true fuel tc cs = some x):∃ a b c d e:Int,cs = [.int .i64 a,.int .i64 b,.int .i64 c,.int .i64 d,.int .i64 e]:=by
 obtain ⟨xs,n,_,rfl,hl,hlen,hf⟩:=DataW.trod_struct hu h
 rw [hc] at hl
 obtain ⟨v0,v1,v2,v3,v4,rfl⟩:=five_of hl
 have hxl:xs.length = 5:=hlen
 have key:∀ (i:Nat) (f:Field),#[f0,f1,f2,f3,f4][i]? = some f → i < 5 → f.type = ti → ∃ z:Int,(([v0,v1,v2,v3,v4].drop f.offset).take 1) = [.int .i64 z]:=fun i f hif h5 ht=>by
  have q:=hf i f hif
  rw [List.getElem?_eq_getElem (show i < xs.length by omega),ht,hci] at q
  obtain ⟨z,hz,_,_⟩:=DataW.trod_int hi q
  exact ⟨z,hz⟩
 obtain ⟨z0,e0⟩:=key 0 f0 rfl (by omega) h0.1
 obtain ⟨z1,e1⟩:=key 1 f1 rfl (by omega) h1.1
 obtain ⟨z2,e2⟩:=key 2 f2 rfl (by omega) h2.1
 obtain ⟨z3,e3⟩:=key 3 f3 rfl (by omega) h3.1
 obtain ⟨z4,e4⟩:=key 4 f4 rfl (by omega) h4.1
 rw [h0.2] at e0
 rw [h1.2] at e1
 rw [h2.2] at e2
 rw [h3.2] at e3
 rw [h4.2] at e4
 simp at e0 e1 e2 e3 e4
 exact ⟨z0,z1,z2,z3,z4,by rw [e0,e1,e2,e3,e4]⟩
theorem open_struct2 {P:Program} {H:Type} {enc:TypeId × Value → H} {W:World} {t:TypeId} {f0 f1:Field} {v:Value} {d:DataW H} {p:List MemPlace} (ht:P.underlying t = some (.struct #[f0,f1])) (hc:P.cellsOf t = 2) (c0:P.cellsOf f0.type = 1) (c1:P.cellsOf f1.type = 1) (o0:f0.offset = 0) (o1:f1.offset = 1)
  (hval:Value.okWide P W .any 0 t v) (h:DataW.Trod enc P W 0 (fun _=>true) true t v d p):∃ u0 u1 n y0 y1,v = .agg #[u0,u1] ∧ DataW.trod enc P W 0 (fun _=>true) true n f0.type [u0] = some y0 ∧ DataW.trod enc P W 0 (fun _=>true) true n f1.type [u1] = some y1:=by
 obtain ⟨cs,rfl,hs⟩:=okWide_struct ht hval
 obtain ⟨fuel,hf⟩:=h
 obtain ⟨y0,y1,n,_,hl,e0,e1⟩:=trod_struct2 ht hf
 obtain ⟨l⟩:=cs
 rw [hc] at hs
 obtain ⟨u0,u1,rfl⟩:=two_of (show l.length = 2 from hs)
 simp [Value.cells,o0,o1,c0,c1] at e0 e1
 exact ⟨u0,u1,n,y0,y1,rfl,e0,e1⟩
end Go.PV
namespace Go.Proofs.Ythginmfobikdgaa
open Go.PV Go.ChangeShapes Go.WideShapes Go.ChangeAt Go.RowKit
section
variable {H:Type} {enc:TypeId × Value → H}
theorem open_call {W:World} {fuel:Nat} {cs:List Value} {x:DataW H × List MemPlace} (h:DataW.trod enc Try.prog W 0 (fun _=>true) true fuel 78 cs = some x):∃ c:CallI,cs = [.int .i64 c.fn,.int .i64 c.blk,.int .i64 c.ins,.int .i64 c.cal,.int .i64 c.cnt]:=by
 obtain ⟨a,b,c,d,e,rfl⟩:=open_int5 u_call c_call u_int c_int ⟨rfl,rfl⟩ ⟨rfl,rfl⟩ ⟨rfl,rfl⟩ ⟨rfl,rfl⟩ ⟨rfl,rfl⟩ h
 exact ⟨⟨a,b,c,d,e⟩,rfl⟩
theorem open_calls {W:World} {fuel:Nat} {cs:List Value} {x:DataW H × List MemPlace} (h:DataW.trod enc Try.prog W 0 (fun _=>true) true fuel 74 cs = some x):∃ (l:List CallI) (v:Value),cs = [v] ∧ l.length ≤ maxLen ∧ R (allI W) noR (.sl (encL l)) v:=by
 rcases DataW.trod_slice u_calls h with ⟨hcs,_⟩ | ⟨a,len0,cap0,elems,rest,n,_,hcs,_,_,hl,hm,hlen,hel,_,_⟩
 ·exact ⟨[],_,hcs,Nat.zero_le _,.slNil _ _⟩
 ·refine (?_:∃ (l:List CallI),l.length ≤ maxLen ∧ R (allI W) noR (.sl (encL l)) (.slice (some a) len0 cap0)).elim (fun l h=>⟨l,_,hcs,h.1,h.2⟩)
  have hex:∀ i,i < len0 → ∃ c:CallI,∀ j,j < 5 → W.cell? ((a.add (i * 5)).add j) = [Value.int .i64 c.fn,.int .i64 c.blk,.int .i64 c.ins,.int .i64 c.cal,.int .i64 c.cnt][j]?:=fun i hi=>by
   have h1:=hel i hi
   rw [List.getElem?_eq_getElem (by omega),c_call,Option.bind_eq_some_iff] at h1
   obtain ⟨cs',hcs',hy⟩:=h1
   obtain ⟨c,rfl⟩:=open_call hy
   exact ⟨c,fun j hj=>(World.cells?_some hcs').2.2 j hj⟩
  let L:Nat → CallI:=fun i=>if hi:i < len0 then (hex i hi).choose else default
  have hL:∀ i,i < len0 → ∀ j,j < 5 → W.cell? ((a.add (i * 5)).add j) = [Value.int .i64 (L i).fn,.int .i64 (L i).blk,.int .i64 (L i).ins,.int .i64 (L i).cal,.int .i64 (L i).cnt][j]?:=fun i hi=>by
   simp only [L,hi,dif_pos]; exact (hex i hi).choose_spec
  refine ⟨(List.range len0).map L,by simp; omega,?_⟩
  cases hlz:len0 with
  | zero=>simpa [encL] using R.slNil (I:=allI W) (ρ:=noR) (some a) cap0
  | succ q =>
   obtain ⟨b,off,sp⟩:=a
   have hs:sp = Option.none:=by
    have h0:=hL 0 (by omega) 0 (by omega)
    simp [Addr.add] at h0
    exact World.cell?_spot h0
   subst hs
   rw [← hlz]
   have hrow:∀ (i:Nat) (row:List PV),(encL ((List.range len0).map L))[i]? = some row → i < len0 ∧ row = (L i).row:=fun i row hi=>by
    have hlt:i < len0:=by have:=(List.getElem?_eq_some_iff.1 hi).1; simpa [encL] using this
    refine ⟨hlt,?_⟩
    simp only [encL,List.map_map,List.getElem?_map,List.getElem?_range hlt,Option.map_some,Option.some.injEq] at hi
    exact hi.symm
   have:=R.sl (I:=allI W) (ρ:=noR) (encL ((List.range len0).map L)) b off 5 cap0 (fun i j=>[Value.int .i64 (L i).fn,.int .i64 (L i).blk,.int .i64 (L i).ins,.int .i64 (L i).cal,.int .i64 (L i).cnt].getD j Go.undef) (by simp [encL]; omega) (fun row hr=>by
    obtain ⟨i,hi⟩:=List.mem_iff_getElem?.1 hr
    rw [(hrow i row hi).2]; rfl) (fun i row j p hi hj=>by
    obtain ⟨hlt,rfl⟩:=hrow i row hi
    have hj5:j < 5:=by have:=(List.getElem?_eq_some_iff.1 hj).1; simpa [CallI.row] using this
    have:=hL i hlt j hj5
    rw [add_plain,add_plain] at this
    show W.cell? _ = _
    rw [this,List.getD_eq_getElem?_getD,List.getElem?_eq_getElem (by simpa using hj5)]; rfl) (fun i row j p hi hj=>by
    obtain ⟨hlt,rfl⟩:=hrow i row hi
    have hj5:j < 5:=by have:=(List.getElem?_eq_some_iff.1 hj).1; simpa [CallI.row] using this
    match j,hj5 with
    | 0,_=>simp [CallI.row] at hj; subst hj; exact .int _ _
    | 1,_=>simp [CallI.row] at hj; subst hj; exact .int _ _
    | 2,_=>simp [CallI.row] at hj; subst hj; exact .int _ _
    | 3,_=>simp [CallI.row] at hj; subst hj; exact .int _ _
    | 4,_=>simp [CallI.row] at hj; subst hj; exact .int _ _)
   simpa [encL] using this
set_option maxRecDepth 100000 in
theorem open_arg_graph {W:World} {v:Value} {d:DataW H} {p:List MemPlace} (hval:Value.okWide Try.prog W .any 0 76 v) (h:DataW.Trod enc Try.prog W 0 (fun _=>true) true 76 v d p) :
  ∃ (ents:List Int) (calls:List CallI),R (allI W) noR (.agg [.sl (ints ents),.sl (encL calls)]) v:=by
 obtain ⟨u0,u1,n,y0,y1,rfl,e0,e1⟩:=open_struct2 u_graph c_graph c_ints c_calls rfl rfl hval h
 obtain ⟨ents,w0,h0,_,_,h1⟩:=open_cells_ints u_ints u_int c_int e0
 obtain ⟨calls,w1,h2,_,h3⟩:=open_calls e1
 obtain rfl:u0 = w0:=by simpa using h0
 obtain rfl:u1 = w1:=by simpa using h2
 refine ⟨ents,calls,.agg _ _ rfl (fun j p hj=>?_)⟩
 match j,hj with
 | 0,hj=>cases hj; exact h1
 | 1,hj=>cases hj; exact h3
 | j + 2,hj=>simp at hj
end
end Go.Proofs.Ythginmfobikdgaa

set_option linter.unusedSimpArgs false
set_option linter.unusedVariables false
namespace Go.Proofs.Ythginmfobikdgaa
open Go.PV
theorem stb_pair {α:Type} {lt:α → α → Bool} (hw:Weak lt) {l r:List α} (h:Stb lt l r) {S:α → α → Prop} (hl:l.Pairwise S):r.Pairwise (fun a b=>alike lt a b = true → S a b):=by
 rw [List.pairwise_iff_forall_sublist]
 intro a b hab hal
 have h1:([a,b].filter (alike lt a)).Sublist (r.filter (alike lt a)):=hab.filter _
 have h2:[a,b].filter (alike lt a) = [a,b]:=by simp [List.filter_cons,alike_self hw a,hal]
 rw [h2,h.f] at h1
 exact List.pairwise_iff_forall_sublist.1 hl (h1.trans List.filter_sublist)
theorem perm_sum {l m:List Int} (h:l.Perm m):l.sum = m.sum:=by
 induction h with
 | nil=>rfl
 | cons x _ ih=>rw [List.sum_cons,List.sum_cons,ih]
 | swap x y l=>simp only [List.sum_cons]; omega
 | trans _ _ h1 h2=>rw [h1,h2]
def posC (c:CallI):Int:=if c.cnt > 0 then c.cnt else 0
def sumC (l:List CallI) (k:Nat):Int:=((l.take k).map fun c=>c.cnt).sum
def allC (l:List CallI) (k:Nat):Int:=((l.take k).map posC).sum
theorem sum_take {f:CallI → Int} {l:List CallI} {k:Nat} (h:k < l.length):((l.take (k + 1)).map f).sum = ((l.take k).map f).sum + f (l.getD k default):=by
 rw [List.take_add_one,List.getElem?_eq_getElem h,Option.toList_some,List.map_append,List.sum_append,List.getD_eq_getElem?_getD,List.getElem?_eq_getElem h]
 simp
theorem pos_filter (l:List CallI):((l.filter fun c=>decide (0 < c.cnt)).map fun c=>c.cnt).sum = (l.map posC).sum:=by
 induction l with
 | nil=>rfl
 | cons c l ih =>
  rw [List.map_cons,List.sum_cons,List.filter_cons]
  unfold posC
  by_cases h:0 < c.cnt
  ·rw [if_pos (by simpa using h),if_pos h,List.map_cons,List.sum_cons,ih]
   unfold posC; rfl
  ·rw [if_neg (by simpa using h),if_neg h,ih]
   unfold posC; omega
structure HotP (calls H:List CallI):Prop where
 len:H.length ≤ calls.length
 pos:∀ i,i < H.length → 1 ≤ (H.getD i default).cnt ∧ (H.getD i default).cnt ≤ 4
 ord:∀ i,i + 1 < H.length → (H.getD (i + 1) default).cnt ≤ (H.getD i default).cnt ∧ ((H.getD i default).cnt = (H.getD (i + 1) default).cnt → (H.getD i default).ins < (H.getD (i + 1) default).ins)
 sum:sumC H H.length = allC calls calls.length
theorem getC {l:List CallI} {i:Nat} (h:i < l.length):l.getD i default = l[i]:=by
 rw [List.getD_eq_getElem?_getD,List.getElem?_eq_getElem h,Option.getD_some]
theorem hot_plain {calls:List CallI} (hc:∀ c ∈ calls,c.cnt ≤ 4) (hi:calls.Pairwise (fun c d=>c.ins < d.ins)):HotP calls (hotV calls):=by
 have hs:Stb hotter (calls.filter fun c=>decide (0 < c.cnt)) (hotV calls):=stb_all hot_weak _
 refine ⟨?_,fun i h=>?_,fun i h=>?_,?_⟩
 ·rw [hs.len]; exact List.length_filter_le _ _
 ·have hm:(hotV calls).getD i default ∈ calls.filter fun c=>decide (0 < c.cnt):=by
   rw [getC h]; exact hs.p.mem_iff.1 (List.getElem_mem h)
  have h1:=List.mem_filter.1 hm
  have h2:=of_decide_eq_true h1.2
  exact ⟨by omega,hc _ h1.1⟩
 ·have h1:=List.pairwise_iff_getElem.1 hs.s i (i + 1) (by omega) h (by omega)
  have h2:=List.pairwise_iff_getElem.1 (stb_pair hot_weak hs (hi.sublist List.filter_sublist)) i (i + 1) (by omega) h (by omega)
  rw [getC h,getC (show i < _ by omega)]
  have h3:¬ (hotV calls)[i].cnt < (hotV calls)[i + 1].cnt:=by simpa [hotter] using h1
  refine ⟨by omega,fun e=>h2 ?_⟩
  simp [alike,hotter,e]
 ·unfold sumC allC
  rw [List.take_length,List.take_length,perm_sum (hs.p.map _),pos_filter]
theorem sumC_lo {l:List CallI} {k:Nat} (hk:k ≤ l.length) (h:∀ i,i < l.length → 1 ≤ (l.getD i default).cnt ∧ (l.getD i default).cnt ≤ 4):0 ≤ sumC l k ∧ sumC l k ≤ 4 * k:=by
 induction k with
 | zero=>simp [sumC]
 | succ k ih =>
  have h1:=ih (by omega)
  have h2:=h k (by omega)
  unfold sumC at h1 ⊢
  rw [sum_take (by omega)]
  omega
theorem allC_lo {l:List CallI} {k:Nat} (hk:k ≤ l.length) (h:∀ c ∈ l,c.cnt ≤ 4):0 ≤ allC l k ∧ allC l k ≤ 4 * k:=by
 induction k with
 | zero=>simp [allC]
 | succ k ih =>
  have h1:=ih (by omega)
  have h2:(l.getD k default).cnt ≤ 4:=by rw [getC (show k < l.length by omega)]; exact h _ (List.getElem_mem _)
  unfold allC at h1 ⊢
  rw [sum_take (by omega)]
  have:0 ≤ posC (l.getD k default) ∧ posC (l.getD k default) ≤ 4:=by unfold posC; split <;> omega
  omega
theorem newH (l:List Int) (n:Nat) (σ:Store):PCall Try.prog 19 [.sl (PV.encI .u8 l),.int .i64 n] σ (fun p σ'=>p = .ptr σ.length 0 0 0 ∧ σ' = σ ++ [codes (l.take n) 0]):=by
 refine PCall.vraw [] 287 15 [.tmp 4] (noE_ok _) mix Try.func19 rfl (by decide) rfl rfl (by simp) ?_
 simp -dsimp only [initFr,List.zipIdx_cons,List.zipIdx_nil,List.map_cons,List.map_nil,Nat.zero_add,Nat.reduceAdd]
 simp -dsimp (maxSteps:=4000000) +contextual (disch:=first | omega | decide +kernel) only [↓vsD,vsE,↓Nat.reduceLT,simprocAttr,enc_length,enc_all,enc_take]
 exact ⟨fun h=>rfl,fun h=>by rw [List.take_of_length_le (show l.length ≤ n by omega)]; rfl⟩
end Go.Proofs.Ythginmfobikdgaa

set_option linter.unusedSimpArgs false
set_option linter.unusedVariables false
namespace Go.Proofs.Ythginmfobikdgaa
open Go.PV
structure HD (cs:List Int) (s:Nat × Nat × List CallI):Prop where
 r:s.1 ≤ 12
 k:s.2.1 ≤ cs.length
 len:s.2.2.length + s.1 ≤ 12
 cnt:∀ c ∈ s.2.2,c.cnt ≤ 4
 ins:s.2.2.Pairwise (fun c d=>c.ins < d.ins) ∧ ∀ c ∈ s.2.2,c.ins < s.2.2.length
theorem HD.next {cs:List Int} {r k k2:Nat} {q:List CallI} (h:HD cs (r,k,q)) (hr:0 < r) (hk:k2 ≤ cs.length) (c:CallI) (hc:c.ins = q.length) (h4:c.cnt ≤ 4):HD cs (r - 1,k2,q ++ [c]):=by
 have h1:=h.r
 have h2:=h.len
 have h3:=h.ins
 dsimp only at h1 h2 h3
 refine ⟨by dsimp only; omega,hk,by simp; omega,fun d hd=>?_,?_,fun d hd=>?_⟩
 ·rcases List.mem_append.1 hd with hd | hd
  ·exact h.cnt d hd
  ·rw [List.mem_singleton] at hd; rw [hd]; exact h4
 ·refine List.pairwise_append.2 ⟨h3.1,by simp,fun a ha d hd=>?_⟩
  rw [List.mem_singleton] at hd; subst hd
  rw [hc]; exact h3.2 a ha
 ·show d.ins < ((q ++ [_]).length:Int)
  rw [List.length_append,List.length_singleton]
  rcases List.mem_append.1 hd with hd | hd
  ·have:=h3.2 d hd; omega
  ·rw [List.mem_singleton] at hd; rw [hd,hc]; omega
theorem frz_two {zs:List Nat} {σ:Store} {a b a2 b2:PV} (ha:Frzn zs σ a a2) (hb:Frzn zs σ b b2) {row:List PV} {j:Nat} {p:PV} (hi:some [a,b] = some row) (hj:row[j]? = some p):Frzn zs σ p ([a2,b2].getD j .unk):=by
 cases hi
 match j,hj with
 | 0,hj=>cases hj; exact ha
 | 1,hj=>cases hj; exact hb
 | j + 2,hj=>simp at hj
theorem hotV_le (l:List CallI):(hotV l).length ≤ l.length:=by
 unfold hotV
 rw [stb_len]
 exact List.length_filter_le _ _
def hdS (gb:Go.PV.Obj) (cs:List Int) (k:Nat):List CallI → Store
 | []=>[gb,codes cs k,.rows 76 2 [[.nils,.nils]] 0]
 | c :: q=>[gb,codes cs k,.rows 76 2 [[.nils,.msl 3 q.length]] 0,.rows 78 5 (encL (c :: q)) q.length]
set_option maxRecDepth 8000 in
set_option maxHeartbeats 16000000 in
theorem hottest33_ok (l:List Int) (hl:okInts .u8 l) (ents:List Int) (cl:List CallI):PCall Try.prog 9 [.sl (PV.encI .u8 l),grV (.sl (ints ents)) cl] [] (fun q _=>q = .bool true):=by
 have hcl:okInts .u8 (l.take 200):=fun x hx=>hl x (List.mem_of_mem_take hx)
 have hcn:(l.take 200).length < 2 ^ 40:=by rw [List.length_take]; omega
 obtain ⟨cs,hcs⟩:∃ cs,cs = l.take 200:=⟨_,rfl⟩
 have hnew:=fun σ=>newH l 200 σ
 rw [← hcs] at hcl hcn
 simp only [← hcs] at hnew
 have k0:∀ args σ,nx.f 17 args σ = none:=fun _ _=>rfl
 have k1:∀ args σ,nx.f 19 args σ = none:=fun _ _=>rfl
 have k2:∀ args σ,nx.f 36 args σ = none:=fun _ _=>rfl
 have k3:∀ args σ,nx.f 37 args σ = none:=fun _ _=>rfl
 have k4:∀ args σ,nx.f 35 args σ = none:=fun _ _=>rfl
 unfold grV
 refine PCall.vfrz [] 718676358937022034844166231269888174882815 154 [.tmp 4] nx_ok mix Try.func9 rfl (by decide) rfl rfl (by simp) ?_
 simp -dsimp only [initFr,List.zipIdx_cons,List.zipIdx_nil,List.map_cons,List.map_nil,Nat.zero_add,Nat.reduceAdd]
 simp -dsimp (maxSteps:=4000000) +contextual (disch:=first | omega | decide +kernel) only [↓vsD,vsE,↓Nat.reduceLT,simprocAttr,nx_next,exNextO_codes,k0]
 refine PCall.mono (awake33_on _) ?_
 rintro p σ' ⟨rfl,rfl⟩
 by_cases hgl:60 < cl.length
 ·simp -dsimp (maxSteps:=4000000) +contextual (disch:=first | omega | decide +kernel) only [↓vsD,vsE,↓Nat.reduceLT,simprocAttr,nx_next,exNextO_codes,k0,k1,encL_length,vcel]
  exact fin0 (.keep _ (bel_bool _ _)) rfl
 ·simp -dsimp (maxSteps:=4000000) +contextual (disch:=first | omega | decide +kernel) only [↓vsD,vsE,↓Nat.reduceLT,simprocAttr,nx_next,exNextO_codes,k0,k1,encL_length,vcel]
  refine PCall.mono (hnew _) ?_
  rintro p σ' ⟨rfl,rfl⟩
  have d0:=nxt_lt hcl 0 12 (by omega)
  have g0:=nxt_le (Nat.zero_le cs.length) 12
  obtain ⟨r,hr⟩:∃ r:Nat,(r:Int) = (nxt cs 0 12).1:=⟨(nxt cs 0 12).1.toNat,by omega⟩
  obtain ⟨kx,hkx⟩:∃ kx,kx = (nxt cs 0 12).2:=⟨_,rfl⟩
  rw [← hkx] at g0
  simp -dsimp (maxSteps:=4000000) +contextual (disch:=first | omega | decide +kernel) only [↓vsD,vsE,↓Nat.reduceLT,simprocAttr,nx_next,exNextO_codes,k0,k1,encL_length,vcel,hcl,← hr,← hkx]
  refine v_loopS (fun s:Nat × Nat × List CallI=>[(3,.ptr 0 0 0 0),(5,.ptr 1 0 0 0),(6,.ptr 2 0 0 0),(7,.int .i64 s.1)])
   (fun s=>hdS (.rows 76 2 [[.sl (ints ents),.sl (encL cl)]] 0) cs s.2.1 s.2.2)
   (fun s=>HD cs s) (fun s=>s.1) (r,kx,[]) (by simp [weaker,Go.PV.look]) rfl ⟨by dsimp only; omega,g0,by simp; omega,by simp,by simp,by simp⟩ ?_
  rintro ⟨r,k,q⟩ hQ
  have hr12:=hQ.r
  have hk:=hQ.k
  have hql:=hQ.len
  dsimp only at hr12 hk hql ⊢
  by_cases hr0:0 < r
  ·have d1:=nxt_lt hcl k 4 (by omega)
   have g1:=nxt_le hk 4
   obtain ⟨k1,hk1⟩:∃ k1,k1 = (nxt cs k 4).2:=⟨_,rfl⟩
   obtain ⟨f1,hf1⟩:∃ f1,f1 = (nxt cs k 4).1:=⟨_,rfl⟩
   rw [← hf1] at d1
   rw [← hk1] at g1
   have d2:=nxt_lt hcl k1 3 (by omega)
   have g2:=nxt_le g1 3
   obtain ⟨k2,hk2⟩:∃ k2,k2 = (nxt cs k1 3).2:=⟨_,rfl⟩
   obtain ⟨f2,hf2⟩:∃ f2,f2 = (nxt cs k1 3).1:=⟨_,rfl⟩
   rw [← hf2] at d2
   rw [← hk2] at g2
   have d3:=nxt_lt hcl k2 4 (by omega)
   have g3:=nxt_le g2 4
   obtain ⟨k3,hk3⟩:∃ k3,k3 = (nxt cs k2 4).2:=⟨_,rfl⟩
   obtain ⟨f3,hf3⟩:∃ f3,f3 = (nxt cs k2 4).1:=⟨_,rfl⟩
   rw [← hf3] at d3
   rw [← hk3] at g3
   have d4:=nxt_lt hcl k3 6 (by omega)
   have g4:=nxt_le g3 6
   obtain ⟨k4,hk4⟩:∃ k4,k4 = (nxt cs k3 6).2:=⟨_,rfl⟩
   obtain ⟨f4,hf4⟩:∃ f4,f4 = (nxt cs k3 6).1:=⟨_,rfl⟩
   rw [← hf4] at d4
   rw [← hk4] at g4
   have hrc:((r - 1:Nat):Int) = (r:Int) - 1:=by omega
   cases q with
   | nil =>
    have fin:=hQ.next hr0 g4 ⟨f1,f2,0,f3,f4 - 1⟩ rfl (by dsimp only; omega)
    dsimp only [hdS]
    simp -dsimp (maxSteps:=4000000) +contextual (disch:=first | omega | decide +kernel) only [↓vsD,vsE,↓Nat.reduceLT,simprocAttr,nx_next,exNextO_codes,hcl]
    refine v_draws _ _ _ _ _ _ [3,5,10,12,16,18] [] [(0,4),(0,4),(0,0),(0,0),(0,1),(0,0),(0,4),(0,4),(0,4),(0,2),(0,0),(0,3),(0,0),(4,4),(4,4),(4,4),(0,0),(5,5),(0,0)] (by decide +kernel) (by decide +kernel) (by decide +kernel) (by decide +kernel) ?_
    simp -dsimp (maxSteps:=4000000) +contextual (disch:=first | omega | decide +kernel) only [↓vsD,vsE,↓Nat.reduceLT,simprocAttr,nx_next,exNextO_codes,vdA,↓vd_end,↓vdm_go,↓vd_op,↓guard_none,↓guard_some,hcl,← hk1,← hk2,← hk3,← hk4,← hf1,← hf2,← hf3,← hf4]
    exact ⟨(r - 1,k4,[⟨f1,f2,0,f3,f4 - 1⟩]),(by (try dsimp only); omega),by simp [weaker,Go.PV.look,hrc],rfl,fin⟩
   | cons c q =>
    have fin:=hQ.next hr0 g4 ⟨f1,f2,((q.length + 1:Nat):Int),f3,f4 - 1⟩ rfl (by dsimp only; omega)
    dsimp only [hdS]
    simp -dsimp (maxSteps:=4000000) +contextual (disch:=first | omega | decide +kernel) only [↓vsD,vsE,↓Nat.reduceLT,simprocAttr,nx_next,exNextO_codes,hcl]
    refine v_draws _ _ _ _ _ _ [3,5,10,12,16,18] [] [(0,4),(0,4),(0,0),(0,0),(0,1),(0,0),(0,4),(0,4),(0,4),(0,2),(0,0),(0,3),(0,0),(4,4),(4,4),(4,4),(0,0),(5,5),(0,0)] (by decide +kernel) (by decide +kernel) (by decide +kernel) (by decide +kernel) ?_
    simp -dsimp (maxSteps:=4000000) +contextual (disch:=first | omega | decide +kernel) only [↓vsD,vsE,↓Nat.reduceLT,simprocAttr,nx_next,exNextO_codes,vdA,↓vd_end,↓vdm_go,↓vd_op,↓guard_none,↓guard_some,hcl,← hk1,← hk2,← hk3,← hk4,← hf1,← hf2,← hf3,← hf4,encL_length]
    have hb:(q.length + 1 + 1) * 40 ≤ maxBytes:=by simp only [maxBytes]; simp at hql; omega
    have hm:q.length + 1 + 1 ≤ maxLen:=by simp only [maxLen]; simp at hql; omega
    exact ⟨hb,hm,(r - 1,k4,c :: (q ++ [(⟨f1,f2,((q.length + 1:Nat):Int),f3,f4 - 1⟩:CallI)])),(by (try dsimp only); omega),by simp [weaker,Go.PV.look,hrc],by simp [encL,CallI.row,hdS],fin⟩
  ·obtain rfl:r = 0:=by omega
   have hcnt:=hQ.cnt
   have hins:=hQ.ins.1
   dsimp only at hcnt hins
   clear hQ
   obtain ⟨gb,hgb⟩:∃ gb,gb = Go.PV.Obj.rows 76 2 [[.sl (ints ents),.sl (encL cl)]] 0:=⟨_,rfl⟩
   obtain ⟨V,Y,hst,hVc,hV⟩:∃ (V:PV) (Y:Store),hdS gb cs k q = (gb :: codes cs k :: .rows 76 2 [[.nils,V]] 0 :: Y:Store) ∧ PV.cell V = true ∧ Frzn [2,3] (gb :: codes cs k :: .rows 76 2 [[.nils,V]] 0 :: Y) V (.sl (encL q)):=by
    cases q with
    | nil=>exact ⟨.nils,[],rfl,rfl,.nils⟩
    | cons c q=>exact ⟨.msl 3 q.length,[_],rfl,rfl,.msl0 (by simp) rfl⟩
   rw [← hgb,hst,hgb]
   rw [hgb] at hV
   clear hst hgb gb
   have hP:=hot_plain hcnt hins
   simp -dsimp (maxSteps:=4000000) +contextual (disch:=first | omega | decide +kernel) only [↓vsD,vsE,↓Nat.reduceLT,simprocAttr,nx_next,exNextO_codes,vcel,hVc]
   obtain ⟨Q,hQ⟩:∃ Q:Store,Q = .rows 76 2 [[.sl (ints ents),.sl (encL cl)]] 0 :: codes cs k :: .rows 76 2 [[.nils,V]] 0 :: Y:=⟨_,rfl⟩
   rw [← hQ] at hV ⊢
   obtain ⟨W,hW⟩:∃ W,W = killZ [2,3] Q:=⟨_,rfl⟩
   refine v_loopF (fun s:Nat × Store=>[(6,.iptr [.sl [],.sl (encL q)] 0),(55,.sl [[.sl (ints ents),.sl (encL cl)],[.sl [],.sl (encL q)]]),(56,.int .i64 2),(57,.int .i64 s.1)]) (fun s=>W ++ s.2) (fun s=>s.1 ≤ 2) (fun s=>2 - s.1) (0,[]) ⟨[2,3],by rw [hW]; simp,fun tv htv=>?_⟩ (by simp) ?_
   ·simp only [List.mem_cons,List.not_mem_nil,or_false] at htv
    rcases htv with rfl | rfl | rfl | rfl
    ·refine .ptr 2 0 0 0 _ _ _ [.nils,V] _ (by simp) (by rw [hQ]; rfl) rfl rfl (fun j p hj=>?_)
     match j,hj with
     | 0,hj=>cases hj; exact .nils
     | 1,hj=>cases hj; exact hV
     | j + 2,hj=>simp at hj
    ·refine .sl [[.sl (ints ents),.sl (encL cl)],[.nils,V]] _ rfl (fun i row hi=>?_) (fun i row j p hi hj=>?_)
     ·match i,hi with
      | 0,hi=>cases hi; rfl
      | 1,hi=>cases hi; rfl
      | i + 2,hi=>simp at hi
     ·match i,hi with
      | 0,hi=>exact frz_two (.keep _) (.keep _) hi hj
      | 1,hi=>exact frz_two .nils hV hi hj
      | i + 2,hi=>simp at hi
    ·exact .keep _
    ·exact .keep _
   rintro ⟨i,Z⟩ hi
   dsimp only at hi ⊢
   have c0:=hot_on (.sl (ints ents)) cl rfl (bel_ints _ _) (by omega)
   have c1:=rhot_on (.sl (ints ents)) cl rfl (bel_ints _ _) (by omega)
   have c2:=hot_on (.sl []) q rfl (bel_sl (by simp)) (by omega)
   have c3:=rhot_on (.sl []) q rfl (bel_sl (by simp)) (by omega)
   have l0:=hotV_le cl
   have l1:=hotV_le q
   have s0:=sameC_ok (hotV cl) (by omega)
   have s1:=sameC_ok (hotV q) (by omega)
   unfold grV at c0 c1 c2 c3
   have hg:∀ x,(W ++ Z ++ [x])[W.length + Z.length]? = some x:=fun x=>by rw [← List.length_append,List.getElem?_concat_length]
   rcases (show i = 0 ∨ i = 1 ∨ i = 2 by omega) with rfl | rfl | rfl
   ·simp -dsimp (maxSteps:=4000000) +contextual (disch:=first | omega | decide +kernel) only [↓vsD,vsE,↓Nat.reduceLT,simprocAttr,nx_next,exNextO_codes,vcel]
    refine v_draws _ _ _ _ _ _ [1,3,4] [] [(0,0),(0,0),(0,1),(0,0),(0,0),(3,3)] (by decide +kernel) (by decide +kernel) (by decide +kernel) (by decide +kernel) ?_
    simp -dsimp (maxSteps:=4000000) +contextual (disch:=first | omega | decide +kernel) only [↓vsD,vsE,↓Nat.reduceLT,simprocAttr,nx_next,exNextO_codes,vdA,↓vd_end,↓vdm_go,↓vd_op,↓guard_none,↓guard_some,k2,k3,k4,vcel,hg]
    refine ⟨_,_,c0 _,by simp [outR,rowsAt],?_⟩
    simp -dsimp (maxSteps:=4000000) +contextual (disch:=first | omega | decide +kernel) only [↓vsD,vsE,↓Nat.reduceLT,simprocAttr,nx_next,exNextO_codes,vdA,↓vd_end,↓vdm_go,↓vd_op,↓guard_none,↓guard_some,k2,k3,k4,vcel,hg]
    refine ⟨_,_,c1 _,by simp [outR,rowsAt],?_⟩
    simp -dsimp (maxSteps:=4000000) +contextual (disch:=first | omega | decide +kernel) only [↓vsD,vsE,↓Nat.reduceLT,simprocAttr,nx_next,exNextO_codes,vdA,↓vd_end,↓vdm_go,↓vd_op,↓guard_none,↓guard_some,k2,k3,k4,vcel,hg]
    refine ⟨_,_,s0 _,by simp [outR,rowsAt],?_⟩
    simp -dsimp (maxSteps:=4000000) +contextual (disch:=first | omega | decide +kernel) only [↓vsD,vsE,↓Nat.reduceLT,simprocAttr,nx_next,exNextO_codes,vdA,↓vd_end,↓vdm_go,↓vd_op,↓guard_none,↓guard_some,k2,k3,k4,vcel,hg]
    exact ⟨(0 + 1,Z ++ [.rows 76 2 [[.sl (ints ents),.sl (encL cl)]] 0]),by dsimp only; omega,by dsimp only; rw [List.append_assoc]; exact frzTo_weaker (by simp [weaker,Go.PV.look]),by dsimp only; omega⟩
   ·simp -dsimp (maxSteps:=4000000) +contextual (disch:=first | omega | decide +kernel) only [↓vsD,vsE,↓Nat.reduceLT,simprocAttr,nx_next,exNextO_codes,vcel]
    refine v_draws _ _ _ _ _ _ [1,3,4] [] [(0,0),(0,0),(0,1),(0,0),(0,0),(3,3)] (by decide +kernel) (by decide +kernel) (by decide +kernel) (by decide +kernel) ?_
    simp -dsimp (maxSteps:=4000000) +contextual (disch:=first | omega | decide +kernel) only [↓vsD,vsE,↓Nat.reduceLT,simprocAttr,nx_next,exNextO_codes,vdA,↓vd_end,↓vdm_go,↓vd_op,↓guard_none,↓guard_some,k2,k3,k4,vcel,hg]
    refine ⟨_,_,c2 _,by simp [outR,rowsAt],?_⟩
    simp -dsimp (maxSteps:=4000000) +contextual (disch:=first | omega | decide +kernel) only [↓vsD,vsE,↓Nat.reduceLT,simprocAttr,nx_next,exNextO_codes,vdA,↓vd_end,↓vdm_go,↓vd_op,↓guard_none,↓guard_some,k2,k3,k4,vcel,hg]
    refine ⟨_,_,c3 _,by simp [outR,rowsAt],?_⟩
    simp -dsimp (maxSteps:=4000000) +contextual (disch:=first | omega | decide +kernel) only [↓vsD,vsE,↓Nat.reduceLT,simprocAttr,nx_next,exNextO_codes,vdA,↓vd_end,↓vdm_go,↓vd_op,↓guard_none,↓guard_some,k2,k3,k4,vcel,hg]
    refine ⟨_,_,s1 _,by simp [outR,rowsAt],?_⟩
    simp -dsimp (maxSteps:=4000000) +contextual (disch:=first | omega | decide +kernel) only [↓vsD,vsE,↓Nat.reduceLT,simprocAttr,nx_next,exNextO_codes,vdA,↓vd_end,↓vdm_go,↓vd_op,↓guard_none,↓guard_some,k2,k3,k4,vcel,hg]
    exact ⟨(1 + 1,Z ++ [.rows 76 2 [[.sl [],.sl (encL q)]] 0]),by dsimp only; omega,by dsimp only; rw [List.append_assoc]; exact frzTo_weaker (by simp [weaker,Go.PV.look]),by dsimp only; omega⟩
   ·simp -dsimp (maxSteps:=4000000) +contextual (disch:=first | omega | decide +kernel) only [↓vsD,vsE,↓Nat.reduceLT,simprocAttr,nx_next,exNextO_codes,vcel,k2]
    refine PCall.mono (c2 _) ?_
    rintro p σ' ⟨rfl,rfl⟩
    obtain ⟨H,hH⟩:∃ H,H = hotV q:=⟨_,rfl⟩
    rw [← hH] at hP l1 ⊢
    have hp:=hP.pos
    have ho:=hP.ord
    have hs:=hP.sum
    simp -dsimp (maxSteps:=4000000) +contextual (disch:=first | omega | decide +kernel) only [↓vsD,vsE,↓Nat.reduceLT,simprocAttr,nx_next,exNextO_codes,vcel,k2]
    obtain ⟨R,hR⟩:∃ R,R = W ++ Z:=⟨_,rfl⟩
    rw [← hR]
    refine v_loopS (fun i:Nat=>[(6,.iptr [.sl [],.sl (encL q)] 0),(10,.sl (encL H)),(11,.int .i64 (sumC H i)),(12,.int .i64 0),(13,.int .i64 i)]) (fun _=>R) (fun i=>i ≤ H.length) (fun i=>H.length - i) 0 (by simp [weaker,Go.PV.look,sumC]) rfl (Nat.zero_le _) ?_
    intro i hi
    have hsi:=sumC_lo hi hp
    by_cases hil:i < H.length
    ·have h1:=hp i hil
     have hsn:sumC H (i + 1) = sumC H i + (H.getD i default).cnt:=sum_take hil
     cases i with
     | zero =>
      simp -dsimp (maxSteps:=4000000) +contextual (disch:=first | omega | decide +kernel) only [↓vsD,vsE,↓Nat.reduceLT,simprocAttr,nx_next,exNextO_codes,vcel,encL_length,encL_getD]
      exact ⟨1,(by (try dsimp only); omega),by simp [weaker,Go.PV.look,hsn],rfl,hil⟩
     | succ i =>
      have h2:=ho i hil
      have e1:(((i + 1:Nat):Int) - 1).toNat = i:=by omega
      have e2:((i + 1:Nat):Int) - 1 = i:=by omega
      by_cases heq:(H.getD i default).cnt = (H.getD (i + 1) default).cnt
      ·have h3:=h2.2 heq
       simp -dsimp (maxSteps:=4000000) +contextual (disch:=first | omega | decide +kernel) only [↓vsD,vsE,↓Nat.reduceLT,simprocAttr,nx_next,exNextO_codes,vcel,encL_length,encL_getD,e1,e2]
       exact ⟨i + 1 + 1,(by (try dsimp only); omega),by simp [weaker,Go.PV.look,hsn],rfl,hil⟩
      ·simp -dsimp (maxSteps:=4000000) +contextual (disch:=first | omega | decide +kernel) only [↓vsD,vsE,↓Nat.reduceLT,simprocAttr,nx_next,exNextO_codes,vcel,encL_length,encL_getD,e1,e2]
       exact ⟨i + 1 + 1,(by (try dsimp only); omega),by simp [weaker,Go.PV.look,hsn],rfl,hil⟩
    ·obtain rfl:i = H.length:=by omega
     simp -dsimp (maxSteps:=4000000) +contextual (disch:=first | omega | decide +kernel) only [↓vsD,vsE,↓Nat.reduceLT,simprocAttr,nx_next,exNextO_codes,vcel,encL_length]
     refine v_loopS (fun i:Nat=>[(6,.iptr [.sl [],.sl (encL q)] 0),(11,.int .i64 (sumC H H.length)),(12,.int .i64 (allC q i)),(14,.int .i64 i)]) (fun _=>R) (fun i=>i ≤ q.length) (fun i=>q.length - i) 0 (by simp [weaker,Go.PV.look,allC]) rfl (Nat.zero_le _) ?_
     intro i hi
     have hai:=allC_lo hi hcnt
     by_cases hil:i < q.length
     ·have hsn:allC q (i + 1) = allC q i + posC (q.getD i default):=sum_take hil
      have hc4:(q.getD i default).cnt ≤ 4:=by rw [getC hil]; exact hcnt _ (List.getElem_mem _)
      by_cases hpos:(q.getD i default).cnt > 0
      ·rw [posC,if_pos hpos] at hsn
       simp -dsimp (maxSteps:=4000000) +contextual (disch:=first | omega | decide +kernel) only [↓vsD,vsE,↓Nat.reduceLT,simprocAttr,nx_next,exNextO_codes,vcel,encL_length,encL_getD,hpos]
       exact ⟨i + 1,(by (try dsimp only); omega),by simp [weaker,Go.PV.look,hsn],rfl,hil⟩
      ·rw [posC,if_neg hpos] at hsn
       simp -dsimp (maxSteps:=4000000) +contextual (disch:=first | omega | decide +kernel) only [↓vsD,vsE,↓Nat.reduceLT,simprocAttr,nx_next,exNextO_codes,vcel,encL_length,encL_getD,hpos]
       exact ⟨i + 1,(by (try dsimp only); omega),by simp [weaker,Go.PV.look,hsn],rfl,hil⟩
     ·obtain rfl:i = q.length:=by omega
      simp -dsimp (maxSteps:=4000000) +contextual (disch:=first | omega | decide +kernel) only [↓vsD,vsE,↓Nat.reduceLT,simprocAttr,nx_next,exNextO_codes,vcel,encL_length,hs]
      exact fin0 (.keep _ (bel_bool _ _)) rfl
end Go.Proofs.Ythginmfobikdgaa

set_option linter.unusedSimpArgs false
set_option linter.unusedVariables false
namespace Go.Proofs.Ythginmfobikdgaa
open Go.PV Go.ChangeShapes Go.WideShapes Go.ChangeAt Go.RowKit
set_option maxRecDepth 100000 in
theorem hottest33_lifted (os:Os) (started:os.Started) (H:Type) (enc:TypeId × Value → H) :
  ReturnsInHanded {} Try.checked os 9 .any (Rows.callgraphHottestSpec.pre6 enc Try.prog Try.f9 Rows.callgraphHottestRow.domain false) (Rows.callgraphHottestSpec.post enc Try.prog Try.f9 false true false false):=by
 refine returnsInHanded_of_change (C:=Try.checked) own started (by kernel_rfl) Try.func9
  (ChangeSpec.witness6 (enc:=enc) (C:=Try.checked) false ⟨#[],#[.slice none 0 0,.agg #[.slice none 0 0,.slice none 0 0]],[]⟩ 8 (by kernel_rfl) (by kernel_rfl) (by kernel_rfl) (by kernel_rfl)) ?_
 intro W base args ds gs before hval hW _ _
 refine law_contract laidOut rfl rfl u_bool (by decide +kernel) ?_ ?_ W args ds gs before ?_ hW
 ·rintro (_ | ⟨d1,_ | ⟨d2,_ | _⟩⟩) h <;> first | rfl | (simp [Try.f9] at h)
 ·intro W args ds p hval hA
  obtain ⟨v0,v1,d0,d1,p0,p1,rfl,rfl,rfl,h0,h1⟩:=trodAll_two (t:=22) (t':=76) hA
  obtain ⟨l,hok,_,hR0⟩:=open_arg_ints u_bytes u_u8 c_u8 (hval 0 _ v0 rfl rfl) h0
  obtain ⟨ents,cl,hR1⟩:=open_arg_graph (hval 1 _ v1 rfl rfl) h1
  exact ⟨[.sl (PV.encI .u8 l),.agg [.sl (ints ents),.sl (encL cl)]],argsR_cons hR0 (argsR_cons hR1 (argsR_nil _ _)),hottest33_ok l hok ents cl⟩
 ·exact fun j t v h1 h2=>hval j t v h1 h2
theorem hottest33_holds:Rows.CallgraphHottestSaid :=
 OpenClaim.holds_of_wide 9 Try.f9 rfl rfl rfl rfl rfl rfl rfl ⟨rfl,rfl,rfl,rfl,rfl⟩ rfl rfl rfl rfl rfl (by kernel_rfl) Try.func9 (by kernel_rfl)
  (of_decide_eq_true (by kernel_rfl)) (by unfold Func.isWrapper; first | (rw [if_pos (by decide +kernel)]; kernel_rfl) | (rw [if_neg (by decide +kernel)]; exact ⟨rfl,rfl⟩))
  (fun os started H enc _=>hottest33_lifted os started H enc)
end Go.Proofs.Ythginmfobikdgaa
