import Derived.Test.YtangodmcbmeeaaaPvN
set_option maxRecDepth 8000
set_option linter.unusedVariables false
namespace Go.PV
open Go.ChangeShapes Go.WideShapes Go.ChangeAt Go.RowKit
section
variable {P:Program} {H:Type} {enc:TypeId × Value → H}
theorem open_cells_ints {W:World} {t e:TypeId} {k:IntKind} {fuel:Nat} {cs:List Value} {x:DataW H × List MemPlace} (ht:P.underlying t = some (.slice e)) (he:P.underlying e = some (.int k)) (hc:P.cellsOf e = 1)
  (hf:DataW.trod enc P W 0 (fun _=>true) true fuel t cs = some x):∃ (l:List Int) (v:Value),cs = [v] ∧ okInts k l ∧ l.length ≤ maxLen ∧ R (allI W) noR (.sl (encI k l)) v:=by
 rcases open_ints ht he hc hf with ⟨hcs,_⟩ | ⟨a,len,cap,zs,hcs,_,hl,hm,hz,_,hcell,hw⟩
 ·exact ⟨[],_,hcs,fun n hn=>by simp at hn,Nat.zero_le _,.slNil _ _⟩
 ·simp only [if_true] at hz
  refine ⟨zs.take len,_,hcs,fun n hn=>hw n (List.mem_of_mem_take hn),by simp; omega,?_⟩
  cases len with
  | zero=>simpa [encI] using R.slNil (I:=allI W) (ρ:=noR) (some a) cap
  | succ len =>
   obtain ⟨b,off,sp⟩:=a
   have hs:sp = Option.none:=by simpa [Addr.add] using World.cell?_spot (hcell 0 (by omega))
   subst hs
   exact R.ints (by omega) hl (fun i hi=>by
    have:=hcell i (by omega)
    rwa [add_plain] at this)
theorem open_arg_intss {W:World} {t e f:TypeId} {k:IntKind} {v:Value} {d:DataW H} {p:List MemPlace} (ht:P.underlying t = some (.slice e)) (he:P.underlying e = some (.slice f)) (hf:P.underlying f = some (.int k)) (hce:P.cellsOf e = 1) (hcf:P.cellsOf f = 1)
  (hval:Value.okWide P W .any 0 t v) (h:DataW.Trod enc P W 0 (fun _=>true) true t v d p):∃ l:List (List Int),(∀ li ∈ l,okInts k li ∧ li.length ≤ maxLen) ∧ l.length ≤ maxLen ∧ R (allI W) noR (.sl (encII k l)) v:=by
 obtain ⟨a0,len0,cap0,rfl⟩:=okWide_slice ht hval
 obtain ⟨fuel,hfu⟩:=h
 rcases DataW.trod_slice ht hfu with ⟨hcs,_⟩ | ⟨a,len,cap,elems,rest,n,_,hcs,_,_,hl,hm,hlen,hel,_,_⟩
 ·simp [Value.cells] at hcs
  obtain ⟨rfl,rfl,rfl⟩:=hcs
  exact ⟨[],fun n hn=>by simp at hn,Nat.zero_le _,.slNil _ _⟩
 ·simp [Value.cells] at hcs
  obtain ⟨rfl,rfl,rfl⟩:=hcs
  have hex:∀ i,i < len0 → ∃ (l:List Int) (u:Value),W.cell? (a.add i) = some u ∧ okInts k l ∧ l.length ≤ maxLen ∧ R (allI W) noR (.sl (encI k l)) u:=fun i hi=>by
   have h1:=hel i hi
   rw [List.getElem?_eq_getElem (by omega),hce,Nat.mul_one,Option.bind_eq_some_iff] at h1
   obtain ⟨cs',hcs',hy⟩:=h1
   obtain ⟨l,u,rfl,h2,h3,h4⟩:=open_cells_ints he hf hcf hy
   exact ⟨l,u,cell_of_cells?_one hcs',h2,h3,h4⟩
  let L:Nat → List Int:=fun i=>if hi:i < len0 then (hex i hi).choose else []
  let V:Nat → Value:=fun i=>if hi:i < len0 then (hex i hi).choose_spec.choose else Go.undef
  have hLV:∀ i,i < len0 → W.cell? (a.add i) = some (V i) ∧ okInts k (L i) ∧ (L i).length ≤ maxLen ∧ R (allI W) noR (.sl (encI k (L i))) (V i):=fun i hi=>by
   simp only [L,V,hi,dif_pos]; exact (hex i hi).choose_spec.choose_spec
  refine ⟨(List.range len0).map L,fun li hli=>?_,by simp; omega,?_⟩
  ·obtain ⟨i,hi,rfl⟩:=List.mem_map.1 hli
   exact ⟨(hLV i (List.mem_range.1 hi)).2.1,(hLV i (List.mem_range.1 hi)).2.2.1⟩
  ·cases hlz:len0 with
   | zero=>simpa [encII] using R.slNil (I:=allI W) (ρ:=noR) (some a) cap0
   | succ q =>
    obtain ⟨b,off,sp⟩:=a
    have hs:sp = Option.none:=by simpa [Addr.add] using World.cell?_spot (hLV 0 (by omega)).1
    subst hs
    rw [← hlz]
    have hrow:∀ (i:Nat) (row:List PV),(encII k ((List.range len0).map L))[i]? = some row → i < len0 ∧ row = [.sl (encI k (L i))]:=fun i row hi=>by
     have hlt:i < len0:=by have:=(List.getElem?_eq_some_iff.1 hi).1; simpa [encII] using this
     refine ⟨hlt,?_⟩
     simp only [encII,List.map_map,List.getElem?_map,List.getElem?_range hlt,Option.map_some,Option.some.injEq] at hi
     exact hi.symm
    have:=R.sl (I:=allI W) (ρ:=noR) (encII k ((List.range len0).map L)) b off 1 cap0 (fun i _=>V i) (by simp [encII]; omega) (fun row hr=>by
     obtain ⟨i,hi⟩:=List.mem_iff_getElem?.1 hr
     rw [(hrow i row hi).2]; rfl) (fun i row j p hi hj=>by
     obtain ⟨hlt,rfl⟩:=hrow i row hi
     have:j = 0:=by have:=(List.getElem?_eq_some_iff.1 hj).1; simp at this; omega
     subst this
     have:=(hLV i hlt).1
     rw [add_plain] at this
     simpa [allI] using this) (fun i row j p hi hj=>by
     obtain ⟨hlt,rfl⟩:=hrow i row hi
     have:j = 0:=by have:=(List.getElem?_eq_some_iff.1 hj).1; simp at this; omega
     subst this
     simp at hj
     subst hj
     exact (hLV i hlt).2.2.2)
    simpa [encII] using this
end
end Go.PV
