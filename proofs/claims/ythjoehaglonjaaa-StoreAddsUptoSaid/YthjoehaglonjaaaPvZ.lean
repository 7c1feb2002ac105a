import Derived.Test.YthjoehaglonjaaaPvO
import Derived.Shelf.GgSortFunc.InsertionK
import Derived.Sort.Statements
import Derived.Shelf.SlSortCmp.WholeK
set_option maxRecDepth 8000
set_option linter.unusedSimpArgs false
set_option linter.unusedVariables false
namespace Go.PV
open Go.RowKit Go.Proofs Go.Sort
section
variable {α:Type} [Inhabited α]
def cellsP (ci:α → List Int) (x:α):List PV:=(ci x).map (PV.int .i64)
def cellsW (ci:α → List Int) (x:α):List Value:=(ci x).map (Value.int .i64)
theorem PCall.ofSort {P:Program} {F g:FuncId} (ci:α → List Int) (k:Nat) (hk:∀ x,(ci x).length = k) (hk0:0 < k) (lt:α → α → Bool) (hb:hasBody P F = true)
  (h:∀ (blk cap:Nat) (d:Array α) (w:World),HoldsK (cellsW ci) k w blk 0 d → blk < w.heap.size → d.size < 4611686018427387904 →
   Calls P F #[.slice (some ⟨blk,0,none⟩) d.size cap,.func (.func g) #[] #[]] w fun e w'=>e = .returned (.tuple #[]) ∧ ∃ d' n os,Sort.PermIn 0 d.size d d' ∧ Sort.SortedIn lt 0 d.size d' ∧ w' = sortWorldK (cellsW ci) k w blk 0 n d' os)
  (o v elem:Nat) (L0:List α) (σ:Store) (ho:σ[o]? = some (.rows elem k (L0.map (cellsP ci)) v)) (hl:L0.length < 4611686018427387904) :
  PCall P F [.msl o v,.func (.func g) [] []] σ (fun p σ'=>p = .tup [] ∧ ∃ L:List α,L.Perm L0 ∧ (∀ u w,u < w → w < L.length → lt (L.getD w default) (L.getD u default) = false) ∧ σ' = σ.set o (.rows elem k (L.map (cellsP ci)) v)):=by
 refine ⟨hb,fun I ρ w vs hinv ha=>?_⟩
 have h0:=ha.2 0 _ rfl
 have h1:=ha.2 1 _ rfl
 have hsz:vs.size = 2:=ha.1
 have hvs:vs = #[vs.getD 0 Go.undef,vs.getD 1 Go.undef]:=by
  apply Array.ext
  ·simp [hsz]
  ·intro i hi1 hi2
   simp at hi2
   match i,hi2 with
   | 0,_=>simp [Array.getD,hsz]
   | 1,_=>simp [Array.getD,hsz]
 generalize vs.getD 0 Go.undef = u at h0 hvs
 generalize vs.getD 1 Go.undef = f at h1 hvs
 cases h0 with
 | msl _ _ L hL =>
 cases h1 with
 | func _ _ _ fs cs hfs hcs _ _ =>
 obtain rfl:fs = #[]:=Array.eq_empty_of_size_eq_zero hfs
 obtain rfl:cs = #[]:=Array.eq_empty_of_size_eq_zero hcs
 obtain ⟨L',cs,hL',e1,e2,e3,e4,e5,e6,e7,e8,e9,e10⟩:=hinv.objs o _ ho
 cases hL.symm.trans hL'
 have hlen:L.len = L0.toArray.size:=by rw [e2]; simp
 have hcell:∀ t,t < L0.length * k → cs[t]? = some ((cellsW ci (L0.toArray)[t / k]!)[t % k]!):=fun t ht=>by
  have hi:t / k < L0.length:=by
   rcases Nat.lt_or_ge (t / k) L0.length with h | h
   ·exact h
   ·have h2:=Nat.mul_le_mul_right k h
    have h3:=Nat.div_mul_le_self t k
    omega
  have hj:t % k < k:=Nat.mod_lt _ hk0
  have hx:(L0.toArray)[t / k]! = L0[t / k]:=by simp [hi]
  rw [hx]
  have hj2:t % k < (ci L0[t / k]).length:=by rw [hk]; exact hj
  obtain ⟨u,hu,hr⟩:=e8 (t / k) (cellsP ci L0[t / k]) (t % k) (.int .i64 ((ci L0[t / k])[t % k])) (by rw [List.getElem?_map,List.getElem?_eq_getElem hi]; rfl) (by rw [cellsP,List.getElem?_map,List.getElem?_eq_getElem hj2]; rfl)
  cases hr
  rw [Nat.div_add_mod'] at hu
  rw [hu,cellsW,List.getElem!_eq_getElem?_getD,List.getElem?_map,List.getElem?_eq_getElem hj2]; rfl
 have hblk:L.block < w.heap.size:=(Array.getElem?_eq_some_iff.1 e3).1
 have hH:HoldsK (cellsW ci) k w L.block 0 L0.toArray:=by
  intro t ht
  rw [size_flatK] at ht
  rw [get_flatK _ _ _ _ ht]
  have ht':t < L0.length * k:=by simpa using ht
  refine ⟨?_,?_⟩
  ·simp only [World.cell?,e3,Nat.zero_add]
   exact hcell t ht'
  ·simp [World.frozen?,e3]
 have hcall:=h L.block L.cap L0.toArray w hH hblk (by simpa using hl)
 rw [hvs,hlen]
 refine hcall.mono ?_
 rintro x w' ⟨rfl,d',n,os,hperm,hsort,rfl⟩
 have hsize:d'.size = L0.length:=by rw [hperm.1]; simp
 have hw:(sortWorldK (cellsW ci) k w L.block 0 n d' os).heap[L.block]? = some (.cells (putCells id 0 (flatK (cellsW ci) k d') cs) elem (0,0)):=by
  simp only [sortWorldK,grow,putRowK,putRow,mapBlock,heap_ahead]
  rw [Array.getElem?_append_left (by simpa using hblk),Array.getElem?_modify,if_pos rfl,e3]
  rfl
 have hcs:(putCells id 0 (flatK (cellsW ci) k d') cs).size = cs.size:=by simp [putCells]
 have hmul:d'.size * k ≤ cs.size:=by
  rw [e6,hsize,← e1]
  have:L.len = L0.length:=by rw [hlen]; simp
  rw [← this]
  exact Nat.mul_le_mul_right _ e4
 have hup:=hinv.update (w':=sortWorldK (cellsW ci) k w L.block 0 n d' os) (obj':=.rows elem k (d'.toList.map (cellsP ci)) v) (L':=L) ho (by simp) hL (.inr hL) (.inl rfl) (fun b hbl hne=>by
  simp only [sortWorldK,grow,putRowK,putRow,mapBlock,heap_ahead]
  rw [Array.getElem?_append_left (by simpa using hbl),Array.getElem?_modify,if_neg (fun e=>hne e.symm)]) (by simp [sortWorldK,grow,putRowK]) rfl rfl rfl
  ⟨L,_,by simp [extR,verOf],e1,by simp [hsize,hlen],hw,e4,e5,by rw [hcs,e6],fun row hr=>by
   obtain ⟨x,_,rfl⟩:=List.mem_map.1 hr
   simp [cellsP,hk],fun i row j p hi hj=>by
   rw [List.getElem?_map] at hi
   obtain ⟨x,hx,rfl⟩:=Option.map_eq_some_iff.1 hi
   have hil:i < d'.size:=by
    have:=(List.getElem?_eq_some_iff.1 hx).1
    simpa using this
   rw [cellsP,List.getElem?_map] at hj
   obtain ⟨c,hc,rfl⟩:=Option.map_eq_some_iff.1 hj
   have hjl:j < k:=by rw [← hk x]; exact (List.getElem?_eq_some_iff.1 hc).1
   have ht:i * k + j < d'.size * k:=by
    have:=Nat.mul_le_mul_right k (show i + 1 ≤ d'.size from hil)
    rw [Nat.add_mul,Nat.one_mul] at this
    omega
   have hx2:d'[i]! = x:=by
    rw [Array.getElem?_toList] at hx
    rw [getElem!_def,hx]
   have e11:(i * k + j) / k = i:=by rw [Nat.mul_comm,Nat.mul_add_div hk0,Nat.div_eq_of_lt hjl,Nat.add_zero]
   have e12:(i * k + j) % k = j:=by rw [Nat.mul_comm,Nat.mul_add_mod,Nat.mod_eq_of_lt hjl]
   refine ⟨.int .i64 c,?_,.int _ _⟩
   have hlt:i * k + j < cs.size:=by omega
   simp only [putCells,Array.getElem?_mapIdx,Array.getElem?_eq_getElem hlt,Option.map_some,Nat.zero_le,true_and,Nat.zero_add,size_flatK,ht,if_true,Nat.sub_zero,id]
   rw [get_flatK _ _ _ _ ht,e11,e12,hx2,cellsW,List.getElem!_eq_getElem?_getD,List.getElem?_map,hc]; rfl,e9,fun v' hv'=>by
   show extR ρ o v L o v' = none
   rw [extR_other (fun hh=>Nat.lt_irrefl _ (Nat.lt_of_lt_of_le hv' (Nat.le_of_eq hh.2)))]
   exact e10 v' hv'⟩
 have hext:extR ρ o v L = ρ:=by
  funext a b
  simp only [extR]
  split
  ·rename_i hab; rw [hab.1,hab.2,hL]
  ·rfl
 change Inv I (extR ρ o v L) _ _ ∧ Grow I ρ σ w I (extR ρ o v L) _ _ at hup
 rw [hext] at hup
 refine ⟨_,.tup [],I,ρ,_,rfl,.tup [] #[] rfl (fun j p hj=>by simp at hj),hup.1,hup.2,rfl,d'.toList,?_,fun u w hu hw=>?_,rfl⟩
 ·have:=hperm.2.2
  have e:d'.toList.take L0.length = d'.toList:=List.take_of_length_le (by simp [hsize])
  simpa [hsize,e] using this
 ·have hw':w < d'.size:=by simpa using hw
  have:=hsort u w (Nat.zero_le _) hu (by simpa [hsize] using hw')
  simpa [List.getD_eq_getElem?_getD,hw',show u < d'.size by omega] using this
end
end Go.PV
