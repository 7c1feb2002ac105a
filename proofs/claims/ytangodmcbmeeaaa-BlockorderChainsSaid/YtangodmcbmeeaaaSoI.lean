import Derived.Test.YtangodmcbmeeaaaSoL
import Derived.Test.YtangodmcbmeeaaaEnA
import Derived.Test.YtangodmcbmeeaaaPvY
set_option maxRecDepth 8000
set_option linter.unusedSimpArgs false
set_option linter.unusedVariables false
namespace Go.PV
open Go.RowKit Go.Proofs Go.Sort
theorem PCall.ofSortI {P:Program} {F:FuncId} (hb:hasBody P F = true)
  (h:∀ (blk cap:Nat) (zs:List Int) (w:World),Holds (Value.int .i64) w blk 0 zs.toArray → blk < w.heap.size → zs.length < 4611686018427387904 →
   Calls P F #[.slice (some ⟨blk,0,none⟩) zs.length cap] w fun e w'=>e = .returned (.tuple #[]) ∧ ∃ n os,w' = grow (putRow (Value.int .i64) (Sort.ahead w n) blk 0 (zs.mergeSort fun x y=>decide (x ≤ y)).toArray) os)
  (o v elem:Nat) (L0:List Int) (σ:Store) (ho:σ[o]? = some (.rows elem 1 (encI .i64 L0) v)) (hl:L0.length < 4611686018427387904) :
  PCall P F [.msl o v] σ (fun p σ'=>p = .tup [] ∧ σ' = σ.set o (.rows elem 1 (encI .i64 (L0.mergeSort fun x y=>decide (x ≤ y))) v)):=by
 refine ⟨hb,fun I ρ w vs hinv ha=>?_⟩
 have h0:=ha.2 0 _ rfl
 have hsz:vs.size = 1:=ha.1
 have hvs:vs = #[vs.getD 0 Go.undef]:=by
  apply Array.ext
  ·simp [hsz]
  ·intro i hi1 hi2
   have:i = 0:=by simp at hi2; exact hi2
   subst this
   simp [Array.getD,hsz]
 generalize vs.getD 0 Go.undef = u at h0 hvs
 cases h0 with
 | msl _ _ L hL =>
 obtain ⟨L',cs,hL',e1,e2,e3,e4,e5,e6,e7,e8,e9,e10⟩:=hinv.objs o _ ho
 cases hL.symm.trans hL'
 have hlen:L.len = L0.length:=by rw [e2]; simp [encI]
 have hcell:∀ t (ht:t < L0.length),cs[t]? = some (.int .i64 L0[t]):=fun t ht=>by
  obtain ⟨u,hu,hr⟩:=e8 t [.int .i64 L0[t]] 0 (.int .i64 L0[t]) (by rw [encI,List.getElem?_map,List.getElem?_eq_getElem ht]; rfl) rfl
  cases hr
  simpa using hu
 have hblk:L.block < w.heap.size:=(Array.getElem?_eq_some_iff.1 e3).1
 have hH:Holds (Value.int .i64) w L.block 0 L0.toArray:=by
  intro t ht
  have ht':t < L0.length:=by simpa using ht
  refine ⟨?_,by simp [World.frozen?,e3]⟩
  simp only [World.cell?,e3,Nat.zero_add]
  rw [hcell t ht']
  simp [ht']
 have hcall:=h L.block L.cap L0 w hH hblk hl
 rw [hvs,hlen]
 refine hcall.mono ?_
 rintro x w' ⟨rfl,n,os,rfl⟩
 obtain ⟨d,hd⟩:∃ d,d = L0.mergeSort fun x y=>decide (x ≤ y):=⟨_,rfl⟩
 have hdl:d.length = L0.length:=by rw [hd]; exact List.length_mergeSort _
 rw [← hd]
 have hw:(grow (putRow (Value.int .i64) (Sort.ahead w n) L.block 0 d.toArray) os).heap[L.block]? = some (.cells (putCells (Value.int .i64) 0 d.toArray cs) elem (0,0)):=by
  simp only [grow,putRow,mapBlock,heap_ahead]
  rw [Array.getElem?_append_left (by simpa using hblk),Array.getElem?_modify,if_pos rfl,e3]
  rfl
 have hcs:(putCells (Value.int .i64) 0 d.toArray cs).size = cs.size:=by simp [putCells]
 have hmul:d.length ≤ cs.size:=by
  rw [e6,hdl,← hlen,Nat.mul_one]; exact e4
 have hup:=hinv.update (w':=grow (putRow (Value.int .i64) (Sort.ahead w n) L.block 0 d.toArray) os) (obj':=.rows elem 1 (encI .i64 d) v) (L':=L) ho (by simp) hL (.inr hL) (.inl rfl) (fun b hbl hne=>by
  simp only [grow,putRow,mapBlock,heap_ahead]
  rw [Array.getElem?_append_left (by simpa using hbl),Array.getElem?_modify,if_neg (fun e=>hne e.symm)]) (by simp only [grow,putRow,mapBlock,heap_ahead]; rw [Array.size_append,Array.size_modify]; omega) rfl rfl rfl
  ⟨L,_,by simp [extR,verOf],e1,by simp [encI,hdl,hlen],hw,e4,e5,by rw [hcs,e6],fun row hr=>by
   obtain ⟨x,_,rfl⟩:=List.mem_map.1 hr
   rfl,fun i row j p hi hj=>by
   rw [encI,List.getElem?_map] at hi
   obtain ⟨x,hx,rfl⟩:=Option.map_eq_some_iff.1 hi
   have hil:=(List.getElem?_eq_some_iff.1 hx).1
   match j,hj with
   | 0,hj =>
    cases hj
    refine ⟨.int .i64 x,?_,.int _ _⟩
    have hlt:i < cs.size:=by omega
    have hx2:d.toArray[i]! = x:=by simp [hx]
    simp only [Nat.mul_one,Nat.add_zero,putCells,Array.getElem?_mapIdx,Array.getElem?_eq_getElem hlt,Option.map_some,Nat.zero_le,true_and,Nat.zero_add,List.size_toArray,hil,if_true,Nat.sub_zero,hx2],e9,fun v' hv'=>by
   show extR ρ o v L o v' = none
   rw [extR_other (fun hh=>Nat.lt_irrefl _ (Nat.lt_of_lt_of_le hv' (Nat.le_of_eq hh.2)))]
   exact e10 v' hv'⟩
 have hext:extR ρ o v L = ρ:=by
  funext a b
  simp only [extR]
  split
  ·rename_i hab; rw [hab.1,hab.2,hL]
  ·rfl
 change Inv I (extR ρ o v L) _ _ ∧ Grow I ρ σ w I (extR ρ o v L) _ _ at hup
 rw [hext] at hup
 exact ⟨_,.tup [],I,ρ,_,rfl,.tup [] #[] rfl (fun j p hj=>by simp at hj),hup.1,hup.2,rfl,rfl⟩
end Go.PV
namespace Go.Proofs.Ytangodmcbmeeaaa
open Go.PV
theorem sortInts_ok (o v:Nat) (L:List Int) (σ:Store) (ho:σ[o]? = some (.rows 3 1 (ints L) v)) (hl:L.length < 4611686018427387904) :
  PCall Try.prog 69 [.msl o v] σ (fun p σ'=>p = .tup [] ∧ σ' = σ.set o (.rows 3 1 (ints (L.mergeSort fun x y=>decide (x ≤ y))) v)) :=
 PCall.ofSortI (by kernel_rfl) (fun blk cap zs w hH hb hz=>AnyM.slices_Sort_int smL blk 0 cap zs w hH hb hz) o v 3 L σ ho hl
end Go.Proofs.Ytangodmcbmeeaaa
