import Derived.Test.YthginmfobikdgaaKsB
import Derived.RangeFuncCalls
import Derived.Shelf.SlIterI.Sorted
set_option maxRecDepth 8000
set_option linter.unusedSimpArgs false
set_option linter.unusedVariables false
namespace Go.Proofs.Ythginmfobikdgaa
open Go.RowKit Go.Shelf Go.Maps Go.Sort
attribute [local go_sem] Oper.semAt_some
set_option maxRecDepth 100000 in
set_option maxHeartbeats 2000000 in
theorem collect_in (F:Fence) (n:Nat) (h0:F.fn 104) (h3:F.fn 125) (h7:F.fn 106) (hro:F.round = none) (hn:4 ≤ n) (Bs:Nat) (sv:Value) (zs:List Int) (hlen:zs.length ≤ maxLen) (hreach:zs.length * 8 ≤ 140737488351232) (w:World)
  (hBs:Bs < w.heap.size) (hc:w.cell? ⟨Bs,0,none⟩ = some sv) (hI:HoldsInts w.heap.size w sv zs) :
  CallsIn F n Try.prog 104 #[.func (.func 106) #[] #[.pointer (some ⟨Bs,0,none⟩)]] w fun e W'=>∃ v,e = .returned v ∧ W'.ownsRow w.heap.size 3 1 v zs.length (zs.map (Value.int .i64)) ∧ (v = .slice none 0 0 ↔ zs = []) ∧ Below w.heap.size w W':=by
 have h1:1 ≤ n:=by omega
 refine callsIn_of_wp Try.func104 rfl h0 ?_ hro
 simp only [Try.ntmps104,List.size_toArray,List.length_cons,List.length_nil,Nat.reduceAdd,Nat.reduceSub,Array.replicate_succ,Array.replicate_zero,List.push_toArray,List.append_toArray,List.nil_append,List.cons_append]
 gi_wp2_with (gi_at_call 125; refine (append_in F (n - 1) h3 h7 hro (by omega) Bs sv zs hlen hreach w hBs hc hI).mono ?_; rintro e w' ⟨v,rfl,hrow,hnil,hb⟩)
 go_ret
 exact ⟨v,rfl,hrow,hnil,hb⟩
set_option maxRecDepth 100000 in
set_option maxHeartbeats 2000000 in
theorem sorted_calls (Bs:Nat) (sv:Value) (zs:List Int) (hlen:zs.length ≤ maxLen) (hreach:zs.length * 8 ≤ 140737488351232) (w:World) (hBs:Bs < w.heap.size) (hc:w.cell? ⟨Bs,0,none⟩ = some sv) (hI:HoldsInts w.heap.size w sv zs) :
  Calls Try.prog 70 #[.func (.func 106) #[] #[.pointer (some ⟨Bs,0,none⟩)]] w fun e w'=>∃ v,e = .returned v ∧ w'.ownsRow w.heap.size 3 1 v zs.length ((zs.mergeSort fun x y=>decide (x ≤ y)).map (Value.int .i64)) ∧ Below w.heap.size w w':=by
 refine (callsIn_wide (n:=6)).1 ?_
 refine callsIn_of_wp Try.func70 rfl trivial ?_ rfl
 simp only [Try.ntmps70,List.size_toArray,List.length_cons,List.length_nil,Nat.reduceAdd,Nat.reduceSub,Array.replicate_succ,Array.replicate_zero,List.push_toArray,List.append_toArray,List.nil_append,List.cons_append]
 gi_wp2_with (refine ⟨trivial,?_⟩; gi_at_call 104; refine (collect_in Fence.wide 5 trivial trivial trivial rfl (by omega) Bs sv zs hlen hreach w hBs hc hI).mono ?_; rintro e W ⟨v,rfl,hrow,hnil,hb⟩)
 rcases hrow.2 with ⟨rfl,hz⟩ | ⟨gb,cap,cur,rfl,hbase,hgb,r1,r2,r3,r4⟩
 ·have hss:zs = []:=List.eq_nil_of_length_eq_zero hz
  subst hss
  gi_wp2_with (refine ⟨trivial,?_⟩; gi_at_call 105; refine (callsIn_wide.2 (AnyM.slices_Sort_int_none smL none 0 W)).mono ?_; rintro e w' ⟨rfl,rfl⟩)
  go_ret
  exact ⟨.slice none 0 0,rfl,by simpa using hrow,hb⟩
 ·have hH:Holds (Value.int .i64) W gb 0 zs.toArray:=holds_of_block_i hgb (by simpa using r4)
  have hgl:gb < W.heap.size:=(Array.getElem?_eq_some_iff.1 hgb).1
  have cS:=AnyM.slices_Sort_int smL gb 0 cap zs W hH hgl (by unfold maxLen at hlen; omega)
  gi_wp2_with (refine ⟨trivial,?_⟩; gi_at_call 105; refine (callsIn_wide.2 cS).mono ?_; rintro e w' ⟨rfl,nn,os,rfl⟩)
  go_ret
  exact ⟨_,rfl,ownsRow_sorted_i (by simp) hbase hgb r1 r2 r3,hb.grown (grownBy_sorted_i _) hb.size (fun j hj=>by cases hj; exact hbase)⟩
end Go.Proofs.Ythginmfobikdgaa
