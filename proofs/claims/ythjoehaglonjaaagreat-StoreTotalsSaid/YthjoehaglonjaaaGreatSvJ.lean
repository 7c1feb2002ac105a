import Derived.WalkKit
import Derived.Lib.SliceRun
import Derived.Shelf.AbstractIn
import Derived.Lib.Walk
import Derived.Lib.JoinLaws
import Derived.Lib.AppendZerosOnto
import Derived.Lib.Overlaps
import Derived.Laws.Externs
import Derived.Laws.IdiomCopy
import Derived.Laws.NewBlocks
import Derived.Shelf.RegionOpenPlain
import Derived.Test.YthjoehaglonjaaaGreatStK
import Derived.Test.YthjoehaglonjaaaGreatSoA
set_option maxRecDepth 8000
set_option linter.unusedSimpArgs false
set_option linter.unusedVariables false
namespace Go.PV
open Go.RowKit
variable {P:Program}
theorem run_copy_cellsK (w:World) (dT sT ty elem:TypeId) (k b o dLen dCap:Nat) (a:Addr) (sLen sCap:Nat) (cs:List Value)
  (hu:P.underlying dT = some (.slice elem)) (hs:(P.info? elem).map (·.size) = some k) (hn:Nat.min sLen dLen * k = cs.length)
  (hsrc:∀ j v,cs[j]? = some v → w.cell? (a.add j) = some v) (hc:∀ j,j < cs.length → (w.cell? ⟨b,o + j,none⟩).isSome = true) (hf:∀ j,j < cs.length → w.frozen? ⟨b,o + j,none⟩ = false) (h1:∀ v ∈ cs,v.oneCell' = true) :
  (Builtin.copy_ #[dT,sT] ty #[.slice (some ⟨b,o,none⟩) dLen dCap,.slice (some a) sLen sCap]).run P w = .ok (goInt (Nat.min sLen dLen)) (w.setCells b o cs):=by
 have hl:=run_loadCells_list (P:=P) w a cs hsrc
 have hst:=run_storeCells_cells (P:=P) b o cs 0 w (by simpa using hc) (by simpa using hf) h1
 cases hq:P.info? elem with
 | none=>simp [hq] at hs
 | some i =>
  have hi:i.size = k:=by simpa [hq] using hs
  simp [Builtin.copy_,run_underlying hu,Builtin.lenOf,Builtin.firstCells,sizeOf,typeInfo,hq,hi,hn,hl,hst]
theorem wpList_copy_runI (w:World) {ops:Array Oper} {rest:List Oper} {o:Oper} {a:Act} {Q:Exit → Act → World → Prop} (hgd:o.guard = none) (d s:Operand) (t t':TypeId)
  (ho:o.op = .call { callee:=.builtin .copy,args:=#[d,s],argTypes:=#[t,t'] }) (v u:Value) (hd:a.eval d = v) (hs:a.eval s = u) {v':Value} {w':World}
  (hr:(Builtin.copy_ #[t,t'] o.type #[v,u]).run P w = .ok v' w') (h:wpList P ops Q rest (a.put o.dst v') w'):wpList P ops Q (o :: rest) a w :=
 wpList_plain hgd fun _ hK=>by
  unfold Oper.wp execOp
  simp only [ho,resolve,invoke,builtin,Sem.run_bind,Sem.run_pure,Result.andThen_ok,List.map_toArray,List.map_cons,List.map_nil,hd,hs,hr]
  exact hK _ _ h
theorem step_copy_runI {ops:Array Oper} {o:Oper} {a:Act} {w:World} {K:Act → World → Prop} {Q:Exit → Act → World → Prop} {E:Prop}
  (hg:o.guard = none) (d x:Operand) (dT sT:TypeId) (hop:o.op = Op.call { callee:=Callee.builtin Builtin.copy,args:=#[d,x],argTypes:=#[dT,sT] })
  (v u:Value) (hd:a.eval d = v) (hx:a.eval x = u) {v':Value} {w':World} (hr:(Builtin.copy_ #[dT,sT] o.type #[v,u]).run P w = .ok v' w') (hK:K (a.put o.dst v') w') :
  if Region.wanted o (yielded ops a.tmps) = true then Oper.wp P o a w K Q else E:=by
 have hw:Region.wanted o (yielded ops a.tmps) = true:=by simp [Region.wanted,hg]
 rw [if_pos hw]
 unfold Oper.wp
 simp [execOp,hop,resolve,invoke,builtin,hd,hx,hr,Result.andThen]
 exact hK
theorem isSome_setCells (b:Nat) (vs:List Value) (o:Nat) (w:World) (h:∀ j,j < vs.length → (w.cell? ⟨b,o + j,none⟩).isSome = true) (k:Nat) (hk:(w.cell? ⟨b,k,none⟩).isSome = true):((w.setCells b o vs).cell? ⟨b,k,none⟩).isSome = true:=by
 by_cases hin:o ≤ k ∧ k < o + vs.length
 ·have:=World.cell?_setCells_in b vs o w h (k - o) (by omega)
  rw [show o + (k - o) = k by omega] at this
  rw [this]; rfl
 ·rw [World.cell?_setCells_out b vs o w ⟨b,k,none⟩ (fun _ _=>by show k < o ∨ o + vs.length ≤ k; omega)]
  exact hk
end Go.PV
namespace Go.Proofs.YthjoehaglonjaaaGreat
open Go.PV Go.RowKit Go.Lib
set_option maxRecDepth 100000 in
set_option maxHeartbeats 4000000 in
theorem insS_shift (b n c i vb vc:Nat) (cs vs:List Value) (w:World) (hi:i < n) (hroom:n + 1 ≤ c) (hc63:c ≤ 9223372036854775807) (hvb:vb ≠ b)
  (hcl:cs.length = n * 3) (hvl:vs.length = 3)
  (hcs:∀ j v,cs[j]? = some v → w.cell? ⟨b,j,none⟩ = some v) (hsp:∀ j,j < (n + 1) * 3 → (w.cell? ⟨b,j,none⟩).isSome = true) (hfz:∀ j,w.frozen? ⟨b,j,none⟩ = false)
  (hvs:∀ j v,vs[j]? = some v → w.cell? ⟨vb,j,none⟩ = some v) (h1c:∀ v ∈ cs,v.oneCell' = true) (h1v:∀ v ∈ vs,v.oneCell' = true)
  (tA tB:TypeId) (kA kB:Nat) (hsa:w.shape? vb = some (tA,kA)) (hsb:w.shape? b = some (tB,kB)) (hkB:kB ≠ 0) (hfa:∀ j,w.frozen? ⟨vb,j,none⟩ = false) :
  Calls Tryz.prog 79 #[.slice (some ⟨b,0,none⟩) n c,.int .i64 i,.slice (some ⟨vb,0,none⟩) 1 vc] w fun e w' =>
   e = .returned (.slice (some ⟨b,0,none⟩) (n + 1) c) ∧ w' = (w.drew.setCells b ((i + 1) * 3) (cs.drop (i * 3))).setCells b (i * 3) vs:=by
 have hu:Tryz.prog.underlying 44 = some (.slice 82):=by kernel_rfl
 have u:∀ w,Sem.run Tryz.prog (underlying 44) w = .ok (TypeDesc.slice 82) w:=run_underlying hu
 have mixed:Tryz.prog.follows .mixedOrders = true:=mix
 have hz1:¬ ((1:Int) = 0):=by omega
 have hz2:¬ ((i:Int) = (n:Int)):=by omega
 have hsz:(Tryz.prog.info? 82).map (·.size) = some 3:=by kernel_rfl
 have hov:∀ lb cb,(callFunc 96 #[.slice (some ⟨vb,0,none⟩) 1 vc,.slice (some ⟨b,(i + 1) * 3,none⟩) lb cb]).run Tryz.prog w = .ok (.value (.bool false)) w:=fun lb cb=>by
  rw [run_callFunc_extern Tryz.func96 (by kernel_rfl) (by kernel_rfl) (by kernel_rfl) (e:=Extern.SlicesOverlaps.overlaps #[44,44] #[4]) (by kernel_rfl),
   Lib.run_overlaps_apart w 44 4 82 hu 3 Tryz.sizeOf82 ⟨vb,0,none⟩ ⟨b,(i + 1) * 3,none⟩ 1 vc lb cb hvb tA tB kA kB hsa hsb hkB (hfa _) (hfa _)]
  rfl
 have hdl:(cs.drop (i * 3)).length = (n - i) * 3:=by rw [List.length_drop,hcl,Nat.sub_mul]
 have hw1:IntKind.i64.wrap ((i:Int) + 1) = (i:Int) + 1:=by rw [IntKind.wrap_i64]; omega
 have hb1:(0:Int) ≤ (i:Int) + 1:=by omega
 have hin:i ≤ n:=by omega
 have htn:((i:Int) + 1).toNat = i + 1:=by omega
 have hb2:¬ (c = i + 1):=by omega
 have hb3:(i:Int) ≤ (n:Int) + 1:=by omega
 have hb4:¬ (c = i):=by omega
 have hcp1:∀ ty dc sc,(Builtin.copy_ #[44,44] ty #[.slice (some ⟨b,(i + 1) * 3,none⟩) (n - i) dc,.slice (some ⟨b,i * 3,none⟩) (n + 1 - i) sc]).run Tryz.prog w.drew = .ok (goInt (Nat.min (n + 1 - i) (n - i))) (w.drew.setCells b ((i + 1) * 3) (cs.drop (i * 3))):=fun ty dc sc =>
  run_copy_cellsK w.drew _ _ ty 82 3 b ((i + 1) * 3) (n - i) dc ⟨b,i * 3,none⟩ (n + 1 - i) sc (cs.drop (i * 3)) hu hsz (by rw [hdl,show Nat.min (n + 1 - i) (n - i) = n - i from by simp only [Nat.min_def]; split <;> omega])
   (fun j v hj=>by rw [Addr.add_lit]; exact hcs (i * 3 + j) v (by rwa [List.getElem?_drop] at hj))
   (fun j hj=>hsp _ (by rw [hdl] at hj; clear htn hw1 hb1; omega)) (fun j hj=>hfz _) (fun v hv=>h1c v (List.mem_of_mem_drop hv))
 obtain ⟨W1,hW1⟩:∃ W1,W1 = w.drew.setCells b ((i + 1) * 3) (cs.drop (i * 3)):=⟨_,rfl⟩
 have hsp1:∀ k,k < (n + 1) * 3 → (W1.cell? ⟨b,k,none⟩).isSome = true:=fun k hk=>by
  rw [hW1]
  exact isSome_setCells b _ ((i + 1) * 3) w.drew (fun j hj=>hsp _ (by rw [hdl] at hj; clear htn hw1 hb1 hcp1; omega)) k (hsp k hk)
 have hcp2:∀ (W:World),(∀ x,W.cell? x = W1.cell? x) → (∀ x,W.frozen? x = W1.frozen? x) → ∀ ty dc,(Builtin.copy_ #[44,44] ty #[.slice (some ⟨b,i * 3,none⟩) (n + 1 - i) dc,.slice (some ⟨vb,0,none⟩) 1 vc]).run Tryz.prog W = .ok (goInt (Nat.min 1 (n + 1 - i))) (W.setCells b (i * 3) vs):=fun W hWc hWf ty dc =>
  run_copy_cellsK W _ _ ty 82 3 b (i * 3) (n + 1 - i) dc ⟨vb,0,none⟩ 1 vc vs hu hsz (by rw [hvl,show Nat.min 1 (n + 1 - i) = 1 from by simp only [Nat.min_def]; split <;> omega])
   (fun j v hj=>by
    rw [Addr.add_lit,hWc,hW1,World.cell?_setCells_out b _ _ _ _ (fun h _=>absurd h hvb),Nat.zero_add]
    exact hvs j v hj)
   (fun j hj=>by rw [hWc]; exact hsp1 _ (by omega)) (fun j hj=>by rw [hWf,hW1,World.frozen?_setCells]; exact hfz _) h1v
 rw [← hW1] at hcp1
 refine calls_of_wp Tryz.func79 rfl ?_
 simp only [Tryz.ntmps79,List.size_toArray,List.length_cons,List.length_nil,Nat.reduceAdd,Nat.reduceSub,Array.replicate_succ,Array.replicate_zero,List.push_toArray,List.append_toArray,List.nil_append,List.cons_append]
 go_wp2_with (simp only [hov])
 go_region_law_o (refine step_copy_runI rfl _ _ 44 44 rfl _ _ (by simp [Act.eval,Act.put]) (by simp [Act.eval,Act.put]) (hcp1 _ _ _) ?_)
 go_wp2_with (at_builtin; refine wpList_copy_runI _ rfl _ _ 44 44 rfl _ _ rfl rfl (hcp2 _ (fun _=>rfl) (fun _=>rfl) _ _) ?_)
 go_ret
 first | exact ⟨rfl,rfl⟩ | exact ⟨rfl,by rw [hW1]⟩
set_option maxRecDepth 100000 in
set_option maxHeartbeats 4000000 in
theorem insS_grow (b n i vb vc:Nat) (cs vs:List Value) (w:World) (hi:i < n) (hn:n ≤ 1000000) (hcl:cs.length = n * 3) (hvl:vs.length = 3)
  (hcs:∀ j v,cs[j]? = some v → w.cell? ⟨b,j,none⟩ = some v) (hvs:∀ j v,vs[j]? = some v → w.cell? ⟨vb,j,none⟩ = some v) (h1c:∀ v ∈ cs,v.oneCell' = true) (h1v:∀ v ∈ vs,v.oneCell' = true) :
  Calls Tryz.prog 79 #[.slice (some ⟨b,0,none⟩) n n,.int .i64 i,.slice (some ⟨vb,0,none⟩) 1 vc] w fun e w' =>
   e = .returned (.slice (some ⟨w.heap.size,0,none⟩) (n + 1) (grownCap w (n + 1) n 82)) ∧
   w' = (((w.alloc (.cells ((cs.take (i * 3)).toArray ++ Builtin.zeroCells #[.int .i64 0,.int .i64 0,.slice none 0 0] (n + 1 - i) ++ Builtin.zeroCells #[.int .i64 0,.int .i64 0,.slice none 0 0] (grownCap w (n + 1) n 82 - (n + 1))) 82)).drew.setCells w.heap.size (i * 3) vs).drew).setCells w.heap.size ((i + 1) * 3) (cs.drop (i * 3)):=by
 have hu:Tryz.prog.underlying 44 = some (.slice 82):=by kernel_rfl
 have hui:Tryz.prog.underlying 3 = some (.int .i64):=by kernel_rfl
 have u:∀ w,Sem.run Tryz.prog (underlying 44) w = .ok (TypeDesc.slice 82) w:=run_underlying hu
 have mixed:Tryz.prog.follows .mixedOrders = true:=mix
 have hi0:Tryz.prog.info? 82 = some Tryz.t82:=by kernel_rfl
 have hz0:Tryz.t82.zero = some (.agg #[.int .i64 0,.int .i64 0,.slice none 0 0]):=by kernel_rfl
 have hzs:Tryz.t82.size = 3:=by kernel_rfl
 have hzb:Tryz.t82.bytes = 40:=by kernel_rfl
 have hz1:¬ ((1:Int) = 0):=by omega
 have hz2:¬ ((i:Int) = (n:Int)):=by omega
 have hz3:(n:Int) < (n:Int) + 1:=by omega
 have hsz:(Tryz.prog.info? 82).map (·.size) = some 3:=by kernel_rfl
 have hbw:b < w.heap.size:=World.block_lt_of_cell? w ⟨b,0,none⟩ (hcs 0 _ (List.getElem?_eq_getElem (by omega)))
 have hvw:vb < w.heap.size:=World.block_lt_of_cell? w ⟨vb,0,none⟩ (hvs 0 _ (List.getElem?_eq_getElem (by omega)))
 have hkk:(n:Int) + 1 - (i:Int) = ((n + 1 - i:Nat):Int):=by omega
 have hik:i + (n + 1 - i) = n + 1:=by omega
 have hold:(Builtin.firstCells Tryz.t82.size i (.slice (some ⟨b,0,none⟩) i n)).run Tryz.prog w.drew = .ok (cs.take (i * 3)).toArray w.drew:=by
  rw [hzs]
  exact run_firstCells_some w.drew 3 i ⟨b,0,none⟩ i n (cs.take (i * 3)) (by rw [List.length_take]; omega) (fun j v hj=>by
   rw [Addr.add_lit,Nat.zero_add]
   rw [List.getElem?_take] at hj
   split at hj
   ·exact hcs j v hj
   ·cases hj)
 have hrz:∀ ty,(Builtin.append_ #[44,3] ty #[.slice (some ⟨b,0,none⟩) i n,.int .i64 ((n:Int) + 1 - (i:Int))]).run Tryz.prog w =
   .ok (.slice (some ⟨w.heap.size,0,none⟩) (n + 1) (grownCap w (n + 1) n 82)) (w.drew.alloc (.cells ((cs.take (i * 3)).toArray ++ Builtin.zeroCells #[.int .i64 0,.int .i64 0,.slice none 0 0] (n + 1 - i) ++ Builtin.zeroCells #[.int .i64 0,.int .i64 0,.slice none 0 0] (grownCap w (n + 1) n 82 - (n + 1))) 82)):=fun ty=>by
  have h:=Lib.run_append_grow_zeros w 44 3 ty 82 Tryz.t82 _ .i64 .i64 hu hui hi0 hz0 (some ⟨b,0,none⟩) i n (cs.take (i * 3)) hold (n + 1 - i) (by omega) (by omega) (by omega) (by omega) (by rw [hzb]; omega) (by rw [hzb,hik]; exact growslice_fits (by omega) (by omega))
  rw [hik] at h
  rw [hkk]
  exact h
 obtain ⟨G,hG⟩:∃ G,G = grownCap w (n + 1) n 82:=⟨_,rfl⟩
 obtain ⟨ROW,hROW⟩:∃ ROW:Array Value,ROW = (cs.take (i * 3)).toArray ++ Builtin.zeroCells #[.int .i64 0,.int .i64 0,.slice none 0 0] (n + 1 - i) ++ Builtin.zeroCells #[.int .i64 0,.int .i64 0,.slice none 0 0] (G - (n + 1)):=⟨_,rfl⟩
 rw [← hG] at hrz ⊢
 rw [← hROW] at hrz ⊢
 have hGn:n + 1 ≤ G:=by rw [hG]; exact grownCap_ge w _ _ _
 have hRl:(n + 1) * 3 ≤ ROW.size:=by
  rw [hROW,Array.size_append,Array.size_append,size_zeroCells,size_zeroCells]
  simp
  omega
 obtain ⟨W1,hW1⟩:∃ W1,W1 = w.drew.alloc (.cells ROW 82):=⟨_,rfl⟩
 rw [← hW1] at hrz
 have hN:∀ j,j < (n + 1) * 3 → (W1.cell? ⟨w.heap.size,j,none⟩).isSome = true:=fun j hj=>by
  rw [hW1,World.cell?_alloc_at (w:=w.drew) ROW _ w.heap.size j rfl,Array.getElem?_eq_getElem (by omega)]; rfl
 have hNf:∀ j,W1.frozen? ⟨w.heap.size,j,none⟩ = false:=fun j=>by rw [hW1]; exact World.frozen?_alloc_at (w:=w.drew) ROW _ w.heap.size j rfl
 have hOb:∀ j v,w.cell? ⟨b,j,none⟩ = some v → W1.cell? ⟨b,j,none⟩ = some v:=fun j v h=>by rw [hW1,World.cell?_alloc_past (w:=w.drew) _ b j hbw]; exact h
 have hOv:∀ j v,w.cell? ⟨vb,j,none⟩ = some v → W1.cell? ⟨vb,j,none⟩ = some v:=fun j v h=>by rw [hW1,World.cell?_alloc_past (w:=w.drew) _ vb j hvw]; exact h
 have hcpA:∀ (W:World),(∀ x,W.cell? x = W1.cell? x) → (∀ x,W.frozen? x = W1.frozen? x) → ∀ ty dc,(Builtin.copy_ #[44,44] ty #[.slice (some ⟨w.heap.size,i * 3,none⟩) (n + 1 - i) dc,.slice (some ⟨vb,0,none⟩) 1 vc]).run Tryz.prog W = .ok (goInt (Nat.min 1 (n + 1 - i))) (W.setCells w.heap.size (i * 3) vs):=fun W hWc hWf ty dc =>
  run_copy_cellsK W _ _ ty 82 3 w.heap.size (i * 3) (n + 1 - i) dc ⟨vb,0,none⟩ 1 vc vs hu hsz (by rw [hvl,show Nat.min 1 (n + 1 - i) = 1 from by simp only [Nat.min_def]; split <;> omega])
   (fun j v hj=>by rw [Addr.add_lit,hWc,Nat.zero_add]; exact hOv _ v (hvs j v hj))
   (fun j hj=>by rw [hWc]; exact hN _ (by omega)) (fun j hj=>by rw [hWf]; exact hNf _) h1v
 have hG63:G ≤ 9223372036854775807:=by
  have:=grownCap_le_maxLen w (n + 1) n 82 (by unfold maxLen; omega)
  rw [← hG] at this
  unfold maxLen at this
  omega
 have hGi:¬ (G = i):=by omega
 have hGim:¬ (G = i + 1):=by omega
 have hci:¬ (n = i):=by omega
 have hbN:b ≠ w.heap.size:=by omega
 have hdl:(cs.drop (i * 3)).length = (n - i) * 3:=by rw [List.length_drop,hcl,Nat.sub_mul]
 have hcpB:∀ (W:World),(∀ x,W.cell? x = (W1.setCells w.heap.size (i * 3) vs).cell? x) → (∀ x,W.frozen? x = (W1.setCells w.heap.size (i * 3) vs).frozen? x) → ∀ ty dc sc,(Builtin.copy_ #[44,44] ty #[.slice (some ⟨w.heap.size,(i + 1) * 3,none⟩) (n - i) dc,.slice (some ⟨b,i * 3,none⟩) (n - i) sc]).run Tryz.prog W = .ok (goInt (Nat.min (n - i) (n - i))) (W.setCells w.heap.size ((i + 1) * 3) (cs.drop (i * 3))):=fun W hWc hWf ty dc sc =>
  run_copy_cellsK W _ _ ty 82 3 w.heap.size ((i + 1) * 3) (n - i) dc ⟨b,i * 3,none⟩ (n - i) sc (cs.drop (i * 3)) hu hsz (by rw [hdl,show Nat.min (n - i) (n - i) = n - i from by simp])
   (fun j v hj=>by
    rw [Addr.add_lit,hWc,World.cell?_setCells_out _ _ _ _ _ (fun h _=>absurd h hbN)]
    exact hOb _ v (hcs (i * 3 + j) v (by rwa [List.getElem?_drop] at hj)))
   (fun j hj=>by rw [hWc]; exact isSome_setCells _ _ _ _ (fun t ht=>hN _ (by omega)) _ (hN _ (by rw [hdl] at hj; omega)))
   (fun j hj=>by rw [hWf,World.frozen?_setCells]; exact hNf _) (fun v hv=>h1c v (List.mem_of_mem_drop hv))
 subst hW1
 have hE1:∀ x,((w.alloc (.cells ROW 82)).drew).cell? x = (w.drew.alloc (.cells ROW 82)).cell? x:=fun x=>rfl
 have hE2:∀ x,((w.alloc (.cells ROW 82)).drew).frozen? x = (w.drew.alloc (.cells ROW 82)).frozen? x:=fun x=>rfl
 have hF1:∀ x,(((w.alloc (.cells ROW 82)).drew.setCells w.heap.size (i * 3) vs).drew).cell? x = ((w.drew.alloc (.cells ROW 82)).setCells w.heap.size (i * 3) vs).cell? x:=fun x=>rfl
 have hF2:∀ x,(((w.alloc (.cells ROW 82)).drew.setCells w.heap.size (i * 3) vs).drew).frozen? x = ((w.drew.alloc (.cells ROW 82)).setCells w.heap.size (i * 3) vs).frozen? x:=fun x=>rfl
 have hw1:IntKind.i64.wrap ((i:Int) + 1) = (i:Int) + 1:=by rw [IntKind.wrap_i64]; omega
 have hb1:(0:Int) ≤ (i:Int) + 1:=by omega
 have hin:i ≤ n:=by omega
 have htn:((i:Int) + 1).toNat = i + 1:=by omega
 have hb3:(i:Int) ≤ (n:Int):=by omega
 clear hkk hik hold hROW hG hRl
 refine calls_of_wp Tryz.func79 rfl ?_
 simp only [Tryz.ntmps79,List.size_toArray,List.length_cons,List.length_nil,Nat.reduceAdd,Nat.reduceSub,Array.replicate_succ,Array.replicate_zero,List.push_toArray,List.append_toArray,List.nil_append,List.cons_append]
 go_wp2_with (first
  | (at_builtin; refine Lib.wpList_append_run _ rfl _ _ _ _ rfl _ _ rfl rfl _ _ (hrz _) ?_)
  | (at_builtin; refine wpList_copy_runI _ rfl _ _ 44 44 rfl _ _ rfl rfl (hcpA _ hE1 hE2 _ _) ?_)
  | (at_builtin; refine wpList_copy_runI _ rfl _ _ 44 44 rfl _ _ rfl rfl (hcpB _ (fun _=>rfl) (fun _=>rfl) _ _ _) ?_))
 go_region_law_o (refine step_copy_runI rfl _ _ 44 44 rfl (.slice (some ⟨w.heap.size,(i + 1) * 3,none⟩) (n - i) (G - (i + 1))) (.slice (some ⟨b,i * 3,none⟩) (n - i) (n - i)) (by simp [Act.eval,Act.put]) (by simp [Act.eval,Act.put]) (hcpB _ hF1 hF2 3 (G - (i + 1)) (n - i)) ?_)
 go_wp2
 go_ret
 exact ⟨rfl,rfl⟩
end Go.Proofs.YthjoehaglonjaaaGreat
namespace Go.PV
open Go.RowKit
theorem setCells_heap (b:Nat):∀ (vs:List Value) (o:Nat) (w:World) (cs:Array Value) (t:TypeId) (f:Nat × Nat),w.heap[b]? = some (.cells cs t f) →
  (∃ cs',(w.setCells b o vs).heap[b]? = some (.cells cs' t f) ∧ cs'.size = cs.size) ∧ (∀ b',b' ≠ b → (w.setCells b o vs).heap[b']? = w.heap[b']?) ∧ (w.setCells b o vs).heap.size = w.heap.size ∧ (w.setCells b o vs).os = w.os ∧ (w.setCells b o vs).tape = w.tape ∧ (w.setCells b o vs).output = w.output
 | [],_,w,cs,_,_,h=>⟨⟨cs,h,rfl⟩,fun _ _=>rfl,rfl,rfl,rfl,rfl⟩
 | v :: r,o,w,cs,t,f,h=>by
  have h1:(w.setCell ⟨b,o,none⟩ v).heap[b]? = some (.cells (cs.setIfInBounds o v) t f):=by
   simp only [World.setCell]
   rw [Array.getElem?_modify,if_pos rfl,h]
   rfl
  obtain ⟨⟨cs',a1,a2⟩,a3,a4,a5,a6,a7⟩:=setCells_heap b r (o + 1) _ _ t f h1
  refine ⟨⟨cs',a1,by rw [a2]; simp⟩,fun b' hb=>?_,?_,a5,a6,a7⟩
  ·rw [World.setCells,a3 b' hb]
   simp only [World.setCell]
   rw [Array.getElem?_modify,if_neg (fun e=>hb e.symm)]
  ·rw [World.setCells,a4]
   simp only [World.setCell,Array.size_modify]
theorem cell_of_heap {w:World} {b j:Nat} {cs:Array Value} {t:TypeId} {f:Nat × Nat} (h:w.heap[b]? = some (.cells cs t f)):w.cell? ⟨b,j,none⟩ = cs[j]?:=by simp [World.cell?,h]
def InsPost (b n i:Nat) (k:Nat) (e:TypeId) (cs:List Value) (vs:List Value) (w:World) (x:Ending) (w':World):Prop :=
 ∃ b' c' cs',x = .returned (.slice (some ⟨b',0,none⟩) (n + 1) c') ∧ w'.heap[b']? = some (.cells cs' e (0,0)) ∧ cs'.size = c' * k ∧ n + 1 ≤ c' ∧ c' ≤ maxLen ∧ (b' = b ∨ w.heap.size ≤ b') ∧
  (∀ j,j < i * k → cs'[j]? = cs[j]?) ∧ (∀ j,j < k → cs'[i * k + j]? = vs[j]?) ∧ (∀ j,i * k ≤ j → j < n * k → cs'[j + k]? = cs[j]?) ∧
  (∀ b0,b0 < w.heap.size → b0 ≠ b → w'.heap[b0]? = w.heap[b0]?) ∧ w.heap.size ≤ w'.heap.size ∧ w'.os = w.os ∧ w'.tape = w.tape ∧ w'.output = w.output
end Go.PV
namespace Go.Proofs.YthjoehaglonjaaaGreat
open Go.PV Go.RowKit Go.Lib
theorem insS_calls (b n c i vb vc vt:Nat) (blk vbk:Array Value) (vs:List Value) (w:World) (hi:i < n) (hn:n ≤ 1000000) (hc:c ≤ maxLen) (hnc:n ≤ c) (hvb:vb ≠ b)
  (hb:w.heap[b]? = some (.cells blk 82 (0,0))) (hbs:blk.size = c * 3) (hv:w.heap[vb]? = some (.cells vbk vt (0,0))) (hvl:vs.length = 3) (hvs:∀ (j:Nat) (v:Value),vs[j]? = some v → vbk[j]? = some v)
  (h1c:∀ v ∈ blk.toList.take (n * 3),v.oneCell' = true) (h1v:∀ v ∈ vs,v.oneCell' = true) :
  Calls Tryz.prog 79 #[.slice (some ⟨b,0,none⟩) n c,.int .i64 i,.slice (some ⟨vb,0,none⟩) 1 vc] w (InsPost b n i 3 82 (blk.toList.take (n * 3)) vs w):=by
 obtain ⟨cs,hcs⟩:∃ cs,cs = blk.toList.take (n * 3):=⟨_,rfl⟩
 rw [← hcs] at h1c ⊢
 have hcl:cs.length = n * 3:=by rw [hcs]; simp; omega
 have hcc:∀ (j:Nat) (v:Value),cs[j]? = some v → blk[j]? = some v:=fun j v hj=>by
  rw [hcs,List.getElem?_take] at hj
  split at hj
  ·simpa using hj
  ·cases hj
 have hcell:∀ (j:Nat) (v:Value),cs[j]? = some v → w.cell? ⟨b,j,none⟩ = some v:=fun j v hj=>by rw [cell_of_heap hb]; exact hcc j v hj
 have hvcell:∀ (j:Nat) (v:Value),vs[j]? = some v → w.cell? ⟨vb,j,none⟩ = some v:=fun j v hj=>by rw [cell_of_heap hv]; exact hvs j v hj
 have hdl:(cs.drop (i * 3)).length = (n - i) * 3:=by rw [List.length_drop,hcl,Nat.sub_mul]
 have hbw:b < w.heap.size:=(Array.getElem?_eq_some_iff.1 hb).1
 by_cases hroom:n + 1 ≤ c
 ·refine (insS_shift b n c i vb vc cs vs w hi hroom (by unfold maxLen at hc; omega) hvb hcl hvl hcell (fun j hj=>?_) (fun j=>?_) hvcell h1c h1v vt 82 vbk.size blk.size ?_ ?_ ?_ (fun j=>?_)).mono ?_
  ·rw [cell_of_heap hb,Array.getElem?_eq_getElem (by omega)]; rfl
  ·simp [World.frozen?,hb]
  ·simp [World.shape?,hv]
  ·simp [World.shape?,hb]
  ·omega
  ·simp [World.frozen?,hv]
  ·rintro x w' ⟨rfl,rfl⟩
   obtain ⟨⟨c1,a1,a2⟩,a3,a4,a5,a6,a7⟩:=setCells_heap b (cs.drop (i * 3)) ((i + 1) * 3) w.drew blk _ _ hb
   obtain ⟨⟨c2,b1,b2⟩,b3,b4,b5,b6,b7⟩:=setCells_heap b vs (i * 3) _ _ _ _ a1
   have hin1:=World.cell?_setCells_in b (cs.drop (i * 3)) ((i + 1) * 3) w.drew (fun j hj=>by
    show (w.cell? _).isSome = true
    rw [cell_of_heap hb,Array.getElem?_eq_getElem (by omega)]; rfl)
   have hin2:=World.cell?_setCells_in b vs (i * 3) (w.drew.setCells b ((i + 1) * 3) (cs.drop (i * 3))) (fun j hj=>by
    rw [cell_of_heap a1,Array.getElem?_eq_getElem (by omega)]; rfl)
   refine ⟨b,c,c2,rfl,b1,by rw [b2,a2,hbs],hroom,hc,.inl rfl,fun j hj=>?_,fun j hj=>?_,fun j hj hj2=>?_,fun b0 _ hne=>by rw [b3 b0 hne,a3 b0 hne]; rfl,by rw [b4,a4]; exact Nat.le_refl _,by rw [b5,a5]; rfl,by rw [b6,a6]; rfl,by rw [b7,a7]; rfl⟩
   ·rw [← cell_of_heap b1,World.cell?_setCells_out _ _ _ _ _ (fun _ _=>by left; exact hj),World.cell?_setCells_out _ _ _ _ _ (fun _ _=>by left; show j < (i + 1) * 3; omega)]
    have h2:=List.getElem?_eq_getElem (show j < cs.length by omega)
    rw [h2]; exact hcell j _ h2
   ·rw [← cell_of_heap b1,hin2 j (by omega),List.getElem?_eq_getElem (by omega)]
   ·rw [← cell_of_heap b1,World.cell?_setCells_out _ _ _ _ _ (fun _ _=>by right; show i * 3 + vs.length ≤ j + 3; omega)]
    have h2:=hin1 (j - i * 3) (by omega)
    rw [show (i + 1) * 3 + (j - i * 3) = j + 3 by omega,List.getElem_drop] at h2
    rw [h2,List.getElem?_eq_getElem (by omega)]
    simp only [Option.some.injEq]
    congr 1; omega
 ·obtain rfl:c = n:=by omega
  refine (insS_grow b c i vb vc cs vs w hi hn hcl hvl hcell hvcell h1c h1v).mono ?_
  rintro x w' ⟨rfl,rfl⟩
  obtain ⟨G,hG⟩:∃ G,G = grownCap w (c + 1) c 82:=⟨_,rfl⟩
  have hGn:c + 1 ≤ G:=by rw [hG]; exact grownCap_ge w _ _ _
  have hGm:G ≤ maxLen:=by rw [hG]; exact grownCap_le_maxLen w (c + 1) c 82 (by unfold maxLen; omega)
  rw [← hG]
  obtain ⟨ROW,hROW⟩:∃ ROW:Array Value,ROW = (cs.take (i * 3)).toArray ++ Builtin.zeroCells #[.int .i64 0,.int .i64 0,.slice none 0 0] (c + 1 - i) ++ Builtin.zeroCells #[.int .i64 0,.int .i64 0,.slice none 0 0] (G - (c + 1)):=⟨_,rfl⟩
  rw [← hROW]
  have hRs:ROW.size = G * 3:=by
   rw [hROW,Array.size_append,Array.size_append,size_zeroCells,size_zeroCells]
   simp
   omega
  have hnew:(w.alloc (.cells ROW 82)).drew.heap[w.heap.size]? = some (.cells ROW 82 (0,0)):=by
   show (w.heap.push _)[w.heap.size]? = _
   exact Array.getElem?_push_size
  obtain ⟨⟨c1,a1,a2⟩,a3,a4,a5,a6,a7⟩:=setCells_heap w.heap.size vs (i * 3) (w.alloc (.cells ROW 82)).drew ROW _ _ hnew
  have a1':((w.alloc (.cells ROW 82)).drew.setCells w.heap.size (i * 3) vs).drew.heap[w.heap.size]? = some (.cells c1 82 (0,0)):=a1
  obtain ⟨⟨c2,b1,b2⟩,b3,b4,b5,b6,b7⟩:=setCells_heap w.heap.size (cs.drop (i * 3)) ((i + 1) * 3) _ _ _ _ a1'
  have hin1:=World.cell?_setCells_in w.heap.size vs (i * 3) (w.alloc (.cells ROW 82)).drew (fun j hj=>by
   rw [cell_of_heap hnew,Array.getElem?_eq_getElem (by omega)]; rfl)
  have hin2:=World.cell?_setCells_in w.heap.size (cs.drop (i * 3)) ((i + 1) * 3) ((w.alloc (.cells ROW 82)).drew.setCells w.heap.size (i * 3) vs).drew (fun j hj=>by
   rw [cell_of_heap a1',Array.getElem?_eq_getElem (by omega)]; rfl)
  refine ⟨w.heap.size,G,c2,rfl,b1,by rw [b2,a2,hRs],hGn,hGm,.inr (Nat.le_refl _),fun j hj=>?_,fun j hj=>?_,fun j hj hj2=>?_,fun b0 hb0 hne=>?_,?_,by rw [b5]; show (World.setCells _ _ _ _).os = _; rw [a5]; rfl,by rw [b6]; show (World.setCells _ _ _ _).tape = _; rw [a6]; rfl,by rw [b7]; show (World.setCells _ _ _ _).output = _; rw [a7]; rfl⟩
  ·rw [← cell_of_heap b1,World.cell?_setCells_out _ _ _ _ _ (fun _ _=>by left; show j < (i + 1) * 3; omega)]
   show (World.setCells _ _ _ _).cell? _ = _
   rw [World.cell?_setCells_out _ _ _ _ _ (fun _ _=>by left; exact hj),cell_of_heap hnew,hROW]
   rw [Array.getElem?_append_left (by simp; omega),Array.getElem?_append_left (by simp; omega)]
   simp [List.getElem?_take,hj]
  ·rw [← cell_of_heap b1,World.cell?_setCells_out _ _ _ _ _ (fun _ _=>by left; show i * 3 + j < (i + 1) * 3; omega)]
   show (World.setCells _ _ _ _).cell? _ = _
   rw [hin1 j (by omega),List.getElem?_eq_getElem (by omega)]
  ·rw [← cell_of_heap b1]
   have h2:=hin2 (j - i * 3) (by omega)
   rw [show (i + 1) * 3 + (j - i * 3) = j + 3 by omega,List.getElem_drop] at h2
   rw [h2,List.getElem?_eq_getElem (by omega)]
   simp only [Option.some.injEq]
   congr 1; omega
  ·rw [b3 b0 (by omega)]
   show (World.setCells _ _ _ _).heap[b0]? = _
   rw [a3 b0 (by omega)]
   show (w.heap.push _)[b0]? = _
   rw [Array.getElem?_push_lt hb0,Array.getElem?_eq_getElem hb0]
  ·rw [b4]
   show _ ≤ (World.setCells _ _ _ _).heap.size
   rw [a4]
   show _ ≤ (w.heap.push _).size
   simp
theorem insS_mid (σ:Store) (oo p v vp i:Nat) (Rw:List (List PV)) (row:List PV) (hoo:σ[oo]? = some (.rows 82 3 Rw v)) (hp:σ[p]? = some (.rows 82 3 [row] vp)) (hne:oo ≠ p) (hi:i < Rw.length) (hn:Rw.length ≤ 1000000)
  (hc1:∀ r ∈ Rw,∀ q ∈ r,PV.cell q = true) (hc2:∀ q ∈ row,PV.cell q = true) :
  PCall Tryz.prog 79 [.msl oo v,.int .i64 i,.msl p vp] σ (fun q τ=>q = .msl oo (v + 1) ∧ τ = σ.set oo (.rows 82 3 (Rw.take i ++ row :: Rw.drop i) (v + 1))):=by
 refine ⟨by kernel_rfl,fun I ρ w vs hinv ha=>?_⟩
 have h0:=ha.2 0 _ rfl
 have h1:=ha.2 1 _ rfl
 have h2:=ha.2 2 _ rfl
 have hsz:vs.size = 3:=ha.1
 have hvs:vs = #[vs.getD 0 Go.undef,vs.getD 1 Go.undef,vs.getD 2 Go.undef]:=by
  apply Array.ext
  ·simp [hsz]
  ·intro i hi1 hi2
   simp at hi2
   match i,hi2 with
   | 0,_=>simp [Array.getD,hsz]
   | 1,_=>simp [Array.getD,hsz]
   | 2,_=>simp [Array.getD,hsz]
 generalize vs.getD 0 Go.undef = u at h0 hvs
 generalize vs.getD 1 Go.undef = f at h1 hvs
 generalize vs.getD 2 Go.undef = g at h2 hvs
 cases h0 with
 | msl _ _ L hL =>
 cases h1
 cases h2 with
 | msl _ _ M hM =>
 obtain ⟨L',cs,hL',e1,e2,e3,e4,e5,e6,e7,e8,e9,e10⟩:=hinv.objs oo _ hoo
 cases hL.symm.trans hL'
 obtain ⟨M',ds,hM',g1,g2,g3,g4,g5,g6,g7,g8,g9,g10⟩:=hinv.objs p _ hp
 cases hM.symm.trans hM'
 have hapart:M.block ≠ L.block:=fun e=>hne (hinv.apart oo p L.block ⟨_,L,hoo,by simp,hL,rfl⟩ ⟨_,M,hp,by simp,hM,e⟩)
 have hrl:row.length = 3:=g7 row (by simp)
 have hml:M.len = 1:=g2
 have hcell:∀ t,t < Rw.length * 3 → ∃ v,cs[t]? = some v ∧ R I ρ ((Rw.getD (t / 3) []).getD (t % 3) .unk) v:=fun t ht=>by
  have hi:t / 3 < Rw.length:=by omega
  have h3:(Rw[t / 3]).length = 3:=e7 _ (List.getElem_mem hi)
  obtain ⟨u,hu,hr⟩:=e8 (t / 3) _ (t % 3) _ (List.getElem?_eq_getElem hi) (List.getElem?_eq_getElem (show t % 3 < (Rw[t / 3]).length by omega))
  refine ⟨u,by rw [← hu]; congr 1; omega,?_⟩
  rw [List.getD_eq_getElem?_getD (l:=Rw),List.getElem?_eq_getElem hi,Option.getD_some,List.getD_eq_getElem?_getD,List.getElem?_eq_getElem (show t % 3 < (Rw[t / 3]).length by omega)]
  exact hr
 have hrcell:∀ j,j < 3 → ∃ v,ds[j]? = some v ∧ R I ρ (row.getD j .unk) v:=fun j hj=>by
  obtain ⟨u,hu,hr⟩:=g8 0 row j _ rfl (List.getElem?_eq_getElem (show j < row.length by omega))
  refine ⟨u,by rw [← hu]; congr 1; omega,?_⟩
  rw [List.getD_eq_getElem?_getD,List.getElem?_eq_getElem (show j < row.length by omega)]
  exact hr
 have hds:3 ≤ ds.size:=by rw [g6]; have:=g4; omega
 have hcall:=insS_calls L.block L.len L.cap i M.block M.cap 82 cs ds (ds.toList.take 3) w (by rw [e2]; exact hi) (by rw [e2]; exact hn) e5 e4 hapart e3 e6 g3 (by simp; omega)
  (fun j u hj=>by
   rw [List.getElem?_take] at hj
   split at hj
   ·simpa using hj
   ·cases hj)
  (fun x hx=>by
   obtain ⟨j,hj,rfl⟩:=List.mem_iff_getElem.1 hx
   simp at hj
   obtain ⟨u,hu,hr⟩:=hcell j (by rw [← e2]; omega)
   have hx2:(cs.toList.take (L.len * 3))[j]'(by simp; omega) = u:=by
    rw [List.getElem_take]
    have:=Array.getElem?_eq_getElem (xs:=cs) (i:=j) (by omega)
    rw [this] at hu
    simpa using hu
   rw [hx2]
   refine hr.oneCell ?_
   have hi:j / 3 < Rw.length:=by rw [← e2]; omega
   have h3:(Rw[j / 3]).length = 3:=e7 _ (List.getElem_mem hi)
   rw [List.getD_eq_getElem?_getD (l:=Rw),List.getElem?_eq_getElem hi,Option.getD_some,List.getD_eq_getElem?_getD,List.getElem?_eq_getElem (show j % 3 < (Rw[j / 3]).length by omega)]
   exact hc1 _ (List.getElem_mem hi) _ (List.getElem_mem _))
  (fun x hx=>by
   obtain ⟨j,hj,rfl⟩:=List.mem_iff_getElem.1 hx
   simp at hj
   obtain ⟨u,hu,hr⟩:=hrcell j (by omega)
   have hx2:(ds.toList.take 3)[j]'(by simp; omega) = u:=by
    rw [List.getElem_take]
    have:=Array.getElem?_eq_getElem (xs:=ds) (i:=j) (by omega)
    rw [this] at hu
    simpa using hu
   rw [hx2]
   refine hr.oneCell ?_
   rw [List.getD_eq_getElem?_getD,List.getElem?_eq_getElem (show j < row.length by omega)]
   exact hc2 _ (List.getElem_mem _))
 rw [hvs,hml]
 refine hcall.mono ?_
 rintro x w' ⟨b',c',cs',rfl,k1,k2,k3,k4,k5,k6,k7,k8,k9,k10,k11,k12,k13⟩
 rw [e2] at k3 k8 ⊢
 have hd:∀ j,j < Rw.length * 3 → (cs.toList.take (Rw.length * 3))[j]? = cs[j]?:=fun j hj=>by
  rw [List.getElem?_take_of_lt hj,Array.getElem?_toList]
 have hdr:∀ j,j < 3 → (ds.toList.take 3)[j]? = ds[j]?:=fun j hj=>by
  rw [List.getElem?_take_of_lt hj,Array.getElem?_toList]
 rw [e2] at k6
 obtain ⟨L2,hL2⟩:∃ L2:Go.PV.Loc,L2 = ⟨b',3,Rw.length + 1,c'⟩:=⟨_,rfl⟩
 have hup:=hinv.update (w':=w') (obj':=.rows 82 3 (Rw.take i ++ row :: Rw.drop i) (v + 1)) (L':=L2) hoo (by simp) hL (.inl (e10 (v + 1) (by omega))) (by rw [hL2]; exact k5) k9 k10 k11 k12 k13
  ⟨L2,cs',by simp [extR,verOf],by rw [hL2],by rw [hL2]; simp; omega,by rw [hL2]; exact k1,by rw [hL2]; exact k3,by rw [hL2]; exact k4,by rw [hL2]; exact k2,fun r hr=>by
   rcases List.mem_append.1 hr with hr | hr
   ·exact e7 r (List.mem_of_mem_take hr)
   ·rcases List.mem_cons.1 hr with rfl | hr
    ·exact hrl
    ·exact e7 r (List.mem_of_mem_drop hr),fun t r j q ht hj=>?_,fun off=>?_,fun v' hv'=>?_⟩
 ·refine ⟨_,.msl oo (v + 1),I,_,_,rfl,?_,hup.1,hup.2,rfl,rfl⟩
  have:=R.msl (I:=I) (ρ:=extR ρ oo (v + 1) L2) oo (v + 1) L2 (extR_same _ _ _ _)
  rw [hL2] at this ⊢
  exact this
 ·have hmono:∀ {q:PV} {u:Value},R I ρ q u → R I (extR ρ oo (v + 1) L2) q u:=fun h=>h.mono (fun _ _ _ h=>h) (extR_le (.inl (e10 (v + 1) (by omega))))
  have hj3:∀ rr:List PV,rr.length = 3 → rr[j]? = some q → j < 3:=fun rr h h2=>by have:=(List.getElem?_eq_some_iff.1 h2).1; omega
  show ∃ z,cs'[t * 3 + j]? = some z ∧ R I (extR ρ oo (v + 1) L2) q z
  rcases Nat.lt_trichotomy t i with hti | rfl | hti
  ·rw [List.getElem?_append_left (by simp; omega),List.getElem?_take,if_pos hti] at ht
   have hr3:=e7 r (List.mem_of_getElem? ht)
   have hjl:=hj3 r hr3 hj
   obtain ⟨u,hu,hr⟩:=e8 t r j q ht hj
   exact ⟨u,by rw [k6 _ (by omega),hd _ (by omega)]; exact hu,hmono hr⟩
  ·rw [List.getElem?_append_right (by simp; omega)] at ht
   simp [Nat.min_eq_left (Nat.le_of_lt hi)] at ht
   subst ht
   have hjl:=hj3 row hrl hj
   obtain ⟨u,hu,hr⟩:=hrcell j hjl
   refine ⟨u,by rw [k7 _ hjl,hdr _ hjl]; exact hu,hmono ?_⟩
   rw [List.getD_eq_getElem?_getD,hj] at hr
   exact hr
  ·obtain ⟨s,rfl⟩:∃ s,t = i + 1 + s:=⟨t - (i + 1),by omega⟩
   rw [List.getElem?_append_right (by simp; omega)] at ht
   have e:i + 1 + s - (Rw.take i).length = s + 1:=by simp [Nat.min_eq_left (Nat.le_of_lt hi)]; omega
   rw [e,List.getElem?_cons_succ,List.getElem?_drop] at ht
   have hr3:=e7 r (List.mem_of_getElem? ht)
   have hjl:=hj3 r hr3 hj
   have hsl:=(List.getElem?_eq_some_iff.1 ht).1
   obtain ⟨u,hu,hr⟩:=e8 (i + s) r j q ht hj
   refine ⟨u,?_,hmono hr⟩
   have:=k8 ((i + s) * 3 + j) (by omega) (by omega)
   rw [show (i + s) * 3 + j + 3 = (i + 1 + s) * 3 + j by omega,hd _ (by omega)] at this
   rw [this]; exact hu
 ·rw [hL2]
  rcases k5 with rfl | hb
  ·exact e9 off
  ·cases hI:I b' off with
   | none=>rfl
   | some u=>exact absurd (World.block_lt_of_cell? w ⟨b',off,none⟩ (hinv.imm b' off u hI)) (by simp; omega)
 ·have hv2:v + 1 < v':=hv'
  show extR ρ oo (v + 1) L2 oo v' = none
  rw [extR_other (fun h=>by omega)]
  exact e10 v' (by omega)
end Go.Proofs.YthjoehaglonjaaaGreat
