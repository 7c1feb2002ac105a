import Derived.Test.YthjoehaglonjaaaPvZ
import Derived.Test.YthjoehaglonjaaaStW
import Derived.Shelf.RegionOpenPlain
import Derived.WalkKit
import Derived.StillTailTactics
import Derived.Lib.Walk
set_option maxRecDepth 8000
set_option linter.unusedSimpArgs false
set_option linter.unusedVariables false
namespace Go.Proofs.Ythjoehaglonjaaa
open Go.PV Go.RowKit Go.Proofs Go.Sort Go.Shelf Go.Lib
def sortL_ren:Ren:=⟨fun | 6=>82 | 15=>110 | 14=>109 | 28=>130 | 29=>131 | 20=>122 | 21=>123 | 22=>124 | 23=>125 | 24=>126 | 25=>127 | 26=>128 | 27=>129 | 46=>145 | 47=>146 | 48=>147 | 49=>148 | 50=>149 | 57=>155 | n=>n,fun | 22=>24 | 24=>58 | 25=>99 | 3=>3 | 39=>162 | 0=>0 | 53=>183 | 55=>27 | 4=>4 | 46=>176 | 45=>175 | 50=>180 | 5=>5 | 9=>9 | 66=>195 | 70=>199 | 76=>203 | 77=>204 | n=>n,fun | n=>n⟩
theorem sortL:SlLaysF0.n6 Try.prog sortL_ren where
 mixed:=by kernel_rfl
 f6:=⟨Try.f82.name,by decide +kernel,Try.func82.trans (congrArg some (by kernel_rfl))⟩
 f14:=⟨Try.f109.name,by decide +kernel,Try.func109.trans (congrArg some (by kernel_rfl))⟩
 f15:=Try.func110.trans (congrArg some (by kernel_rfl))
 f20:=⟨Try.f122.name,by decide +kernel,Try.func122.trans (congrArg some (by kernel_rfl))⟩
 f21:=⟨Try.f123.name,by decide +kernel,Try.func123.trans (congrArg some (by kernel_rfl))⟩
 f22:=⟨Try.f124.name,by decide +kernel,Try.func124.trans (congrArg some (by kernel_rfl))⟩
 f23:=⟨Try.f125.name,by decide +kernel,Try.func125.trans (congrArg some (by kernel_rfl))⟩
 f24:=⟨Try.f126.name,by decide +kernel,Try.func126.trans (congrArg some (by kernel_rfl))⟩
 f25:=⟨Try.f127.name,by decide +kernel,Try.func127.trans (congrArg some (by kernel_rfl))⟩
 f26:=⟨Try.f128.name,by decide +kernel,Try.func128.trans (congrArg some (by kernel_rfl))⟩
 f27:=⟨Try.f129.name,by decide +kernel,Try.func129.trans (congrArg some (by kernel_rfl))⟩
 f28:=Try.func130.trans (congrArg some (by kernel_rfl))
 f29:=Try.func131.trans (congrArg some (by kernel_rfl))
 f46:=⟨Try.f145.name,by decide +kernel,Try.func145.trans (congrArg some (by kernel_rfl))⟩
 f47:=Try.func146.trans (congrArg some (by kernel_rfl))
 f48:=Try.func147.trans (congrArg some (by kernel_rfl))
 f49:=⟨Try.f148.name,by decide +kernel,Try.func148.trans (congrArg some (by kernel_rfl))⟩
 f50:=⟨Try.f149.name,by decide +kernel,Try.func149.trans (congrArg some (by kernel_rfl))⟩
 f57:=⟨Try.f155.name,by decide +kernel,Try.func155.trans (congrArg some (by kernel_rfl))⟩
 t0:=Try.underlying0
 a0:=Try.isAgg0
 z0:=Try.sizeOf0
 v0:=Try.zeroValue0
 t3:=Try.underlying3
 a3:=Try.isAgg3
 z3:=Try.sizeOf3
 v3:=Try.zeroValue3
 t4:=Try.underlying4
 a4:=Try.isAgg4
 z4:=Try.sizeOf4
 v4:=Try.zeroValue4
 t5:=Try.underlying5
 a5:=Try.isAgg5
 z5:=Try.sizeOf5
 v5:=Try.zeroValue5
 t9:=Try.underlying9
 a9:=Try.isAgg9
 z9:=Try.sizeOf9
 v9:=Try.zeroValue9
 t22:=Try.underlying24
 a22:=Try.isAgg24
 z22:=Try.sizeOf24
 v22:=Try.zeroValue24
 t25:=Try.underlying99
 a25:=Try.isAgg99
 z25:=Try.sizeOf99
 v25:=Try.zeroValue99
 t39:=Try.underlying162
 a39:=Try.isAgg162
 z39:=Try.sizeOf162
 v39:=Try.zeroValue162
 t45:=Try.underlying175
 a45:=Try.isAgg175
 z45:=Try.sizeOf175
 v45:=Try.zeroValue175
 t46:=Try.underlying176
 a46:=Try.isAgg176
 z46:=Try.sizeOf176
 v46:=Try.zeroValue176
 t50:=Try.underlying180
 a50:=Try.isAgg180
 z50:=Try.sizeOf180
 v50:=Try.zeroValue180
 t53:=Try.underlying183
 a53:=Try.isAgg183
 z53:=Try.sizeOf183
 v53:=Try.zeroValue183
 t55:=Try.underlying27
 a55:=Try.isAgg27
 z55:=Try.sizeOf27
 v55:=Try.zeroValue27
 t66:=Try.underlying195
 a66:=Try.isAgg195
 z66:=Try.sizeOf195
 v66:=Try.zeroValue195
 t70:=Try.underlying199
 a70:=Try.isAgg199
 z70:=Try.sizeOf199
 v70:=Try.zeroValue199
 t76:=Try.underlying203
 a76:=Try.isAgg203
 z76:=Try.sizeOf203
 v76:=Try.zeroValue203
 t77:=Try.underlying204
 a77:=Try.isAgg204
 z77:=Try.sizeOf204
 v77:=Try.zeroValue204
theorem nanK (x:Int) (w:World):Calls Try.prog 111 #[.int .i64 x] w fun e w'=>e = .returned (.bool false) ∧ w' = w:=by
 go_enter Try.func111,Try.ntmps111
 go_wp2
 go_ret
 exact ⟨by simp,rfl⟩
set_option maxHeartbeats 1000000 in
theorem cmpK (x y:Int) (w:World):Calls Try.prog 85 #[.int .i64 x,.int .i64 y] w fun e w'=>e = .returned (.int .i64 (cmpI x y)) ∧ w' = w:=by
 go_enter Try.func85,Try.ntmps85
 go_wp2_with (go_at_call 111; refine (nanK _ _).mono ?_; rintro e w' ⟨rfl,hw⟩; rw [hw])
 all_goals (go_ret; refine ⟨?_,rfl⟩; unfold cmpI; (repeat' split) <;> first | rfl | (exfalso; omega))
set_option maxHeartbeats 1000000 in
theorem orK (b n:Nat) (z:Nat → Int) (w:World) (hc:∀ j,j < 3 → w.cell? ⟨b,j,none⟩ = some (.int .i64 (z j))) :
  Calls Try.prog 84 #[.slice (some ⟨b,0,none⟩) 3 n] w fun e w'=>e = .returned (.int .i64 (or3 (z 0) (z 1) (z 2))) ∧ w' = w:=by
 go_enter Try.func84,Try.ntmps84
 go_wp2
 go_loop [5,8] (fun _ i=>∃ k:Nat,k ≤ 3 ∧ i = .int .i64 k ∧ ∀ j,j < k → z j = 0) (fun _ i=>match i with | .int _ m=>3 - m.toNat | _=>0)
 case atStart=>exact ⟨0,Nat.zero_le _,rfl,fun j hj=>absurd hj (Nat.not_lt_zero _)⟩
 case round =>
  obtain ⟨k,hk,rfl,hne⟩:=hrel
  by_cases hk3:k < 3
  ·have hcell:w.cell? ⟨b,k,none⟩ = some (.int .i64 (z k)):=hc k hk3
   go_wp2
   ·have hz0:z k ≠ 0:=by intro e; simp_all
    go_ret
    refine ⟨?_,rfl⟩
    have h0:=hne 0
    have h1:=hne 1
    congr 1
    unfold or3 or2
    rcases (show k = 0 ∨ k = 1 ∨ k = 2 by omega) with rfl | rfl | rfl
    ·rw [if_pos hz0]; rfl
    ·rw [if_neg (by rw [h0 (by omega)]; simp),if_pos hz0]; rfl
    ·rw [if_neg (by rw [h0 (by omega)]; simp),if_neg (by rw [h1 (by omega)]; simp)]; rfl
   ·have hz0:z k = 0:=by
     by_cases e:z k = 0
     ·exact e
     ·simp_all
    refine ⟨⟨k + 1,hk3,by rw [Int.natCast_add]; rfl,fun j hj=>?_⟩,?_⟩
    ·by_cases e:j = k
     ·rw [e]; exact hz0
     ·exact hne j (by omega)
    ·show 3 - ((k:Int) + 1).toNat < 3 - (k:Int).toNat
     omega
  ·obtain rfl:k = 3:=by omega
   go_wp2
   go_ret
   refine ⟨?_,rfl⟩
   have h0:=hne 0 (by omega)
   have h1:=hne 1 (by omega)
   have h2:=hne 2 (by omega)
   simp [or3,or2,h0,h1,h2]
set_option maxHeartbeats 600000 in
theorem compK (x y:Idn) (w:World):Calls Try.prog 54 #[.agg #[.int .i64 x.1,.int .i64 x.2.1,.int .i64 x.2.2],.agg #[.int .i64 y.1,.int .i64 y.2.1,.int .i64 y.2.2]] w fun e w'=>e = .returned (.int .i64 (cmp3 x y)) ∧ ∃ q os',w' = grow (w.drewN q) os':=by
 have h3:=fun (b:Nat) (w:World) (a1 a2 a3:Int) (hb:∀ j,j < 3 → w.cell? ⟨b,j,none⟩ = some (.int .i64 ((fun j=>if j = 0 then a1 else if j = 1 then a2 else a3) j)))=>orK b 3 (fun j=>if j = 0 then a1 else if j = 1 then a2 else a3) w hb
 unfold cmp3
 generalize h1:cmpI x.1 y.1 = c1
 generalize h2:cmpI x.2.1 y.2.1 = c2
 generalize h4:cmpI x.2.2 y.2.2 = c3
 go_enter Try.func54,Try.ntmps54
 go_wp2
 obtain ⟨W,hW⟩:∃ W,W = (w.alloc (.cells #[.int .i64 x.1,.int .i64 x.2.1,.int .i64 x.2.2] 58)).alloc (.cells #[.int .i64 y.1,.int .i64 y.2.1,.int .i64 y.2.2] 58):=⟨_,rfl⟩
 have a0:W.cell? ⟨w.heap.size,0,none⟩ = some (.int .i64 x.1):=by rw [hW]; simp only [World.alloc,World.cell?,Array.getElem?_push]; simp [Array.getElem?_push]
 have a1:W.cell? ⟨w.heap.size,1,none⟩ = some (.int .i64 x.2.1):=by rw [hW]; simp only [World.alloc,World.cell?,Array.getElem?_push]; simp [Array.getElem?_push]
 have a2:W.cell? ⟨w.heap.size,2,none⟩ = some (.int .i64 x.2.2):=by rw [hW]; simp only [World.alloc,World.cell?,Array.getElem?_push]; simp [Array.getElem?_push]
 have b0:W.cell? ⟨w.heap.size + 1,0,none⟩ = some (.int .i64 y.1):=by rw [hW]; simp only [World.alloc,World.cell?,Array.getElem?_push]; simp [Array.getElem?_push]
 have b1:W.cell? ⟨w.heap.size + 1,1,none⟩ = some (.int .i64 y.2.1):=by rw [hW]; simp only [World.alloc,World.cell?,Array.getElem?_push]; simp [Array.getElem?_push]
 have b2:W.cell? ⟨w.heap.size + 1,2,none⟩ = some (.int .i64 y.2.2):=by rw [hW]; simp only [World.alloc,World.cell?,Array.getElem?_push]; simp [Array.getElem?_push]
 rw [← hW]
 refine wp_region_still_tail 15 (by kernel_rfl) (by kernel_rfl) ?_
 obtain ⟨V,hV⟩:∃ V,V = W.drew:=⟨_,rfl⟩
 have v0:V.cell? ⟨w.heap.size,0,none⟩ = some (.int .i64 x.1):=by rw [hV,World.cell?_drew,a0]
 have v1:V.cell? ⟨w.heap.size,1,none⟩ = some (.int .i64 x.2.1):=by rw [hV,World.cell?_drew,a1]
 have v2:V.cell? ⟨w.heap.size,2,none⟩ = some (.int .i64 x.2.2):=by rw [hV,World.cell?_drew,a2]
 have u0:V.cell? ⟨w.heap.size + 1,0,none⟩ = some (.int .i64 y.1):=by rw [hV,World.cell?_drew,b0]
 have u1:V.cell? ⟨w.heap.size + 1,1,none⟩ = some (.int .i64 y.2.1):=by rw [hV,World.cell?_drew,b1]
 have u2:V.cell? ⟨w.heap.size + 1,2,none⟩ = some (.int .i64 y.2.2):=by rw [hV,World.cell?_drew,b2]
 rw [show ({ heap:=W.heap,tape:=W.tape,drawn:=W.drawn + 1,os:=W.os,output:=W.output }:World) = V from hV.symm]
 simp only [List.take_succ_cons,List.take_zero,List.drop_succ_cons,List.drop_zero]
 repeat still_step
 still_call (cmpK _ _ _)
 repeat still_step
 still_call (cmpK _ _ _)
 repeat still_step
 still_call (cmpK _ _ _)
 refine wpStill_nil ?_
 try rw [← hW]
 try rw [← hV]
 clear a0 a1 a2 b0 b1 b2 v0 v1 v2 u0 u1 u2
 rw [h4]
 have hfin:∀ o,V.alloc o = grow (w.drewN 1) #[.cells #[.int .i64 x.1,.int .i64 x.2.1,.int .i64 x.2.2] 58,.cells #[.int .i64 y.1,.int .i64 y.2.1,.int .i64 y.2.2] 58,o]:=by
  intro o
  rw [hV,hW]
  simp only [World.alloc,grow,World.drewN]
  simp only [World.drew,World.mk.injEq,and_true,true_and]
  exact Array.ext' (by simp)
 have hc:=h3 V.heap.size (V.alloc (.cells #[.int .i64 c1,.int .i64 c2,.int .i64 c3] 3)) c1 c2 c3 (fun j hj=>by
  rw [World.cell?_alloc_new]
  rcases (show j = 0 ∨ j = 1 ∨ j = 2 by omega) with rfl | rfl | rfl <;> simp)
 simp only [if_true,if_false,Nat.reduceEqDiff] at hc
 rw [hfin] at hc
 clear hV hW h3 h1 h2 h4
 go_wp2_with (go_at_call 84; refine hc.mono ?_; rintro e w' ⟨rfl,rfl⟩)
 go_ret
 exact ⟨rfl,1,_,rfl⟩
def ciD (x:Idn):List Int:=[x.1,x.2.1,x.2.2]
theorem ltD (x y:Idn):ltOf cmp3 x y = true ↔ idlt x y:=by
 unfold ltOf; rw [decide_eq_true_iff]; exact cmp3_lt x y
theorem swoD:SWO (ltOf cmp3) where
 irrefl x:=by
  rw [Bool.eq_false_iff]; intro h
  have:=(ltD x x).1 h
  unfold idlt at this; omega
 trans x y z h1 h2:=by
  rw [ltD] at h1 h2 ⊢
  exact idlt_trans h1 h2
 ntrans x y z h1 h2:=by
  have e:∀ a b,ltOf cmp3 a b = false ↔ ¬ idlt a b:=fun a b=>by rw [← ltD,Bool.not_eq_true]
  rw [e] at h1 h2 ⊢
  unfold idlt at *
  omega
theorem sortAny_ok (o v:Nat) (L0:List Idn) (σ:Store) (ho:σ[o]? = some (.rows 58 3 (encD L0) v)) (hl:L0.length < 4611686018427387904) :
  PCall Try.prog 82 [.msl o v,.func (.func 54) [] []] σ (fun p σ'=>p = .tup [] ∧ ∃ L,L.Perm L0 ∧ (∀ u w,u < w → w < L.length → idle (L.getD u default) (L.getD w default)) ∧ σ' = σ.set o (.rows 58 3 (encD L) v)):=by
 have eg:∀ args w,(callFunc 54 args).run Try.prog w = .ok (.enter 54 args) w:=enters_of Try.func54 (by kernel_rfl) rfl
 have key:=PCall.ofSort (P:=Try.prog) (F:=82) (g:=54) ciD 3 (fun _=>rfl) (by omega) (ltOf cmp3) (by kernel_rfl) (fun blk cap d w hH hblk hsz =>
  AnyQ.slices_SortFunc sortL 3 Try.isAgg58 Try.sizeOf58 (cellsW ciD) (fun _=>rfl) (fun x v hv=>by simp [cellsW,ciD] at hv; rcases hv with rfl | rfl | rfl <;> rfl) cmp3 swoD 54 #[] blk 0 cap d w eg (fun _ _ _ _ x y=>compK x y _) hH hblk hsz) o v 58 L0 σ ho hl
 refine PCall.mono key ?_
 rintro p σ' ⟨rfl,L,h1,h2,rfl⟩
 refine ⟨rfl,L,h1,fun u w hu hw=>?_,rfl⟩
 have:=h2 u w hu hw
 intro h
 rw [(ltD _ _).2 h] at this
 cases this
theorem union22_w (a b:List Idn) (hl:a.length + b.length ≤ 100) :
  PCall Try.prog 53 [.sl (encD a),.sl (encD b)] [] (fun q _=>∃ r,q = .sl (encD r) ∧ UnD a b r):=by
 refine PCall.vfrz [] 63 14 [.tmp 4] (noE_ok _) mix Try.func53 rfl (by decide) rfl rfl (by simp) ?_
 simp -dsimp only [initFr,List.zipIdx_cons,List.zipIdx_nil,List.map_cons,List.map_nil,Nat.zero_add,Nat.reduceAdd]
 simp -dsimp (maxSteps:=4000000) +contextual (disch:=first | omega | decide +kernel) only [↓vsD,vsE,↓Nat.reduceLT,simprocAttr]
 refine PCall.mono (concat_ok a b (by omega) (by omega) []) ?_
 rintro p σ' (⟨rfl,rfl,rfl,rfl⟩ | ⟨hpos,v,rfl,rfl⟩)
 ·simp -dsimp (maxSteps:=4000000) +contextual (disch:=first | omega | decide +kernel) only [↓vsD,vsE,↓Nat.reduceLT,simprocAttr]
  refine PCall.mono (sort0_ok []) ?_
  rintro p σ' ⟨rfl,rfl⟩
  simp -dsimp (maxSteps:=4000000) +contextual (disch:=first | omega | decide +kernel) only [↓vsD,vsE,↓Nat.reduceLT,simprocAttr]
  refine PCall.mono (compact0_ok []) ?_
  rintro p σ' ⟨rfl,rfl⟩
  simp -dsimp (maxSteps:=4000000) +contextual (disch:=first | omega | decide +kernel) only [↓vsD,vsE,↓Nat.reduceLT,simprocAttr]
  exact fin0 .nils ⟨[],rfl,List.Pairwise.nil,fun x=>by simp⟩
 ·simp -dsimp (maxSteps:=4000000) +contextual (disch:=first | omega | decide +kernel) only [↓vsD,vsE,↓Nat.reduceLT,simprocAttr]
  refine PCall.mono (sortAny_ok 0 v (a ++ b) _ (by simp) (by simp; omega)) ?_
  rintro p σ' ⟨rfl,L,hp,hso,rfl⟩
  simp -dsimp (maxSteps:=4000000) +contextual (disch:=first | omega | decide +kernel) only [↓vsD,vsE,↓Nat.reduceLT,simprocAttr]
  refine PCall.mono (compact_ok 0 v L (by have:=hp.length_eq; simp at this; omega) hso _ (by simp)) ?_
  rintro p σ' ⟨v',r,rfl,hr,hm,rfl⟩
  simp -dsimp (maxSteps:=4000000) +contextual (disch:=first | omega | decide +kernel) only [↓vsD,vsE,↓Nat.reduceLT,simprocAttr]
  refine fin0 (Frz.msl0 (Nat.zero_le _) rfl (encD_bel _ _)) ⟨r,rfl,hr,fun x=>?_⟩
  rw [hm,hp.mem_iff,List.mem_append]
theorem unionOk22:UnionOk 22:=fun a b h σ =>
 PCall.lift (union22_w a b (by omega)) (bel2 (bel_ids _ _) (bel_ids _ _)) (fun q h=>by obtain ⟨r,rfl,h⟩:=h; exact ⟨bel_ids _ _,⟨r,rfl,h⟩,rfl⟩)
end Go.Proofs.Ythjoehaglonjaaa
