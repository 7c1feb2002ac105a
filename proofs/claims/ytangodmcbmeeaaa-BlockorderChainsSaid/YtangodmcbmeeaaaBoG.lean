import Derived.Test.YtangodmcbmeeaaaBoF
import Derived.Test.YtangodmcbmeeaaaSwD
import Derived.Test.YtangodmcbmeeaaaScD
set_option maxRecDepth 8000
set_option linter.unusedSimpArgs false
set_option linter.unusedVariables false
namespace Go.Proofs.Ytangodmcbmeeaaa
open Go.PV
def cmpG (a b:Int):Int:=if a < b then -1 else if b < a then 1 else 0
theorem cmpG_neg (a b:Int):cmpG a b < 0 ↔ a < b:=by
 unfold cmpG
 repeat' split
 all_goals omega
theorem gNaN_ok (a:Int) (σ:Store):PCall Try.prog 89 [.int .i64 a] σ (fun p σ'=>p = .bool false ∧ σ' = σ):=by
 refine PCall.vraw [] 7 6 [.tmp 2] (noE_ok _) mix Try.func89 rfl (by decide) rfl rfl (by simp) ?_
 simp -dsimp only [initFr,List.zipIdx_cons,List.zipIdx_nil,List.map_cons,List.map_nil,Nat.zero_add,Nat.reduceAdd]
 simp -dsimp (maxSteps:=4000000) +contextual (disch:=first | omega | decide +kernel) only [↓vsD,vsE,↓Nat.reduceLT,simprocAttr]
theorem gCompare_ok (a b:Int) (σ:Store):PCall Try.prog 58 [.int .i64 a,.int .i64 b] σ (fun p σ'=>p = .int .i64 (cmpG a b) ∧ σ' = σ):=by
 have k0:∀ args σ,noE.f 89 args σ = none:=fun _ _=>rfl
 refine PCall.vraw [] 604287 20 [.tmp 4] (noE_ok _) mix Try.func58 rfl (by decide) rfl rfl (by simp) ?_
 simp -dsimp only [initFr,List.zipIdx_cons,List.zipIdx_nil,List.map_cons,List.map_nil,Nat.zero_add,Nat.reduceAdd]
 simp -dsimp (maxSteps:=4000000) +contextual (disch:=first | omega | decide +kernel) only [↓vsD,vsE,↓Nat.reduceLT,simprocAttr,k0]
 refine PCall.mono (gNaN_ok a _) ?_
 rintro p σ' ⟨rfl,rfl⟩
 simp -dsimp (maxSteps:=4000000) +contextual (disch:=first | omega | decide +kernel) only [↓vsD,vsE,↓Nat.reduceLT,simprocAttr,k0]
 refine PCall.mono (gNaN_ok b _) ?_
 rintro p σ' ⟨rfl,rfl⟩
 simp -dsimp (maxSteps:=4000000) +contextual (disch:=first | omega | decide +kernel) only [↓vsD,vsE,↓Nat.reduceLT,simprocAttr,k0]
 unfold cmpG
 refine ⟨fun h=>by rw [if_pos h],fun h=>⟨fun h2=>by rw [if_neg h,if_pos h2],fun h2=>by rw [if_neg h,if_neg h2]⟩⟩
def or2 (a b:Int):Int:=if a ≠ 0 then a else b
theorem or2_ok (a b:Int) (σ:Store):PCall Try.prog 65 [.sl [[.int .i64 a],[.int .i64 b]]] σ (fun p σ'=>p = .int .i64 (or2 a b) ∧ σ' = σ):=by
 unfold or2
 refine PCall.vraw [] 17407 18 [.tmp 2] (noE_ok _) mix Try.func65 rfl (by decide) rfl rfl (by simp) ?_
 simp -dsimp only [initFr,List.zipIdx_cons,List.zipIdx_nil,List.map_cons,List.map_nil,Nat.zero_add,Nat.reduceAdd]
 simp -dsimp (maxSteps:=4000000) +contextual (disch:=first | omega | decide +kernel) only [↓vsD,vsE,↓Nat.reduceLT,simprocAttr]
 refine v_loopS (fun k:Nat=>[(3,.int .i64 0),(6,.sl [[.int .i64 a],[.int .i64 b]]),(7,.int .i64 2),(8,.int .i64 k)]) (fun _=>σ) (fun k=>k ≤ 2 ∧ (0 < k → a = 0) ∧ (1 < k → b = 0)) (fun k=>2 - k) 0 (by simp [weaker,Go.PV.look]) rfl (by simp) ?_
 rintro k ⟨hk,ha,hb⟩
 rcases (show k = 0 ∨ k = 1 ∨ k = 2 by omega) with rfl | rfl | rfl
 ·simp -dsimp (maxSteps:=4000000) +contextual (disch:=first | omega | decide +kernel) only [↓vsD,vsE,↓Nat.reduceLT,simprocAttr]
  exact ⟨fun h=>⟨1,(by (try dsimp only); omega),by simp [weaker,Go.PV.look,h],rfl,by omega⟩,fun h=>trivial⟩
 ·have:=ha (by omega)
  simp -dsimp (maxSteps:=4000000) +contextual (disch:=first | omega | decide +kernel) only [↓vsD,vsE,↓Nat.reduceLT,simprocAttr]
  exact ⟨fun h=>⟨2,(by (try dsimp only); omega),by simp [weaker,Go.PV.look,h],rfl,by omega⟩,fun h=>trivial⟩
 ·have:=ha (by omega)
  have:=hb (by omega)
  simp -dsimp (maxSteps:=4000000) +contextual (disch:=first | omega | decide +kernel) only [↓vsD,vsE,↓Nat.reduceLT,simprocAttr]
theorem wayCmp_ok (a b:Way) (σ:Store):PCall Try.prog 57 [argSW a,argSW b] σ (fun p σ'=>p = .int .i64 (cmpG b.cnt a.cnt) ∧ σ' = σ):=by
 have k0:∀ args σ,noE.f 58 args σ = none:=fun _ _=>rfl
 unfold argSW
 refine PCall.vfrz [] 31 10 [.tmp 4] (noE_ok _) mix Try.func57 rfl (by decide) rfl rfl (by simp) ?_
 simp -dsimp only [initFr,List.zipIdx_cons,List.zipIdx_nil,List.map_cons,List.map_nil,Nat.zero_add,Nat.reduceAdd]
 simp -dsimp (maxSteps:=4000000) +contextual (disch:=first | omega | decide +kernel) only [↓vsD,vsE,↓Nat.reduceLT,simprocAttr,vgap,k0]
 refine PCall.mono (gCompare_ok b.cnt a.cnt _) ?_
 rintro p σ' ⟨rfl,rfl⟩
 simp -dsimp (maxSteps:=4000000) +contextual (disch:=first | omega | decide +kernel) only [↓vsD,vsE,↓Nat.reduceLT,simprocAttr,vgap,k0]
 rw [List.append_assoc]
 exact fin_app (.keep _ (bel_int _ _ _)) ⟨rfl,rfl⟩
theorem way_cmp (o v:Nat) (σ:Store):CmpSW o v σ 57 [] wayLt :=
 ⟨fun _ _=>rfl,fun a b=>cmpG b.cnt a.cnt,fun a b=>by rw [cmpG_neg]; simp [wayLt],fun a b D=>wayCmp_ok a b _⟩
def mxI (a b:Int):Int:=if b > a then b else a
def hotF (B:List Int) (l:List Int):Int:=l.foldl (fun m b=>mxI m (B.getD b.toNat 0)) 0
theorem hotF_next (B l:List Int) (k:Nat) (h:k < l.length):hotF B (l.take (k + 1)) = mxI (hotF B (l.take k)) (B.getD (l.getD k 0).toNat 0):=by
 rw [hotF,List.take_add_one,List.getElem?_eq_getElem h,Option.toList_some,List.foldl_append,getDB h]; rfl
def cnRow (B:List Int) (E:List (Int × Int)):Go.PV.Obj:=.rows 33 4 [[.int .i64 0,.sl (ints B),.sl (encX E),.nils]] 0
theorem hot_ok (B:List Int) (E:List (Int × Int)) (hBl:B.length ≤ 1000) (l:List Int) (hl:l.length ≤ 1000) (hr:∀ b ∈ l,0 ≤ b ∧ b < B.length) (cp:Nat) (σ:Store) (hc:σ[cp]? = some (cnRow B E)) :
  PCall Try.prog 59 [.sl (ints l),.ptr cp 0 0 0] σ (fun p τ=>p = .int .i64 (hotF B l) ∧ τ = σ):=by
 unfold cnRow at hc
 refine PCall.vraw [] 2047 22 [.tmp 3] (noE_ok _) mix Try.func59 rfl (by decide) rfl rfl (by simp) ?_
 simp -dsimp only [initFr,List.zipIdx_cons,List.zipIdx_nil,List.map_cons,List.map_nil,Nat.zero_add,Nat.reduceAdd]
 simp -dsimp (maxSteps:=4000000) +contextual (disch:=first | omega | decide +kernel) only [↓vsD,vsE,↓Nat.reduceLT,simprocAttr,intsB_len]
 refine v_loopS (fun k:Nat=>[(1,.ptr cp 0 0 0),(4,.int .i64 (hotF B (l.take k))),(7,.sl (ints l)),(8,.int .i64 l.length),(9,.int .i64 (k:Int))]) (fun _=>σ) (fun k=>k ≤ l.length) (fun k=>l.length - k) 0 (by simp [weaker,Go.PV.look,hotF]) rfl (Nat.zero_le _) ?_
 intro k hk
 by_cases hkl:k < l.length
 ·have hx:=hr _ (getDmB (d:=0) hkl)
  have q1:(ints B).getD (l.getD k 0).toNat [] = [.int .i64 (B.getD (l.getD k 0).toNat 0)]:=intsB_getD _ _ (by omega)
  have hn:=hotF_next B l k hkl
  unfold mxI at hn
  simp -dsimp (maxSteps:=4000000) +contextual (disch:=first | omega | decide +kernel) only [↓vsD,vsE,↓Nat.reduceLT,simprocAttr,intsB_len,intsB_getD,hc,q1]
  exact ⟨k + 1,(by (try dsimp only); omega),by simp [weaker,Go.PV.look,hn],rfl,hkl⟩
 ·obtain rfl:k = l.length:=by omega
  rw [List.take_length]
  simp -dsimp (maxSteps:=4000000) +contextual (disch:=first | omega | decide +kernel) only [↓vsD,vsE,↓Nat.reduceLT,simprocAttr,intsB_len]
theorem aggF:aggT Try.prog 115 = false:=by kernel_rfl
theorem zF:zeroCells Try.prog 115 = some [.nilf]:=by kernel_rfl
theorem cF:Try.prog.cellsOf 115 = 1:=by kernel_rfl
theorem undF:((Try.prog.underlying 115).isSome = true) = True:=eq_true (by kernel_rfl)
def chLt (B:List Int) {nB:Nat} (a b:ChE nB):Bool:=decide (hotF B b.1 < hotF B a.1 ∨ (hotF B a.1 = hotF B b.1 ∧ a.1.getD 0 0 < b.1.getD 0 0))
theorem ch_weak (B:List Int) {nB:Nat}:Weak (chLt B (nB:=nB)) where
 irr a:=by simp [chLt]
 tr a b c h1 h2:=by simp [chLt] at h1 h2 ⊢; omega
 nt a b c h1 h2:=by simp [chLt] at h1 h2 ⊢; omega
theorem chCmp_ok (B:List Int) (E:List (Int × Int)) (nB:Nat) (hBn:B.length = nB + 1) (hBl:B.length ≤ 1000) (a b:ChE nB) (cp hp:Nat) (σ:Store) (hc:σ[cp]? = some (cnRow B E)) (hh:σ[hp]? = some (.rows 115 1 [[.func (.func 59) [] [.ptr cp 0 0 0]]] 0)) :
  PCall Try.prog 64 [argSC a,argSC b,.ptr hp 0 0 0] σ (fun p τ=>p = .int .i64 (or2 (cmpG (hotF B b.1) (hotF B a.1)) (cmpG (a.1.getD 0 0) (b.1.getD 0 0))) ∧ τ = σ):=by
 have k0:∀ args σ,noE.f 58 args σ = none:=fun _ _=>rfl
 have k1:∀ args σ,noE.f 65 args σ = none:=fun _ _=>rfl
 have k2:∀ args σ,noE.f 59 args σ = none:=fun _ _=>rfl
 have ha:=a.2
 have hb:=b.2
 have la:0 < a.1.length:=List.length_pos_iff.2 ha.1
 have lb:0 < b.1.length:=List.length_pos_iff.2 hb.1
 have c1:=hot_ok B E hBl a.1 ha.2.1 (fun x hx=>by have:=ha.2.2 x hx; omega) cp σ hc
 have c2:=hot_ok B E hBl b.1 hb.2.1 (fun x hx=>by have:=hb.2.2 x hx; omega) cp σ hc
 unfold argSC
 generalize a.1 = A at c1 la ⊢
 generalize b.1 = D at c2 lb ⊢
 clear ha hb
 refine PCall.vraw [] 63 22 [.tmp 5] (noE_ok _) mix Try.func64 rfl (by decide) rfl rfl (by simp) ?_
 simp -dsimp only [initFr,List.zipIdx_cons,List.zipIdx_nil,List.map_cons,List.map_nil,Nat.zero_add,Nat.reduceAdd]
 have qa:(ints A).getD 0 [] = [.int .i64 (A.getD 0 0)]:=intsB_getD _ _ la
 have qd:(ints D).getD 0 [] = [.int .i64 (D.getD 0 0)]:=intsB_getD _ _ lb
 simp -dsimp (maxSteps:=4000000) +contextual (disch:=first | omega | decide +kernel) only [↓vsD,vsE,↓Nat.reduceLT,simprocAttr,hh,aggF,cF,undF]
 refine v_draws _ _ _ _ _ _ [2,5,6,13,15] [] [(0,0),(0,0),(0,0),(0,1),(0,1),(0,0),(0,0),(0,3),(0,3),(0,3),(0,3),(0,3),(0,3),(0,0),(4,4),(0,0),(5,5)] (by decide +kernel) (by decide +kernel) (by decide +kernel) (by decide +kernel) ?_
 simp -dsimp (maxSteps:=4000000) +contextual (disch:=first | omega | decide +kernel) only [↓vsD,vsE,↓Nat.reduceLT,simprocAttr,vdA,↓vd_end,↓vdm_go,↓vd_op,↓guard_none,↓guard_some,hh,k0,k1,k2,aggF,cF,undF]
 refine ⟨_,_,c2,by simp [outR,rowsAt],?_⟩
 simp -dsimp (maxSteps:=4000000) +contextual (disch:=first | omega | decide +kernel) only [↓vsD,vsE,↓Nat.reduceLT,simprocAttr,vdA,↓vd_end,↓vdm_go,↓vd_op,↓guard_none,↓guard_some,hh,k0,k1,k2,aggF,cF,undF]
 refine ⟨_,_,c1,by simp [outR,rowsAt],?_⟩
 simp -dsimp (maxSteps:=4000000) +contextual (disch:=first | omega | decide +kernel) only [↓vsD,vsE,↓Nat.reduceLT,simprocAttr,vdA,↓vd_end,↓vdm_go,↓vd_op,↓guard_none,↓guard_some,hh,k0,k1,k2,aggF,cF,undF]
 refine ⟨_,_,gCompare_ok _ _ _,by simp [outR,rowsAt],?_⟩
 simp -dsimp (maxSteps:=4000000) +contextual (disch:=first | omega | decide +kernel) only [↓vsD,vsE,↓Nat.reduceLT,simprocAttr,vdA,↓vd_end,↓vdm_go,↓vd_op,↓guard_none,↓guard_some,hh,k0,k1,k2,aggF,cF,undF,intsB_len,qa,qd]
 refine ⟨_,_,gCompare_ok _ _ _,by simp [outR,rowsAt],?_⟩
 simp -dsimp (maxSteps:=4000000) +contextual (disch:=first | omega | decide +kernel) only [↓vsD,vsE,↓Nat.reduceLT,simprocAttr,vdA,↓vd_end,↓vdm_go,↓vd_op,↓guard_none,↓guard_some,hh,k0,k1,k2,aggF,cF,undF,intsB_len,qa,qd]
 refine ⟨_,_,or2_ok _ _ _,by simp [outR,rowsAt],?_⟩
 simp -dsimp (maxSteps:=4000000) +contextual (disch:=first | omega | decide +kernel) only [↓vsD,vsE,↓Nat.reduceLT,simprocAttr,vdA,↓vd_end,↓vdm_go,↓vd_op,↓guard_none,↓guard_some,hh,k0,k1,k2,aggF,cF,undF]
theorem ch_cmp (B:List Int) (E:List (Int × Int)) (nB:Nat) (hBn:B.length = nB + 1) (hBl:B.length ≤ 1000) (o v cp hp:Nat) (σ:Store) (h1:o ≠ cp) (h2:o ≠ hp) (hc:σ[cp]? = some (cnRow B E)) (hh:σ[hp]? = some (.rows 115 1 [[.func (.func 59) [] [.ptr cp 0 0 0]]] 0)) :
  CmpSC o v σ 64 [.ptr hp 0 0 0] (chLt B (nB:=nB)) :=
 ⟨fun _ _=>rfl,fun a b=>or2 (cmpG (hotF B b.1) (hotF B a.1)) (cmpG (a.1.getD 0 0) (b.1.getD 0 0)),fun a b=>by
  have e1:=cmpG_neg (hotF B b.1) (hotF B a.1)
  have e2:=cmpG_neg (a.1.getD 0 0) (b.1.getD 0 0)
  have e3:cmpG (hotF B b.1) (hotF B a.1) = 0 ↔ hotF B a.1 = hotF B b.1:=by
   unfold cmpG
   repeat' split
   all_goals omega
  rw [chLt,decide_eq_true_eq]
  show or2 (cmpG (hotF B b.1) (hotF B a.1)) (cmpG (a.1.getD 0 0) (b.1.getD 0 0)) < 0 ↔ _
  unfold or2
  split
  ·rename_i hne
   rw [e1]
   exact ⟨fun h=>.inl h,fun h=>h.resolve_right (fun h3=>hne (e3.2 h3.1))⟩
  ·rename_i hne
   have h0:cmpG (hotF B b.1) (hotF B a.1) = 0:=Decidable.byContradiction hne
   rw [e2]
   exact ⟨fun h=>.inr ⟨e3.1 h0,h⟩,fun h=>by
    rcases h with h | h
    ·have:=e3.1 h0; omega
    ·exact h.2⟩,fun a b D=>chCmp_ok B E nB hBn hBl a b cp hp _ (by unfold stSC; rw [List.getElem?_set_ne h1]; exact hc) (by unfold stSC; rw [List.getElem?_set_ne h2]; exact hh)⟩
end Go.Proofs.Ytangodmcbmeeaaa
