import Derived.Test.YthjoehaglonjaaaStA
import Derived.Test.YthjoehaglonjaaaTy
import Derived.Test.YthjoehaglonjaaaPvY
set_option maxRecDepth 8000
set_option linter.unusedSimpArgs false
set_option linter.unusedVariables false
namespace Go.Proofs.Ythjoehaglonjaaa
open Go.PV
theorem gtD {α:Type} {l:List α} {d:α} {i:Nat} (h:i < l.length):l.getD i d ∈ l:=by
 rw [List.getD_eq_getElem?_getD,List.getElem?_eq_getElem h]
 exact List.getElem_mem h
theorem okD (a b c:Int):okAgg Try.prog 58 [.int .i64 a,.int .i64 b,.int .i64 c] = true:=by kernel_rfl
theorem okTg (a b:Int):okAgg Try.prog 88 [.int .i64 a,.int .i64 b] = true:=by kernel_rfl
theorem okEd (a b:Int):okAgg Try.prog 80 [.int .i64 a,.int .i64 b] = true:=by kernel_rfl
theorem sameKs3 (x y:Idn):sameKs [.int .i64 x.1,.int .i64 x.2.1,.int .i64 x.2.2] [.int .i64 y.1,.int .i64 y.2.1,.int .i64 y.2.2] = some (decide (x = y)):=by
 obtain ⟨a,b,c⟩:=x
 obtain ⟨a',b',c'⟩:=y
 by_cases h1:a = a' <;> by_cases h2:b = b' <;> by_cases h3:c = c' <;> simp [sameKs,h1,h2,h3]
theorem eqD (σ:Store) (x y:Idn):binC Try.prog σ .eql 58 (.agg [.int .i64 x.1,.int .i64 x.2.1,.int .i64 x.2.2]) (.agg [.int .i64 y.1,.int .i64 y.2.1,.int .i64 y.2.2]) = boolR (x = y) σ:=by
 simp only [binC,sameKs3,aggC,okD,boolR]
theorem neD (σ:Store) (x y:Idn):binC Try.prog σ .neq 58 (.agg [.int .i64 x.1,.int .i64 x.2.1,.int .i64 x.2.2]) (.agg [.int .i64 y.1,.int .i64 y.2.1,.int .i64 y.2.2]) = boolR (¬ x = y) σ:=by
 simp only [binC,sameKs3,aggC,okD,boolR,decide_not]
theorem eqTg (σ:Store) (a b:Int × Int):binC Try.prog σ .eql 88 (.agg [.int .i64 a.1,.int .i64 a.2]) (.agg [.int .i64 b.1,.int .i64 b.2]) = boolR (a.1 = b.1 ∧ a.2 = b.2) σ:=bin_aeq2 _ _ _ (okTg a.1 a.2)
theorem neTg (σ:Store) (a b:Int × Int):binC Try.prog σ .neq 88 (.agg [.int .i64 a.1,.int .i64 a.2]) (.agg [.int .i64 b.1,.int .i64 b.2]) = boolR (¬ (a.1 = b.1 ∧ a.2 = b.2)) σ:=bin_ane2 _ _ _ (okTg a.1 a.2)
theorem eqEd (σ:Store) (a b:Int × Int):binC Try.prog σ .eql 80 (.agg [.int .i64 a.1,.int .i64 a.2]) (.agg [.int .i64 b.1,.int .i64 b.2]) = boolR (a.1 = b.1 ∧ a.2 = b.2) σ:=bin_aeq2 _ _ _ (okEd a.1 a.2)
theorem neEd (σ:Store) (a b:Int × Int):binC Try.prog σ .neq 80 (.agg [.int .i64 a.1,.int .i64 a.2]) (.agg [.int .i64 b.1,.int .i64 b.2]) = boolR (¬ (a.1 = b.1 ∧ a.2 = b.2)) σ:=bin_ane2 _ _ _ (okEd a.1 a.2)
def cmpI (a b:Int):Int:=if a < b then -1 else if b < a then 1 else 0
theorem nanI_ok (a:Int) (σ:Store):PCall Try.prog 111 [.int .i64 a] σ (fun p σ'=>p = .bool false ∧ σ' = σ):=by
 refine PCall.vraw [] 7 6 [.tmp 2] (noE_ok _) mix Try.func111 rfl (by decide) rfl rfl (by simp) ?_
 simp -dsimp only [initFr,List.zipIdx_cons,List.zipIdx_nil,List.map_cons,List.map_nil,Nat.zero_add,Nat.reduceAdd]
 simp -dsimp (maxSteps:=4000000) +contextual (disch:=first | omega | decide +kernel) only [↓vsD,vsE,↓Nat.reduceLT,simprocAttr]
theorem cmpI_ok (a b:Int) (σ:Store):PCall Try.prog 85 [.int .i64 a,.int .i64 b] σ (fun p σ'=>p = .int .i64 (cmpI a b) ∧ σ' = σ):=by
 have k0:∀ args σ,noE.f 111 args σ = none:=fun _ _=>rfl
 refine PCall.vraw [] 604287 20 [.tmp 4] (noE_ok _) mix Try.func85 rfl (by decide) rfl rfl (by simp) ?_
 simp -dsimp only [initFr,List.zipIdx_cons,List.zipIdx_nil,List.map_cons,List.map_nil,Nat.zero_add,Nat.reduceAdd]
 simp -dsimp (maxSteps:=4000000) +contextual (disch:=first | omega | decide +kernel) only [↓vsD,vsE,↓Nat.reduceLT,simprocAttr,k0]
 refine PCall.mono (nanI_ok a _) ?_
 rintro p σ' ⟨rfl,rfl⟩
 simp -dsimp (maxSteps:=4000000) +contextual (disch:=first | omega | decide +kernel) only [↓vsD,vsE,↓Nat.reduceLT,simprocAttr,k0]
 refine PCall.mono (nanI_ok b _) ?_
 rintro p σ' ⟨rfl,rfl⟩
 simp -dsimp (maxSteps:=4000000) +contextual (disch:=first | omega | decide +kernel) only [↓vsD,vsE,↓Nat.reduceLT,simprocAttr,k0]
 unfold cmpI
 refine ⟨fun h=>by rw [if_pos h],fun h=>⟨fun h2=>by rw [if_neg h,if_pos h2],fun h2=>by rw [if_neg h,if_neg h2]⟩⟩
def or2 (a b:Int):Int:=if a ≠ 0 then a else b
def or3 (a b c:Int):Int:=if a ≠ 0 then a else or2 b c
theorem or2_ok (a b:Int) (σ:Store):PCall Try.prog 84 [.sl [[.int .i64 a],[.int .i64 b]]] σ (fun p σ'=>p = .int .i64 (or2 a b) ∧ σ' = σ):=by
 unfold or2
 refine PCall.vraw [] 17407 18 [.tmp 2] (noE_ok _) mix Try.func84 rfl (by decide) rfl rfl (by simp) ?_
 simp -dsimp only [initFr,List.zipIdx_cons,List.zipIdx_nil,List.map_cons,List.map_nil,Nat.zero_add,Nat.reduceAdd]
 simp -dsimp (maxSteps:=4000000) +contextual (disch:=first | omega | decide +kernel) only [↓vsD,vsE,↓Nat.reduceLT,simprocAttr]
 refine v_loopS (fun k:Nat=>[(3,.int .i64 0),(6,.sl [[.int .i64 a],[.int .i64 b]]),(7,.int .i64 2),(8,.int .i64 k)]) (fun _=>σ) (fun k=>k ≤ 2 ∧ (0 < k → a = 0) ∧ (1 < k → b = 0)) (fun k=>2 - k) 0 (by simp [weaker,Go.PV.look]) rfl (by simp) ?_
 rintro k ⟨hk,ha,hb⟩
 rcases (show k = 0 ∨ k = 1 ∨ k = 2 by omega) with rfl | rfl | rfl
 ·simp -dsimp (maxSteps:=4000000) +contextual (disch:=first | omega | decide +kernel) only [↓vsD,vsE,↓Nat.reduceLT,simprocAttr]
  exact ⟨fun h=>⟨1,(by (try dsimp only); omega),by simp [weaker,Go.PV.look,h],rfl,by omega⟩,fun h=>trivial⟩
 ·have:=ha (by omega)
  simp -dsimp (maxSteps:=4000000) +contextual (disch:=first | omega | decide +kernel) only [↓vsD,vsE,↓Nat.reduceLT,simprocAttr]
  exact ⟨fun h=>⟨2,(by (try dsimp only); omega),by simp [weaker,Go.PV.look,h],rfl,by omega⟩,fun h=>trivial⟩
 ·have:=ha (by omega)
  have:=hb (by omega)
  simp -dsimp (maxSteps:=4000000) +contextual (disch:=first | omega | decide +kernel) only [↓vsD,vsE,↓Nat.reduceLT,simprocAttr]
theorem or3_ok (a b c:Int) (σ:Store):PCall Try.prog 84 [.sl [[.int .i64 a],[.int .i64 b],[.int .i64 c]]] σ (fun p σ'=>p = .int .i64 (or3 a b c) ∧ σ' = σ):=by
 unfold or3 or2
 refine PCall.vraw [] 17407 18 [.tmp 2] (noE_ok _) mix Try.func84 rfl (by decide) rfl rfl (by simp) ?_
 simp -dsimp only [initFr,List.zipIdx_cons,List.zipIdx_nil,List.map_cons,List.map_nil,Nat.zero_add,Nat.reduceAdd]
 simp -dsimp (maxSteps:=4000000) +contextual (disch:=first | omega | decide +kernel) only [↓vsD,vsE,↓Nat.reduceLT,simprocAttr]
 refine v_loopS (fun k:Nat=>[(3,.int .i64 0),(6,.sl [[.int .i64 a],[.int .i64 b],[.int .i64 c]]),(7,.int .i64 3),(8,.int .i64 k)]) (fun _=>σ) (fun k=>k ≤ 3 ∧ (0 < k → a = 0) ∧ (1 < k → b = 0) ∧ (2 < k → c = 0)) (fun k=>3 - k) 0 (by simp [weaker,Go.PV.look]) rfl (by simp) ?_
 rintro k ⟨hk,ha,hb,hc⟩
 rcases (show k = 0 ∨ k = 1 ∨ k = 2 ∨ k = 3 by omega) with rfl | rfl | rfl | rfl
 ·simp -dsimp (maxSteps:=4000000) +contextual (disch:=first | omega | decide +kernel) only [↓vsD,vsE,↓Nat.reduceLT,simprocAttr]
  exact ⟨fun h=>⟨1,(by (try dsimp only); omega),by simp [weaker,Go.PV.look,h],rfl,by omega⟩,fun h=>trivial⟩
 ·have:=ha (by omega)
  simp -dsimp (maxSteps:=4000000) +contextual (disch:=first | omega | decide +kernel) only [↓vsD,vsE,↓Nat.reduceLT,simprocAttr]
  exact ⟨fun h=>⟨2,(by (try dsimp only); omega),by simp [weaker,Go.PV.look,h],rfl,by omega⟩,fun h=>trivial⟩
 ·have:=ha (by omega)
  have:=hb (by omega)
  simp -dsimp (maxSteps:=4000000) +contextual (disch:=first | omega | decide +kernel) only [↓vsD,vsE,↓Nat.reduceLT,simprocAttr]
  exact ⟨fun h=>⟨3,(by (try dsimp only); omega),by simp [weaker,Go.PV.look,h],rfl,by omega⟩,fun h=>trivial⟩
 ·have:=ha (by omega)
  have:=hb (by omega)
  have:=hc (by omega)
  simp -dsimp (maxSteps:=4000000) +contextual (disch:=first | omega | decide +kernel) only [↓vsD,vsE,↓Nat.reduceLT,simprocAttr]
instance (n:Int):Decidable (cntd n):=by unfold cntd; infer_instance
instance (n:Int):Decidable (numd n):=by unfold numd; infer_instance
theorem cntd_ok (n:Int) (σ:Store):PCall Try.prog 104 [.int .i64 n] σ (fun p σ'=>p = .bool (decide (cntd n)) ∧ σ' = σ):=by
 refine PCall.vraw [] 7 9 [.tmp 2] (noE_ok _) mix Try.func104 rfl (by decide) rfl rfl (by simp) ?_
 simp -dsimp only [initFr,List.zipIdx_cons,List.zipIdx_nil,List.map_cons,List.map_nil,Nat.zero_add,Nat.reduceAdd]
 simp -dsimp (maxSteps:=4000000) +contextual (disch:=first | omega | decide +kernel) only [↓vsD,vsE,↓Nat.reduceLT,simprocAttr]
 exact ⟨fun h=>⟨fun h2=>(decide_eq_true ⟨h,h2⟩).symm,fun h2=>(decide_eq_false (fun h3=>h2 h3.2)).symm⟩,fun h=>(decide_eq_false (fun h3=>h h3.1)).symm⟩
theorem numd_ok (n:Int) (σ:Store):PCall Try.prog 66 [.int .i64 n] σ (fun p σ'=>p = .bool (decide (numd n)) ∧ σ' = σ):=by
 refine PCall.vraw [] 7 9 [.tmp 2] (noE_ok _) mix Try.func66 rfl (by decide) rfl rfl (by simp) ?_
 simp -dsimp only [initFr,List.zipIdx_cons,List.zipIdx_nil,List.map_cons,List.map_nil,Nat.zero_add,Nat.reduceAdd]
 simp -dsimp (maxSteps:=4000000) +contextual (disch:=first | omega | decide +kernel) only [↓vsD,vsE,↓Nat.reduceLT,simprocAttr]
 exact ⟨fun h=>⟨fun h2=>(decide_eq_true ⟨h,h2⟩).symm,fun h2=>(decide_eq_false (fun h3=>h2 h3.2)).symm⟩,fun h=>(decide_eq_false (fun h3=>h h3.1)).symm⟩
theorem known_ok (n:Int) (σ:Store):PCall Try.prog 73 [.int .i64 n] σ (fun p σ'=>p = .bool (decide (cntd n)) ∧ σ' = σ):=by
 refine PCall.vraw [] 7 9 [.tmp 2] (noE_ok _) mix Try.func73 rfl (by decide) rfl rfl (by simp) ?_
 simp -dsimp only [initFr,List.zipIdx_cons,List.zipIdx_nil,List.map_cons,List.map_nil,Nat.zero_add,Nat.reduceAdd]
 simp -dsimp (maxSteps:=4000000) +contextual (disch:=first | omega | decide +kernel) only [↓vsD,vsE,↓Nat.reduceLT,simprocAttr]
 exact ⟨fun h=>⟨fun h2=>(decide_eq_true ⟨h,h2⟩).symm,fun h2=>(decide_eq_false (fun h3=>h2 h3.2)).symm⟩,fun h=>(decide_eq_false (fun h3=>h h3.1)).symm⟩
theorem number_ok (n:Int) (σ:Store):PCall Try.prog 72 [.int .i64 n] σ (fun p σ'=>p = .bool (decide (numd n)) ∧ σ' = σ):=by
 refine PCall.vraw [] 7 9 [.tmp 2] (noE_ok _) mix Try.func72 rfl (by decide) rfl rfl (by simp) ?_
 simp -dsimp only [initFr,List.zipIdx_cons,List.zipIdx_nil,List.map_cons,List.map_nil,Nat.zero_add,Nat.reduceAdd]
 simp -dsimp (maxSteps:=4000000) +contextual (disch:=first | omega | decide +kernel) only [↓vsD,vsE,↓Nat.reduceLT,simprocAttr]
 exact ⟨fun h=>⟨fun h2=>(decide_eq_true ⟨h,h2⟩).symm,fun h2=>(decide_eq_false (fun h3=>h2 h3.2)).symm⟩,fun h=>(decide_eq_false (fun h3=>h h3.1)).symm⟩
def exB1 (g:Int → Bool) (σ:Store):List PV → Option (Prop × PV × Store)
 | [.int .i64 n]=>some (True,.bool (g n),σ)
 | _=>some (False,.unk,σ)
def exI2 (g:Int → Int → Int) (σ:Store):List PV → Option (Prop × PV × Store)
 | [.int .i64 a,.int .i64 b]=>some (True,.int .i64 (g a b),σ)
 | _=>some (False,.unk,σ)
def exOr (σ:Store):List PV → Option (Prop × PV × Store)
 | [.sl [[.int .i64 a],[.int .i64 b]]]=>some (True,.int .i64 (or2 a b),σ)
 | [.sl [[.int .i64 a],[.int .i64 b],[.int .i64 c]]]=>some (True,.int .i64 (or3 a b c),σ)
 | _=>some (False,.unk,σ)
theorem exB1_pure (g:Int → Bool) (args:List PV) (σ:Store):∃ c p,exB1 g σ args = some (c,p,σ):=by
 unfold exB1; split <;> exact ⟨_,_,rfl⟩
theorem exI2_pure (g:Int → Int → Int) (args:List PV) (σ:Store):∃ c p,exI2 g σ args = some (c,p,σ):=by
 unfold exI2; split <;> exact ⟨_,_,rfl⟩
theorem exOr_pure (args:List PV) (σ:Store):∃ c p,exOr σ args = some (c,p,σ):=by
 unfold exOr; split <;> exact ⟨_,_,rfl⟩
theorem exB1_ok {F:FuncId} {g:Int → Bool} (h:∀ n σ,PCall Try.prog F [.int .i64 n] σ (fun p σ'=>p = .bool (g n) ∧ σ' = σ)):Known.Ok Try.prog F (fun args σ=>exB1 g σ args):=by
 intro args σ c p σ' he hc
 simp only [exB1] at he
 split at he
 ·cases he; exact h _ _
 ·cases he; exact hc.elim
theorem exI2_ok {F:FuncId} {g:Int → Int → Int} (h:∀ a b σ,PCall Try.prog F [.int .i64 a,.int .i64 b] σ (fun p σ'=>p = .int .i64 (g a b) ∧ σ' = σ)):Known.Ok Try.prog F (fun args σ=>exI2 g σ args):=by
 intro args σ c p σ' he hc
 simp only [exI2] at he
 split at he
 ·cases he; exact h _ _ _
 ·cases he; exact hc.elim
theorem exOr_ok:Known.Ok Try.prog 84 (fun args σ=>exOr σ args):=by
 intro args σ c p σ' he hc
 simp only [exOr] at he
 split at he
 ·cases he; exact or2_ok _ _ _
 ·cases he; exact or3_ok _ _ _ _
 ·cases he; exact hc.elim
def sc1:Ext:=(((((noE.addP 85 (fun args σ=>exI2 cmpI σ args)).addP 84 (fun args σ=>exOr σ args)).addP 104 (fun args σ=>exB1 (fun n=>decide (cntd n)) σ args)).addP
 66 (fun args σ=>exB1 (fun n=>decide (numd n)) σ args)).addP 73 (fun args σ=>exB1 (fun n=>decide (cntd n)) σ args)).addP 72 (fun args σ=>exB1 (fun n=>decide (numd n)) σ args)
theorem sc1_ok:ExtOk Try.prog sc1 :=
 (((((((noE_ok _).addP (exI2_ok cmpI_ok) (exI2_pure _)).addP exOr_ok exOr_pure).addP (exB1_ok cntd_ok) (exB1_pure _)).addP (exB1_ok numd_ok) (exB1_pure _)).addP (exB1_ok known_ok) (exB1_pure _)).addP (exB1_ok number_ok) (exB1_pure _))
section
variable (σ:Store) (a b c:Int)
theorem sc1_cmp:sc1.f 85 [.int .i64 a,.int .i64 b] σ = some (True,.int .i64 (cmpI a b),σ):=rfl
theorem sc1_or2:sc1.f 84 [.sl [[.int .i64 a],[.int .i64 b]]] σ = some (True,.int .i64 (or2 a b),σ):=rfl
theorem sc1_or3:sc1.f 84 [.sl [[.int .i64 a],[.int .i64 b],[.int .i64 c]]] σ = some (True,.int .i64 (or3 a b c),σ):=rfl
theorem sc1_cntd:sc1.f 104 [.int .i64 a] σ = some (True,.bool (decide (cntd a)),σ):=rfl
theorem sc1_numd:sc1.f 66 [.int .i64 a] σ = some (True,.bool (decide (numd a)),σ):=rfl
theorem sc1_known:sc1.f 73 [.int .i64 a] σ = some (True,.bool (decide (cntd a)),σ):=rfl
theorem sc1_number:sc1.f 72 [.int .i64 a] σ = some (True,.bool (decide (numd a)),σ):=rfl
end
def cmp3 (a b:Idn):Int:=or3 (cmpI a.1 b.1) (cmpI a.2.1 b.2.1) (cmpI a.2.2 b.2.2)
def cmpS (a b:Site):Int:=or2 (cmpI a.blk b.blk) (cmpI a.ins b.ins)
theorem cmp3_lt (a b:Idn):cmp3 a b < 0 ↔ idlt a b:=by
 unfold cmp3 or3 or2 cmpI idlt
 repeat' split
 all_goals omega
theorem cmp3_gt (a b:Idn):0 < cmp3 a b ↔ idlt b a:=by
 unfold cmp3 or3 or2 cmpI idlt
 repeat' split
 all_goals omega
theorem cmp3_eq (a b:Idn):cmp3 a b = 0 ↔ a = b:=by
 constructor
 ·intro h
  have h1:¬ idlt a b:=fun h2=>by have:=(cmp3_lt a b).2 h2; omega
  have h3:¬ idlt b a:=fun h2=>by have:=(cmp3_gt a b).2 h2; omega
  rcases idlt_tri a b with h | h | h
  ·exact absurd h h1
  ·exact h
  ·exact absurd h h3
 ·rintro rfl
  unfold cmp3 or3 or2 cmpI
  simp
theorem cmpS_lt (a b:Site):cmpS a b < 0 ↔ siteLt a b:=by
 unfold cmpS or2 cmpI siteLt
 repeat' split
 all_goals omega
theorem comp_w (a b:Idn):PCall Try.prog 54 [.agg (idRow a),.agg (idRow b)] [] (fun p _=>p = .int .i64 (cmp3 a b)):=by
 unfold idRow
 refine PCall.vfrz [] 31 22 [.tmp 4] sc1_ok mix Try.func54 rfl (by decide) rfl rfl (by simp) ?_
 simp -dsimp only [initFr,List.zipIdx_cons,List.zipIdx_nil,List.map_cons,List.map_nil,Nat.zero_add,Nat.reduceAdd]
 simp -dsimp (maxSteps:=4000000) +contextual (disch:=first | omega | decide +kernel) only [↓vsD,vsE,↓Nat.reduceLT,simprocAttr,sc1_cmp,sc1_or2,sc1_or3,sc1_cntd,sc1_numd,sc1_known,sc1_number]
 refine v_draws _ _ _ _ _ _ [4,9,14,16] [] [(0,0),(0,0),(0,0),(0,0),(0,0),(0,1),(0,1),(0,1),(0,1),(0,0),(0,2),(0,2),(0,2),(0,2),(0,0),(3,3),(0,0),(4,4)] (by decide +kernel) (by decide +kernel) (by decide +kernel) (by decide +kernel) ?_
 simp -dsimp (maxSteps:=4000000) +contextual (disch:=first | omega | decide +kernel) only [↓vsD,vsE,↓Nat.reduceLT,simprocAttr,sc1_cmp,sc1_or2,sc1_or3,sc1_cntd,sc1_numd,sc1_known,sc1_number,vdA,↓vdD]
 exact fin0 (.keep _ (bel_int _ _ _)) rfl
theorem bel_id (k:Nat) (a:Idn):Bel k (.agg (idRow a)):=bel_agg (idRow_bel a k)
theorem bel_site (k:Nat) (a:Site):Bel k (.agg a.row):=bel_agg (fun p hp=>encS_bel k [a] a.row (by simp [encS]) p hp)
theorem bel_pc (k:Nat) (a:Pc):Bel k (.agg a.row):=bel_agg (a.row_bel k)
theorem bel2 {k:Nat} {p q:PV} (hp:Bel k p) (hq:Bel k q):∀ x ∈ [p,q],Bel k x:=fun x hx=>by
 simp only [List.mem_cons,List.not_mem_nil,or_false] at hx
 rcases hx with rfl | rfl
 ·exact hp
 ·exact hq
theorem bel1 {k:Nat} {p:PV} (hp:Bel k p):∀ x ∈ [p],Bel k x:=fun x hx=>by
 rw [List.mem_singleton] at hx
 rw [hx]; exact hp
theorem comp_on (a b:Idn) (σ:Store):PCall Try.prog 54 [.agg (idRow a),.agg (idRow b)] σ (fun p σ'=>p = .int .i64 (cmp3 a b) ∧ σ' = σ) :=
 PCall.lift (comp_w a b) (bel2 (bel_id _ a) (bel_id _ b)) (fun p h=>⟨by rw [h]; exact bel_int _ _ _,h,rfl⟩)
theorem ord_w (a b:Site):PCall Try.prog 105 [.agg a.row,.agg b.row] [] (fun p _=>p = .int .i64 (cmpS a b)):=by
 unfold Site.row
 refine PCall.vfrz [] 31 17 [.tmp 4] sc1_ok mix Try.func105 rfl (by decide) rfl rfl (by simp) ?_
 simp -dsimp only [initFr,List.zipIdx_cons,List.zipIdx_nil,List.map_cons,List.map_nil,Nat.zero_add,Nat.reduceAdd]
 simp -dsimp (maxSteps:=4000000) +contextual (disch:=first | omega | decide +kernel) only [↓vsD,vsE,↓Nat.reduceLT,simprocAttr,sc1_cmp,sc1_or2,sc1_or3,sc1_cntd,sc1_numd,sc1_known,sc1_number]
 refine v_draws _ _ _ _ _ _ [4,9,11] [] [(0,0),(0,0),(0,0),(0,0),(0,0),(0,1),(0,1),(0,1),(0,1),(0,0),(2,2),(0,0),(3,3)] (by decide +kernel) (by decide +kernel) (by decide +kernel) (by decide +kernel) ?_
 simp -dsimp (maxSteps:=4000000) +contextual (disch:=first | omega | decide +kernel) only [↓vsD,vsE,↓Nat.reduceLT,simprocAttr,sc1_cmp,sc1_or2,sc1_or3,sc1_cntd,sc1_numd,sc1_known,sc1_number,vdA,↓vdD]
 exact fin0 (.keep _ (bel_int _ _ _)) rfl
theorem ord_on (a b:Site) (σ:Store):PCall Try.prog 105 [.agg a.row,.agg b.row] σ (fun p σ'=>p = .int .i64 (cmpS a b) ∧ σ' = σ) :=
 PCall.lift (ord_w a b) (bel2 (bel_site _ a) (bel_site _ b)) (fun p h=>⟨by rw [h]; exact bel_int _ _ _,h,rfl⟩)
theorem rord_ok (a b:Int) (σ:Store):PCall Try.prog 75 [.int .i64 a,.int .i64 b] σ (fun p σ'=>p = .int .i64 (cmpI a b) ∧ σ' = σ):=by
 refine PCall.vraw [] 575 13 [.tmp 4] sc1_ok mix Try.func75 rfl (by decide) rfl rfl (by simp) ?_
 simp -dsimp only [initFr,List.zipIdx_cons,List.zipIdx_nil,List.map_cons,List.map_nil,Nat.zero_add,Nat.reduceAdd]
 simp -dsimp (maxSteps:=4000000) +contextual (disch:=first | omega | decide +kernel) only [↓vsD,vsE,↓Nat.reduceLT,simprocAttr,sc1_cmp,sc1_or2,sc1_or3,sc1_cntd,sc1_numd,sc1_known,sc1_number]
 unfold cmpI
 refine ⟨fun h=>by rw [if_pos h],fun h=>⟨fun h2=>by rw [if_neg h,if_pos h2],fun h2=>by rw [if_neg h,if_neg h2]⟩⟩
theorem rcomp_w (a b:Idn):PCall Try.prog 46 [.agg (idRow a),.agg (idRow b)] [] (fun p _=>p = .int .i64 (cmp3 a b)):=by
 have k0:∀ args σ,sc1.f 75 args σ = none:=fun _ _=>rfl
 unfold idRow
 refine PCall.vfrz [] 2105471 28 [.tmp 4] sc1_ok mix Try.func46 rfl (by decide) rfl rfl (by simp) ?_
 simp -dsimp only [initFr,List.zipIdx_cons,List.zipIdx_nil,List.map_cons,List.map_nil,Nat.zero_add,Nat.reduceAdd]
 simp -dsimp (maxSteps:=4000000) +contextual (disch:=first | omega | decide +kernel) only [↓vsD,vsE,↓Nat.reduceLT,simprocAttr,sc1_cmp,sc1_or2,sc1_or3,sc1_cntd,sc1_numd,sc1_known,sc1_number,k0]
 refine PCall.mono (rord_ok _ _ _) ?_
 rintro p σ' ⟨rfl,rfl⟩
 obtain ⟨x,hx⟩:∃ x,x = cmpI a.1 b.1:=⟨_,rfl⟩
 rw [← hx]
 have fin:∀ v σ',v = cmp3 a b → Go.PV.Fin [] (fun p _=>p = PV.int .i64 (cmp3 a b)) (.int .i64 v) σ':=fun v σ' h=>fin0 (.keep _ (bel_int _ _ _)) (by rw [h])
 simp -dsimp (maxSteps:=4000000) +contextual (disch:=first | omega | decide +kernel) only [↓vsD,vsE,↓Nat.reduceLT,simprocAttr,sc1_cmp,sc1_or2,sc1_or3,sc1_cntd,sc1_numd,sc1_known,sc1_number,k0]
 refine ⟨fun h=>?_,fun h=>fin _ _ (by rw [cmp3,or3,← hx,if_pos h])⟩
 refine PCall.mono (rord_ok _ _ _) ?_
 rintro p σ' ⟨rfl,rfl⟩
 obtain ⟨y,hy⟩:∃ y,y = cmpI a.2.1 b.2.1:=⟨_,rfl⟩
 rw [← hy]
 simp -dsimp (maxSteps:=4000000) +contextual (disch:=first | omega | decide +kernel) only [↓vsD,vsE,↓Nat.reduceLT,simprocAttr,sc1_cmp,sc1_or2,sc1_or3,sc1_cntd,sc1_numd,sc1_known,sc1_number,k0]
 refine ⟨fun h2=>?_,fun h2=>fin _ _ (by rw [cmp3,or3,or2,← hx,← hy,if_neg (fun h3=>h3 h),if_pos h2])⟩
 refine PCall.mono (rord_ok _ _ _) ?_
 rintro p σ' ⟨rfl,rfl⟩
 simp -dsimp (maxSteps:=4000000) +contextual (disch:=first | omega | decide +kernel) only [↓vsD,vsE,↓Nat.reduceLT,simprocAttr,sc1_cmp,sc1_or2,sc1_or3,sc1_cntd,sc1_numd,sc1_known,sc1_number,k0]
 exact fin _ _ (by rw [cmp3,or3,or2,← hx,← hy,if_neg (fun h3=>h3 h),if_neg (fun h3=>h3 h2)])
theorem rcomp_on (a b:Idn) (σ:Store):PCall Try.prog 46 [.agg (idRow a),.agg (idRow b)] σ (fun p σ'=>p = .int .i64 (cmp3 a b) ∧ σ' = σ) :=
 PCall.lift (rcomp_w a b) (bel2 (bel_id _ a) (bel_id _ b)) (fun p h=>⟨by rw [h]; exact bel_int _ _ _,h,rfl⟩)
theorem id_w (a:Pc):PCall Try.prog 49 [.agg a.row] [] (fun p _=>p = .agg (idRow a.id)):=by
 unfold Pc.row
 refine PCall.vfrz [] 7 10 [.cell 2 58] sc1_ok mix Try.func49 rfl (by decide) rfl rfl (by simp) ?_
 simp -dsimp only [initFr,List.zipIdx_cons,List.zipIdx_nil,List.map_cons,List.map_nil,Nat.zero_add,Nat.reduceAdd]
 simp -dsimp (maxSteps:=4000000) +contextual (disch:=first | omega | decide +kernel) only [↓vsD,vsE,↓Nat.reduceLT,simprocAttr,sc1_cmp,sc1_or2,sc1_or3,sc1_cntd,sc1_numd,sc1_known,sc1_number,vcel]
 exact fin0 (p2:=.agg (idRow a.id)) (.keep _ (bel_id 0 a.id)) rfl
theorem id_on (a:Pc) (σ:Store):PCall Try.prog 49 [.agg a.row] σ (fun p σ'=>p = .agg (idRow a.id) ∧ σ' = σ) :=
 PCall.lift (id_w a) (bel1 (bel_pc _ a)) (fun p h=>⟨by rw [h]; exact bel_id _ _,h,rfl⟩)
theorem rid_w (a:Pc):PCall Try.prog 47 [.agg a.row] [] (fun p _=>p = .agg (idRow a.id)):=by
 unfold Pc.row
 refine PCall.vfrz [] 7 10 [.cell 2 58] sc1_ok mix Try.func47 rfl (by decide) rfl rfl (by simp) ?_
 simp -dsimp only [initFr,List.zipIdx_cons,List.zipIdx_nil,List.map_cons,List.map_nil,Nat.zero_add,Nat.reduceAdd]
 simp -dsimp (maxSteps:=4000000) +contextual (disch:=first | omega | decide +kernel) only [↓vsD,vsE,↓Nat.reduceLT,simprocAttr,sc1_cmp,sc1_or2,sc1_or3,sc1_cntd,sc1_numd,sc1_known,sc1_number,vcel]
 exact fin0 (p2:=.agg (idRow a.id)) (.keep _ (bel_id 0 a.id)) rfl
theorem rid_on (a:Pc) (σ:Store):PCall Try.prog 47 [.agg a.row] σ (fun p σ'=>p = .agg (idRow a.id) ∧ σ' = σ) :=
 PCall.lift (rid_w a) (bel1 (bel_pc _ a)) (fun p h=>⟨by rw [h]; exact bel_id _ _,h,rfl⟩)
def exId (σ:Store):List PV → Option (Prop × PV × Store)
 | [.agg [.int .i64 a,.int .i64 b,.int .i64 c,.int .u64 d,.sl rows]]=>some (∃ p:Pc,[PV.int .i64 a,.int .i64 b,.int .i64 c,.int .u64 d,.sl rows] = p.row,.agg [.int .i64 a,.int .i64 b,.int .i64 c],σ)
 | _=>some (False,.unk,σ)
def exCmp3 (σ:Store):List PV → Option (Prop × PV × Store)
 | [.agg [.int .i64 a,.int .i64 b,.int .i64 c],.agg [.int .i64 a',.int .i64 b',.int .i64 c']]=>some (True,.int .i64 (cmp3 (a,b,c) (a',b',c')),σ)
 | _=>some (False,.unk,σ)
def exCmpS (σ:Store):List PV → Option (Prop × PV × Store)
 | [.agg [.int .i64 a,.int .i64 b,.sl r],.agg [.int .i64 a',.int .i64 b',.sl r']]=>some (∃ s t:Site,[PV.int .i64 a,.int .i64 b,.sl r] = s.row ∧ [PV.int .i64 a',.int .i64 b',.sl r'] = t.row,.int .i64 (or2 (cmpI a a') (cmpI b b')),σ)
 | _=>some (False,.unk,σ)
theorem exId_pure (args:List PV) (σ:Store):∃ c p,exId σ args = some (c,p,σ):=by
 unfold exId; split <;> exact ⟨_,_,rfl⟩
theorem exCmp3_pure (args:List PV) (σ:Store):∃ c p,exCmp3 σ args = some (c,p,σ):=by
 unfold exCmp3; split <;> exact ⟨_,_,rfl⟩
theorem exCmpS_pure (args:List PV) (σ:Store):∃ c p,exCmpS σ args = some (c,p,σ):=by
 unfold exCmpS; split <;> exact ⟨_,_,rfl⟩
theorem exId_ok {F:FuncId} (h:∀ (a:Pc) σ,PCall Try.prog F [.agg a.row] σ (fun p σ'=>p = .agg (idRow a.id) ∧ σ' = σ)):Known.Ok Try.prog F (fun args σ=>exId σ args):=by
 intro args σ c p σ' he hc
 simp only [exId] at he
 split at he
 ·cases he
  obtain ⟨a,ha⟩:=hc
  have:=h a σ
  rw [← ha] at this
  simp only [Pc.row,List.cons.injEq,PV.int.injEq,true_and,and_true] at ha
  obtain ⟨h1,h2,h3,_⟩:=ha
  rw [h1,h2,h3] at this ⊢
  exact this
 ·cases he; exact hc.elim
theorem exCmp3_ok {F:FuncId} (h:∀ (a b:Idn) σ,PCall Try.prog F [.agg (idRow a),.agg (idRow b)] σ (fun p σ'=>p = .int .i64 (cmp3 a b) ∧ σ' = σ)):Known.Ok Try.prog F (fun args σ=>exCmp3 σ args):=by
 intro args σ c p σ' he hc
 simp only [exCmp3] at he
 split at he
 ·cases he; exact h (_,_,_) (_,_,_) σ
 ·cases he; exact hc.elim
theorem exCmpS_ok {F:FuncId} (h:∀ (a b:Site) σ,PCall Try.prog F [.agg a.row,.agg b.row] σ (fun p σ'=>p = .int .i64 (cmpS a b) ∧ σ' = σ)):Known.Ok Try.prog F (fun args σ=>exCmpS σ args):=by
 intro args σ c p σ' he hc
 simp only [exCmpS] at he
 split at he
 ·cases he
  obtain ⟨s,t,h1,h2⟩:=hc
  have:=h s t σ
  rw [← h1,← h2] at this
  simp only [Site.row,List.cons.injEq,PV.int.injEq,true_and,and_true] at h1 h2
  obtain ⟨e1,e2,_⟩:=h1
  obtain ⟨e3,e4,_⟩:=h2
  unfold cmpS at this
  rw [e1,e2,e3,e4] at this ⊢
  exact this
 ·cases he; exact hc.elim
def sc2:Ext:=((((sc1.addP 54 (fun args σ=>exCmp3 σ args)).addP 46 (fun args σ=>exCmp3 σ args)).addP 105 (fun args σ=>exCmpS σ args)).addP
 49 (fun args σ=>exId σ args)).addP 47 (fun args σ=>exId σ args)
theorem sc2_ok:ExtOk Try.prog sc2 :=
 ((((((sc1_ok).addP (exCmp3_ok comp_on) exCmp3_pure).addP (exCmp3_ok rcomp_on) exCmp3_pure).addP (exCmpS_ok ord_on) exCmpS_pure).addP (exId_ok id_on) exId_pure).addP (exId_ok rid_on) exId_pure)
section
variable (σ:Store) (a b:Int) (x y:Idn) (s t:Site) (p:Pc)
theorem sc2_cmp:sc2.f 85 [.int .i64 a,.int .i64 b] σ = some (True,.int .i64 (cmpI a b),σ):=rfl
theorem sc2_cntd:sc2.f 104 [.int .i64 a] σ = some (True,.bool (decide (cntd a)),σ):=rfl
theorem sc2_numd:sc2.f 66 [.int .i64 a] σ = some (True,.bool (decide (numd a)),σ):=rfl
theorem sc2_known:sc2.f 73 [.int .i64 a] σ = some (True,.bool (decide (cntd a)),σ):=rfl
theorem sc2_number:sc2.f 72 [.int .i64 a] σ = some (True,.bool (decide (numd a)),σ):=rfl
theorem sc2_comp:sc2.f 54 [.agg [.int .i64 x.1,.int .i64 x.2.1,.int .i64 x.2.2],.agg [.int .i64 y.1,.int .i64 y.2.1,.int .i64 y.2.2]] σ = some (True,.int .i64 (cmp3 x y),σ):=rfl
theorem sc2_rcomp:sc2.f 46 [.agg [.int .i64 x.1,.int .i64 x.2.1,.int .i64 x.2.2],.agg [.int .i64 y.1,.int .i64 y.2.1,.int .i64 y.2.2]] σ = some (True,.int .i64 (cmp3 x y),σ):=rfl
theorem sc2_ord:sc2.f 105 [.agg [.int .i64 s.blk,.int .i64 s.ins,.sl (encT s.tg)],.agg [.int .i64 t.blk,.int .i64 t.ins,.sl (encT t.tg)]] σ = some (True,.int .i64 (cmpS s t),σ):=by
 show some (_,_,σ) = _
 rw [eq_true (show ∃ s' t':Site,[PV.int .i64 s.blk,.int .i64 s.ins,.sl (encT s.tg)] = s'.row ∧ [PV.int .i64 t.blk,.int .i64 t.ins,.sl (encT t.tg)] = t'.row from ⟨s,t,rfl,rfl⟩)]
 rfl
theorem sc2_id:sc2.f 49 [.agg [.int .i64 p.id.1,.int .i64 p.id.2.1,.int .i64 p.id.2.2,.int .u64 p.dig,.sl (encF p.fs)]] σ = some (True,.agg [.int .i64 p.id.1,.int .i64 p.id.2.1,.int .i64 p.id.2.2],σ):=by
 show some (_,_,σ) = _
 rw [eq_true (show ∃ q:Pc,[PV.int .i64 p.id.1,.int .i64 p.id.2.1,.int .i64 p.id.2.2,.int .u64 p.dig,.sl (encF p.fs)] = q.row from ⟨p,rfl⟩)]
theorem sc2_rid:sc2.f 47 [.agg [.int .i64 p.id.1,.int .i64 p.id.2.1,.int .i64 p.id.2.2,.int .u64 p.dig,.sl (encF p.fs)]] σ = some (True,.agg [.int .i64 p.id.1,.int .i64 p.id.2.1,.int .i64 p.id.2.2],σ):=by
 show some (_,_,σ) = _
 rw [eq_true (show ∃ q:Pc,[PV.int .i64 p.id.1,.int .i64 p.id.2.1,.int .i64 p.id.2.2,.int .u64 p.dig,.sl (encF p.fs)] = q.row from ⟨p,rfl⟩)]
end
end Go.Proofs.Ythjoehaglonjaaa
