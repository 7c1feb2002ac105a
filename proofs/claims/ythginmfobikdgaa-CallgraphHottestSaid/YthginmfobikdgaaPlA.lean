import Derived.Test.YthginmfobikdgaaTy
import Derived.Test.YthginmfobikdgaaEnA
import Derived.Test.YthginmfobikdgaaPvY
set_option maxRecDepth 8000
set_option linter.unusedSimpArgs false
set_option linter.unusedVariables false
namespace Go.Proofs.Ythginmfobikdgaa
open Go.PV
theorem bytesOk (a:Nat) (h:a ≤ 1099511627776):(a ≤ maxBytes) = True:=eq_true (by unfold maxBytes; omega)
theorem lenOk (a:Nat) (h:a ≤ 1099511627776):(a ≤ maxLen) = True:=eq_true (by unfold maxLen; omega)
structure CallI where
 fn:Int
 blk:Int
 ins:Int
 cal:Int
 cnt:Int
instance:Inhabited CallI:=⟨⟨0,0,0,0,0⟩⟩
def CallI.row (c:CallI):List PV:=[.int .i64 c.fn,.int .i64 c.blk,.int .i64 c.ins,.int .i64 c.cal,.int .i64 c.cnt]
theorem CallI.row_bel (c:CallI) (n:Nat):∀ p ∈ c.row,Bel n p:=fun p hp=>by
 simp only [CallI.row,List.mem_cons,List.not_mem_nil,or_false] at hp
 rcases hp with rfl | rfl | rfl | rfl | rfl <;> exact bel_int _ _ _
def encL (l:List CallI):List (List PV):=l.map CallI.row
theorem encL_length (l:List CallI):(encL l).length = l.length:=by simp [encL]
theorem encL_getD (l:List CallI) (i:Nat) (h:i < l.length):(encL l).getD i [] = [.int .i64 (l.getD i default).fn,.int .i64 (l.getD i default).blk,.int .i64 (l.getD i default).ins,.int .i64 (l.getD i default).cal,.int .i64 (l.getD i default).cnt]:=by simp [encL,CallI.row,List.getD_eq_getElem?_getD,h]
theorem encL_bel (n:Nat) (l:List CallI):∀ row ∈ encL l,∀ p ∈ row,Bel n p:=fun row hr p hp=>by
 simp only [encL,List.mem_map] at hr
 obtain ⟨t,_,rfl⟩:=hr
 exact t.row_bel n p hp
theorem getDm {α:Type} {l:List α} {k:Nat} {d:α} (h:k < l.length):l.getD k d ∈ l:=by
 rw [List.getD_eq_getElem?_getD,List.getElem?_eq_getElem h]; simp
structure GoodP (sizes:List Int) (calls:List CallI) (page:Int):Prop where
 n0:0 < sizes.length
 n:sizes.length ≤ 64
 pg:1 ≤ page ∧ page ≤ 65536
 sz:∀ s ∈ sizes,0 ≤ s ∧ s ≤ 1048576
 ends:∀ c ∈ calls,(0 ≤ c.fn ∧ c.fn < sizes.length) ∧ (0 ≤ c.cal ∧ c.cal < sizes.length)
 cnt:∀ c ∈ calls,0 ≤ c.cnt ∧ c.cnt ≤ 1099511627776
 few:calls.length ≤ 65536
theorem pindexI_none (l:List Int) (hll:l.length < 2 ^ 40) (F:FuncId) (cap:List PV) (σ:Store) (hF:∀ x ∈ l,PCall Try.prog F (.int .i64 x :: cap) σ (fun q τ=>q = .bool false ∧ τ = σ)) :
  PCall Try.prog 83 [.sl (ints l),.func (.func F) [] cap] σ (fun q τ=>q = .int .i64 (-1) ∧ τ = σ):=by
 refine PCall.vraw [] 66495 19 [.tmp 4] (noE_ok _) mix Try.func83 rfl (by decide) rfl rfl (by simp) ?_
 simp -dsimp only [initFr,List.zipIdx_cons,List.zipIdx_nil,List.map_cons,List.map_nil,Nat.zero_add,Nat.reduceAdd]
 simp -dsimp (maxSteps:=4000000) +contextual (disch:=first | omega | decide +kernel) only [↓vsD,vsE,↓Nat.reduceLT,simprocAttr,enc_length]
 refine v_loopS (fun k:Nat=>[(0,.sl (ints l)),(1,.func (.func F) [] cap),(7,.int .i64 l.length),(8,.int .i64 k)]) (fun _=>σ) (fun k=>k ≤ l.length) (fun k=>l.length - k) 0 (by simp [weaker,Go.PV.look]) rfl (by omega) ?_
 intro k hk
 by_cases hkl:k < l.length
 ·simp -dsimp (maxSteps:=4000000) +contextual (disch:=first | omega | decide +kernel) only [↓vsD,vsE,↓Nat.reduceLT,simprocAttr,enc_length,enc_getD]
  refine PCall.mono (hF (l.getD k 0) (getDm hkl)) ?_
  rintro p σ' ⟨rfl,rfl⟩
  simp -dsimp (maxSteps:=4000000) +contextual (disch:=first | omega | decide +kernel) only [↓vsD,vsE,↓Nat.reduceLT,simprocAttr]
  exact ⟨k + 1,(by (try dsimp only); omega),(by simp [weaker,Go.PV.look]),rfl,by omega⟩
 ·simp -dsimp (maxSteps:=4000000) +contextual (disch:=first | omega | decide +kernel) only [↓vsD,vsE,↓Nat.reduceLT,simprocAttr,enc_length]
theorem pcontainsI_none (l:List Int) (hll:l.length < 2 ^ 40) (F:FuncId) (cap:List PV) (σ:Store) (hF:∀ x ∈ l,PCall Try.prog F (.int .i64 x :: cap) σ (fun q τ=>q = .bool false ∧ τ = σ)) :
  PCall Try.prog 51 [.sl (ints l),.func (.func F) [] cap] σ (fun q τ=>q = .bool false ∧ τ = σ):=by
 refine PCall.vraw [] 31 9 [.tmp 4] (noE_ok _) mix Try.func51 rfl (by decide) rfl rfl (by simp) ?_
 simp -dsimp only [initFr,List.zipIdx_cons,List.zipIdx_nil,List.map_cons,List.map_nil,Nat.zero_add,Nat.reduceAdd]
 simp -dsimp (maxSteps:=4000000) +contextual (disch:=first | omega | decide +kernel) only [↓vsD,vsE,↓Nat.reduceLT,simprocAttr]
 refine PCall.mono (pindexI_none l hll F cap σ hF) ?_
 rintro p σ' ⟨rfl,rfl⟩
 simp -dsimp (maxSteps:=4000000) +contextual (disch:=first | omega | decide +kernel) only [↓vsD,vsE,↓Nat.reduceLT,simprocAttr]
theorem indexL_none (l:List CallI) (hll:l.length < 2 ^ 40) (F:FuncId) (cap:List PV) (σ:Store) (hF:∀ x ∈ l,∀ τ,σ <+: τ → PCall Try.prog F (.agg x.row :: cap) τ (fun q τ'=>q = .bool false ∧ τ <+: τ')) :
  PCall Try.prog 124 [.sl (encL l),.func (.func F) [] cap] σ (fun q τ=>q = .int .i64 (-1) ∧ σ <+: τ):=by
 refine PCall.vraw [] 66495 19 [.tmp 4] (noE_ok _) mix Try.func124 rfl (by decide) rfl rfl (by simp) ?_
 simp -dsimp only [initFr,List.zipIdx_cons,List.zipIdx_nil,List.map_cons,List.map_nil,Nat.zero_add,Nat.reduceAdd]
 simp -dsimp (maxSteps:=4000000) +contextual (disch:=first | omega | decide +kernel) only [↓vsD,vsE,↓Nat.reduceLT,simprocAttr,encL_length]
 refine v_loopS (fun k:Nat × Store=>[(0,.sl (encL l)),(1,.func (.func F) [] cap),(7,.int .i64 l.length),(8,.int .i64 k.1)]) (fun k=>k.2) (fun k=>k.1 ≤ l.length ∧ σ <+: k.2) (fun k=>l.length - k.1) (0,σ) (by simp [weaker,Go.PV.look]) rfl (by simp) ?_
 rintro ⟨k,τ⟩ ⟨hk,hτ⟩
 dsimp only at hk hτ ⊢
 by_cases hkl:k < l.length
 ·simp -dsimp (maxSteps:=4000000) +contextual (disch:=first | omega | decide +kernel) only [↓vsD,vsE,↓Nat.reduceLT,simprocAttr,encL_length,encL_getD]
  refine PCall.mono (hF (l.getD k default) (getDm hkl) τ hτ) ?_
  rintro p σ' ⟨rfl,hτ'⟩
  simp -dsimp (maxSteps:=4000000) +contextual (disch:=first | omega | decide +kernel) only [↓vsD,vsE,↓Nat.reduceLT,simprocAttr]
  exact ⟨(k + 1,σ'),(by (try dsimp only); omega),(by simp [weaker,Go.PV.look]),rfl,by dsimp only; omega,hτ.trans hτ'⟩
 ·simp -dsimp (maxSteps:=4000000) +contextual (disch:=first | omega | decide +kernel) only [↓vsD,vsE,↓Nat.reduceLT,simprocAttr,encL_length]
  exact hτ
theorem containsL_none (l:List CallI) (hll:l.length < 2 ^ 40) (F:FuncId) (cap:List PV) (σ:Store) (hF:∀ x ∈ l,∀ τ,σ <+: τ → PCall Try.prog F (.agg x.row :: cap) τ (fun q τ'=>q = .bool false ∧ τ <+: τ')) :
  PCall Try.prog 101 [.sl (encL l),.func (.func F) [] cap] σ (fun q τ=>q = .bool false ∧ σ <+: τ):=by
 refine PCall.vraw [] 31 9 [.tmp 4] (noE_ok _) mix Try.func101 rfl (by decide) rfl rfl (by simp) ?_
 simp -dsimp only [initFr,List.zipIdx_cons,List.zipIdx_nil,List.map_cons,List.map_nil,Nat.zero_add,Nat.reduceAdd]
 simp -dsimp (maxSteps:=4000000) +contextual (disch:=first | omega | decide +kernel) only [↓vsD,vsE,↓Nat.reduceLT,simprocAttr]
 refine PCall.mono (indexL_none l hll F cap σ hF) ?_
 rintro p σ' ⟨rfl,hσ⟩
 simp -dsimp (maxSteps:=4000000) +contextual (disch:=first | omega | decide +kernel) only [↓vsD,vsE,↓Nat.reduceLT,simprocAttr]
 exact hσ
theorem aggF:aggT Try.prog 119 = false:=by kernel_rfl
theorem zF:zeroCells Try.prog 119 = some [.nilf]:=by kernel_rfl
theorem cF:Try.prog.cellsOf 119 = 1:=by kernel_rfl
theorem undF:((Try.prog.underlying 119).isSome = true) = True:=eq_true (by kernel_rfl)
theorem check1_ok (f n:Int) (o:Nat) (σ:Store) (ho:σ[o]? = some (.rows 3 1 [[.int .i64 n]] 0)) (hf:0 ≤ f ∧ f < n):PCall Try.prog 99 [.int .i64 f,.ptr o 0 0 0] σ (fun q τ=>q = .bool true ∧ τ = σ):=by
 refine PCall.vraw [] 15 11 [.tmp 3] (noE_ok _) mix Try.func99 rfl (by decide) rfl rfl (by simp) ?_
 simp -dsimp only [initFr,List.zipIdx_cons,List.zipIdx_nil,List.map_cons,List.map_nil,Nat.zero_add,Nat.reduceAdd]
 simp -dsimp (maxSteps:=4000000) +contextual (disch:=first | omega | decide +kernel) only [↓vsD,vsE,↓Nat.reduceLT,simprocAttr,ho]
theorem check2_ok (s:Int) (h:0 ≤ s ∧ s ≤ 1048576) (σ:Store):PCall Try.prog 100 [.int .i64 s] σ (fun q τ=>q = .bool false ∧ τ = σ):=by
 refine PCall.vraw [] 7 9 [.tmp 2] (noE_ok _) mix Try.func100 rfl (by decide) rfl rfl (by simp) ?_
 simp -dsimp only [initFr,List.zipIdx_cons,List.zipIdx_nil,List.map_cons,List.map_nil,Nat.zero_add,Nat.reduceAdd]
 simp -dsimp (maxSteps:=4000000) +contextual (disch:=first | omega | decide +kernel) only [↓vsD,vsE,↓Nat.reduceLT,simprocAttr]
theorem check3_ok (c:CallI) (n:Int) (o o2:Nat) (σ:Store) (ho:σ[o]? = some (.rows 3 1 [[.int .i64 n]] 0)) (ho2:σ[o2]? = some (.rows 119 1 [[.func (.func 99) [] [.ptr o 0 0 0]]] 0)) (h:(0 ≤ c.fn ∧ c.fn < n) ∧ (0 ≤ c.cal ∧ c.cal < n)) :
  PCall Try.prog 102 [.agg c.row,.ptr o2 0 0 0] σ (fun q τ=>q = .bool false ∧ σ <+: τ):=by
 have g1:∀ X,(σ ++ X)[o]? = some (.rows 3 1 [[.int .i64 n]] 0):=fun X=>by rw [List.getElem?_append_left (List.getElem?_eq_some_iff.1 ho).1,ho]
 have g2:∀ X,(σ ++ X)[o2]? = some (.rows 119 1 [[.func (.func 99) [] [.ptr o 0 0 0]]] 0):=fun X=>by rw [List.getElem?_append_left (List.getElem?_eq_some_iff.1 ho2).1,ho2]
 refine PCall.vraw [] 15 16 [.tmp 3] (noE_ok _) mix Try.func102 rfl (by decide) rfl rfl (by simp) ?_
 simp -dsimp only [initFr,List.zipIdx_cons,List.zipIdx_nil,List.map_cons,List.map_nil,Nat.zero_add,Nat.reduceAdd]
 simp -dsimp (maxSteps:=4000000) +contextual (disch:=first | omega | decide +kernel) only [↓vsD,vsE,↓Nat.reduceLT,simprocAttr,CallI.row,g2,vgap,aggF,undF]
 refine PCall.mono (check1_ok c.fn n o (σ ++ [.rows 78 5 [c.row] 0]) (g1 _) h.1) ?_
 rintro p σ' ⟨rfl,rfl⟩
 simp -dsimp (maxSteps:=4000000) +contextual (disch:=first | omega | decide +kernel) only [↓vsD,vsE,↓Nat.reduceLT,simprocAttr,CallI.row,g2,vgap,aggF,undF]
 refine PCall.mono (check1_ok c.cal n o (σ ++ [.rows 78 5 [c.row] 0]) (g1 _) h.2) ?_
 rintro p σ' ⟨rfl,rfl⟩
 simp -dsimp (maxSteps:=4000000) +contextual (disch:=first | omega | decide +kernel) only [↓vsD,vsE,↓Nat.reduceLT,simprocAttr,CallI.row,g2,vgap,aggF,undF]
 exact List.prefix_append _ _
theorem check4_ok (c:CallI) (σ:Store) (h:0 ≤ c.cnt ∧ c.cnt ≤ 1099511627776):PCall Try.prog 103 [.agg c.row] σ (fun q τ=>q = .bool false ∧ σ <+: τ):=by
 refine PCall.vraw [] 7 11 [.tmp 2] (noE_ok _) mix Try.func103 rfl (by decide) rfl rfl (by simp) ?_
 simp -dsimp only [initFr,List.zipIdx_cons,List.zipIdx_nil,List.map_cons,List.map_nil,Nat.zero_add,Nat.reduceAdd]
 simp -dsimp (maxSteps:=4000000) +contextual (disch:=first | omega | decide +kernel) only [↓vsD,vsE,↓Nat.reduceLT,simprocAttr,CallI.row,vgap]
 exact List.prefix_append _ _
end Go.Proofs.Ythginmfobikdgaa
