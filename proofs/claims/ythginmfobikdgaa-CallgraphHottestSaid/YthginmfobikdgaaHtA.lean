import Derived.Test.YthginmfobikdgaaSmD
set_option maxRecDepth 8000
set_option linter.unusedSimpArgs false
set_option linter.unusedVariables false
namespace Go.Proofs.Ythginmfobikdgaa
open Go.PV
def cmpG (a b:Int):Int:=if a < b then -1 else if b < a then 1 else 0
theorem gNaN_ok (a:Int) (σ:Store):PCall Try.prog 98 [.int .i64 a] σ (fun p σ'=>p = .bool false ∧ σ' = σ):=by
 refine PCall.vraw [] 7 6 [.tmp 2] (noE_ok _) mix Try.func98 rfl (by decide) rfl rfl (by simp) ?_
 simp -dsimp only [initFr,List.zipIdx_cons,List.zipIdx_nil,List.map_cons,List.map_nil,Nat.zero_add,Nat.reduceAdd]
 simp -dsimp (maxSteps:=4000000) +contextual (disch:=first | omega | decide +kernel) only [↓vsD,vsE,↓Nat.reduceLT,simprocAttr]
theorem gCompare_ok (a b:Int) (σ:Store):PCall Try.prog 67 [.int .i64 a,.int .i64 b] σ (fun p σ'=>p = .int .i64 (cmpG a b) ∧ σ' = σ):=by
 have k0:∀ args σ,noE.f 98 args σ = none:=fun _ _=>rfl
 refine PCall.vraw [] 604287 20 [.tmp 4] (noE_ok _) mix Try.func67 rfl (by decide) rfl rfl (by simp) ?_
 simp -dsimp only [initFr,List.zipIdx_cons,List.zipIdx_nil,List.map_cons,List.map_nil,Nat.zero_add,Nat.reduceAdd]
 simp -dsimp (maxSteps:=4000000) +contextual (disch:=first | omega | decide +kernel) only [↓vsD,vsE,↓Nat.reduceLT,simprocAttr,k0]
 refine PCall.mono (gNaN_ok a _) ?_
 rintro p σ' ⟨rfl,rfl⟩
 simp -dsimp (maxSteps:=4000000) +contextual (disch:=first | omega | decide +kernel) only [↓vsD,vsE,↓Nat.reduceLT,simprocAttr,k0]
 refine PCall.mono (gNaN_ok b _) ?_
 rintro p σ' ⟨rfl,rfl⟩
 simp -dsimp (maxSteps:=4000000) +contextual (disch:=first | omega | decide +kernel) only [↓vsD,vsE,↓Nat.reduceLT,simprocAttr,k0]
 unfold cmpG
 refine ⟨fun h=>by rw [if_pos h],fun h=>⟨fun h2=>by rw [if_neg h,if_pos h2],fun h2=>by rw [if_neg h,if_neg h2]⟩⟩
def hotter (a b:CallI):Bool:=decide (b.cnt < a.cnt)
theorem hotCmp_ok (a b:CallI) (σ:Store):PCall Try.prog 66 [.agg a.row,.agg b.row] σ (fun p σ'=>p = .int .i64 (cmpG b.cnt a.cnt) ∧ σ' = σ):=by
 have k0:∀ args σ,noE.f 67 args σ = none:=fun _ _=>rfl
 unfold CallI.row
 refine PCall.vfrz [] 31 10 [.tmp 4] (noE_ok _) mix Try.func66 rfl (by decide) rfl rfl (by simp) ?_
 simp -dsimp only [initFr,List.zipIdx_cons,List.zipIdx_nil,List.map_cons,List.map_nil,Nat.zero_add,Nat.reduceAdd]
 simp -dsimp (maxSteps:=4000000) +contextual (disch:=first | omega | decide +kernel) only [↓vsD,vsE,↓Nat.reduceLT,simprocAttr,vgap,k0]
 refine PCall.mono (gCompare_ok b.cnt a.cnt _) ?_
 rintro p σ' ⟨rfl,rfl⟩
 simp -dsimp (maxSteps:=4000000) +contextual (disch:=first | omega | decide +kernel) only [↓vsD,vsE,↓Nat.reduceLT,simprocAttr,vgap,k0]
 rw [List.append_assoc]
 exact fin_app (.keep _ (bel_int _ _ _)) ⟨rfl,rfl⟩
theorem cmpG_neg (a b:Int):cmpG a b < 0 ↔ a < b:=by
 unfold cmpG
 repeat' split
 all_goals omega
theorem hot_weak:Weak hotter where
 irr a:=by simp [hotter]
 tr a b c h1 h2:=by simp [hotter] at h1 h2 ⊢; omega
 nt a b c h1 h2:=by simp [hotter] at h1 h2 ⊢; omega
theorem hot_cmp:CmpS 66 hotter :=
 ⟨fun _ _=>rfl,fun a b=>cmpG b.cnt a.cnt,fun a b=>by rw [cmpG_neg]; simp [hotter],fun a b σ=>hotCmp_ok a b σ⟩
def stb {α:Type} (lt:α → α → Bool) (l:List α):List α:=l.foldl (fun P c=>mrg lt P [c]) []
theorem stb_snoc {α:Type} (lt:α → α → Bool) (l:List α) (c:α):stb lt (l ++ [c]) = mrg lt (stb lt l) [c]:=by simp [stb]
theorem stb_ok {α:Type} {lt:α → α → Bool} (hw:Weak lt) (l:List α):∀ k,k ≤ l.length → Stb lt (l.take k) (stb lt (l.take k)):=by
 intro k
 induction k with
 | zero=>intro _; rw [List.take_zero]; exact .nil
 | succ k ih =>
  intro h
  rw [List.take_add_one,List.getElem?_eq_getElem (show k < l.length by omega),Option.toList_some,stb_snoc]
  exact (ih (by omega)).mrg hw (.one _)
theorem stb_all {α:Type} {lt:α → α → Bool} (hw:Weak lt) (l:List α):Stb lt l (stb lt l):=by
 have:=stb_ok hw l l.length (Nat.le_refl _)
 rwa [List.take_length] at this
def hotV (calls:List CallI):List CallI:=stb hotter (calls.filter fun c=>decide (0 < c.cnt))
def grV (E:PV) (calls:List CallI):PV:=.agg [E,.sl (encL calls)]
theorem bel_gr (n:Nat) {E:PV} (hB:Bel n E) (calls:List CallI):Bel n (grV E calls):=bel_agg (fun p hp=>by
 simp only [List.mem_cons,List.not_mem_nil,or_false] at hp
 rcases hp with rfl | rfl
 ·exact hB
 ·exact bel_sl (encL_bel _ _))
theorem insN_ok (σ:Store):PCall Try.prog 122 [.nils,.int .i64 0,.int .i64 0,.func (.func 66) [] []] σ (fun p σ'=>p = .tup [] ∧ σ' = σ):=by
 refine PCall.vraw [] 17179886591 53 [] (noE_ok _) mix Try.func122 rfl (by decide) rfl rfl (by simp) ?_
 simp -dsimp only [initFr,List.zipIdx_cons,List.zipIdx_nil,List.map_cons,List.map_nil,Nat.zero_add,Nat.reduceAdd]
 simp -dsimp (maxSteps:=4000000) +contextual (disch:=first | omega | decide +kernel) only [↓vsD,vsE,↓Nat.reduceLT,simprocAttr]
 refine v_loopS (fun _:Unit=>[(2,.int .i64 0),(8,.int .i64 1)]) (fun _=>σ) (fun _=>True) (fun _=>0) () (by simp [weaker,Go.PV.look]) rfl trivial ?_
 intro _ _
 simp -dsimp (maxSteps:=4000000) +contextual (disch:=first | omega | decide +kernel) only [↓vsD,vsE,↓Nat.reduceLT,simprocAttr]
theorem stableN_ok (σ:Store):PCall Try.prog 97 [.nils,.int .i64 0,.func (.func 66) [] []] σ (fun p σ'=>p = .tup [] ∧ σ' = σ):=by
 refine PCall.vraw [] 18014433942971391 63 [] (noE_ok _) mix Try.func97 rfl (by decide) rfl rfl (by simp) ?_
 simp -dsimp only [initFr,List.zipIdx_cons,List.zipIdx_nil,List.map_cons,List.map_nil,Nat.zero_add,Nat.reduceAdd]
 simp -dsimp (maxSteps:=4000000) +contextual (disch:=first | omega | decide +kernel) only [↓vsD,vsE,↓Nat.reduceLT,simprocAttr]
 refine v_loopS (fun _:Unit=>[(0,.nils),(1,.int .i64 0),(2,.func (.func 66) [] []),(6,.int .i64 20),(7,.int .i64 0),(8,.int .i64 20)]) (fun _=>σ) (fun _=>True) (fun _=>0) () (by simp [weaker,Go.PV.look]) rfl trivial ?_
 intro _ _
 simp -dsimp (maxSteps:=4000000) +contextual (disch:=first | omega | decide +kernel) only [↓vsD,vsE,↓Nat.reduceLT,simprocAttr]
 refine PCall.mono (insN_ok σ) ?_
 rintro p σ' ⟨rfl,rfl⟩
 simp -dsimp (maxSteps:=4000000) +contextual (disch:=first | omega | decide +kernel) only [↓vsD,vsE,↓Nat.reduceLT,simprocAttr]
 refine v_loopS (fun _:Unit=>[(1,.int .i64 0),(6,.int .i64 20)]) (fun _=>σ') (fun _=>True) (fun _=>0) () (by simp [weaker,Go.PV.look]) rfl trivial ?_
 intro _ _
 simp -dsimp (maxSteps:=4000000) +contextual (disch:=first | omega | decide +kernel) only [↓vsD,vsE,↓Nat.reduceLT,simprocAttr]
theorem stableN2_ok (σ:Store):PCall Try.prog 65 [.nils,.func (.func 66) [] []] σ (fun p σ'=>p = .tup [] ∧ σ' = σ):=by
 refine PCall.vraw [] 15 9 [] (noE_ok _) mix Try.func65 rfl (by decide) rfl rfl (by simp) ?_
 simp -dsimp only [initFr,List.zipIdx_cons,List.zipIdx_nil,List.map_cons,List.map_nil,Nat.zero_add,Nat.reduceAdd]
 simp -dsimp (maxSteps:=4000000) +contextual (disch:=first | omega | decide +kernel) only [↓vsD,vsE,↓Nat.reduceLT,simprocAttr]
 refine PCall.mono (stableN_ok σ) ?_
 rintro p σ' ⟨rfl,rfl⟩
 simp -dsimp (maxSteps:=4000000) +contextual (disch:=first | omega | decide +kernel) only [↓vsD,vsE,↓Nat.reduceLT,simprocAttr]
theorem filter_take (p:CallI → Bool) (l:List CallI) (k:Nat) (h:k < l.length):(l.take (k + 1)).filter p = if p (l.getD k default) = true then (l.take k).filter p ++ [l.getD k default] else (l.take k).filter p:=by
 rw [List.take_add_one,List.getElem?_eq_getElem h,List.filter_append,List.getD_eq_getElem?_getD,List.getElem?_eq_getElem h]
 simp only [Option.toList_some,Option.getD_some]
 split
 ·rw [List.filter_cons_of_pos (by assumption)]; rfl
 ·rw [List.filter_cons_of_neg (by assumption),List.filter_nil,List.append_nil]
set_option maxRecDepth 8000 in
set_option maxHeartbeats 16000000 in
theorem hot_w (E:PV) (calls:List CallI) (hE:PV.cell E = true) (hl:calls.length ≤ 1000):PCall Try.prog 36 [grV E calls] [] (fun p _=>p = .sl (encL (hotV calls))):=by
 unfold grV
 refine PCall.vfrz [] 34751 24 [.tmp 2] (noE_ok _) mix Try.func36 rfl (by decide) rfl rfl (by simp) ?_
 simp -dsimp only [initFr,List.zipIdx_cons,List.zipIdx_nil,List.map_cons,List.map_nil,Nat.zero_add,Nat.reduceAdd]
 simp -dsimp (maxSteps:=4000000) +contextual (disch:=first | omega | decide +kernel) only [↓vsD,vsE,↓Nat.reduceLT,simprocAttr,encL_length,hE]
 refine v_loopS (fun s:Nat × List CallI × Nat × Store=>[(3,match s.2.1 with | []=>.nils | c :: q=>.msl s.2.2.1 q.length),(7,.sl (encL calls)),(8,.int .i64 calls.length),(9,.int .i64 s.1)])
  (fun s=>.rows 76 2 [[E,.sl (encL calls)]] 0 :: s.2.2.2) (fun s=>s.1 ≤ calls.length ∧ s.2.1 = (calls.take s.1).filter (fun c=>decide (0 < c.cnt)) ∧ (∀ c q,s.2.1 = c :: q → ∃ o,s.2.2.1 = o + 1 ∧ s.2.2.2[o]? = some (.rows 78 5 (encL (c :: q)) q.length))) (fun s=>calls.length - s.1) (0,[],0,[]) (by simp [weaker,Go.PV.look]) rfl ⟨by simp,rfl,fun c q h=>(by cases h)⟩ ?_
 rintro ⟨k,L,o,Q⟩ ⟨hk,hL,hQ⟩
 dsimp only at hk hL hQ ⊢
 have hLl:L.length ≤ k:=by
  have h1:=List.length_filter_le (fun c:CallI=>decide (0 < c.cnt)) (calls.take k)
  rw [← hL,List.length_take] at h1
  omega
 by_cases hkl:k < calls.length
 ·have hf:=filter_take (fun c=>decide (0 < c.cnt)) calls k hkl
  rw [← hL] at hf
  have hsucc:k + 1 ≤ calls.length:=by omega
  cases L with
  | nil =>
   simp -dsimp (maxSteps:=4000000) +contextual (disch:=first | omega | decide +kernel) only [↓vsD,vsE,↓Nat.reduceLT,simprocAttr,encL_length,encL_getD,vgap,CallI.row,bytesS,lenOk]
   refine ⟨fun hc=>?_,fun hc=>?_⟩
   ·rw [if_pos (by simpa using hc)] at hf
    refine ⟨(k + 1,[calls.getD k default],Q.length + 1 + 1,Q ++ [.rows 78 5 [(calls.getD k default).row] 0] ++ [.rows 78 5 [(calls.getD k default).row] 0]),(by (try dsimp only); omega),by simp [weaker,Go.PV.look],by simp [CallI.row],hsucc,by rw [hf]; rfl,fun c q h=>?_⟩
    cases h
    exact ⟨Q.length + 1,rfl,by simp [encL]⟩
   ·rw [if_neg (by simpa using hc)] at hf
    exact ⟨(k + 1,[],0,Q ++ [.rows 78 5 [(calls.getD k default).row] 0]),(by (try dsimp only); omega),by simp [weaker,Go.PV.look],by simp [CallI.row],hsucc,hf.symm,fun c q h=>(by cases h)⟩
  | cons c q =>
   obtain ⟨o,rfl,hQo⟩:=hQ c q rfl
   have hol:=(List.getElem?_eq_some_iff.1 hQo).1
   have g1:∀ X,(Q ++ X)[o]? = some (.rows 78 5 (encL (c :: q)) q.length):=fun X=>by rw [List.getElem?_append_left hol,hQo]
   have g2:∀ X y,(Q ++ X).set o y = Q.set o y ++ X:=fun X y=>by rw [List.set_append_left _ _ hol]
   have hLq:q.length + 1 ≤ k:=by simpa using hLl
   simp -dsimp (maxSteps:=4000000) +contextual (disch:=first | omega | decide +kernel) only [↓vsD,vsE,↓Nat.reduceLT,simprocAttr,encL_length,encL_getD,vgap,CallI.row,g1,g2,bytesS,lenOk]
   refine ⟨fun hc=>?_,fun hc=>?_⟩
   ·rw [if_pos (by simpa using hc)] at hf
    refine ⟨(k + 1,c :: (q ++ [calls.getD k default]),o + 1,Q.set o (.rows 78 5 (encL (c :: q) ++ [(calls.getD k default).row]) (q.length + 1)) ++ [.rows 78 5 [(calls.getD k default).row] 0]),(by (try dsimp only); omega),by simp [weaker,Go.PV.look],by simp [CallI.row],hsucc,by rw [hf]; rfl,fun c' q' h=>?_⟩
    cases h
    refine ⟨o,rfl,?_⟩
    rw [List.getElem?_append_left (by simpa using hol),List.getElem?_set_self hol]
    simp [encL]
   ·rw [if_neg (by simpa using hc)] at hf
    refine ⟨(k + 1,c :: q,o + 1,Q ++ [.rows 78 5 [(calls.getD k default).row] 0]),(by (try dsimp only); omega),by simp [weaker,Go.PV.look],by simp [CallI.row],hsucc,hf.symm,fun c' q' h=>?_⟩
    cases h
    exact ⟨o,rfl,g1 _⟩
 ·have hkz:k = calls.length:=by omega
  subst hkz
  rw [List.take_length] at hL
  cases L with
  | nil =>
   simp -dsimp (maxSteps:=4000000) +contextual (disch:=first | omega | decide +kernel) only [↓vsD,vsE,↓Nat.reduceLT,simprocAttr,encL_length]
   refine PCall.mono (stableN2_ok _) ?_
   rintro p σ' ⟨rfl,rfl⟩
   simp -dsimp (maxSteps:=4000000) +contextual (disch:=first | omega | decide +kernel) only [↓vsD,vsE,↓Nat.reduceLT,simprocAttr]
   refine fin0 .nils ?_
   rw [hotV,← hL]; rfl
  | cons c q =>
   obtain ⟨o,rfl,hQo⟩:=hQ c q rfl
   have hol:=(List.getElem?_eq_some_iff.1 hQo).1
   simp -dsimp (maxSteps:=4000000) +contextual (disch:=first | omega | decide +kernel) only [↓vsD,vsE,↓Nat.reduceLT,simprocAttr,encL_length]
   refine PCall.mono (sortStable_ok hot_weak hot_cmp (o + 1) q.length (c :: q) (by simp at hLl ⊢; omega) _ (by simpa using hQo)) ?_
   rintro p σ' ⟨rfl,R,hR,rfl⟩
   simp -dsimp (maxSteps:=4000000) +contextual (disch:=first | omega | decide +kernel) only [↓vsD,vsE,↓Nat.reduceLT,simprocAttr]
   refine fin0 (Frz.msl0 (elem:=78) (sz:=5) (Nat.zero_le _) (show ((Q.set o _)[o]?) = _ from List.getElem?_set_self hol) (encL_bel _ _)) ?_
   rw [hotV,← hL,hR.uniq hot_weak (stb_all hot_weak _)]
theorem hot_on (E:PV) (calls:List CallI) (hE:PV.cell E = true) (hB:Bel 0 E) (hl:calls.length ≤ 1000) (σ:Store):PCall Try.prog 36 [grV E calls] σ (fun p σ'=>p = .sl (encL (hotV calls)) ∧ σ' = σ) :=
 PCall.lift (hot_w E calls hE hl) (fun x hx=>by rw [List.mem_singleton.1 hx]; exact bel_gr 0 hB calls) (fun p h=>⟨by rw [h]; exact bel_sl (encL_bel _ _),h,rfl⟩)
end Go.Proofs.Ythginmfobikdgaa
