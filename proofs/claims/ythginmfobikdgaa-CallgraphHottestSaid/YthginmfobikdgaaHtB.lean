import Derived.Test.YthginmfobikdgaaHtA
set_option maxRecDepth 8000
set_option linter.unusedSimpArgs false
set_option linter.unusedVariables false
namespace Go.Proofs.Ythginmfobikdgaa
open Go.PV
theorem okCl (a b c d e:Int):okAgg Try.prog 78 [.int .i64 a,.int .i64 b,.int .i64 c,.int .i64 d,.int .i64 e] = true:=by kernel_rfl
theorem neCl (σ:Store) (a b c d e:Int):binC Try.prog σ .neq 78 (.agg [.int .i64 a,.int .i64 b,.int .i64 c,.int .i64 d,.int .i64 e]) (.agg [.int .i64 a,.int .i64 b,.int .i64 c,.int .i64 d,.int .i64 e]) = .val True (.bool false) σ:=by
 have h:sameKs [.int .i64 a,.int .i64 b,.int .i64 c,.int .i64 d,.int .i64 e] [.int .i64 a,.int .i64 b,.int .i64 c,.int .i64 d,.int .i64 e] = some true:=by simp [sameKs]
 simp only [binC,h,aggC,okCl,Bool.not_true]
theorem sameC_ok (l:List CallI) (hl:l.length ≤ 1000) (σ:Store):PCall Try.prog 35 [.sl (encL l),.sl (encL l)] σ (fun p σ'=>p = .bool true ∧ σ' = σ):=by
 refine PCall.vraw [] 33571903 26 [.tmp 4] (noE_ok _) mix Try.func35 rfl (by decide) rfl rfl (by simp) ?_
 simp -dsimp only [initFr,List.zipIdx_cons,List.zipIdx_nil,List.map_cons,List.map_nil,Nat.zero_add,Nat.reduceAdd]
 simp -dsimp (maxSteps:=4000000) +contextual (disch:=first | omega | decide +kernel) only [↓vsD,vsE,↓Nat.reduceLT,simprocAttr,encL_length]
 refine v_loopS (fun k:Nat=>[(0,.sl (encL l)),(1,.sl (encL l)),(5,.int .i64 k)]) (fun _=>σ) (fun k=>k ≤ l.length) (fun k=>l.length - k) 0 (by simp [weaker,Go.PV.look]) rfl (Nat.zero_le _) ?_
 intro k hk
 by_cases hkl:k < l.length
 ·simp -dsimp (maxSteps:=4000000) +contextual (disch:=first | omega | decide +kernel) only [↓vsD,vsE,↓Nat.reduceLT,simprocAttr,encL_length,encL_getD,CallI.row,neCl]
  exact ⟨k + 1,(by (try dsimp only); omega),(by simp [weaker,Go.PV.look]),rfl,hkl⟩
 ·simp -dsimp (maxSteps:=4000000) +contextual (disch:=first | omega | decide +kernel) only [↓vsD,vsE,↓Nat.reduceLT,simprocAttr,encL_length]
theorem newsL (l:List CallI):newsOk Try.prog 78 (encL l) = true:=by
 show newsOk _ _ (List.map _ _) = true
 simp [newsOk,PV.cell,tyC,CallI.row]
theorem stb_len {α:Type} (lt:α → α → Bool):∀ (l:List α),(stb lt l).length = l.length:=by
 intro l
 have h:∀ (l P:List α),(l.foldl (fun P c=>mrg lt P [c]) P).length = P.length + l.length:=by
  intro l
  induction l with
  | nil=>intro P; rfl
  | cons c l ih=>intro P; rw [List.foldl_cons,ih,(mrg_perm P [c]).length_eq,List.length_append,List.length_cons,List.length_cons,List.length_nil]; omega
 rw [stb,h]; simp
theorem hot_at {F:List CallI} {c:CallI} (i:Nat) (hi:i ≤ (stb hotter F).length) (h1:∀ p:0 < i,¬ ((stb hotter F).getD (i - 1) default).cnt < c.cnt) (h2:i < (stb hotter F).length → ((stb hotter F).getD i default).cnt < c.cnt) :
  stb hotter (F ++ [c]) = (stb hotter F).take i ++ c :: (stb hotter F).drop i:=by
 rw [stb_snoc]
 refine mrg_oneR hot_weak (stb_all hot_weak F).s i hi (fun p=>?_) (fun q=>?_)
 ·have:=h1 p
  rw [List.getD_eq_getElem?_getD,List.getElem?_eq_getElem (show i - 1 < _ by omega),Option.getD_some] at this
  simpa [hotter] using this
 ·have:=h2 q
  rw [List.getD_eq_getElem?_getD,List.getElem?_eq_getElem q,Option.getD_some] at this
  simpa [hotter] using this
set_option maxRecDepth 8000 in
set_option maxHeartbeats 16000000 in
theorem rhot_w (E:PV) (calls:List CallI) (hE:PV.cell E = true) (hl:calls.length ≤ 1000):PCall Try.prog 37 [grV E calls] [] (fun p _=>p = .sl (encL (hotV calls))):=by
 unfold grV
 refine PCall.vfrz [41,48] 68721576063 51 [.tmp 2] (noE_ok _) mix Try.func37 rfl (by decide) rfl rfl (by simp) ?_
 simp -dsimp only [initFr,List.zipIdx_cons,List.zipIdx_nil,List.map_cons,List.map_nil,Nat.zero_add,Nat.reduceAdd]
 simp -dsimp (maxSteps:=4000000) +contextual (disch:=first | omega | decide +kernel) only [↓vsD,vsE,↓Nat.reduceLT,simprocAttr,encL_length,hE]
 refine v_loopS (fun s:Nat × List CallI × Nat × Nat × Store=>[(1,.ptr 0 0 0 0),(3,match s.2.1 with | []=>.nils | _ :: _=>.msl (s.2.2.1 + 1) s.2.2.2.1),(4,.int .i64 s.1)])
  (fun s=>.rows 76 2 [[E,.sl (encL calls)]] 0 :: s.2.2.2.2) (fun s=>s.1 ≤ calls.length ∧ s.2.1 = stb hotter ((calls.take s.1).filter (fun c=>decide (0 < c.cnt))) ∧ (s.2.1 ≠ [] → s.2.2.2.2[s.2.2.1]? = some (.rows 78 5 (encL s.2.1) s.2.2.2.1))) (fun s=>calls.length - s.1) (0,[],0,0,[]) (by simp [weaker,Go.PV.look]) rfl ⟨by simp,rfl,fun h=>absurd rfl h⟩ ?_
 rintro ⟨k,L,o,v,Q⟩ ⟨hk,hL,hQ⟩
 dsimp only at hk hL hQ ⊢
 have hLl:L.length ≤ k:=by
  have h1:=List.length_filter_le (fun c:CallI=>decide (0 < c.cnt)) (calls.take k)
  rw [hL,stb_len]
  rw [List.length_take] at h1
  omega
 by_cases hkl:k < calls.length
 ·have hf:=filter_take (fun c=>decide (0 < c.cnt)) calls k hkl
  have hsucc:k + 1 ≤ calls.length:=by omega
  cases L with
  | nil =>
   simp -dsimp (maxSteps:=4000000) +contextual (disch:=first | omega | decide +kernel) only [↓vsD,vsE,↓Nat.reduceLT,simprocAttr,encL_length,encL_getD,vgap,CallI.row]
   refine ⟨fun hc=>?_,fun hc=>?_⟩
   ·rw [if_neg (by simpa using hc)] at hf
    exact ⟨(k + 1,[],o,v,Q ++ [.rows 78 5 [(calls.getD k default).row] 0]),(by (try dsimp only); omega),by simp [weaker,Go.PV.look],by simp [CallI.row],hsucc,by rw [hf]; exact hL,fun h=>absurd rfl h⟩
   ·rw [if_pos (by simpa using hc)] at hf
    refine v_loopS (fun _:Unit=>[(1,.ptr 0 0 0 0),(3,.nils),(4,.int .i64 k),(5,.ptr (Q.length + 1) 0 0 0),(6,.int .i64 0)]) (fun _=>.rows 76 2 [[E,.sl (encL calls)]] 0 :: (Q ++ [.rows 78 5 [(calls.getD k default).row] 0])) (fun _=>True) (fun _=>0) () (by simp [weaker,Go.PV.look]) (by simp [CallI.row]) trivial ?_
    intro _ _
    simp -dsimp (maxSteps:=4000000) +contextual (disch:=first | omega | decide +kernel) only [↓vsD,vsE,↓Nat.reduceLT,simprocAttr,CallI.row,vgap,bytesS,lenOk]
    refine v_draws _ _ _ _ _ _ [3,6,10] [] [(0,0),(0,0),(0,0),(0,0),(0,1),(0,1),(0,0),(0,2),(0,2),(0,2),(0,0),(3,3)] (by decide +kernel) (by decide +kernel) (by decide +kernel) (by decide +kernel) ?_
    simp -dsimp (maxSteps:=4000000) +contextual (disch:=first | omega | decide +kernel) only [↓vsD,vsE,↓Nat.reduceLT,simprocAttr,vdA,↓vd_end,↓vdm_go,↓vd_op,↓guard_none,↓guard_some,rows_mpre,rows_msuf,rwPre_some,rwSuf_some,CallI.row,vgap,bytesS,lenOk]
    refine ⟨(k + 1,[calls.getD k default],Q.length + 1,1,Q ++ [.rows 78 5 [(calls.getD k default).row] 0,.rows 78 5 [(calls.getD k default).row] 1]),(by (try dsimp only); omega),by simp [weaker,Go.PV.look],by simp [CallI.row],hsucc,?_,fun h=>?_⟩
    ·rw [hf,stb_snoc]
     dsimp only
     rw [← hL,nil_mrg]
    ·dsimp only
     rw [List.getElem?_append_right (by omega)]
     simp [encL]
  | cons c0 q =>
   have hLq:q.length + 1 ≤ k:=by simpa using hLl
   have hQo:=hQ (by simp)
   have hol:=(List.getElem?_eq_some_iff.1 hQo).1
   have g1:∀ X,(Q ++ X)[o]? = some (.rows 78 5 (encL (c0 :: q)) v):=fun X=>by rw [List.getElem?_append_left hol,hQo]
   have eql:(encL (c0 :: q)).length = q.length + 1:=by rw [encL_length]; rfl
   simp -dsimp (maxSteps:=4000000) +contextual (disch:=first | omega | decide +kernel) only [↓vsD,vsE,↓Nat.reduceLT,simprocAttr,encL_length,encL_getD,vgap,CallI.row,g1]
   refine ⟨fun hc=>?_,fun hc=>?_⟩
   ·rw [if_neg (by simpa using hc)] at hf
    exact ⟨(k + 1,c0 :: q,o,v,Q ++ [.rows 78 5 [(calls.getD k default).row] 0]),(by (try dsimp only); omega),by simp [weaker,Go.PV.look],by simp [CallI.row],hsucc,by rw [hf]; exact hL,fun h=>g1 _⟩
   ·rw [if_pos (by simpa using hc)] at hf
    obtain ⟨c,hcc⟩:∃ c,c = calls.getD k default:=⟨_,rfl⟩
    rw [← hcc] at hf hc
    rw [← hcc]
    refine v_loopS (fun i:Nat=>[(1,.ptr 0 0 0 0),(3,.msl (o + 1) v),(4,.int .i64 k),(5,.ptr (Q.length + 1) 0 0 0),(6,.int .i64 i)]) (fun _=>.rows 76 2 [[E,.sl (encL calls)]] 0 :: (Q ++ [.rows 78 5 [c.row] 0])) (fun i=>i ≤ q.length + 1 ∧ (i < q.length + 1 → ((c0 :: q).getD i default).cnt < c.cnt)) (fun i=>i) (q.length + 1) (by simp [weaker,Go.PV.look]) (by simp [CallI.row]) ⟨Nat.le_refl _,fun h=>absurd h (by omega)⟩ ?_
    rintro i ⟨hi,hi2⟩
    cases i with
    | zero =>
     have hn:newsOk Try.prog 78 (encL (c0 :: q)) = true:=newsL _
     simp -dsimp (maxSteps:=4000000) +contextual (disch:=first | omega | decide +kernel) only [↓vsD,vsE,↓Nat.reduceLT,simprocAttr,CallI.row,vgap,g1,bytesS,lenOk]
     refine v_draws _ _ _ _ _ _ [3,6,10] [] [(0,0),(0,0),(0,0),(0,0),(0,1),(0,1),(0,0),(0,2),(0,2),(0,2),(0,0),(3,3)] (by decide +kernel) (by decide +kernel) (by decide +kernel) (by decide +kernel) ?_
     simp -dsimp (maxSteps:=4000000) +contextual (disch:=first | omega | decide +kernel) only [↓vsD,vsE,↓Nat.reduceLT,simprocAttr,vdA,↓vd_end,↓vdm_go,↓vd_op,↓guard_none,↓guard_some,rows_mpre,rows_msuf,rwPre_some,rwSuf_some,CallI.row,vgap,g1,bytesS,lenOk,List.take_zero,List.drop_zero,hn,List.append_assoc,outR,eql]
     refine ⟨(k + 1,c :: c0 :: q,Q.length + 1,1,Q ++ [.rows 78 5 [c.row] 0,.rows 78 5 (encL (c :: c0 :: q)) 1]),(by (try dsimp only); omega),by simp [weaker,Go.PV.look],by simp [CallI.row,encL],hsucc,?_,fun h=>?_⟩
     ·rw [hf,hot_at 0 (Nat.zero_le _) (fun p=>absurd p (by omega)) (fun h=>by rw [← hL]; exact hi2 (by omega)),← hL]; rfl
     ·dsimp only
      rw [List.getElem?_append_right (by omega)]
      simp
    | succ i =>
     have e1:(((i + 1:Nat):Int) - 1).toNat = i:=by omega
     have e2:((i + 1:Nat):Int) - 1 = i:=by omega
     have hrow:(encL (c0 :: q)).getD i [] = ((c0 :: q).getD i default).row:=encL_getD _ _ (by simp; omega)
     unfold CallI.row at hrow
     by_cases hlt:((c0 :: q).getD i default).cnt < c.cnt
     ·simp -dsimp (maxSteps:=4000000) +contextual (disch:=first | omega | decide +kernel) only [↓vsD,vsE,↓Nat.reduceLT,simprocAttr,CallI.row,vgap,g1,e1,e2,hrow,eql,encL_length,List.length_cons,bytesS,lenOk]
      exact ⟨i,(by (try dsimp only); omega),by simp [weaker,Go.PV.look],by simp [CallI.row],by omega,fun _=>hlt⟩
     ·have hn:newsOk Try.prog 78 (c0.row :: encL (q.take i)) = true:=newsL (c0 :: q.take i)
      have hn2:newsOk Try.prog 78 (encL (q.drop i)) = true:=newsL _
      have ht:(encL (c0 :: q)).take (i + 1) = c0.row :: encL (q.take i):=by simp [encL,List.map_take]
      have hd:(encL (c0 :: q)).drop (i + 1) = encL (q.drop i):=by simp [encL,List.map_drop]
      unfold CallI.row at hn ht
      simp -dsimp (maxSteps:=4000000) +contextual (disch:=first | omega | decide +kernel) only [↓vsD,vsE,↓Nat.reduceLT,simprocAttr,CallI.row,vgap,g1,e1,e2,hrow,eql,encL_length,List.length_cons,bytesS,lenOk]
      refine v_draws _ _ _ _ _ _ [3,6,10] [] [(0,0),(0,0),(0,0),(0,0),(0,1),(0,1),(0,0),(0,2),(0,2),(0,2),(0,0),(3,3)] (by decide +kernel) (by decide +kernel) (by decide +kernel) (by decide +kernel) ?_
      simp -dsimp (maxSteps:=4000000) +contextual (disch:=first | omega | decide +kernel) only [↓vsD,vsE,↓Nat.reduceLT,simprocAttr,vdA,↓vd_end,↓vdm_go,↓vd_op,↓guard_none,↓guard_some,rows_mpre,rows_msuf,rwPre_some,rwSuf_some,CallI.row,vgap,g1,bytesS,lenOk,encL_length,List.length_cons,ht,hd,hn,hn2,List.length_take,List.length_drop,List.append_assoc,outR,eql]
      refine ⟨(k + 1,c0 :: (q.take i ++ c :: q.drop i),Q.length + 1,2,Q ++ [.rows 78 5 [c.row] 0,.rows 78 5 (encL (c0 :: (q.take i ++ c :: q.drop i))) 2]),(by (try dsimp only); omega),by simp [weaker,Go.PV.look],by simp [CallI.row,encL],hsucc,?_,fun h=>?_⟩
      ·rw [hf,hot_at (i + 1) (by rw [← hL,List.length_cons]; omega) (fun _=>by rw [← hL]; exact hlt) (fun h=>by rw [← hL,List.length_cons] at h; rw [← hL]; exact hi2 (by omega)),← hL]; rfl
      ·dsimp only
       rw [List.getElem?_append_right (by omega)]
       simp
 ·obtain rfl:k = calls.length:=by omega
  rw [List.take_length] at hL
  cases L with
  | nil =>
   simp -dsimp (maxSteps:=4000000) +contextual (disch:=first | omega | decide +kernel) only [↓vsD,vsE,↓Nat.reduceLT,simprocAttr,encL_length]
   refine fin0 .nils ?_
   rw [hotV,← hL]; rfl
  | cons c q =>
   have hQo:=hQ (by simp)
   simp -dsimp (maxSteps:=4000000) +contextual (disch:=first | omega | decide +kernel) only [↓vsD,vsE,↓Nat.reduceLT,simprocAttr,encL_length]
   refine fin0 (Frz.msl0 (elem:=78) (sz:=5) (Nat.zero_le _) (show _ = _ from hQo) (encL_bel _ _)) ?_
   rw [hotV,← hL]
theorem rhot_on (E:PV) (calls:List CallI) (hE:PV.cell E = true) (hB:Bel 0 E) (hl:calls.length ≤ 1000) (σ:Store):PCall Try.prog 37 [grV E calls] σ (fun p σ'=>p = .sl (encL (hotV calls)) ∧ σ' = σ) :=
 PCall.lift (rhot_w E calls hE hl) (fun x hx=>by rw [List.mem_singleton.1 hx]; exact bel_gr 0 hB calls) (fun p h=>⟨by rw [h]; exact bel_sl (encL_bel _ _),h,rfl⟩)
end Go.Proofs.Ythginmfobikdgaa
