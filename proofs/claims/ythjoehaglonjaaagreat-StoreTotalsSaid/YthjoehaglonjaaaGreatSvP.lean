import Derived.Test.YthjoehaglonjaaaGreatSvE
set_option maxRecDepth 8000
set_option linter.unusedSimpArgs false
set_option linter.unusedVariables false
namespace Go.Proofs.YthjoehaglonjaaaGreat
open Go.PV
def relN (l:List Int):Nat → List Int
 | 0=>[]
 | 1=>[l.getD 0 0]
 | n + 2=>if l.getD (n + 1) 0 = l.getD n 0 then relN l (n + 1) else relN l (n + 1) ++ [l.getD (n + 1) 0]
theorem relN_last (l:List Int):∀ n,0 < (relN l (n + 1)).length ∧ (relN l (n + 1)).getD ((relN l (n + 1)).length - 1) 0 = l.getD n 0
 | 0=>⟨by simp [relN],by simp [relN]⟩
 | n + 1=>by
  have h:=relN_last l n
  rw [relN]
  split
  ·rename_i he; exact ⟨h.1,by rw [h.2,he]⟩
  ·exact ⟨by simp,by simp [List.getD_eq_getElem?_getD]⟩
theorem relN_len (l:List Int):∀ n,(relN l n).length ≤ n
 | 0=>by simp [relN]
 | 1=>by simp [relN]
 | n + 2=>by
  have h:=relN_len l (n + 1)
  rw [relN]
  split
  ·omega
  ·simp; omega
structure CpJ (l:List Int) (k n:Nat) (M:List Int):Prop where
 len:M.length = l.length
 t:M.take k = relN l n
theorem CpJ.same {l M:List Int} {k n:Nat} (h:CpJ l k (n + 1) M) (he:l.getD (n + 1) 0 = l.getD n 0):CpJ l k (n + 2) M:=⟨h.len,by rw [relN,if_pos he]; exact h.t⟩
theorem CpJ.next {l M:List Int} {k n:Nat} (h:CpJ l k (n + 1) M) (hk:k < l.length) (hne:¬ l.getD (n + 1) 0 = l.getD n 0):CpJ l (k + 1) (n + 2) (M.set k (l.getD (n + 1) 0)):=by
 refine ⟨by rw [List.length_set]; exact h.len,?_⟩
 rw [relN,if_neg hne,← h.t,List.take_add_one,List.getElem?_set_self (by rw [h.len]; omega),List.take_set_of_le (Nat.le_refl _)]
 rfl
theorem relN_all {l:List Int}:∀ k,k < l.length → (∀ j,j < k → ¬ l.getD (j + 1) 0 = l.getD j 0) → relN l (k + 1) = l.take (k + 1)
 | 0,h,_=>by
  cases l with
  | nil=>simp at h
  | cons a b=>simp [relN]
 | k + 1,h,hj=>by
  rw [relN,if_neg (hj k (by omega)),relN_all k (by omega) (fun j h=>hj j (by omega)),List.take_add_one (i:=k + 1),List.getElem?_eq_getElem h]
  rw [List.getD_eq_getElem?_getD,List.getElem?_eq_getElem h]
  rfl
theorem ints_take (l:List Int) (n:Nat):(ints l).take n = ints (l.take n):=by simp [ints,PV.encI,List.map_take]
set_option maxRecDepth 8000 in
set_option maxHeartbeats 8000000 in
theorem compactI_ok (o v:Nat) (l:List Int) (hll:l.length < 2 ^ 40) (σ:Store) (ho:σ[o]? = some (.rows 3 1 (ints l) v)) :
  PCall Tryz.prog 28 [.msl o v] σ (fun q τ=>∃ v',q = .msl o v' ∧ τ = σ.set o (.rows 3 1 (ints (relN l l.length)) v')):=by
 have hol:=(List.getElem?_eq_some_iff.1 ho).1
 have hs:∀ X,(σ.set o X)[o]? = some X:=fun X=>List.getElem?_set_self hol
 have hset:σ = σ.set o (.rows 3 1 (ints l) v):=by
  obtain ⟨h1,h2⟩:=List.getElem?_eq_some_iff.1 ho
  rw [← h2]; exact List.set_getElem_self h1 |>.symm
 refine PCall.vraw [28,56] 17596514574655 61 [.tmp 2] (noE_ok _) mix Tryz.func28 rfl (by decide) rfl rfl (by simp) ?_
 simp -dsimp only [initFr,List.zipIdx_cons,List.zipIdx_nil,List.map_cons,List.map_nil,Nat.zero_add,Nat.reduceAdd]
 by_cases h2:l.length < 2
 ·simp -dsimp (maxSteps:=4000000) +contextual (disch:=first | omega | decide +kernel) only [↓vsD,vsE,↓Nat.reduceLT,simprocAttr,ho,ints_len]
  refine ⟨v,rfl,?_⟩
  have e:relN l l.length = l:=by
   rcases (show l.length = 0 ∨ l.length = 1 by omega) with h | h
   ·rw [h,List.eq_nil_of_length_eq_zero h]; rfl
   ·have:=relN_all (l:=l) 0 (by omega) (fun j hj=>absurd hj (by omega))
    rw [h,this,List.take_of_length_le (by omega)]
  rw [e]; exact hset
 ·simp -dsimp (maxSteps:=4000000) +contextual (disch:=first | omega | decide +kernel) only [↓vsD,vsE,↓Nat.reduceLT,simprocAttr,ho,ints_len]
  refine v_loopS (fun k:Nat=>[(0,.msl o v),(3,.int .i64 ((k + 1:Nat):Int))]) (fun _=>σ) (fun k=>k + 1 ≤ l.length ∧ ∀ j,j < k → ¬ l.getD (j + 1) 0 = l.getD j 0) (fun k=>l.length - k) 0 (by simp [weaker,Go.PV.look]) rfl ⟨by omega,fun j h=>absurd h (Nat.not_lt_zero _)⟩ ?_
  rintro k ⟨hk,hkj⟩
  by_cases hkl:k + 1 < l.length
  ·have e1:(((k + 1:Nat):Int) - 1).toNat = k:=by omega
   have e2:((k + 1:Nat):Int) - 1 = k:=by omega
   simp -dsimp (maxSteps:=4000000) +contextual (disch:=first | omega | decide +kernel) only [↓vsD,vsE,↓Nat.reduceLT,simprocAttr,ho,ints_len,ints_getD,e1,e2]
   refine ⟨fun hd=>?_,fun hd=>?_⟩
   ·have hc0:CpJ l (k + 1) (k + 2) l:=CpJ.same ⟨rfl,(relN_all k (by omega) hkj).symm⟩ hd
    refine v_loopS (fun s:Nat × Nat × List Int=>[(0,.msl o v),(3,.int .i64 s.1),(4,.msuf o v (k + 1)),(5,.int .i64 ((s.2.1 + 1:Nat):Int))]) (fun s=>σ.set o (.rows 3 1 (ints s.2.2) v))
     (fun s=>s.1 ≤ k + 1 + s.2.1 ∧ k + 1 + s.2.1 + 1 ≤ l.length ∧ CpJ l s.1 (k + 1 + s.2.1 + 1) s.2.2 ∧ (∀ j,k + 1 + s.2.1 ≤ j → s.2.2.getD j 0 = l.getD j 0)) (fun s=>l.length - s.2.1) (k + 1,0,l) (by simp [weaker,Go.PV.look]) hset ⟨by simp,by dsimp only; omega,hc0,fun j _=>rfl⟩ ?_
    rintro ⟨i,m,M⟩ ⟨hi,hm,hC,hD⟩
    dsimp only at hi hm hC hD ⊢
    have hML:=hC.len
    by_cases hml:k + 1 + (m + 1) < l.length
    ·have f1:(((m + 1:Nat):Int) - 1).toNat = m:=by omega
     have f2:((m + 1:Nat):Int) - 1 = m:=by omega
     simp -dsimp (maxSteps:=4000000) +contextual (disch:=first | omega | decide +kernel) only [↓vsD,vsE,↓Nat.reduceLT,simprocAttr,hs,ints_len,ints_getD,f1,f2]
     have g1:M.getD (k + 1 + (m + 1)) 0 = l.getD (k + 1 + (m + 1)) 0:=hD _ (by omega)
     have g2:M.getD (k + 1 + m) 0 = l.getD (k + 1 + m) 0:=hD _ (by omega)
     rw [g1,g2]
     refine ⟨fun he=>?_,fun he=>?_⟩
     ·exact ⟨(i,m + 1,M),(by (try dsimp only); omega),by simp [weaker,Go.PV.look],rfl,by dsimp only; omega,by dsimp only; omega,hC.same he,fun j hj=>hD j (by dsimp only at hj; omega)⟩
     ·refine ⟨(i + 1,m + 1,M.set i (l.getD (k + 1 + (m + 1)) 0)),(by (try dsimp only); omega),by simp [weaker,Go.PV.look],by rw [List.set_set],by dsimp only; omega,by dsimp only; omega,hC.next (by omega) he,fun j hj=>?_⟩
      dsimp only at hj ⊢
      rw [List.getD_eq_getElem?_getD,List.getElem?_set_ne (by omega),← List.getD_eq_getElem?_getD]
      exact hD j (by omega)
    ·have hall:List.all [PV.int IntKind.i64 0] PV.cell = true:=rfl
     have hiM:i ≤ M.length:=by omega
     simp -dsimp (maxSteps:=4000000) +contextual (disch:=first | omega | decide +kernel) only [↓vsD,vsE,↓Nat.reduceLT,simprocAttr,hs,ints_len,hall,Bool.or_false,Bool.true_or,Bool.or_true,Bool.false_or,List.set_set,List.length_append,List.length_take,List.length_replicate]
     refine ⟨v + 1,rfl,?_⟩
     rw [List.take_append_of_le_length (by rw [List.length_take,ints_len]; omega),List.take_take,Nat.min_self,ints_take,hC.t,show k + 1 + m + 1 = l.length by omega]
   ·exact ⟨k + 1,(by (try dsimp only); omega),by simp [weaker,Go.PV.look],rfl,by omega,nextJ hkj hd⟩
  ·simp -dsimp (maxSteps:=4000000) +contextual (disch:=first | omega | decide +kernel) only [↓vsD,vsE,↓Nat.reduceLT,simprocAttr,ho,ints_len]
   refine ⟨v,rfl,?_⟩
   have e:relN l l.length = l:=by
    have:=relN_all (l:=l) k (by omega) hkj
    rw [show k + 1 = l.length by omega,List.take_length] at this
    exact this
   rw [e]; exact hset
theorem relsP_get (ps:List Pc) (i:Nat) (h:i < ps.length):(ps.map (·.id.1)).getD i 0 = (ps.getD i default).id.1:=by
 simp [List.getD_eq_getElem?_getD,h]
noncomputable def relR (s:StS):List Int:=@ite _ (OkSt s) (Classical.propDecidable _) (relN (s.ps.map (·.id.1)) s.ps.length) []
theorem relR_t {s:StS} (h:OkSt s):relR s = relN (s.ps.map (·.id.1)) s.ps.length:=by unfold relR; rw [if_pos h]
theorem relR_f {s:StS} (h:¬ OkSt s):relR s = []:=by unfold relR; rw [if_neg h]
theorem newsI1 (n:Int):newsOk Tryz.prog 3 [[.int .i64 n]] = true:=newsI [n]
set_option maxRecDepth 8000 in
set_option maxHeartbeats 8000000 in
theorem rrels_w (s:StS) (hs:FitS s) (hn:s.ps.length ≤ 1000):PCall Tryz.prog 14 [stV s] [] (fun q _=>q = .sl (ints (relR s))):=by
 have k0:∀ args σ,noE.f 29 args σ = none:=fun _ _=>rfl
 have hv:=rsval_on s hs
 unfold stV at hv ⊢
 refine PCall.vfrz [] 4294971551 43 [.tmp 2] (noE_ok _) mix Tryz.func14 rfl (by decide) rfl rfl (by simp) ?_
 simp -dsimp only [initFr,List.zipIdx_cons,List.zipIdx_nil,List.map_cons,List.map_nil,Nat.zero_add,Nat.reduceAdd]
 simp -dsimp (maxSteps:=4000000) +contextual (disch:=first | omega | decide +kernel) only [↓vsD,vsE,↓Nat.reduceLT,simprocAttr,vcel,k0]
 refine PCall.mono (hv _) ?_
 rintro q τ ⟨rfl,rfl⟩
 by_cases hok:OkSt s
 ·rw [stB_t hok,relR_t hok]
  obtain ⟨l,hl⟩:∃ l,l = s.ps.map (·.id.1):=⟨_,rfl⟩
  have hg:∀ i,i < s.ps.length → (s.ps.getD i default).id.1 = l.getD i 0:=fun i hi=>by rw [hl,relsP_get _ _ hi]
  obtain ⟨sb,hsb⟩:∃ sb,sb = Go.PV.Obj.rows 29 2 [[.sl (encP s.ps),.sl (encD s.cs)]] 0:=⟨_,rfl⟩
  rw [← hl]
  simp -dsimp (maxSteps:=4000000) +contextual (disch:=first | omega | decide +kernel) only [↓vsD,vsE,↓Nat.reduceLT,simprocAttr,vcel,encP_length]
  refine v_loopS (fun t:Nat × PV × Store=>[(1,.ptr 0 0 0 0),(3,t.2.1),(4,.int .i64 t.1)]) (fun t=>.rows 29 2 [[.sl (encP s.ps),.sl (encD s.cs)]] 0 :: t.2.2) (fun t=>t.1 ≤ s.ps.length ∧ ((t.1 = 0 ∧ t.2.1 = .nils) ∨ (0 < t.1 ∧ ∃ o v,t.2.1 = .msl (o + 1) v ∧ t.2.2[o]? = some (.rows 3 1 (ints (relN l t.1)) v)))) (fun t=>s.ps.length - t.1) (0,.nils,[]) (by simp [weaker,Go.PV.look]) rfl ⟨Nat.zero_le _,.inl ⟨rfl,rfl⟩⟩ ?_
  rintro ⟨k,OV,Y⟩ ⟨hk,hO⟩
  dsimp only at hk hO ⊢
  by_cases hkn:k < s.ps.length
  ·have hrow:=encP_getD s.ps k hkn
   rw [hg k hkn] at hrow
   rcases hO with ⟨rfl,rfl⟩ | ⟨hk0,o,v,rfl,ho⟩
   ·simp -dsimp (maxSteps:=4000000) +contextual (disch:=first | omega | decide +kernel) only [↓vsD,vsE,↓Nat.reduceLT,simprocAttr,vcel,vgap,encP_length,hrow,newsI1,bytesK,lenK]
    refine ⟨(1,.msl (Y.length + 1) 0,_),(by (try dsimp only); omega),(by simp [weaker,Go.PV.look]),rfl,hkn,.inr ⟨by omega,Y.length,0,rfl,?_⟩⟩
    dsimp only
    rw [gapp0]; rfl
   ·have hol:=(List.getElem?_eq_some_iff.1 ho).1
    obtain ⟨j,rfl⟩:∃ j,k = j + 1:=⟨k - 1,by omega⟩
    have hla:=relN_last l j
    have hln:=relN_len l (j + 1)
    have hgl:=ints_getD (relN l (j + 1)) ((relN l (j + 1)).length - 1) (by omega)
    rw [hla.2] at hgl
    have e1:(((relN l (j + 1)).length:Int) - 1).toNat = (relN l (j + 1)).length - 1:=by omega
    by_cases he:l.getD (j + 1) 0 = l.getD j 0
    ·have he2:=he.symm
     simp -dsimp (maxSteps:=4000000) +contextual (disch:=first | omega | decide +kernel) only [↓vsD,vsE,↓Nat.reduceLT,simprocAttr,vcel,vgap,encP_length,hrow,newsI1,bytesK,lenK,ho,ints_len,e1,hgl]
     refine ⟨(j + 1 + 1,.msl (o + 1) v,Y),(by (try dsimp only); omega),(by first | (simp [weaker,Go.PV.look]; done) | (simp [weaker,Go.PV.look]; omega)),rfl,hkn,.inr ⟨by omega,o,v,rfl,?_⟩⟩
     dsimp only
     rw [relN,if_pos he]; exact ho
    ·simp -dsimp (maxSteps:=4000000) +contextual (disch:=first | omega | decide +kernel) only [↓vsD,vsE,↓Nat.reduceLT,simprocAttr,vcel,vgap,encP_length,hrow,newsI1,bytesK,lenK,ho,ints_len,e1,hgl]
     refine ⟨(j + 1 + 1,.msl (o + 1) (v + 1),_),(by (try dsimp only); omega),(by first | (simp [weaker,Go.PV.look]; done) | (simp [weaker,Go.PV.look]; omega)),rfl,hkn,.inr ⟨by omega,o,v + 1,rfl,?_⟩⟩
     dsimp only
     rw [List.getElem?_set_self hol,relN,if_neg he]
     simp [ints,PV.encI]
  ·obtain rfl:k = s.ps.length:=by omega
   rcases hO with ⟨h0,rfl⟩ | ⟨hk0,o,v,rfl,ho⟩
   ·simp -dsimp (maxSteps:=4000000) +contextual (disch:=first | omega | decide +kernel) only [↓vsD,vsE,↓Nat.reduceLT,simprocAttr,vcel,encP_length,h0]
    exact fin0 .nils rfl
   ·simp -dsimp (maxSteps:=4000000) +contextual (disch:=first | omega | decide +kernel) only [↓vsD,vsE,↓Nat.reduceLT,simprocAttr,vcel,encP_length,ho]
    exact fin0 (Frz.msl0 (elem:=3) (sz:=1) (Nat.zero_le _) (by simpa using ho) (enc_bel _ _ _)) rfl
 ·rw [stB_f hok,relR_f hok]
  simp -dsimp (maxSteps:=4000000) +contextual (disch:=first | omega | decide +kernel) only [↓vsD,vsE,↓Nat.reduceLT,simprocAttr,vcel]
  exact fin0 .nils rfl
theorem rrels_on (s:StS) (hs:FitS s) (hn:s.ps.length ≤ 1000) (σ:Store):PCall Tryz.prog 14 [stV s] σ (fun q τ=>q = .sl (ints (relR s)) ∧ τ = σ) :=
 PCall.lift (rrels_w s hs hn) (bel1 (bel_st _ _)) (fun q h=>⟨by rw [h]; exact bel_ints _ _,h,rfl⟩)
theorem compactI0_ok (σ:Store):PCall Tryz.prog 28 [.nils] σ (fun q τ=>q = .nils ∧ τ = σ):=by
 refine PCall.vraw [] 17596514574655 61 [.tmp 2] (noE_ok _) mix Tryz.func28 rfl (by decide) rfl rfl (by simp) ?_
 simp -dsimp only [initFr,List.zipIdx_cons,List.zipIdx_nil,List.map_cons,List.map_nil,Nat.zero_add,Nat.reduceAdd]
 simp -dsimp (maxSteps:=4000000) +contextual (disch:=first | omega | decide +kernel) only [↓vsD,vsE,↓Nat.reduceLT,simprocAttr]
set_option maxRecDepth 8000 in
set_option maxHeartbeats 8000000 in
theorem rels_w (s:StS) (hs:FitS s) (hn:s.ps.length ≤ 1000):PCall Tryz.prog 13 [stV s] [] (fun q _=>q = .sl (ints (relR s))):=by
 have k0:∀ args σ,noE.f 21 args σ = none:=fun _ _=>rfl
 have k1:∀ args σ,noE.f 28 args σ = none:=fun _ _=>rfl
 have hv:=sval_on s hs
 unfold stV at hv ⊢
 refine PCall.vfrz [] 15679 24 [.tmp 2] (noE_ok _) mix Tryz.func13 rfl (by decide) rfl rfl (by simp) ?_
 simp -dsimp only [initFr,List.zipIdx_cons,List.zipIdx_nil,List.map_cons,List.map_nil,Nat.zero_add,Nat.reduceAdd]
 simp -dsimp (maxSteps:=4000000) +contextual (disch:=first | omega | decide +kernel) only [↓vsD,vsE,↓Nat.reduceLT,simprocAttr,vcel,k0]
 refine PCall.mono (hv _) ?_
 rintro q τ ⟨rfl,rfl⟩
 by_cases hok:OkSt s
 ·rw [stB_t hok,relR_t hok]
  obtain ⟨l,hl⟩:∃ l,l = s.ps.map (·.id.1):=⟨_,rfl⟩
  have hg:∀ i,i < s.ps.length → (s.ps.getD i default).id.1 = l.getD i 0:=fun i hi=>by rw [hl,relsP_get _ _ hi]
  have hll:l.length = s.ps.length:=by rw [hl]; simp
  rw [← hl]
  simp -dsimp (maxSteps:=4000000) +contextual (disch:=first | omega | decide +kernel) only [↓vsD,vsE,↓Nat.reduceLT,simprocAttr,vcel,encP_length]
  refine v_loopS (fun t:Nat × PV × Store=>[(3,t.2.1),(10,.sl (encP s.ps)),(11,.int .i64 s.ps.length),(12,.int .i64 t.1)]) (fun t=>.rows 29 2 [[.sl (encP s.ps),.sl (encD s.cs)]] 0 :: t.2.2) (fun t=>t.1 ≤ s.ps.length ∧ ((t.1 = 0 ∧ t.2.1 = .nils) ∨ (0 < t.1 ∧ ∃ o v,t.2.1 = .msl (o + 1) v ∧ t.2.2[o]? = some (.rows 3 1 (ints (l.take t.1)) v)))) (fun t=>s.ps.length - t.1) (0,.nils,[]) (by simp [weaker,Go.PV.look]) rfl ⟨Nat.zero_le _,.inl ⟨rfl,rfl⟩⟩ ?_
  rintro ⟨k,OV,Y⟩ ⟨hk,hO⟩
  dsimp only at hk hO ⊢
  by_cases hkn:k < s.ps.length
  ·have hrow:=encP_getD s.ps k hkn
   rw [hg k hkn] at hrow
   have ht:l.take (k + 1) = l.take k ++ [l.getD k 0]:=by
    rw [List.take_add_one,List.getElem?_eq_getElem (by omega),List.getD_eq_getElem?_getD,List.getElem?_eq_getElem (by omega)]; rfl
   rcases hO with ⟨rfl,rfl⟩ | ⟨hk0,o,v,rfl,ho⟩
   ·simp -dsimp (maxSteps:=4000000) +contextual (disch:=first | omega | decide +kernel) only [↓vsD,vsE,↓Nat.reduceLT,simprocAttr,vcel,vgap,encP_length,hrow,newsI1,bytesK,lenK,List.append_assoc,List.length_append]
    refine ⟨(1,.msl (Y.length + 1 + 1) 0,_),(by (try dsimp only); omega),(by simp [weaker,Go.PV.look]),rfl,hkn,.inr ⟨by omega,Y.length + 1,0,rfl,?_⟩⟩
    dsimp only
    rw [gappk,ht]; rfl
   ·have hol:=(List.getElem?_eq_some_iff.1 ho).1
    have hoA:∀ X:Store,(Y ++ X)[o]? = some (.rows 3 1 (ints (l.take k)) v):=fun X=>by rw [List.getElem?_append_left hol,ho]
    have htl:(l.take k).length = k:=by rw [List.length_take]; omega
    simp -dsimp (maxSteps:=4000000) +contextual (disch:=first | omega | decide +kernel) only [↓vsD,vsE,↓Nat.reduceLT,simprocAttr,vcel,vgap,encP_length,hrow,newsI1,bytesK,lenK,hoA,ints_len,htl,List.append_assoc,List.length_append]
    refine ⟨(k + 1,.msl (o + 1) (v + 1),_),(by (try dsimp only); omega),(by simp [weaker,Go.PV.look]),rfl,hkn,.inr ⟨by omega,o,v + 1,rfl,?_⟩⟩
    dsimp only
    rw [List.getElem?_set_self (by simp; omega),ht]
    simp [ints,PV.encI]
  ·obtain rfl:k = s.ps.length:=by omega
   rcases hO with ⟨h0,rfl⟩ | ⟨hk0,o,v,rfl,ho⟩
   ·simp -dsimp (maxSteps:=4000000) +contextual (disch:=first | omega | decide +kernel) only [↓vsD,vsE,↓Nat.reduceLT,simprocAttr,vcel,encP_length,h0,k1]
    refine PCall.mono (compactI0_ok _) ?_
    rintro q τ ⟨rfl,rfl⟩
    simp -dsimp (maxSteps:=4000000) +contextual (disch:=first | omega | decide +kernel) only [↓vsD,vsE,↓Nat.reduceLT,simprocAttr,vcel]
    exact fin0 .nils (by rw [h0]; rfl)
   ·rw [← hll,List.take_length] at ho
    simp -dsimp (maxSteps:=4000000) +contextual (disch:=first | omega | decide +kernel) only [↓vsD,vsE,↓Nat.reduceLT,simprocAttr,vcel,encP_length,ho,k1]
    refine PCall.mono (compactI_ok (o + 1) v l (by omega) _ (by simpa using ho)) ?_
    rintro q τ ⟨v',rfl,rfl⟩
    simp -dsimp (maxSteps:=4000000) +contextual (disch:=first | omega | decide +kernel) only [↓vsD,vsE,↓Nat.reduceLT,simprocAttr,vcel]
    refine fin0 (Frz.msl0 (elem:=3) (sz:=1) (Nat.zero_le _) (List.getElem?_set_self ?_) (enc_bel _ _ _)) (by rw [hll])
    have:=(List.getElem?_eq_some_iff.1 ho).1
    simp; omega
 ·rw [stB_f hok,relR_f hok]
  simp -dsimp (maxSteps:=4000000) +contextual (disch:=first | omega | decide +kernel) only [↓vsD,vsE,↓Nat.reduceLT,simprocAttr,vcel]
  exact fin0 .nils rfl
theorem rels_on (s:StS) (hs:FitS s) (hn:s.ps.length ≤ 1000) (σ:Store):PCall Tryz.prog 13 [stV s] σ (fun q τ=>q = .sl (ints (relR s)) ∧ τ = σ) :=
 PCall.lift (rels_w s hs hn) (bel1 (bel_st _ _)) (fun q h=>⟨by rw [h]; exact bel_ints _ _,h,rfl⟩)
end Go.Proofs.YthjoehaglonjaaaGreat
