import Derived.Test.YthginmfobikdgaaCgF
set_option maxRecDepth 8000
set_option linter.unusedSimpArgs false
set_option linter.unusedVariables false
namespace Go.Proofs.Ythginmfobikdgaa
open Go.PV Tj
def recB (S:TJ) (C:List (List Int)) (f:Nat):Bool:=decide (1 < (S.sets.getD (S.st f).toNat []).length) || (C.getD f []).any fun y=>decide ((f:Int) = y)
def recL (S:TJ) (C:List (List Int)) (k:Nat):List Bool:=(List.range k).map (recB S C)
theorem recL_s (S:TJ) (C:List (List Int)) (k:Nat):boolsR (recL S C (k + 1)) = boolsR (recL S C k) ++ [[.bool (recB S C k)]]:=by simp [recL,boolsR,List.range_succ]
theorem recL_len (S:TJ) (C:List (List Int)) (k:Nat):(boolsR (recL S C k)).length = k:=by simp [recL,boolsR]
set_option maxHeartbeats 16000000 in
theorem recs_w (L:List (List Int)) (hL:L.length ≤ 1000) (hl:∀ l ∈ L,l.length ≤ 1000):PCall Try.prog 22 [progV L] [] (fun q _=>∃ S,FinJ L.length (calL L) S L.length ∧ q = .sl (boolsR (recL S (calL L) L.length))):=by
 have eL:(fnsL L).length = L.length:=fnsL_length _
 have k0:∀ args σ,noE.f 49 args σ = none:=fun _ _=>rfl
 have k1:∀ args σ,noE.f 53 args σ = none:=fun _ _=>rfl
 have hfind:=find_on L hL hl
 unfold progV at hfind ⊢
 refine PCall.vfrz [] 7231 45 [.tmp 2] (noE_ok _) mix Try.func22 rfl (by decide) rfl rfl (by simp) ?_
 simp -dsimp only [initFr,List.zipIdx_cons,List.zipIdx_nil,List.map_cons,List.map_nil,Nat.zero_add,Nat.reduceAdd]
 simp -dsimp (maxSteps:=4000000) +contextual (disch:=first | omega | decide +kernel) only [↓vsD,vsE,↓Nat.reduceLT,simprocAttr,vcel,k0]
 refine PCall.mono (hfind _) ?_
 rintro p σ' ⟨⟨S,K,hF,hB,hK,rfl⟩,rfl⟩
 obtain ⟨n,hn⟩:∃ n,n = L.length:=⟨_,rfl⟩
 obtain ⟨C,hC⟩:∃ C,C = calL L:=⟨_,rfl⟩
 have hCl:C.length = n:=by rw [hC,hn]; exact calL_length L
 have hCb:∀ l ∈ C,l.length ≤ 1000:=by rw [hC]; exact calL_le L hl
 rw [← hn,← hC] at hF ⊢
 rw [← hn] at hL hB eL
 have eS:(intss S.sets).length = S.sets.length:=encs_length _ _
 have eC:(intss C).length = n:=by rw [show (intss C).length = C.length from encs_length _ _,hCl]
 have l3:(ints S.set).length = n:=by rw [show (ints S.set).length = S.set.length from enc_length _ _,hF.wf.ls]
 unfold findV
 simp -dsimp (maxSteps:=4000000) +contextual (disch:=first | omega | decide +kernel) only [↓vsD,vsE,↓Nat.reduceLT,simprocAttr,vcel,eL]
 obtain ⟨X0,hX0⟩:∃ X0:Go.PV.Obj,X0 = .rows 35 4 [[.nils,.sl (fnsL L),.int .i64 0,.int .i64 0]] 0:=⟨_,rfl⟩
 rw [← hX0]
 refine v_loopS (fun s:Nat × Nat × Store=>[(3,findV C S K),(4,lastV s.1 (s.2.1 + 1)),(10,.int .i64 n),(11,.int .i64 (s.1:Int))])
  (fun s=>X0 :: s.2.2) (fun s=>s.1 ≤ n ∧ ∀ j,s.1 = j + 1 → s.2.2[s.2.1]? = some (.rows 4 1 (boolsR (recL S C s.1)) j)) (fun s=>n - s.1) (0,0,[]) (by simp [weaker,Go.PV.look,lastV,findV]) rfl ⟨Nat.zero_le _,fun j h=>by simp at h⟩ ?_
 rintro ⟨k,o,Z⟩ ⟨hk,hZ⟩
 dsimp only at hk hZ ⊢
 by_cases hkn:k < n
 ·have hknd:nd n (k:Int):=⟨by omega,by omega⟩
  have b3:=ints_gD S.set k (by rw [hF.wf.ls]; exact hkn)
  have hst:=hF.all k hknd
  have hrg:=(hF.wf.rng k hknd).2
  have aC:=intss_at C k (by omega)
  have aS:=intss_at S.sets (S.st k).toNat (by omega)
  obtain ⟨Cf,hCf⟩:∃ Cf,Cf = C.getD k []:=⟨_,rfl⟩
  have hCfl:Cf.length ≤ 1000:=hCb _ (by rw [hCf,List.getD_eq_getElem?_getD,List.getElem?_eq_getElem (by omega)]; exact List.getElem_mem _)
  obtain ⟨ss,hss⟩:∃ ss,ss = S.sets.getD (S.st k).toNat []:=⟨_,rfl⟩
  have hrb:recB S C k = (decide (1 < ss.length) || Cf.any fun y=>decide ((k:Int) = y)):=by rw [recB,← hss,← hCf]
  have hcon:=cont_ok Cf (by omega) (k:Int)
  obtain ⟨bb,hbb⟩:∃ bb,bb = Cf.any (fun y=>decide ((k:Int) = y)):=⟨_,rfl⟩
  rw [← hbb] at hcon hrb
  rw [← hCf] at aC
  rw [← hss] at aS
  have es:(ints ss).length = ss.length:=enc_length _ _
  have hsl:ss.length ≤ n:=by rw [hss]; exact sets_le hF _ (by omega)
  obtain ⟨t,ht⟩:∃ t,t = S.st k:=⟨_,rfl⟩
  have ht2:S.set.getD k 0 = t:=ht.symm
  rw [← ht] at hst hrg aS
  rw [ht2] at b3
  have hrs:=recL_s S C k
  have hrl:=recL_len S C k
  have hnb:∀ b,newsOk Try.prog 4 [[.bool b]] = true:=fun b=>by simp [newsOk,PV.cell,tyC]
  by_cases h1:1 < ss.length
  ·have hrt:recB S C k = true:=by rw [hrb]; simp [h1]
   rw [hrt] at hrs
   have h1':((1:Int) < ss.length):=by omega
   cases k with
   | zero =>
    unfold findV
    rw [lastV_0]
    simp -dsimp (maxSteps:=4000000) +contextual (disch:=first | omega | decide +kernel) only [↓vsD,vsE,↓Nat.reduceLT,simprocAttr,vcel,b3,l3,aC,aS,eS,eC,es]
    refine v_draws _ _ _ _ _ _ [25,28] [] [(0,1),(0,0),(0,0),(0,0),(0,0),(0,0),(0,0),(0,0),(0,0),(0,0),(0,0),(0,0),(0,0),(0,0),(0,0),(0,0),(0,0),(0,0),(0,0),(0,0),(0,0),(0,0),(0,0),(0,0),(0,0),(0,0),(1,1),(1,1),(0,0),(2,2)] (by decide +kernel) (by decide +kernel) (by decide +kernel) (by decide +kernel) ?_
    simp -dsimp (maxSteps:=4000000) +contextual (disch:=first | omega | decide +kernel) only [↓vsD,vsE,↓Nat.reduceLT,simprocAttr,vdA,↓vd_end,↓vdm_go,↓vd_op,↓guard_none,↓guard_some,vcel,b3,l3,aC,aS,eS,eC,es,hnb]
    refine ⟨(1,Z.length,_),(by (try dsimp only); omega),by simp [weaker,Go.PV.look,lastV],rfl,hkn,fun j hj=>?_⟩
    obtain rfl:j = 0:=by dsimp only at hj; omega
    dsimp only
    rw [gapp0,hrs]; rfl
   | succ j =>
    have hz:=hZ j rfl
    unfold findV
    rw [lastV_s]
    simp -dsimp (maxSteps:=4000000) +contextual (disch:=first | omega | decide +kernel) only [↓vsD,vsE,↓Nat.reduceLT,simprocAttr,vcel,b3,l3,aC,aS,eS,eC,es]
    refine v_draws _ _ _ _ _ _ [25,28] [] [(0,1),(0,0),(0,0),(0,0),(0,0),(0,0),(0,0),(0,0),(0,0),(0,0),(0,0),(0,0),(0,0),(0,0),(0,0),(0,0),(0,0),(0,0),(0,0),(0,0),(0,0),(0,0),(0,0),(0,0),(0,0),(0,0),(1,1),(1,1),(0,0),(2,2)] (by decide +kernel) (by decide +kernel) (by decide +kernel) (by decide +kernel) ?_
    simp -dsimp (maxSteps:=4000000) +contextual (disch:=first | omega | decide +kernel) only [↓vsD,vsE,↓Nat.reduceLT,simprocAttr,vdA,↓vd_end,↓vdm_go,↓vd_op,↓guard_none,↓guard_some,vcel,b3,l3,aC,aS,eS,eC,es,hnb,hz,hrl,bytesC,lenC]
    refine ⟨(j + 1 + 1,o,_),(by (try dsimp only); omega),by simp [weaker,Go.PV.look,lastV] <;> omega,rfl,hkn,fun j2 hj=>?_⟩
    obtain rfl:j2 = j + 1:=by dsimp only at hj; omega
    dsimp only
    rw [List.getElem?_set_self (List.getElem?_eq_some_iff.1 hz).1,hrs]
  ·have hrt:recB S C k = bb:=by rw [hrb]; simp [h1]
   rw [hrt] at hrs
   have h1':¬ ((1:Int) < ss.length):=by omega
   cases k with
   | zero =>
    unfold findV
    rw [lastV_0]
    simp -dsimp (maxSteps:=4000000) +contextual (disch:=first | omega | decide +kernel) only [↓vsD,vsE,↓Nat.reduceLT,simprocAttr,vcel,b3,l3,aC,aS,eS,eC,es]
    refine v_draws _ _ _ _ _ _ [25,28] [] [(0,1),(0,0),(0,0),(0,0),(0,0),(0,0),(0,0),(0,0),(0,0),(0,0),(0,0),(0,0),(0,0),(0,0),(0,0),(0,0),(0,0),(0,0),(0,0),(0,0),(0,0),(0,0),(0,0),(0,0),(0,0),(0,0),(1,1),(1,1),(0,0),(2,2)] (by decide +kernel) (by decide +kernel) (by decide +kernel) (by decide +kernel) ?_
    simp -dsimp (maxSteps:=4000000) +contextual (disch:=first | omega | decide +kernel) only [↓vsD,vsE,↓Nat.reduceLT,simprocAttr,vdA,↓vd_end,↓vdm_go,↓vd_op,↓guard_none,↓guard_some,vcel,b3,l3,aC,aS,eS,eC,es,hnb,k1]
    refine ⟨_,_,hcon _,by simp [outR,rowsAt],?_⟩
    simp -dsimp (maxSteps:=4000000) +contextual (disch:=first | omega | decide +kernel) only [↓vsD,vsE,↓Nat.reduceLT,simprocAttr,vdA,↓vd_end,↓vdm_go,↓vd_op,↓guard_none,↓guard_some,vcel,b3,l3,aC,aS,eS,eC,es,hnb,k1]
    refine ⟨(1,Z.length,_),(by (try dsimp only); omega),by simp [weaker,Go.PV.look,lastV],rfl,hkn,fun j hj=>?_⟩
    obtain rfl:j = 0:=by dsimp only at hj; omega
    dsimp only
    rw [gapp0,hrs]; rfl
   | succ j =>
    have hz:=hZ j rfl
    unfold findV
    rw [lastV_s]
    simp -dsimp (maxSteps:=4000000) +contextual (disch:=first | omega | decide +kernel) only [↓vsD,vsE,↓Nat.reduceLT,simprocAttr,vcel,b3,l3,aC,aS,eS,eC,es]
    refine v_draws _ _ _ _ _ _ [25,28] [] [(0,1),(0,0),(0,0),(0,0),(0,0),(0,0),(0,0),(0,0),(0,0),(0,0),(0,0),(0,0),(0,0),(0,0),(0,0),(0,0),(0,0),(0,0),(0,0),(0,0),(0,0),(0,0),(0,0),(0,0),(0,0),(0,0),(1,1),(1,1),(0,0),(2,2)] (by decide +kernel) (by decide +kernel) (by decide +kernel) (by decide +kernel) ?_
    simp -dsimp (maxSteps:=4000000) +contextual (disch:=first | omega | decide +kernel) only [↓vsD,vsE,↓Nat.reduceLT,simprocAttr,vdA,↓vd_end,↓vdm_go,↓vd_op,↓guard_none,↓guard_some,vcel,b3,l3,aC,aS,eS,eC,es,hnb,hz,hrl,bytesC,lenC,k1]
    refine ⟨_,_,hcon _,by simp [outR,rowsAt],?_⟩
    simp -dsimp (maxSteps:=4000000) +contextual (disch:=first | omega | decide +kernel) only [↓vsD,vsE,↓Nat.reduceLT,simprocAttr,vdA,↓vd_end,↓vdm_go,↓vd_op,↓guard_none,↓guard_some,vcel,b3,l3,aC,aS,eS,eC,es,hnb,hz,hrl,bytesC,lenC,k1]
    refine ⟨(j + 1 + 1,o,_),(by (try dsimp only); omega),by simp [weaker,Go.PV.look,lastV] <;> omega,rfl,hkn,fun j2 hj=>?_⟩
    obtain rfl:j2 = j + 1:=by dsimp only at hj; omega
    dsimp only
    rw [List.getElem?_set_self (List.getElem?_eq_some_iff.1 hz).1,hrs]
 ·obtain rfl:n = k:=by omega
  cases hn0:n with
  | zero =>
   rw [lastV_0]
   unfold findV
   simp -dsimp (maxSteps:=4000000) +contextual (disch:=first | omega | decide +kernel) only [↓vsD,vsE,↓Nat.reduceLT,simprocAttr,vcel]
   exact fin0 .nils ⟨S,by rw [← hn0]; exact hF,rfl⟩
  | succ j =>
   have hz:=hZ j hn0
   rw [lastV_s]
   unfold findV
   simp -dsimp (maxSteps:=4000000) +contextual (disch:=first | omega | decide +kernel) only [↓vsD,vsE,↓Nat.reduceLT,simprocAttr,vcel]
   exact fin0 (Frz.msl0 (Nat.zero_le _) hz (fun row hr p hp=>by
    obtain ⟨b,_,rfl⟩:=List.mem_map.1 hr
    rw [List.mem_singleton.1 hp]; exact bel_bool _ _)) ⟨S,by rw [← hn0]; exact hF,by rw [hn0]⟩
theorem recs_on (L:List (List Int)) (hL:L.length ≤ 1000) (hl:∀ l ∈ L,l.length ≤ 1000) (σ:Store):PCall Try.prog 22 [progV L] σ (fun q τ=>(∃ S,FinJ L.length (calL L) S L.length ∧ q = .sl (boolsR (recL S (calL L) L.length))) ∧ τ = σ) :=
 PCall.lift (recs_w L hL hl) (belA (bel_prog _ L)) (fun q h=>⟨by
  obtain ⟨S,_,rfl⟩:=h
  exact bel_sl (fun row hr p hp=>by
   obtain ⟨b,_,rfl⟩:=List.mem_map.1 hr
   rw [List.mem_singleton.1 hp]; exact bel_bool _ _),h,rfl⟩)
end Go.Proofs.Ythginmfobikdgaa
