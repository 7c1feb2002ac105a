import Derived.Test.YthginmfobikdgaaCgD
import Derived.Test.YthginmfobikdgaaTjD
set_option maxRecDepth 8000
set_option linter.unusedSimpArgs false
set_option linter.unusedVariables false
namespace Go.Proofs.Ythginmfobikdgaa
open Go.PV Tj
theorem calL_ok (L:List (List Int)):OkC L.length (calL L):=fun g hg h hh=>by
 have:=calL_nd L g.toNat h hh
 exact ⟨this.1,this.2⟩
theorem calL_le (L:List (List Int)) (hl:∀ l ∈ L,l.length ≤ 1000):∀ l ∈ calL L,l.length ≤ 1000:=fun l hm=>by
 obtain ⟨f,hf,rfl⟩:=List.mem_iff_getElem.1 hm
 rw [calL_length] at hf
 have e:=calL_at L f hf
 rw [List.getD_eq_getElem?_getD,List.getElem?_eq_getElem (by rw [calL_length]; exact hf),Option.getD_some] at e
 rw [e]
 refine Nat.le_trans (List.length_filter_le _ _) (hl _ ?_)
 rw [List.getD_eq_getElem?_getD,List.getElem?_eq_getElem hf]
 exact List.getElem_mem _
def findV (C:List (List Int)) (S:TJ) (K:PV):PV:=.iptr [.sl (intss C),.sl (ints S.num),.sl (ints S.low),.sl (ints S.set),K,.int .i64 (S.fd:Int),.sl (intss S.sets)] 0
def setI (n i:Nat):List Int:=List.replicate i (-1) ++ List.replicate (n - i) 0
theorem setI_len (n i:Nat) (h:i ≤ n):(setI n i).length = n:=by simp [setI]; omega
theorem setI_set (n i:Nat) (h:i < n):(setI n i).set i (-1) = setI n (i + 1):=by
 unfold setI
 rw [List.set_append_right _ _ (by simp),List.length_replicate,Nat.sub_self,show n - i = (n - (i + 1)) + 1 by omega,List.replicate_succ,List.set_cons_zero,List.replicate_succ',List.append_assoc]; rfl
theorem ints_rep (n:Nat) (x:Int):List.replicate n [PV.int .i64 x] = ints (List.replicate n x):=by simp [ints,PV.encI]
theorem ints_setE (l:List Int) (i:Nat) (x:Int):(ints l).set i [.int .i64 x] = ints (l.set i x):=by simp [ints,PV.encI,List.map_set]
theorem cnt0_init (n:Nat):cnt0 (TJ.init n).num ≤ n:=by
 unfold cnt0 TJ.init
 exact Nat.le_trans List.countP_le_length (by simp)
theorem frz_find {C:List (List Int)} {S:TJ} {K Y:PV} {X0:Go.PV.Obj} {Z:Store} (hZ:ZK Z S.stk S.sets K Y) (hs:S.stk = []) :
  ∃ K2,(∀ n,Bel n K2) ∧ Frz 0 (stF X0 C S.num S.low S.set K S.fd Y Z) (.ptr 4 0 0 0) (findV C S K2):=by
 have hk:∃ K2,(∀ n,Bel n K2) ∧ Frz 0 (stF X0 C S.num S.low S.set K S.fd Y Z) K K2:=by
  rcases hZ.k with ⟨rfl,_⟩ | ⟨e,v,rfl,he⟩
  ·exact ⟨.nils,fun n=>bel_nils _,.keep _ (bel_nils _)⟩
  ·exact ⟨.sl (ints S.stk),fun n=>bel_ints _ _,Frz.msl0 (Nat.zero_le _) (show (stF X0 C S.num S.low S.set _ S.fd Y Z)[e + 5]? = _ from he) (enc_bel _ _ _)⟩
 obtain ⟨K2,h1,h2⟩:=hk
 have hy:Frz 0 (stF X0 C S.num S.low S.set K S.fd Y Z) Y (.sl (intss S.sets)):=by
  rcases hZ.y with ⟨rfl,q⟩ | ⟨u,w,rfl,hu⟩
  ·rw [q]; exact .nils
  ·exact Frz.msl0 (Nat.zero_le _) (show (stF X0 C S.num S.low S.set K S.fd _ Z)[u + 5]? = _ from hu) (encs_bel _ _ _)
 refine ⟨K2,h1,.ptr 4 0 0 0 _ _ _ (finR C K S.fd Y) _ (Nat.zero_le _) rfl rfl rfl (fun j p hj=>?_)⟩
 match j,hj with
 | 0,hj=>cases hj; exact .keep _ (bel_intss _ _)
 | 1,hj=>cases hj; exact Frz.msl0 (Nat.zero_le _) (elem:=3) (sz:=1) (rows:=ints S.num) rfl (enc_bel _ _ _)
 | 2,hj=>cases hj; exact Frz.msl0 (Nat.zero_le _) (elem:=3) (sz:=1) (rows:=ints S.low) rfl (enc_bel _ _ _)
 | 3,hj=>cases hj; exact Frz.msl0 (Nat.zero_le _) (elem:=3) (sz:=1) (rows:=ints S.set) rfl (enc_bel _ _ _)
 | 4,hj=>cases hj; exact h2
 | 5,hj=>cases hj; exact .keep _ (bel_int _ _ _)
 | 6,hj=>cases hj; exact hy
 | j + 7,hj=>simp [finR] at hj
set_option maxHeartbeats 16000000 in
theorem find_w (L:List (List Int)) (hL:L.length ≤ 1000) (hl:∀ l ∈ L,l.length ≤ 1000):PCall Try.prog 49 [progV L] [] (fun q _=>∃ S K,FinJ L.length (calL L) S L.length ∧ Bd L.length S ∧ (∀ n,Bel n K) ∧ q = findV (calL L) S K):=by
 have eL:(fnsL L).length = L.length:=fnsL_length _
 have k0:∀ args σ,noE.f 81 args σ = none:=fun _ _=>rfl
 have k1:∀ args σ,noE.f 82 args σ = none:=fun _ _=>rfl
 have hcal:=callees_on L hL hl
 unfold progV at hcal ⊢
 refine PCall.vfrz [] 282437166825599 54 [.tmp 2] (noE_ok _) mix Try.func49 rfl (by decide) rfl rfl (by simp) ?_
 simp -dsimp only [initFr,List.zipIdx_cons,List.zipIdx_nil,List.map_cons,List.map_nil,Nat.zero_add,Nat.reduceAdd]
 simp -dsimp (maxSteps:=4000000) +contextual (disch:=first | omega | decide +kernel) only [↓vsD,vsE,↓Nat.reduceLT,simprocAttr,eL,vcel]
 refine v_draws _ _ _ _ _ _ [1,9] [3,5,7] [(0,0),(0,0),(0,1),(0,1),(0,1),(0,1),(0,1),(0,1),(1,1),(3,0),(2,2)] (by decide +kernel) (by decide +kernel) (by decide +kernel) (by decide +kernel) ?_
 simp -dsimp (maxSteps:=4000000) +contextual (disch:=first | omega | decide +kernel) only [↓vsD,vsE,↓Nat.reduceLT,simprocAttr,vdA,↓vd_end,↓vdm_go,↓vd_op,↓guard_none,↓guard_some,vcel,eL,k0]
 refine ⟨_,_,hcal _,by simp [outR,rowsAt],?_⟩
 simp -dsimp (maxSteps:=4000000) +contextual (disch:=first | omega | decide +kernel) only [↓vsD,vsE,↓Nat.reduceLT,simprocAttr,vdA,↓vd_end,↓vdm_go,↓vd_op,↓guard_none,↓guard_some,vcel,eL,k0,bytesC,lenC]
 obtain ⟨n,hn⟩:∃ n,n = L.length:=⟨_,rfl⟩
 obtain ⟨C,hC⟩:∃ C,C = calL L:=⟨_,rfl⟩
 have hCo:OkC n C:=by rw [hn,hC]; exact calL_ok L
 have hCl:C.length = n:=by rw [hC,hn]; exact calL_length L
 have hCb:∀ l ∈ C,l.length ≤ 1000:=by rw [hC]; exact calL_le L hl
 rw [← hn] at hL eL ⊢
 rw [← hC]
 rw [ints_rep]
 obtain ⟨X0,hX0⟩:∃ X0:Go.PV.Obj,X0 = .rows 35 4 [[.nils,.sl (fnsL L),.int .i64 0,.int .i64 0]] 0:=⟨_,rfl⟩
 refine v_loopS (fun i:Nat=>[(1,.ptr 0 0 0 0),(3,.int .i64 n),(4,.ptr 4 0 0 0),(24,.int .i64 n),(25,.int .i64 (i:Int))])
  (fun i=>[.rows 35 4 [[.nils,.sl (fnsL L),.int .i64 0,.int .i64 0]] 0,.rows 3 1 (ints (List.replicate n 0)) 0,.rows 3 1 (ints (List.replicate n 0)) 0,.rows 3 1 (ints (setI n i)) 0,.rows 117 7 [[.sl (intss C),.msl 1 0,.msl 2 0,.msl 3 0,.nils,.int .i64 0,.nils]] 0])
  (fun i=>i ≤ n) (fun i=>n - i) 0 (by simp [weaker,Go.PV.look]) (by simp [setI]) (Nat.zero_le _) ?_
 intro i hi
 have e1:(ints (setI n i)).length = n:=by rw [show (ints _).length = (setI n i).length from enc_length _ _,setI_len n i hi]
 by_cases hil:i < n
 ·have b1:=ints_gD (setI n i) i (by rw [setI_len n i hi]; exact hil)
  simp -dsimp (maxSteps:=4000000) +contextual (disch:=first | omega | decide +kernel) only [↓vsD,vsE,↓Nat.reduceLT,simprocAttr,vcel,e1,b1,ints_setE]
  exact ⟨i + 1,(by (try dsimp only); omega),(by simp [weaker,Go.PV.look]),by rw [setI_set n i hil],hil⟩
 ·obtain rfl:n = i:=by omega
  simp -dsimp (maxSteps:=4000000) +contextual (disch:=first | omega | decide +kernel) only [↓vsD,vsE,↓Nat.reduceLT,simprocAttr,vcel,eL]
  have hsi:setI n n = List.replicate n (-1):=by simp [setI]
  rw [hsi]
  refine v_loopS (fun s:Nat × TJ × PV × PV × Store=>[(1,.ptr 0 0 0 0),(3,.int .i64 n),(4,.ptr 4 0 0 0),(37,.int .i64 n),(38,.int .i64 (s.1:Int))])
   (fun s=>stF X0 C s.2.1.num s.2.1.low s.2.1.set s.2.2.1 s.2.1.fd s.2.2.2.1 s.2.2.2.2) (fun s=>s.1 ≤ n ∧ FinJ n C s.2.1 s.1 ∧ Bd n s.2.1 ∧ ZK s.2.2.2.2 s.2.1.stk s.2.1.sets s.2.2.1 s.2.2.2.1) (fun s=>n - s.1)
   (0,TJ.init n,.nils,.nils,[]) (by simp [weaker,Go.PV.look]) (by rw [hX0]; rfl) ⟨Nat.zero_le _,⟨init_wf n C,rfl,fun g hg h=>by have:=hg.1; omega⟩,⟨by have:=cnt0_init n; show 0 + cnt0 (TJ.init n).num ≤ n; omega,Nat.le_refl _⟩,⟨.inl ⟨rfl,rfl⟩,.inl ⟨rfl,rfl⟩,fun e v u w h=>by cases h⟩⟩ ?_
  rintro ⟨k,S,K,Y,Z⟩ ⟨hk,hF,hB,hZ⟩
  dsimp only at hk hF hB hZ ⊢
  have d1:(ints S.num).length = n:=by rw [show (ints S.num).length = S.num.length from enc_length _ _,hF.wf.ln]
  by_cases hkn:k < n
  ·have b1:=ints_gD S.num k (by rw [hF.wf.ln]; exact hkn)
   have hknd:nd n (k:Int):=⟨by omega,by omega⟩
   by_cases hz:S.nm k = 0
   ·have hzz:S.num.getD k 0 = 0:=hz
    unfold stF finR
    simp -dsimp (maxSteps:=4000000) +contextual (disch:=first | omega | decide +kernel) only [↓vsD,vsE,↓Nat.reduceLT,simprocAttr,vcel,d1,b1,hzz,k1]
    refine PCall.mono (visit_w hL hCo hCl hCb (cnt0 S.num) S k K Y Z X0 hF.wf hB (Nat.le_refl _) hknd hz hZ) ?_
    rintro p σ' ⟨rfl,S2,R,K2,Y2,Z2,rfl,hZ2,hB2,hR⟩
    simp -dsimp (maxSteps:=4000000) +contextual (disch:=first | omega | decide +kernel) only [↓vsD,vsE,↓Nat.reduceLT,simprocAttr,vcel]
    exact ⟨(k + 1,S2,K2,Y2,Z2),(by (try dsimp only); omega),(by simp [weaker,Go.PV.look]),rfl,hkn,hF.next hknd hR,hB2,hZ2⟩
   ·have hzz:¬ S.num.getD k 0 = 0:=hz
    unfold stF finR
    simp -dsimp (maxSteps:=4000000) +contextual (disch:=first | omega | decide +kernel) only [↓vsD,vsE,↓Nat.reduceLT,simprocAttr,vcel,d1,b1,hzz,k1]
    exact ⟨(k + 1,S,K,Y,Z),(by (try dsimp only); omega),(by simp [weaker,Go.PV.look]),rfl,hkn,hF.skip hz,hB,hZ⟩
  ·obtain rfl:n = k:=by omega
   obtain ⟨K2,hK2,hfz⟩:=frz_find (C:=C) (X0:=X0) hZ hF.stk
   simp -dsimp (maxSteps:=4000000) +contextual (disch:=first | omega | decide +kernel) only [↓vsD,vsE,↓Nat.reduceLT,simprocAttr,vcel]
   exact fin0 hfz ⟨S,K2,hF,hB,hK2,rfl⟩
theorem find_on (L:List (List Int)) (hL:L.length ≤ 1000) (hl:∀ l ∈ L,l.length ≤ 1000) (σ:Store):PCall Try.prog 49 [progV L] σ (fun q τ=>(∃ S K,FinJ L.length (calL L) S L.length ∧ Bd L.length S ∧ (∀ n,Bel n K) ∧ q = findV (calL L) S K) ∧ τ = σ) :=
 PCall.lift (find_w L hL hl) (belA (bel_prog _ L)) (fun q h=>⟨by
  obtain ⟨S,K,_,_,hK,rfl⟩:=h
  refine bel_iptr (fun p hp=>?_) 0
  simp only [List.mem_cons,List.not_mem_nil,or_false] at hp
  rcases hp with rfl | rfl | rfl | rfl | rfl | rfl | rfl
  ·exact bel_intss _ _
  ·exact bel_ints _ _
  ·exact bel_ints _ _
  ·exact bel_ints _ _
  ·exact hK _
  ·exact bel_int _ _ _
  ·exact bel_intss _ _,h,rfl⟩)
end Go.Proofs.Ythginmfobikdgaa
