import Derived.Test.YthginmfobikdgaaCgI
import Derived.Test.YthginmfobikdgaaTjF
set_option maxRecDepth 8000
set_option linter.unusedSimpArgs false
set_option linter.unusedVariables false
namespace Go.Proofs.Ythginmfobikdgaa
open Go.PV Tj
theorem newC33 (l:List Int) (n:Nat) (σ:Store):PCall Try.prog 19 [.sl (PV.encI .u8 l),.int .i64 n] σ (fun p σ'=>p = .ptr σ.length 0 0 0 ∧ σ' = σ ++ [codes (l.take n) 0]):=by
 refine PCall.vraw [] 287 15 [.tmp 4] (noE_ok _) mix Try.func19 rfl (by decide) rfl rfl (by simp) ?_
 simp -dsimp only [initFr,List.zipIdx_cons,List.zipIdx_nil,List.map_cons,List.map_nil,Nat.zero_add,Nat.reduceAdd]
 simp -dsimp (maxSteps:=4000000) +contextual (disch:=first | omega | decide +kernel) only [↓vsD,vsE,↓Nat.reduceLT,simprocAttr,enc_length,enc_all,enc_take]
 exact ⟨fun h=>rfl,fun h=>by rw [List.take_of_length_le (show l.length ≤ n by omega)]; rfl⟩
theorem out_le {n:Nat} {C:List (List Int)} {S:TJ} {out:List (List Int)} (h:OutR n C S out):out.length ≤ n:=by
 have:((List.range out.length).map fun i=>(out.getD i []).getD 0 0).length ≤ n:=by
  refine nd_len ?_ (fun g hg=>?_)
  ·refine List.pairwise_map.2 (List.nodup_range.imp_of_mem (fun {a b} ha hb hne e=>hne ?_))
   rw [List.mem_range] at ha hb
   exact h.un a b _ ha hb (head_mem (h.ne a ha)) (by rw [e]; exact head_mem (h.ne b hb))
  ·obtain ⟨i,hi,rfl⟩:=List.mem_map.1 hg
   rw [List.mem_range] at hi
   exact h.nd i hi _ (head_mem (h.ne i hi))
 simpa using this
set_option maxHeartbeats 16000000 in
theorem orders33_ok (l:List Int) (hl:okInts .u8 l):PCall Try.prog 4 [.sl (PV.encI .u8 l)] [] (fun q _=>q = .bool true):=by
 have hl2:okInts .u8 (l.take 100):=fun x hx=>hl x (List.mem_of_mem_take hx)
 have hl3:(l.take 100).length < 2 ^ 40:=by rw [List.length_take]; omega
 obtain ⟨cs,hcs⟩:∃ cs,cs = l.take 100:=⟨_,rfl⟩
 have hnew:=newC33 l 100 []
 rw [← hcs] at hl2 hl3 hnew
 have k0:∀ args σ,noE.f 17 args σ = none:=fun _ _=>rfl
 have k1:∀ args σ,noE.f 19 args σ = none:=fun _ _=>rfl
 have k2:∀ args σ,noE.f 18 args σ = none:=fun _ _=>rfl
 have k3:∀ args σ,noE.f 20 args σ = none:=fun _ _=>rfl
 have k4:∀ args σ,noE.f 21 args σ = none:=fun _ _=>rfl
 have k5:∀ args σ,noE.f 22 args σ = none:=fun _ _=>rfl
 refine PCall.vfrz [] 175585742945638775254583879131961997066239 138 [.tmp 2] (noE_ok _) mix Try.func4 rfl (by decide) rfl rfl (by simp) ?_
 simp -dsimp only [initFr,List.zipIdx_cons,List.zipIdx_nil,List.map_cons,List.map_nil,Nat.zero_add,Nat.reduceAdd]
 simp -dsimp (maxSteps:=4000000) +contextual (disch:=first | omega | decide +kernel) only [↓vsD,vsE,↓Nat.reduceLT,simprocAttr,k0]
 refine PCall.mono (awake33_on _) ?_
 rintro p σ' ⟨rfl,rfl⟩
 simp -dsimp (maxSteps:=4000000) +contextual (disch:=first | omega | decide +kernel) only [↓vsD,vsE,↓Nat.reduceLT,simprocAttr,k1]
 refine PCall.mono hnew ?_
 rintro p σ' ⟨rfl,rfl⟩
 simp -dsimp (maxSteps:=4000000) +contextual (disch:=first | omega | decide +kernel) only [↓vsD,vsE,↓Nat.reduceLT,simprocAttr,k2]
 refine PCall.mono (calls_on cs hl2 hl3 0 (Nat.zero_le _) 0 _ rfl) ?_
 rintro p σ' ⟨L,rfl,hL1,hL7,hLl,kc,hkc,rfl⟩
 simp -dsimp (maxSteps:=4000000) +contextual (disch:=first | omega | decide +kernel) only [↓vsD,vsE,↓Nat.reduceLT,simprocAttr,k3]
 refine PCall.mono (program_on L (by omega) hLl _) ?_
 rintro p σ' ⟨rfl,rfl⟩
 obtain ⟨n,hn⟩:∃ n,n = L.length:=⟨_,rfl⟩
 obtain ⟨C,hC⟩:∃ C,C = calL L:=⟨_,rfl⟩
 have hCo:OkC n C:=by rw [hn,hC]; exact calL_ok L
 obtain ⟨S,out,hS,hO⟩:=out_ex hCo
 have hcm:=fun σ=>comps_eq L (by omega) hLl (S:=S) (out:=out) (by rw [← hn,← hC]; exact hO) σ
 have hrc:=fun σ=>recs_eq L (by omega) hLl (S:=S) (by rw [← hn,← hC]; exact hS) σ
 rw [← hC,← hn] at hrc
 obtain ⟨B,hB⟩:∃ B,B = recL S C n:=⟨_,rfl⟩
 rw [← hB] at hrc
 have hBl:B.length = n:=by rw [hB]; simp [recL]
 have eB:(boolsR B).length = n:=by rw [boolsR_len,hBl]
 have eL:(intss L).length = n:=by rw [hn]; exact encs_length _ _
 have eO:(intss out).length = out.length:=encs_length _ _
 unfold progV at hcm hrc ⊢
 obtain ⟨G,hG⟩:∃ G,G = fnsL L:=⟨_,rfl⟩
 rw [← hG] at hcm hrc ⊢
 simp -dsimp (maxSteps:=4000000) +contextual (disch:=first | omega | decide +kernel) only [↓vsD,vsE,↓Nat.reduceLT,simprocAttr,k3,vcel]
 refine v_draws _ _ _ _ _ _ [1,3] [] [(0,0),(0,0),(0,1),(0,0),(2,2),(2,2)] (by decide +kernel) (by decide +kernel) (by decide +kernel) (by decide +kernel) ?_
 simp -dsimp (maxSteps:=4000000) +contextual (disch:=first | omega | decide +kernel) only [↓vsD,vsE,↓Nat.reduceLT,simprocAttr,vdA,↓vd_end,↓vdm_go,↓vd_op,↓guard_none,↓guard_some,k4,k5,vcel]
 refine ⟨_,_,hcm _,by simp [outR,rowsAt],?_⟩
 simp -dsimp (maxSteps:=4000000) +contextual (disch:=first | omega | decide +kernel) only [↓vsD,vsE,↓Nat.reduceLT,simprocAttr,vdA,↓vd_end,↓vdm_go,↓vd_op,↓guard_none,↓guard_some,k4,k5,vcel]
 refine ⟨_,_,hrc _,by simp [outR,rowsAt],?_⟩
 simp -dsimp (maxSteps:=4000000) +contextual (disch:=first | omega | decide +kernel) only [↓vsD,vsE,↓Nat.reduceLT,simprocAttr,vdA,↓vd_end,↓vdm_go,↓vd_op,↓guard_none,↓guard_some,k4,k5,vcel,eB,eL,bytesC,lenC]
 obtain ⟨X0,hX0⟩:∃ X0:Go.PV.Obj,X0 = codes cs kc:=⟨_,rfl⟩
 obtain ⟨X1,hX1⟩:∃ X1:Go.PV.Obj,X1 = .rows 35 4 [[.nils,.sl G,.int .i64 0,.int .i64 0]] 0:=⟨_,rfl⟩
 try rw [← hX0,← hX1]
 have isl:∀ (A:List Int) (f:Nat) (x:Int),(ints A).set f [.int .i64 x] = ints (A.set f x):=fun A f x=>by simp [ints,PV.encI,List.map_set]
 refine v_loopS (fun s:Nat × List Int=>[(3,.sl (intss L)),(5,.sl (intss out)),(6,.sl (boolsR B)),(7,.msl 2 0),(8,.int .i64 (s.1:Int))])
  (fun s=>[X0,X1,.rows 3 1 (ints s.2) 0]) (fun s=>s.1 ≤ n ∧ s.2.length = n ∧ ∀ g,g < s.1 → s.2.getD g 0 = -1) (fun s=>n - s.1) (0,List.replicate n 0) (by simp [weaker,Go.PV.look]) (by simp [ints,PV.encI]) ⟨Nat.zero_le _,by simp,fun g hg=>by simp at hg⟩ ?_
 rintro ⟨f,A⟩ ⟨hf,hA,hA1⟩
 dsimp only at hf hA hA1 ⊢
 have eA:(ints A).length = n:=by rw [show (ints A).length = A.length from enc_length _ _,hA]
 by_cases hfn:f < n
 ·simp -dsimp (maxSteps:=4000000) +contextual (disch:=first | omega | decide +kernel) only [↓vsD,vsE,↓Nat.reduceLT,simprocAttr,eL,eA,isl]
  refine ⟨(f + 1,A.set f (-1)),(by (try dsimp only); omega),(by simp [weaker,Go.PV.look]),rfl,hfn,by rw [List.length_set]; exact hA,fun g hg=>?_⟩
  dsimp only at hg ⊢
  by_cases e:g = f
  ·subst e; rw [List.getD_eq_getElem?_getD,List.getElem?_set_self (by omega)]; rfl
  ·rw [List.getD_eq_getElem?_getD,List.getElem?_set_ne (fun q=>e q.symm),← List.getD_eq_getElem?_getD]
   exact hA1 g (by omega)
 obtain rfl:f = n:=by omega
 have hA2:A = List.replicate f (-1):=by
  refine List.ext_getElem (by simp [hA]) (fun g h1 h2=>?_)
  have:=hA1 g (by omega)
  rw [List.getD_eq_getElem?_getD,List.getElem?_eq_getElem h1] at this
  simpa using this
 subst hA2
 simp -dsimp (maxSteps:=4000000) +contextual (disch:=first | omega | decide +kernel) only [↓vsD,vsE,↓Nat.reduceLT,simprocAttr,eL]
 clear eA hA1 hA
 refine v_loopS (fun s:Nat × List Int=>[(3,.sl (intss L)),(5,.sl (intss out)),(6,.sl (boolsR B)),(7,.msl 2 0),(9,.int .i64 (s.1:Int))])
  (fun s=>[X0,X1,.rows 3 1 (ints s.2) 0]) (fun s=>s.1 ≤ out.length ∧ AtI f out s.2 s.1 0) (fun s=>out.length - s.1) (0,List.replicate f (-1)) (by simp [weaker,Go.PV.look]) rfl ⟨Nat.zero_le _,AtI.start⟩ ?_
 rintro ⟨i,A⟩ ⟨hi,hA⟩
 dsimp only at hi hA ⊢
 have hol:=out_le hO
 have hn7:f ≤ 7:=by omega
 by_cases hio:i < out.length
 ·have ai:=intss_at out i hio
  have eR:(ints (out.getD i [])).length = (out.getD i []).length:=enc_length _ _
  have hRl:(out.getD i []).length ≤ f:=nd_len (hO.nod i hio) (fun g hg=>hO.nd i hio g hg)
  simp -dsimp (maxSteps:=4000000) +contextual (disch:=first | omega | decide +kernel) only [↓vsD,vsE,↓Nat.reduceLT,simprocAttr,eO,ai,eR]
  refine v_loopS (fun s:Nat × List Int=>[(3,.sl (intss L)),(5,.sl (intss out)),(6,.sl (boolsR B)),(7,.msl 2 0),(9,.int .i64 (i:Int)),(53,.sl (ints (out.getD i []))),(54,.int .i64 (out.getD i []).length),(55,.int .i64 (s.1:Int))])
   (fun s=>[X0,X1,.rows 3 1 (ints s.2) 0]) (fun s=>s.1 ≤ (out.getD i []).length ∧ AtI f out s.2 i s.1) (fun s=>(out.getD i []).length - s.1) (0,A) (by simp [weaker,Go.PV.look]) rfl ⟨Nat.zero_le _,hA⟩ ?_
  rintro ⟨j,A2⟩ ⟨hj,hA2⟩
  dsimp only at hj hA2 ⊢
  by_cases hjl:j < (out.getD i []).length
  ·obtain ⟨hn1,hn2⟩:=hA2.fresh hO hio hjl
   have hnx:=hA2.next hO hio hjl
   have ag:=ints_gD (out.getD i []) j hjl
   obtain ⟨g,hg⟩:∃ g,g = (out.getD i []).getD j 0:=⟨_,rfl⟩
   rw [← hg] at hn1 hn2 hnx ag
   have hg0:=hn1.1
   have hg1:=hn1.2
   have eA2:(ints A2).length = f:=by rw [show (ints A2).length = A2.length from enc_length _ _,hA2.len]
   have aA:=ints_gD A2 g.toNat (by rw [hA2.len]; omega)
   simp -dsimp (maxSteps:=4000000) +contextual (disch:=first | omega | decide +kernel) only [↓vsD,vsE,↓Nat.reduceLT,simprocAttr,eR,ag,eL,eA2,aA,isl]
   exact ⟨(j + 1,A2.set g.toNat (i:Int)),(by (try dsimp only); omega),(by simp [weaker,Go.PV.look]),rfl,hjl,hnx⟩
  ·obtain rfl:j = (out.getD i []).length:=by omega
   simp -dsimp (maxSteps:=4000000) +contextual (disch:=first | omega | decide +kernel) only [↓vsD,vsE,↓Nat.reduceLT,simprocAttr]
   exact ⟨(i + 1,A2),(by (try dsimp only); omega),(by simp [weaker,Go.PV.look]),rfl,hio,hA2.up rfl⟩
 obtain rfl:i = out.length:=by omega
 simp -dsimp (maxSteps:=4000000) +contextual (disch:=first | omega | decide +kernel) only [↓vsD,vsE,↓Nat.reduceLT,simprocAttr,eO]
 clear isl
 have eA:(ints A).length = f:=by rw [show (ints A).length = A.length from enc_length _ _,hA.len]
 refine v_loopS (fun s:Nat=>[(3,.sl (intss L)),(5,.sl (intss out)),(6,.sl (boolsR B)),(7,.msl 2 0),(12,.int .i64 (s:Int))])
  (fun s=>[X0,X1,.rows 3 1 (ints A) 0]) (fun s=>s ≤ f) (fun s=>f - s) 0 (by simp [weaker,Go.PV.look]) rfl (Nat.zero_le _) ?_
 rintro k hk
 by_cases hkf:k < f
 ·have hkn:nd f (k:Int):=⟨by omega,by omega⟩
  obtain ⟨u,hu,hm,hAu⟩:=hA.fin hO hkn
  rw [Int.toNat_natCast] at hAu
  have aA:=ints_gD A k (by rw [hA.len]; omega)
  rw [hAu] at aA
  have aO:=intss_at out u hu
  have eR:(ints (out.getD u [])).length = (out.getD u []).length:=enc_length _ _
  have aL:=intss_at L k (by omega)
  have eK:(ints (L.getD k [])).length = (L.getD k []).length:=enc_length _ _
  have aB:=boolsR_at B k (by omega)
  have hb:B.getD k false = recB S C k:=by
   rw [hB]; simp [recL,List.getD_eq_getElem?_getD,hkf]
  have hst:=hO.st u k hu hm
  have hcl:=calL_at L k (by omega)
  rw [← hC,← hn] at hcl
  unfold recB at hb
  rw [hst,hcl] at hb
  have hKl:(L.getD k []).length ≤ 1000:=hLl _ (by rw [List.getD_eq_getElem?_getD,List.getElem?_eq_getElem (by omega)]; exact List.getElem_mem _)
  obtain ⟨K,hK⟩:∃ K,K = L.getD k []:=⟨_,rfl⟩
  rw [← hK] at aL eK hb hcl hKl
  have hany:∀ (K:List Int) (j:Nat),j < K.length → (K.take (j + 1)).any (fun g=>decide ((k:Int) = g)) = ((K.take j).any (fun g=>decide ((k:Int) = g)) || decide ((k:Int) = K.getD j 0)):=fun K j hj=>by
   rw [List.take_add_one,List.getElem?_eq_getElem hj,List.any_append,List.getD_eq_getElem?_getD,List.getElem?_eq_getElem hj]
   simp
  have hfil:((K.filter fun g=>decide (0 ≤ g ∧ g < (f:Int))).any fun g=>decide ((k:Int) = g)) = K.any fun g=>decide ((k:Int) = g):=by
   rw [List.any_filter]
   congr 1
   funext g
   by_cases e:(k:Int) = g
   ·subst e; simp [hkf]
   ·simp [e]
  rw [hfil] at hb
  simp -dsimp (maxSteps:=4000000) +contextual (disch:=first | omega | decide +kernel) only [↓vsD,vsE,↓Nat.reduceLT,simprocAttr,eL,eA,aA,eO,aO,eR,aL,eK]
  refine ⟨fun h=>?_,fun h=>?_⟩
  all_goals
   obtain ⟨sz,hsz⟩:∃ sz,sz = decide (1 < (out.getD u []).length):=⟨_,rfl⟩
   rw [← hsz] at hb
   refine v_loopS (fun s:Nat × Bool=>[(3,.sl (intss L)),(5,.sl (intss out)),(6,.sl (boolsR B)),(7,.msl 2 0),(12,.int .i64 (k:Int)),(13,.bool s.2),(102,.sl (ints K)),(103,.int .i64 K.length),(104,.int .i64 (s.1:Int))])
    (fun s=>[X0,X1,.rows 3 1 (ints A) 0]) (fun s=>s.1 ≤ K.length ∧ s.2 = (sz || (K.take s.1).any fun g=>decide ((k:Int) = g))) (fun s=>K.length - s.1) (0,sz) (by first | (rw [show sz = true from by rw [hsz]; exact decide_eq_true (by omega)]; simp [weaker,Go.PV.look]; done) | (rw [show sz = false from by rw [hsz]; exact decide_eq_false (by omega)]; simp [weaker,Go.PV.look]; done)) rfl ⟨Nat.zero_le _,by simp⟩ ?_
   rintro ⟨j,v⟩ ⟨hj,hv⟩
   dsimp only at hj hv ⊢
   by_cases hjl:j < K.length
   ·have ag:=ints_gD K j hjl
    have ha:=hany K j hjl
    obtain ⟨g,hg⟩:∃ g,g = K.getD j 0:=⟨_,rfl⟩
    rw [← hg] at ag ha
    by_cases hgr:0 ≤ g ∧ g < (f:Int)
    ·obtain ⟨hg0,hg1⟩:=hgr
     have hgn:nd f g:=⟨hg0,hg1⟩
     obtain ⟨w,hw,hmw,hAw⟩:=hA.fin hO hgn
     have aG:=ints_gD A g.toNat (by rw [hA.len]; omega)
     rw [hAw] at aG
     have hgC:g ∈ C.getD k []:=by
      rw [hcl,List.mem_filter]
      exact ⟨by rw [hg]; exact Tj.getD_mem K hjl,by simp; omega⟩
     have hwu:=hO.ed u w k g hu hw hm (by rw [Int.toNat_natCast]; exact hgC) hmw
     cases v
     ·simp -dsimp (maxSteps:=4000000) +contextual (disch:=first | omega | decide +kernel) only [↓vsD,vsE,↓Nat.reduceLT,simprocAttr,eK,ag,eL,eA,aG,aA]
      exact ⟨fun he=>⟨(j + 1,true),(by (try dsimp only); omega),(by simp [weaker,Go.PV.look]),rfl,hjl,by rw [ha,← Bool.or_assoc,← hv,decide_eq_true he.symm]; rfl⟩,
       fun he=>⟨(j + 1,false),(by (try dsimp only); omega),(by simp [weaker,Go.PV.look]),rfl,hjl,by rw [ha,← Bool.or_assoc,← hv,decide_eq_false (fun q=>he q.symm)]; rfl⟩⟩
     ·simp -dsimp (maxSteps:=4000000) +contextual (disch:=first | omega | decide +kernel) only [↓vsD,vsE,↓Nat.reduceLT,simprocAttr,eK,ag,eL,eA,aG,aA]
      exact ⟨(j + 1,true),(by (try dsimp only); omega),(by simp [weaker,Go.PV.look]),rfl,hjl,by rw [ha,← Bool.or_assoc,← hv]; rfl⟩
    ·have hne:¬ (k:Int) = g:=fun q=>hgr ⟨by omega,by omega⟩
     by_cases hg0:g < 0
     ·simp -dsimp (maxSteps:=4000000) +contextual (disch:=first | omega | decide +kernel) only [↓vsD,vsE,↓Nat.reduceLT,simprocAttr,eK,ag,eL]
      exact ⟨(j + 1,v),(by (try dsimp only); omega),(by simp [weaker,Go.PV.look]),rfl,hjl,by rw [ha,← Bool.or_assoc,← hv,decide_eq_false hne,Bool.or_false]⟩
     ·have hg1:(f:Int) ≤ g:=by omega
      simp -dsimp (maxSteps:=4000000) +contextual (disch:=first | omega | decide +kernel) only [↓vsD,vsE,↓Nat.reduceLT,simprocAttr,eK,ag,eL]
      exact ⟨(j + 1,v),(by (try dsimp only); omega),(by simp [weaker,Go.PV.look]),rfl,hjl,by rw [ha,← Bool.or_assoc,← hv,decide_eq_false hne,Bool.or_false]⟩
   ·obtain rfl:j = K.length:=by omega
    rw [List.take_length] at hv
    rw [← hv] at hb
    rw [hb] at aB
    cases v
    ·simp -dsimp (maxSteps:=4000000) +contextual (disch:=first | omega | decide +kernel) only [↓vsD,vsE,↓Nat.reduceLT,simprocAttr,eK,aB,eB]
     exact ⟨k + 1,(by (try dsimp only); omega),(by simp [weaker,Go.PV.look]),rfl,hkf⟩
    ·simp -dsimp (maxSteps:=4000000) +contextual (disch:=first | omega | decide +kernel) only [↓vsD,vsE,↓Nat.reduceLT,simprocAttr,eK,aB,eB]
     exact ⟨k + 1,(by (try dsimp only); omega),(by simp [weaker,Go.PV.look]),rfl,hkf⟩
 ·obtain rfl:k = f:=by omega
  simp -dsimp (maxSteps:=4000000) +contextual (disch:=first | omega | decide +kernel) only [↓vsD,vsE,↓Nat.reduceLT,simprocAttr,eL]
  exact fin0 (.keep _ (bel_bool _ _)) rfl
end Go.Proofs.Ythginmfobikdgaa
