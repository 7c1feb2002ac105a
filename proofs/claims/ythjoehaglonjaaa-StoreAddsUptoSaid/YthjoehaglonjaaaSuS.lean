import Derived.Test.YthjoehaglonjaaaSuR
import Derived.Test.YthjoehaglonjaaaSuP
import Derived.Test.YthjoehaglonjaaaSuB
import Derived.Test.YthjoehaglonjaaaSuU
set_option maxRecDepth 8000
set_option linter.unusedSimpArgs false
set_option linter.unusedVariables false
namespace Go.Proofs.Ythjoehaglonjaaa
open Go.PV
def InP (p:Pc):Prop:=p.fs.length ≤ 1100000 ∧ ∀ x ∈ p.fs,SmC x
def InS (s:StS):Prop:=s.ps.length ≤ 1100000 ∧ s.cs.length ≤ 1100000 ∧ ∀ p ∈ s.ps,InP p
theorem InP.fit {p:Pc} (h:InP p):FitP p:=⟨by have:=h.1; omega,fun x hx=>(h.2 x hx).fit⟩
structure AdP (s:StS) (p:Pc):Prop where
 fs:FitS s
 fp:FitP p
 ss:∀ q ∈ s.ps,∀ x ∈ q.fs,SmC x
 sp:∀ x ∈ p.fs,SmC x
 z:sizeS s ≤ 40
 n:s.cs.length ≤ 20
noncomputable def adV (s:StS) (p:Pc):StS × Int:=@ite _ (OkSt s) (Classical.propDecidable _) (@ite _ (OkPc p) (Classical.propDecidable _) (mg s (oneS p),0) (⟨[],[]⟩,21)) (⟨[],[]⟩,20)
theorem adV_res {s:StS} {p:Pc} {f:StS → StS} {q:PV} (hf:∀ m,Sf m [s,oneS p] → f m = m) (h:AdRes f s p q):q = .tup [.agg [.sl (encP (adV s p).1.ps),.sl (encD (adV s p).1.cs)],.int .i64 (adV s p).2]:=by
 unfold adV
 rcases h with ⟨h1,rfl⟩ | ⟨h1,h2,rfl⟩ | ⟨h1,h2,m,hm,rfl⟩
 ·rw [if_neg h1]; rfl
 ·rw [if_pos h1,if_neg h2]; rfl
 ·rw [if_pos h1,if_pos h2,hf m hm,mg_of h1.o (oneS_ok h2).o hm]; rfl
theorem sf_size {m s:StS} {p:Pc} (h:Sf m [s,oneS p]):sizeS m ≤ sizeS s + 1:=by
 have:=h.size
 simp only [List.flatMap_cons,List.flatMap_nil,List.append_nil,List.length_append,idl_length] at this
 simpa [sizeS,oneS] using this
theorem addV {s:StS} {p:Pc} (h:AdP s p) (σ:Store):PCall Try.prog 17 [stV s,.agg p.row] σ (fun q τ=>q = .tup [.agg [.sl (encP (adV s p).1.ps),.sl (encD (adV s p).1.cs)],.int .i64 (adV s p).2] ∧ τ = σ) :=
 PCall.mono (add_on s p h.fs h.fp h.ss h.sp 22 unionOk22 (by have:=h.n; omega) σ) fun q τ ⟨h1,h2⟩=>⟨adV_res (fun m hm=>leastS_small _ (by have:=sf_size hm; have:=h.z; omega)) h1,h2⟩
theorem raddV {s:StS} {p:Pc} (h:AdP s p) (σ:Store):PCall Try.prog 18 [stV s,.agg p.row] σ (fun q τ=>q = .tup [.agg [.sl (encP (adV s p).1.ps),.sl (encD (adV s p).1.cs)],.int .i64 (adV s p).2] ∧ τ = σ) :=
 PCall.mono (radd_on s p h.fs h.fp h.ss h.sp (by have:=h.z; omega) σ) fun q τ ⟨h1,h2⟩=>⟨adV_res (fun m hm=>rfl) h1,h2⟩
theorem adV_fit {s:StS} {p:Pc} (h:AdP s p):FitS (adV s p).1:=by
 have he:FitS ⟨[],[]⟩:=⟨by simp,by simp,fun p hp=>by simp at hp⟩
 unfold adV
 by_cases h1:OkSt s
 ·rw [if_pos h1]
  by_cases h2:OkPc p
  ·rw [if_pos h2]
   have hm:=mg_sf h1.o (oneS_ok h2).o
   have hz:=sf_size hm
   have:=h.z
   unfold sizeS at hz this
   refine ⟨by dsimp only; omega,by dsimp only; omega,fun q hq=>?_⟩
   obtain ⟨u,hu,hqu⟩:=hm.src hq
   simp only [List.mem_cons,List.not_mem_nil,or_false] at hu
   rcases hu with rfl | rfl
   ·exact h.fs.2.2 q hqu
   ·simp [oneS] at hqu; rw [hqu]; exact h.fp
  ·rw [if_neg h2]; exact he
 ·rw [if_neg h1]; exact he
def rwS (z:StS):List PV:=[.sl (encP z.ps),.sl (encD z.cs)]
def rwP (p:Pc):List PV:=[.int .i64 p.id.1,.int .i64 p.id.2.1,.int .i64 p.id.2.2,.int .u64 p.dig,.sl (encF p.fs)]
set_option maxRecDepth 8000 in
set_option maxHeartbeats 8000000 in
theorem adds31_ok (l0:List Int) (hl0:okInts .u8 l0) (s:StS) (p:Pc) (hs:InS s) (hp:InP p):PCall Try.prog 3 [.sl (PV.encI .u8 l0),stV s,.agg p.row] [] (fun q _=>q = .bool true):=by
 have n1:∀ args σ,noE.f 17 args σ = none:=fun _ _=>rfl
 have n2:∀ args σ,noE.f 19 args σ = none:=fun _ _=>rfl
 have n3:∀ args σ,noE.f 10 args σ = none:=fun _ _=>rfl
 have n4:∀ args σ,noE.f 12 args σ = none:=fun _ _=>rfl
 have n5:∀ args σ,noE.f 11 args σ = none:=fun _ _=>rfl
 have n6:∀ args σ,noE.f 13 args σ = none:=fun _ _=>rfl
 have n7:∀ args σ,noE.f 18 args σ = none:=fun _ _=>rfl
 have n8:∀ args σ,noE.f 14 args σ = none:=fun _ _=>rfl
 have n9:∀ args σ,noE.f 15 args σ = none:=fun _ _=>rfl
 have m1:∀ args σ,noE.f 16 args σ = none:=fun _ _=>rfl
 have m2:∀ args σ,noE.f 20 args σ = none:=fun _ _=>rfl
 have m3:∀ args σ,noE.f 21 args σ = none:=fun _ _=>rfl
 have e1:(encP s.ps).length = s.ps.length:=by simp [encP]
 have e2:(encD s.cs).length = s.cs.length:=by simp [encD]
 have e3:(encF p.fs).length = p.fs.length:=by simp [encF]
 unfold stV Pc.row
 refine PCall.vfrz [] 5192298028916692009978726313885695 132 [.tmp 6] (noE_ok _) mix Try.func3 rfl (by decide) rfl rfl (by simp) ?_
 simp -dsimp only [initFr,List.zipIdx_cons,List.zipIdx_nil,List.map_cons,List.map_nil,Nat.zero_add,Nat.reduceAdd]
 simp -dsimp (maxSteps:=4000000) +contextual (disch:=first | omega | decide +kernel) only [↓vsD,vsE,↓Nat.reduceLT,simprocAttr,vcel,n3]
 refine PCall.mono (awake_on _) ?_
 rintro q τ ⟨rfl,rfl⟩
 by_cases h1:20 < s.ps.length
 ·simp -dsimp (maxSteps:=4000000) +contextual (disch:=first | omega | decide +kernel) only [↓vsD,vsE,↓Nat.reduceLT,simprocAttr,vcel,e1,e2,e3]
  exact fin0 (.keep _ (bel_bool _ _)) rfl
 by_cases h2:20 < s.cs.length
 ·simp -dsimp (maxSteps:=4000000) +contextual (disch:=first | omega | decide +kernel) only [↓vsD,vsE,↓Nat.reduceLT,simprocAttr,vcel,e1,e2,e3]
  exact fin0 (.keep _ (bel_bool _ _)) rfl
 by_cases h3:20 < p.fs.length
 ·simp -dsimp (maxSteps:=4000000) +contextual (disch:=first | omega | decide +kernel) only [↓vsD,vsE,↓Nat.reduceLT,simprocAttr,vcel,e1,e2,e3]
  exact fin0 (.keep _ (bel_bool _ _)) rfl
 simp -dsimp (maxSteps:=4000000) +contextual (disch:=first | omega | decide +kernel) only [↓vsD,vsE,↓Nat.reduceLT,simprocAttr,vcel,e1,e2,e3,n5]
 refine PCall.mono (newS_on l0 500 _) ?_
 rintro q τ ⟨rfl,rfl⟩
 obtain ⟨cs,hcs⟩:∃ cs,cs = l0.take 500:=⟨_,rfl⟩
 have hcl:okInts .u8 cs:=fun n hn=>hl0 n (by rw [hcs] at hn; exact List.mem_of_mem_take hn)
 have hcn:cs.length ≤ 500:=by rw [hcs]; simp; omega
 rw [← hcs]
 simp -dsimp (maxSteps:=4000000) +contextual (disch:=first | omega | decide +kernel) only [↓vsD,vsE,↓Nat.reduceLT,simprocAttr,n4]
 refine filled_on cs 0 6 (by omega) hcl (by omega) (Nat.zero_le _) 2 rfl ?_
 intro X LX kx hX hkx
 simp -dsimp only [List.set_cons_zero,List.set_cons_succ,stV,List.nil_append,List.cons_append]
 simp -dsimp (maxSteps:=4000000) +contextual (disch:=first | omega | decide +kernel) only [↓vsD,vsE,↓Nat.reduceLT,simprocAttr,vcel,n6]
 have o1:=oddS_ok hcl hkx hX
 refine odd_on cs kx hcl (by omega) hkx hX (by omega) 2 rfl ?_
 obtain ⟨Y,hY⟩:∃ Y,Y = oddS cs kx X:=⟨_,rfl⟩
 rw [← hY] at o1 ⊢
 simp -dsimp only [List.set_cons_zero,List.set_cons_succ,stV,List.nil_append,List.cons_append]
 simp -dsimp (maxSteps:=4000000) +contextual (disch:=first | omega | decide +kernel) only [↓vsD,vsE,↓Nat.reduceLT,simprocAttr,vcel,n8]
 have hpk:=pieceF_ok hcl o1.2
 refine codes_onX 2 cs Y.2 _ [] _ (dpieceX_w cs Y.2 hcl (by omega) o1.2) (fun p hp=>by simp at hp) (bel_pc _ _) rfl ?_
 obtain ⟨Q,hQ⟩:∃ Q,Q = pieceF cs Y.2:=⟨_,rfl⟩
 rw [← hQ] at hpk ⊢
 simp -dsimp only [List.set_cons_zero,List.set_cons_succ,Pc.row,List.nil_append,List.cons_append]
 simp -dsimp (maxSteps:=4000000) +contextual (disch:=first | omega | decide +kernel) only [↓vsD,vsE,↓Nat.reduceLT,simprocAttr,vcel]
 obtain ⟨zs,hzs⟩:∃ zs:List StS,zs = [s,X,Y.1]:=⟨_,rfl⟩
 obtain ⟨rs,hrs⟩:∃ rs:List Pc,rs = [p,Q.1]:=⟨_,rfl⟩
 have hfS:FitS s:=⟨by omega,by omega,fun q hq=>(hs.2.2 q hq).fit⟩
 have hfit:∀ z ∈ zs,FitS z ∧ (∀ q ∈ z.ps,∀ x ∈ q.fs,SmC x) ∧ sizeS z ≤ 40 ∧ z.cs.length ≤ 20:=fun z hz=>by
  rw [hzs] at hz; simp only [List.mem_cons,List.not_mem_nil,or_false] at hz
  rcases hz with hz | hz | hz <;> rw [hz]
  ·exact ⟨hfS,fun q hq=>(hs.2.2 q hq).2,by unfold sizeS; omega,by omega⟩
  ·have h:OdR 6 X:=⟨by have:=hX.s.two; have:=hX.l; omega,fun p hp=>⟨(hX.dr p hp).fit,(hX.dr p hp).sm⟩⟩
   have hz:=h.z
   exact ⟨h.fit (by omega),fun q hq=>(h.f q hq).2,by unfold sizeS; omega,by omega⟩
  ·have h:=o1.1
   have hz:=h.z
   exact ⟨h.fit (by omega),fun q hq=>(h.f q hq).2,by unfold sizeS; omega,by omega⟩
 have hfr:∀ r ∈ rs,FitP r ∧ ∀ x ∈ r.fs,SmC x:=fun r hr=>by
  rw [hrs] at hr; simp only [List.mem_cons,List.not_mem_nil,or_false] at hr
  rcases hr with hr | hr <;> rw [hr]
  ·exact ⟨hp.fit,hp.2⟩
  ·exact ⟨hpk.1.fit,hpk.1.sm⟩
 have had:∀ z ∈ zs,∀ r ∈ rs,AdP z r:=fun z hz r hr=>⟨(hfit z hz).1,(hfr r hr).1,(hfit z hz).2.1,(hfr r hr).2,(hfit z hz).2.2.1,(hfit z hz).2.2.2⟩
 have hzl:zs.length = 3:=by rw [hzs]; rfl
 have hrl:rs.length = 2:=by rw [hrs]; rfl
 obtain ⟨R,hR⟩:∃ R,R = zs.map rwS:=⟨_,rfl⟩
 have hRe:R = [[.sl (encP s.ps),.sl (encD s.cs)],[.sl (encP X.ps),.sl (encD X.cs)],[.sl (encP Y.1.ps),.sl (encD Y.1.cs)]]:=by rw [hR,hzs]; rfl
 have hRl:R.length = 3:=by rw [hR,List.length_map,hzl]
 obtain ⟨R2,hR2⟩:∃ R2,R2 = rs.map rwP:=⟨_,rfl⟩
 have hR2e:R2 = [rwP p,rwP Q.1]:=by rw [hR2,hrs]; rfl
 have hR2l:R2.length = 2:=by rw [hR2,List.length_map,hrl]
 unfold rwP at hR2e
 obtain ⟨X0,hX0⟩:∃ X0:Go.PV.Obj,X0 = .rows 26 2 [[.sl (encP s.ps),.sl (encD s.cs)]] 0:=⟨_,rfl⟩
 obtain ⟨X2,hX2⟩:∃ X2:Go.PV.Obj,X2 = codes cs Q.2:=⟨_,rfl⟩
 obtain ⟨X3,hX3⟩:∃ X3:Go.PV.Obj,X3 = .rows 26 2 [[.sl (encP X.ps),.sl (encD X.cs)]] 0:=⟨_,rfl⟩
 obtain ⟨X4,hX4⟩:∃ X4:Go.PV.Obj,X4 = .rows 26 2 [[.sl (encP Y.1.ps),.sl (encD Y.1.cs)]] 0:=⟨_,rfl⟩
 rw [← hX0,← hX2,← hX3,← hX4]
 refine v_loopS (fun s:Nat × Store=>[(75,.int .i64 (s.1:Int)),(74,.int .i64 3),(73,.sl R),(5,.ptr 1 0 0 0),(11,.ptr 5 0 0 0)]) (fun s=>X0 :: .rows 32 5 [[.int .i64 p.id.1,.int .i64 p.id.2.1,.int .i64 p.id.2.2,.int .u64 p.dig,.sl (encF p.fs)]] 0 :: X2 :: X3 :: X4 :: .rows 32 5 [[.int .i64 Q.1.id.1,.int .i64 Q.1.id.2.1,.int .i64 Q.1.id.2.2,.int .u64 Q.1.dig,.sl (encF Q.1.fs)]] 0 :: s.2) (fun s=>s.1 ≤ 3) (fun s=>3 - s.1) (0,[]) (by rw [hRe]; simp [weaker,Go.PV.look]) rfl (Nat.zero_le _) ?_
 rintro ⟨k,Z⟩ hk
 dsimp only at hk ⊢
 by_cases hk3:k < 3
 ·obtain ⟨z,hz,hzk⟩:∃ z,z ∈ zs ∧ R[k]? = some [PV.sl (encP z.ps),.sl (encD z.cs)]:=by
   have h:k < zs.length:=by omega
   refine ⟨zs[k],List.getElem_mem h,?_⟩
   rw [hR,List.getElem?_map,List.getElem?_eq_getElem h]; rfl
  have hg:R.getD k [] = [PV.sl (encP z.ps),.sl (encD z.cs)]:=by
   rw [List.getD_eq_getElem?_getD,hzk]; rfl
  have hv1:=fun σ=>sval_on z (hfit z hz).1 σ
  have hv2:=fun σ=>rsval_on z (hfit z hz).1 σ
  obtain ⟨bv,hbv⟩:∃ b,b = stB z:=⟨_,rfl⟩
  rw [← hbv] at hv1 hv2
  clear hbv
  simp -dsimp (maxSteps:=4000000) +contextual (disch:=first | omega | decide +kernel) only [↓vsD,vsE,↓Nat.reduceLT,simprocAttr,vcel,hg,hzk,hRl]
  refine v_draws _ _ _ _ _ _ [1,3] [] [(0,0),(0,0),(0,1),(0,0),(2,2)] (by decide +kernel) (by decide +kernel) (by decide +kernel) (by decide +kernel) ?_
  simp -dsimp (maxSteps:=4000000) +contextual (disch:=first | omega | decide +kernel) only [↓vsD,vsE,↓Nat.reduceLT,simprocAttr,vdA,↓vd_end,↓vdm_go,↓vd_op,↓guard_none,↓guard_some,vcel,vgap,n9,m1]
  refine ⟨_,_,hv1 _,by simp [outR,rowsAt],?_⟩
  simp -dsimp (maxSteps:=4000000) +contextual (disch:=first | omega | decide +kernel) only [↓vsD,vsE,↓Nat.reduceLT,simprocAttr,vdA,↓vd_end,↓vdm_go,↓vd_op,↓guard_none,↓guard_some,vcel,vgap,n9,m1]
  refine ⟨_,_,hv2 _,by simp [outR,rowsAt],?_⟩
  cases bv
  all_goals
   simp -dsimp (maxSteps:=4000000) +contextual (disch:=first | omega | decide +kernel) only [↓vsD,vsE,↓Nat.reduceLT,simprocAttr,vdA,↓vd_end,↓vdm_go,↓vd_op,↓guard_none,↓guard_some,vcel,vgap,n9,m1]
   refine v_loopS (fun s:Nat × Store=>[(88,.int .i64 (s.1:Int)),(87,.int .i64 2),(86,.sl R2),(13,.ptr (Z.length + 6) 0 0 0),(75,.int .i64 (k:Int)),(74,.int .i64 3),(73,.sl R),(5,.ptr 1 0 0 0),(11,.ptr 5 0 0 0)]) (fun s=>X0 :: .rows 32 5 [[.int .i64 p.id.1,.int .i64 p.id.2.1,.int .i64 p.id.2.2,.int .u64 p.dig,.sl (encF p.fs)]] 0 :: X2 :: X3 :: X4 :: .rows 32 5 [[.int .i64 Q.1.id.1,.int .i64 Q.1.id.2.1,.int .i64 Q.1.id.2.2,.int .u64 Q.1.dig,.sl (encF Q.1.fs)]] 0 :: (Z ++ .rows 26 2 [[.sl (encP z.ps),.sl (encD z.cs)]] 0 :: s.2)) (fun s=>s.1 ≤ 2) (fun s=>2 - s.1) (0,[]) (by rw [hR2e]; simp [weaker,Go.PV.look]) rfl (Nat.zero_le _) ?_
   rintro ⟨j,Z2⟩ hj
   dsimp only at hj ⊢
   by_cases hj2:j < 2
   ·obtain ⟨r,hr,hrj⟩:∃ r,r ∈ rs ∧ R2[j]? = some (rwP r):=by
     have h:j < rs.length:=by omega
     refine ⟨rs[j],List.getElem_mem h,?_⟩
     rw [hR2,List.getElem?_map,List.getElem?_eq_getElem h]; rfl
    have hrg:R2.getD j [] = rwP r:=by
     rw [List.getD_eq_getElem?_getD,hrj]; rfl
    unfold rwP at hrj hrg
    have ha:=had z hz r hr
    have hw1:=fun σ=>addV ha σ
    have hw2:=fun σ=>raddV ha σ
    have hw3:=fun σ=>same31_on (adV z r).1 (adV z r).1 (adV_fit ha) σ
    simp -dsimp (maxSteps:=4000000) +contextual (disch:=first | omega | decide +kernel) only [↓vsD,vsE,↓Nat.reduceLT,simprocAttr,vcel,vgap,hrg,hrj,hR2l,List.append_assoc,List.length_append,n1]
    refine PCall.mono (hw1 _) ?_
    rintro q τ ⟨rfl,rfl⟩
    simp -dsimp (maxSteps:=4000000) +contextual (disch:=first | omega | decide +kernel) only [↓vsD,vsE,↓Nat.reduceLT,simprocAttr,vcel,vgap,List.append_assoc,List.length_append,n7]
    refine PCall.mono (hw2 _) ?_
    rintro q τ ⟨rfl,rfl⟩
    simp -dsimp (maxSteps:=4000000) +contextual (disch:=first | omega | decide +kernel) only [↓vsD,vsE,↓Nat.reduceLT,simprocAttr,vcel,vgap,List.append_assoc,List.length_append,n2]
    refine PCall.mono (hw3 _) ?_
    rintro q τ ⟨rfl,rfl⟩
    rw [eqB_t rfl]
    simp -dsimp (maxSteps:=4000000) +contextual (disch:=first | omega | decide +kernel) only [↓vsD,vsE,↓Nat.reduceLT,simprocAttr,vcel,vgap,List.append_assoc,List.length_append,n2]
    exact ⟨(j + 1,Z2 ++ [_,_,_]),(by (try dsimp only); omega),by simp [weaker,Go.PV.look],by first | rfl | simp only [List.append_assoc,List.cons_append,List.nil_append],by dsimp only; omega⟩
   ·obtain rfl:j = 2:=by omega
    simp -dsimp (maxSteps:=4000000) +contextual (disch:=first | omega | decide +kernel) only [↓vsD,vsE,↓Nat.reduceLT,simprocAttr,vcel,vgap]
    exact ⟨(k + 1,Z ++ _ :: Z2),(by (try dsimp only); omega),by simp [weaker,Go.PV.look],rfl,by dsimp only; omega⟩
 ·obtain rfl:k = 3:=by omega
  have hfq:=hfr Q.1 (by rw [hrs]; simp)
  have q1:=fun σ=>pEq_on p Q.1 hp.fit σ
  have q2:=fun σ=>rEq_on p Q.1 hp.fit σ
  have q3:=fun σ=>pEq_on Q.1 Q.1 hfq.1 σ
  have q4:=fun σ=>pEq_on p p hp.fit σ
  simp only [eqB_t (rfl:Q.1 = Q.1),eqB_t (rfl:p = p)] at q3 q4
  obtain ⟨bv,hbv⟩:∃ b,b = eqB p Q.1:=⟨_,rfl⟩
  rw [← hbv] at q1 q2
  clear hbv
  cases bv
  all_goals
   simp -dsimp (maxSteps:=4000000) +contextual (disch:=first | omega | decide +kernel) only [↓vsD,vsE,↓Nat.reduceLT,simprocAttr,vcel]
   refine v_draws _ _ _ _ _ _ [2,5,10,15] [] [(0,0),(0,0),(0,0),(0,1),(0,1),(0,0),(2,2),(2,2),(2,2),(2,2),(0,0),(3,3),(3,3),(3,3),(3,3),(0,0),(4,4),(4,4)] (by decide +kernel) (by decide +kernel) (by decide +kernel) (by decide +kernel) ?_
   simp -dsimp (maxSteps:=4000000) +contextual (disch:=first | omega | decide +kernel) only [↓vsD,vsE,↓Nat.reduceLT,simprocAttr,vdA,↓vd_end,↓vdm_go,↓vd_op,↓guard_none,↓guard_some,vcel,vgap,m2,m3]
   refine ⟨_,_,q1 _,by simp [outR,rowsAt],?_⟩
   simp -dsimp (maxSteps:=4000000) +contextual (disch:=first | omega | decide +kernel) only [↓vsD,vsE,↓Nat.reduceLT,simprocAttr,vdA,↓vd_end,↓vdm_go,↓vd_op,↓guard_none,↓guard_some,vcel,vgap,m2,m3]
   refine ⟨_,_,q2 _,by simp [outR,rowsAt],?_⟩
   simp -dsimp (maxSteps:=4000000) +contextual (disch:=first | omega | decide +kernel) only [↓vsD,vsE,↓Nat.reduceLT,simprocAttr,vdA,↓vd_end,↓vdm_go,↓vd_op,↓guard_none,↓guard_some,vcel,vgap,m2,m3]
   refine ⟨_,_,q3 _,by simp [outR,rowsAt],?_⟩
   simp -dsimp (maxSteps:=4000000) +contextual (disch:=first | omega | decide +kernel) only [↓vsD,vsE,↓Nat.reduceLT,simprocAttr,vdA,↓vd_end,↓vdm_go,↓vd_op,↓guard_none,↓guard_some,vcel,vgap,m2,m3]
   refine ⟨_,_,q4 _,by simp [outR,rowsAt],?_⟩
   simp -dsimp (maxSteps:=4000000) +contextual (disch:=first | omega | decide +kernel) only [↓vsD,vsE,↓Nat.reduceLT,simprocAttr,vdA,↓vd_end,↓vdm_go,↓vd_op,↓guard_none,↓guard_some,vcel,vgap,m2,m3]
   exact fin0 (.keep _ (bel_bool _ _)) rfl
end Go.Proofs.Ythjoehaglonjaaa
