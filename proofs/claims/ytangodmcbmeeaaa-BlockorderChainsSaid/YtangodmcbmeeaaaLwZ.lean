/- Chapter 37: the law BlockorderChains holds for every input: the result for large functions is an order, made of chains, and weighs at least the greatest count of a way between two blocks that does not lead to 0. No condition. -/
import Derived.Test.YtangodmcbmeeaaaTy
import Derived.Test.YtangodmcbmeeaaaEnA
import Derived.Test.YtangodmcbmeeaaaPvO
import Derived.Test.YtangodmcbmeeaaaPvY
import Derived.Test.YtangodmcbmeeaaaRows
import Derived.Test.YtangodmcbmeeaaaBoK
set_option maxRecDepth 8000
/- The rows: facts on the program. -/
set_option maxRecDepth 8000
set_option linter.unusedSimpArgs false
set_option linter.unusedVariables false
namespace Go.Proofs.Ytangodmcbmeeaaa
open Go.PV
theorem own:ownKnob Try.prog.godebug = none:=by kernel_rfl
theorem laidOut:laidOutB Try.prog = true:=by kernel_rfl
end Go.Proofs.Ytangodmcbmeeaaa

set_option linter.unusedSimpArgs false
set_option linter.unusedVariables false
namespace Go.Proofs.Ytangodmcbmeeaaa
open Go.PV
theorem newQ (l:List Int) (n:Nat) (σ:Store):PCall Try.prog 10 [.sl (PV.encI .u8 l),.int .i64 n] σ (fun p σ'=>p = .ptr σ.length 0 0 0 ∧ σ' = σ ++ [codes (l.take n) 0]):=by
 refine PCall.vraw [] 287 15 [.tmp 4] (noE_ok _) mix Try.func10 rfl (by decide) rfl rfl (by simp) ?_
 simp -dsimp only [initFr,List.zipIdx_cons,List.zipIdx_nil,List.map_cons,List.map_nil,Nat.zero_add,Nat.reduceAdd]
 simp -dsimp (maxSteps:=4000000) +contextual (disch:=first | omega | decide +kernel) only [↓vsD,vsE,↓Nat.reduceLT,simprocAttr,enc_length,enc_all,enc_take]
 exact ⟨fun h=>rfl,fun h=>by rw [List.take_of_length_le (show l.length ≤ n by omega)]; rfl⟩
structure MostI (T:List TermI) (E:List (Int × Int)) (k:Nat) (M:Int):Prop where
 nn:0 ≤ M
 ub:∀ w ∈ waysF T E k,w.to ≠ 0 → w.to ≠ w.fr → w.cnt ≤ M
 at':M = 0 ∨ ∃ w ∈ waysF T E k,w.to ≠ 0 ∧ w.to ≠ w.fr ∧ w.cnt = M
theorem mxI_le (a b:Int):a ≤ mxI a b ∧ b ≤ mxI a b:=by unfold mxI; split <;> omega
theorem mxI_or (a b:Int):mxI a b = a ∨ mxI a b = b:=by unfold mxI; split <;> simp
theorem MostI.next {T:List TermI} {E:List (Int × Int)} {k:Nat} {M:Int} (h:MostI T E k M) (hk:(T.getD k default).kind = 2) (ht:(T.getD k default).to = k + 1) (h1:0 ≤ (E.getD k default).1) (h2:0 ≤ (E.getD k default).2) :
  MostI T E (k + 1) (if (T.getD k default).els ≠ k ∧ (T.getD k default).els ≠ 0 then mxI (mxI M (E.getD k default).1) (E.getD k default).2 else mxI M (E.getD k default).1):=by
 have p1:posI (E.getD k default).1 = (E.getD k default).1:=by unfold posI; split <;> omega
 have p2:posI (E.getD k default).2 = (E.getD k default).2:=by unfold posI; split <;> omega
 have hw:waysF T E (k + 1) = waysF T E k ++ [⟨k,k + 1,(E.getD k default).1⟩,⟨k,(T.getD k default).els,(E.getD k default).2⟩]:=by
  rw [waysF,wayK,if_pos (.inr hk),if_pos hk,p1,p2,ht]; rfl
 have m1:=mxI_le M (E.getD k default).1
 have m2:=mxI_le (mxI M (E.getD k default).1) (E.getD k default).2
 have hn:=h.nn
 have old:∀ w ∈ waysF T E k,w ∈ waysF T E (k + 1):=fun w hm=>by rw [hw]; exact List.mem_append_left _ hm
 have ge1:mxI M (E.getD k default).1 ≤ (if (T.getD k default).els ≠ k ∧ (T.getD k default).els ≠ 0 then mxI (mxI M (E.getD k default).1) (E.getD k default).2 else mxI M (E.getD k default).1):=by
  split <;> omega
 have at1:mxI M (E.getD k default).1 = 0 ∨ ∃ w ∈ waysF T E (k + 1),w.to ≠ 0 ∧ w.to ≠ w.fr ∧ w.cnt = mxI M (E.getD k default).1:=by
  rcases mxI_or M (E.getD k default).1 with e | e
  ·rw [e]
   rcases h.at' with h0 | ⟨w,hm,h3⟩
   ·exact .inl h0
   ·exact .inr ⟨w,old w hm,h3⟩
  ·rw [e]
   exact .inr ⟨⟨k,k + 1,(E.getD k default).1⟩,by rw [hw]; simp,by simp,by simp,rfl⟩
 refine ⟨by omega,fun w hm h3 h4=>?_,?_⟩
 ·rw [hw] at hm
  rcases List.mem_append.1 hm with hm | hm
  ·have:=h.ub w hm h3 h4
   omega
  ·simp only [List.mem_cons,List.not_mem_nil,or_false] at hm
   rcases hm with rfl | rfl
   ·dsimp only; omega
   ·dsimp only at h3 h4 ⊢
    rw [if_pos ⟨h4,h3⟩]; exact m2.2
 ·split
  ·rename_i hc
   rcases mxI_or (mxI M (E.getD k default).1) (E.getD k default).2 with e | e
   ·rw [e]; exact at1
   ·rw [e]
    exact .inr ⟨⟨k,(T.getD k default).els,(E.getD k default).2⟩,by rw [hw]; simp,hc.2,hc.1,rfl⟩
  ·exact at1
set_option maxRecDepth 8000 in
set_option maxHeartbeats 32000000 in
theorem chains37_ok (l:List Int) (hl:okInts .u8 l) (x:Int) (hx:0 ≤ x ∧ x ≤ 255):PCall Try.prog 3 [.sl (PV.encI .u8 l),.int .u8 x] [] (fun q _=>q = .bool true):=by
 have hcl:okInts .u8 (l.take 300):=fun x hx=>hl x (List.mem_of_mem_take hx)
 have hcn:(l.take 300).length < 2 ^ 40:=by rw [List.length_take]; omega
 obtain ⟨cs,hcs⟩:∃ cs,cs = l.take 300:=⟨_,rfl⟩
 have hnew:=newQ l 300 []
 rw [← hcs] at hcl hcn hnew
 obtain ⟨u,hu⟩:∃ u,u = x.tmod 30:=⟨_,rfl⟩
 have hu2:0 ≤ u ∧ u < 30:=by
  rw [hu]
  exact ⟨Int.tmod_nonneg _ hx.1,Int.tmod_lt_of_pos _ (by decide)⟩
 obtain ⟨n,hn⟩:∃ n:Nat,(n:Int) = 10 + u:=⟨(10 + u).toNat,by omega⟩
 have hn10:10 ≤ n:=by omega
 have hn39:n ≤ 39:=by omega
 have k0:∀ args σ,noE.f 9 args σ = none:=fun _ _=>rfl
 have k1:∀ args σ,noE.f 10 args σ = none:=fun _ _=>rfl
 have k2:∀ args σ,noE.f 11 args σ = none:=fun _ _=>rfl
 have k3:∀ args σ,noE.f 14 args σ = none:=fun _ _=>rfl
 have k4:∀ args σ,noE.f 13 args σ = none:=fun _ _=>rfl
 have k5:∀ args σ,noE.f 12 args σ = none:=fun _ _=>rfl
 have k6:∀ args σ,noE.f 16 args σ = none:=fun _ _=>rfl
 have k7:∀ args σ,noE.f 15 args σ = none:=fun _ _=>rfl
 have k8:∀ args σ,noE.f 17 args σ = none:=fun _ _=>rfl
 refine PCall.vfrz [] 649042059117150710191803622752255 124 [.tmp 4] (noE_ok _) mix Try.func3 rfl (by decide) rfl rfl (by simp) ?_
 simp -dsimp only [initFr,List.zipIdx_cons,List.zipIdx_nil,List.map_cons,List.map_nil,Nat.zero_add,Nat.reduceAdd]
 simp -dsimp (maxSteps:=4000000) +contextual (disch:=first | omega | decide +kernel) only [↓vsD,vsE,↓Nat.reduceLT,simprocAttr,k0]
 refine PCall.mono (awake37_on _) ?_
 rintro p τ ⟨rfl,rfl⟩
 simp -dsimp (maxSteps:=4000000) +contextual (disch:=first | omega | decide +kernel) only [↓vsD,vsE,↓Nat.reduceLT,simprocAttr,k1]
 refine PCall.mono hnew ?_
 rintro p τ ⟨rfl,rfl⟩
 simp -dsimp (maxSteps:=4000000) +contextual (disch:=first | omega | decide +kernel) only [↓vsD,vsE,↓Nat.reduceLT,simprocAttr,k2,← hu,← hn]
 refine PCall.mono (wide_w cs n (by omega) (by omega) hcl hcn) ?_
 rintro p τ ⟨T,B,E,k,rfl,rfl,hI⟩
 obtain ⟨hG,hkk,hne⟩:=hI.good (by omega) (by omega)
 have hlt:=hI.lt
 have hle:=hI.le
 obtain ⟨o,⟨hop,hom⟩,hoc⟩:=chains_ex nmE nmE_cell (nmE_bel 0) hG hkk hne (by omega)
 have c3:=exactL_on nmE nmE_cell (nmE_bel 0) hG (by omega)
 have c4:=chainsF_on nmE nmE_cell (nmE_bel 0) hG _ hoc
 have c5:=orderC_on nmE nmE_cell (nmE_bel 0) hG (by omega) _ hoc
 have lop:(0 :: o).length ≤ 1000:=by rw [hop.length_eq,natB_length]; omega
 have c6:=intsEq_ok (0 :: o) lop
 have c7:=rordered_on nmE nmE_cell (nmE_bel 0) T hG.n0 hG.n o hop
 have c9:=weight_on nmE nmE_cell (nmE_bel 0) hG hkk hne o hop
 have hwn:=wsum_nn (ws:=waysF T E T.length) (fun w hw=>(hG.way hw).2.2.1) (0 :: o)
 generalize wsum (waysF T E T.length) (0 :: o) = a at c9 hom hwn
 generalize 0 :: o = A at c3 c4 c5 c6 c7 c9
 clear hkk hne hop hoc lop hcl hcn hcs hl
 unfold fnV cnV at c3 c4 c5 c9 ⊢
 unfold fnV at c7
 simp -dsimp (maxSteps:=4000000) +contextual (disch:=first | omega | decide +kernel) only [↓vsD,vsE,↓Nat.reduceLT,simprocAttr,vcel,nmE_cell,k5]
 refine PCall.mono (c5 _) ?_
 rintro p τ ⟨rfl,rfl⟩
 simp -dsimp (maxSteps:=4000000) +contextual (disch:=first | omega | decide +kernel) only [↓vsD,vsE,↓Nat.reduceLT,simprocAttr,vcel,nmE_cell,k4]
 refine PCall.mono (c4 _) ?_
 rintro p τ ⟨rfl,rfl⟩
 simp -dsimp (maxSteps:=4000000) +contextual (disch:=first | omega | decide +kernel) only [↓vsD,vsE,↓Nat.reduceLT,simprocAttr,vcel,nmE_cell,k3]
 refine PCall.mono (c3 _) ?_
 rintro p τ ⟨rfl,rfl⟩
 simp -dsimp (maxSteps:=4000000) +contextual (disch:=first | omega | decide +kernel) only [↓vsD,vsE,↓Nat.reduceLT,simprocAttr,vcel,nmE_cell,k7]
 refine PCall.mono (c7 _) ?_
 rintro p τ ⟨rfl,rfl⟩
 simp -dsimp (maxSteps:=4000000) +contextual (disch:=first | omega | decide +kernel) only [↓vsD,vsE,↓Nat.reduceLT,simprocAttr,vcel,nmE_cell,k6]
 refine PCall.mono (c6 _) ?_
 rintro p τ ⟨rfl,rfl⟩
 simp -dsimp (maxSteps:=4000000) +contextual (disch:=first | omega | decide +kernel) only [↓vsD,vsE,↓Nat.reduceLT,simprocAttr,vcel,nmE_cell]
 refine v_loopS (fun s:Nat × Int × Store=>[(6,.int .i64 n),(7,.ptr 1 0 0 0),(8,.ptr 2 0 0 0),(9,.sl (ints A)),(15,.int .i64 s.2.1),(16,.int .i64 (s.1:Int))])
  (fun s=>codes cs k :: .rows 28 4 [[nmE,.int .i64 0,.int .i64 1,.sl (encT T)]] 0 :: .rows 33 4 [[.int .i64 0,.sl (ints B),.sl (encX E),.nils]] 0 :: s.2.2) (fun s=>s.1 + 1 ≤ n ∧ MostI T E s.1 s.2.1) (fun s=>n - s.1) (0,0,[]) (by simp [weaker,Go.PV.look]) rfl ⟨by dsimp only; omega,⟨Int.le_refl _,fun w hw=>(by cases hw),.inl rfl⟩⟩ ?_
 rintro ⟨j,M,Z⟩ ⟨hj,hM⟩
 dsimp only at hj hM ⊢
 by_cases hjn:j + 1 < n
 ·obtain ⟨_,t1,t2,t3⟩:=(hI.tm j (by omega)).resolve_right (fun h=>by omega)
  have hE:=hI.ce _ (getDmB (d:=default) (show j < E.length by omega))
  have hnx:=hM.next t1 t2 hE.1.1 hE.2.1
  have q1:=encT_getD T j (by omega)
  have q2:=encX_getD E j (by omega)
  have eT:(encT T).length = n:=by rw [encT_length,hlt]
  have eE:(encX E).length = n:=by rw [encX_length,hle]
  rw [t1,t2] at q1
  obtain ⟨t,htd⟩:∃ t,t = (T.getD j default).els:=⟨_,rfl⟩
  rw [← htd] at q1 hnx t3
  obtain ⟨M2,hM2⟩:∃ M2,M2 = (if (E.getD j default).1 > M then (E.getD j default).1 else M):=⟨_,rfl⟩
  by_cases b1:t = j
  ·rw [if_neg (fun h=>h.1 b1)] at hnx
   have b1i:(t:Int) = j:=by omega
   unfold mxI at hnx
   rw [← hM2] at hnx
   simp -dsimp (maxSteps:=4000000) +contextual (disch:=first | omega | decide +kernel) only [↓vsD,vsE,↓Nat.reduceLT,simprocAttr,vcel,vgap,nmE_cell,eT,eE,q1,q2]
   rw [← hM2]
   exact ⟨(j + 1,M2,_),(by (try dsimp only); omega),by simp [weaker,Go.PV.look],rfl,by dsimp only; omega,hnx⟩
  ·by_cases b2:t = 0
   ·rw [if_neg (fun h=>h.2 b2)] at hnx
    unfold mxI at hnx
    rw [← hM2] at hnx
    simp -dsimp (maxSteps:=4000000) +contextual (disch:=first | omega | decide +kernel) only [↓vsD,vsE,↓Nat.reduceLT,simprocAttr,vcel,vgap,nmE_cell,eT,eE,q1,q2]
    rw [← hM2]
    exact ⟨(j + 1,M2,_),(by (try dsimp only); omega),by simp [weaker,Go.PV.look],rfl,by dsimp only; omega,hnx⟩
   ·rw [if_pos ⟨b1,b2⟩] at hnx
    unfold mxI at hnx
    obtain ⟨M3,hM3⟩:∃ M3,M3 = (if (E.getD j default).2 > M2 then (E.getD j default).2 else M2):=⟨_,rfl⟩
    rw [← hM2,← hM3] at hnx
    simp -dsimp (maxSteps:=4000000) +contextual (disch:=first | omega | decide +kernel) only [↓vsD,vsE,↓Nat.reduceLT,simprocAttr,vcel,vgap,nmE_cell,eT,eE,q1,q2]
    rw [← hM2,← hM3]
    exact ⟨(j + 1,M3,_),(by (try dsimp only); omega),by simp [weaker,Go.PV.look],rfl,by dsimp only; omega,hnx⟩
 ·have hj1:j + 1 = n:=by omega
  have hlast:=(hI.tm j (by omega)).resolve_left (fun h=>by omega)
  have hwe:waysF T E T.length = waysF T E j:=by
   rw [hlt,← hj1,waysF,wayK,hlast.2,if_neg (by decide),if_neg (by decide),List.append_nil,List.append_nil]
  rw [hwe] at hom
  have hfin:M ≤ a:=by
   rcases hM.at' with h0 | h0
   ·omega
   ·by_cases hM0:0 < M
    ·exact hom M hM0 hM.ub h0
    ·omega
  simp -dsimp (maxSteps:=4000000) +contextual (disch:=first | omega | decide +kernel) only [↓vsD,vsE,↓Nat.reduceLT,simprocAttr,vcel,nmE_cell,k8]
  refine PCall.mono (c9 _) ?_
  rintro p τ ⟨rfl,rfl⟩
  simp -dsimp (maxSteps:=4000000) +contextual (disch:=first | omega | decide +kernel) only [↓vsD,vsE,↓Nat.reduceLT,simprocAttr,vcel,nmE_cell]
  exact fin0 (.keep _ (bel_bool _ _)) rfl
end Go.Proofs.Ytangodmcbmeeaaa

set_option linter.unusedSimpArgs false
set_option linter.unusedVariables false
namespace Go.Proofs.Ytangodmcbmeeaaa
open Go.PV Go.ChangeShapes Go.WideShapes Go.ChangeAt Go.RowKit
set_option maxRecDepth 100000 in
theorem ochains_lifted (os:Os) (started:os.Started) (H:Type) (enc:TypeId × Value → H) :
  ReturnsInHanded {} Try.checked os 3 .any (Rows.blockorderChainsSpec.pre6 enc Try.prog Try.f3 Rows.blockorderChainsRow.domain false) (Rows.blockorderChainsSpec.post enc Try.prog Try.f3 false true false false):=by
 refine returnsInHanded_of_change (C:=Try.checked) own started (by kernel_rfl) Try.func3
  (ChangeSpec.witness6 (enc:=enc) (C:=Try.checked) false ⟨#[],#[.slice none 0 0,.int .u8 0],[]⟩ 8 (by kernel_rfl) (by kernel_rfl) (by kernel_rfl) (by kernel_rfl)) ?_
 intro W base args ds gs before hval hW _ _
 refine law_contract laidOut rfl rfl u_bool (by decide +kernel) ?_ ?_ W args ds gs before ?_ hW
 ·rintro (_ | ⟨d,_ | ⟨d2,_ | _⟩⟩) h <;> first | rfl | (simp [Try.f3] at h)
 ·intro W args ds p hval hA
  obtain ⟨v0,v1,d0,d1,p0,p1,rfl,rfl,rfl,h0,h1⟩:=trodAll_two (t:=22) (t':=5) hA
  obtain ⟨l,hl,_,hRl⟩:=open_arg_ints u_bytes u_u8 c_u8 (hval 0 _ v0 rfl rfl) h0
  obtain ⟨n,hn,hRn⟩:=open_arg_int u_u8 (hval 1 _ v1 rfl rfl) h1
  have hy:0 ≤ n ∧ n ≤ 255:=by
   have h2:IntKind.u8.min ≤ n ∧ n ≤ IntKind.u8.max:=by simpa [Lit.wf] using hn
   exact h2
  exact ⟨[.sl (PV.encI .u8 l),.int .u8 n],argsR_cons hRl (argsR_cons hRn (argsR_nil _ _)),chains37_ok l hl n hy⟩
 ·exact fun j t v h1 h2=>hval j t v h1 h2
theorem ochains_holds:Rows.BlockorderChainsSaid :=
 OpenClaim.holds_of_wide 3 Try.f3 rfl rfl rfl rfl rfl rfl rfl ⟨rfl,rfl,rfl,rfl,rfl⟩ rfl rfl rfl rfl rfl (by kernel_rfl) Try.func3 (by kernel_rfl)
  (of_decide_eq_true (by kernel_rfl)) (by unfold Func.isWrapper; first | (rw [if_pos (by decide +kernel)]; kernel_rfl) | (rw [if_neg (by decide +kernel)]; exact ⟨rfl,rfl⟩))
  (fun os started H enc _=>ochains_lifted os started H enc)
end Go.Proofs.Ytangodmcbmeeaaa
