import Derived.Test.YtangodmcbmeeaaaSwC
set_option maxRecDepth 8000
set_option linter.unusedSimpArgs false
set_option linter.unusedVariables false
namespace Go.Proofs.Ytangodmcbmeeaaa
open Go.PV
section
variable (o v:Nat) (σ:Store)
set_option maxHeartbeats 32000000 in
theorem stableSW (hol:o < σ.length) {F:FuncId} {caps:List PV} {lt:Way → Way → Bool} (hw:Weak lt) (hF:CmpSW o v σ F caps lt) (L:List Way) (hl:L.length ≤ 100000) :
  PCall Try.prog 88 [.msl o v,.int .i64 (L.length:Int),.func (.func F) [] caps] (stSW o v σ L) (fun p τ=>p = .tup [] ∧ ∃ R,Stb lt L R ∧ τ = stSW o v σ R):=by
 have k0:∀ args σ,noE.f 106 args σ = none:=fun _ _=>rfl
 have k1:∀ args σ,noE.f 107 args σ = none:=fun _ _=>rfl
 obtain ⟨N,hN⟩:∃ N,N = L.length:=⟨_,rfl⟩
 rw [← hN] at hl ⊢
 refine PCall.vraw [] 18014433942971391 63 [] (noE_ok _) mix Try.func88 rfl (by decide) rfl rfl (by simp) ?_
 simp -dsimp only [initFr,List.zipIdx_cons,List.zipIdx_nil,List.map_cons,List.map_nil,Nat.zero_add,Nat.reduceAdd]
 simp -dsimp (maxSteps:=4000000) +contextual (disch:=first | omega | decide +kernel) only [↓vsD,vsE,↓Nat.reduceLT,simprocAttr]
 refine v_loopS (fun s:Nat × List Way=>[(0,.msl o v),(1,.int .i64 (N:Int)),(2,.func (.func F) [] caps),(6,.int .i64 20),(7,.int .i64 (s.1:Int)),(8,.int .i64 ((s.1 + 20:Nat):Int))]) (fun s=>stSW o v σ s.2) (fun s=>s.1 ≤ N ∧ ∃ A,Pre lt 20 (L.take s.1) A ∧ s.2 = A ++ L.drop s.1) (fun s=>N - s.1) (0,L) (by simp [weaker,Go.PV.look]) rfl ⟨Nat.zero_le _,[],.nil 20,rfl⟩ ?_
 rintro ⟨a,M⟩ ⟨ha,A,hA,hM⟩
 dsimp only at ha hM ⊢
 have hAl:A.length = a:=by rw [hA.1,List.length_take]; omega
 by_cases hb:a + 20 ≤ N
 ·have eX:L.drop a = (L.drop a).take 20 ++ L.drop (a + 20):=by rw [← List.drop_drop,List.take_append_drop]
  have lX:((L.drop a).take 20).length = 20:=by rw [List.length_take,List.length_drop]; omega
  have h:=insASW o v σ hol hw hF A ((L.drop a).take 20) (L.drop (a + 20)) (by rw [← eX,List.length_append,hAl,List.length_drop]; omega)
  rw [← eX,← hM,lX,hAl] at h
  simp -dsimp (maxSteps:=4000000) +contextual (disch:=first | omega | decide +kernel) only [↓vsD,vsE,↓Nat.reduceLT,simprocAttr,k0]
  refine PCall.mono h ?_
  rintro p τ ⟨rfl,R,hR,rfl⟩
  simp -dsimp (maxSteps:=4000000) +contextual (disch:=first | omega | decide +kernel) only [↓vsD,vsE,↓Nat.reduceLT,simprocAttr,k0]
  refine ⟨(a + 20,_),(by (try dsimp only); omega),(by first | (simp [weaker,Go.PV.look]; done) | (simp [weaker,Go.PV.look]; omega)),rfl,hb,A ++ R,?_,by rw [List.append_assoc]⟩
  have:=hA.snoc lX hR
  rw [List.take_add]
  exact this
 ·have lX:(L.drop a).length = N - a:=by rw [List.length_drop]; omega
  have h:=insASW o v σ hol hw hF A (L.drop a) [] (by rw [List.append_nil,List.length_append,hAl,lX]; omega)
  rw [List.append_nil,← hM,lX,hAl,show a + (N - a) = N by omega] at h
  simp -dsimp (maxSteps:=4000000) +contextual (disch:=first | omega | decide +kernel) only [↓vsD,vsE,↓Nat.reduceLT,simprocAttr,k0]
  refine PCall.mono h ?_
  rintro p τ ⟨rfl,R,hR,rfl⟩
  rw [List.append_nil]
  have hrun:Runs lt 20 L (A ++ R):=by
   have:=hA.last (show (L.drop a).length ≤ 20 by omega) hR
   rwa [List.take_append_drop] at this
  clear hA hM hR h
  simp -dsimp (maxSteps:=4000000) +contextual (disch:=first | omega | decide +kernel) only [↓vsD,vsE,↓Nat.reduceLT,simprocAttr,k0]
  refine v_loopS (fun s:Nat × List Way=>[(0,.msl o v),(1,.int .i64 (N:Int)),(2,.func (.func F) [] caps),(6,.int .i64 (s.1:Int))]) (fun s=>stSW o v σ s.2) (fun s=>20 ≤ s.1 ∧ s.1 ≤ 2 * N + 20 ∧ Runs lt s.1 L s.2) (fun s=>N - s.1) (20,A ++ R) (by simp [weaker,Go.PV.look]) rfl ⟨Nat.le_refl _,by dsimp only; omega,hrun⟩ ?_
  rintro ⟨n,M1⟩ ⟨hn,hn2,hrun⟩
  dsimp only at hn hn2 hrun ⊢
  by_cases hnN:n < N
  ·simp -dsimp (maxSteps:=4000000) +contextual (disch:=first | omega | decide +kernel) only [↓vsD,vsE,↓Nat.reduceLT,simprocAttr]
   refine v_loopS (fun s:Nat × List Way=>[(0,.msl o v),(1,.int .i64 (N:Int)),(2,.func (.func F) [] caps),(6,.int .i64 (n:Int)),(7,.int .i64 (s.1:Int)),(8,.int .i64 ((s.1 + 2 * n:Nat):Int))]) (fun s=>stSW o v σ s.2) (fun s=>s.1 ≤ N ∧ ∃ A B,Pre lt (2 * n) (L.take s.1) A ∧ s.2 = A ++ B ∧ Runs lt n (L.drop s.1) B) (fun s=>N - s.1) (0,M1) (by simp [weaker,Go.PV.look]) rfl ⟨Nat.zero_le _,[],M1,.nil _,rfl,hrun⟩ ?_
   rintro ⟨a2,M2⟩ ⟨ha2,A2,B2,hA2,hM2,hB2⟩
   dsimp only at ha2 hM2 hB2 ⊢
   have hAl2:A2.length = a2:=by rw [hA2.1,List.length_take]; omega
   have lB2:(L.drop a2).length = N - a2:=by rw [List.length_drop]; omega
   by_cases hb2:a2 + 2 * n ≤ N
   ·obtain ⟨X1,R1,Y1,S1,e1,f1,l1,t1,r1⟩:=hB2.first (by omega)
    have lY1:Y1.length = N - a2 - n:=by
     have:=congrArg List.length e1
     rw [lB2,List.length_append] at this; omega
    obtain ⟨X2,R2,Y2,S2,e2,f2,l2,t2,r2⟩:=r1.first (by omega)
    have h:=symSW o v σ hol hw hF (R1.length + R2.length) A2 R1 R2 S2 rfl (by rw [t1.len]; omega) (by rw [t2.len]; omega) t1.s t2.s (by
     have q1:=hB2.len
     rw [f1,f2,lB2] at q1
     simp only [List.length_append] at q1 ⊢
     omega)
    rw [← f2,← f1,← hM2,t1.len,t2.len,l1,l2,hAl2,show a2 + n + n = a2 + 2 * n by omega,show ((a2 + n:Nat):Int) = (a2:Int) + n by omega] at h
    simp -dsimp (maxSteps:=4000000) +contextual (disch:=first | omega | decide +kernel) only [↓vsD,vsE,↓Nat.reduceLT,simprocAttr,k1]
    refine PCall.mono h ?_
    rintro p τ ⟨rfl,rfl⟩
    simp -dsimp (maxSteps:=4000000) +contextual (disch:=first | omega | decide +kernel) only [↓vsD,vsE,↓Nat.reduceLT,simprocAttr,k1]
    have eL:L.drop a2 = (X1 ++ X2) ++ Y2:=by rw [e1,e2,List.append_assoc]
    have l12:(X1 ++ X2).length = 2 * n:=by rw [List.length_append]; omega
    have et:L.take (a2 + 2 * n) = L.take a2 ++ (X1 ++ X2):=by
     rw [List.take_add,eL,List.take_left' l12]
    have ed:L.drop (a2 + 2 * n) = Y2:=by
     rw [← List.drop_drop,eL,List.drop_left' l12]
    refine ⟨(a2 + 2 * n,_),(by (try dsimp only); omega),(by first | (simp [weaker,Go.PV.look]; done) | (simp [weaker,Go.PV.look]; omega)),rfl,hb2,A2 ++ mrg lt R1 R2,S2,?_,by rw [List.append_assoc],by rw [ed]; exact r2⟩
    rw [et]
    exact hA2.snoc l12 (t1.mrg hw t2)
   ·by_cases hm:a2 + n < N
    ·obtain ⟨X1,R1,Y1,S1,e1,f1,l1,t1,r1⟩:=hB2.first (by omega)
     have lY1:Y1.length = N - a2 - n:=by
      have:=congrArg List.length e1
      rw [lB2,List.length_append] at this; omega
     have t2:=r1.one (by omega)
     have h:=symSW o v σ hol hw hF (R1.length + S1.length) A2 R1 S1 [] rfl (by rw [t1.len]; omega) (by rw [t2.len]; omega) t1.s t2.s (by
      have q1:=hB2.len
      rw [f1,lB2] at q1
      simp only [List.length_append,List.length_nil] at q1 ⊢
      omega)
     rw [List.append_nil,← f1,← hM2,t1.len,t2.len,l1,lY1,hAl2,show a2 + n + (N - a2 - n) = N by omega,show ((a2 + n:Nat):Int) = (a2:Int) + n by omega] at h
     simp -dsimp (maxSteps:=4000000) +contextual (disch:=first | omega | decide +kernel) only [↓vsD,vsE,↓Nat.reduceLT,simprocAttr,k1]
     refine PCall.mono h ?_
     rintro p τ ⟨rfl,rfl⟩
     rw [List.append_nil]
     simp -dsimp (maxSteps:=4000000) +contextual (disch:=first | omega | decide +kernel) only [↓vsD,vsE,↓Nat.reduceLT,simprocAttr,k1]
     refine ⟨(2 * n,_),(by (try dsimp only); omega),(by first | (simp [weaker,Go.PV.look]; done) | (simp [weaker,Go.PV.look]; omega)),rfl,by dsimp only; omega,by dsimp only; omega,?_⟩
     have:=hA2.last (X:=X1 ++ Y1) (R:=mrg lt R1 S1) (by rw [List.length_append]; omega) (t1.mrg hw t2)
     rwa [← e1,List.take_append_drop] at this
    ·have t:=hB2.one (by omega)
     simp -dsimp (maxSteps:=4000000) +contextual (disch:=first | omega | decide +kernel) only [↓vsD,vsE,↓Nat.reduceLT,simprocAttr,k1]
     refine ⟨(2 * n,M2),(by (try dsimp only); omega),(by first | (simp [weaker,Go.PV.look]; done) | (simp [weaker,Go.PV.look]; omega)),rfl,by dsimp only; omega,by dsimp only; omega,?_⟩
     have:=hA2.last (X:=L.drop a2) (R:=B2) (by omega) t
     rw [List.take_append_drop] at this
     rw [hM2]; exact this
  ·simp -dsimp (maxSteps:=4000000) +contextual (disch:=first | omega | decide +kernel) only [↓vsD,vsE,↓Nat.reduceLT,simprocAttr]
   exact ⟨M1,hrun.one (by omega),rfl⟩
end
theorem sortStable_okW {F:FuncId} {caps:List PV} {lt:Way → Way → Bool} (hw:Weak lt) (o v:Nat) (L:List Way) (hl:L.length ≤ 100000) (σ:Store) (hF:CmpSW o v σ F caps lt) (ho:σ[o]? = some (.rows 88 3 (encW L) v)) :
  PCall Try.prog 56 [.msl o v,.func (.func F) [] caps] σ (fun p τ=>p = .tup [] ∧ ∃ R,Stb lt L R ∧ τ = σ.set o (.rows 88 3 (encW R) v)):=by
 have hol:=(List.getElem?_eq_some_iff.1 ho).1
 have k0:∀ args σ,noE.f 88 args σ = none:=fun _ _=>rfl
 have e:σ = stSW o v σ L:=by
  obtain ⟨h1,h2⟩:=List.getElem?_eq_some_iff.1 ho
  unfold stSW
  rw [← h2,List.set_getElem_self h1]
 have h:=stableSW o v σ hol hw hF L hl
 rw [← e] at h
 refine PCall.vraw [] 15 9 [] (noE_ok _) mix Try.func56 rfl (by decide) rfl rfl (by simp) ?_
 simp -dsimp only [initFr,List.zipIdx_cons,List.zipIdx_nil,List.map_cons,List.map_nil,Nat.zero_add,Nat.reduceAdd]
 simp -dsimp (maxSteps:=4000000) +contextual (disch:=first | omega | decide +kernel) only [↓vsD,vsE,↓Nat.reduceLT,simprocAttr,ho,encW_length,k0]
 refine PCall.mono h ?_
 rintro p τ ⟨rfl,R,hR,rfl⟩
 simp -dsimp (maxSteps:=4000000) +contextual (disch:=first | omega | decide +kernel) only [↓vsD,vsE,↓Nat.reduceLT,simprocAttr]
 exact ⟨R,hR,rfl⟩
end Go.Proofs.Ytangodmcbmeeaaa
