import Derived.Test.YtangodmcbmeeaaaScB
set_option maxRecDepth 8000
set_option linter.unusedSimpArgs false
set_option linter.unusedVariables false
namespace Go.Proofs.Ytangodmcbmeeaaa
open Go.PV
section
variable {nB:Nat} (o v:Nat) (σ:Store)
theorem symPC (hol:o < σ.length) {F:FuncId} {caps:List PV} {lt:(ChE nB) → (ChE nB) → Bool} (hw:Weak lt) (A X Y B:List (ChE nB)) (a m b mid s e:Nat) (ha:a = A.length) (hm:m = a + X.length) (hb:b = m + Y.length) (he:e + s = mid + m) (hs:a ≤ s ∧ s ≤ m ∧ m ≤ e ∧ e ≤ b) (hmid:a < mid ∧ mid < b)
  (hX:SortedL lt X) (hY:SortedL lt Y) (hl:(A ++ (X ++ (Y ++ B))).length ≤ 1000000)
  (w1:a < s → e < b → lt ((A ++ (X ++ (Y ++ B))).getD e default) ((A ++ (X ++ (Y ++ B))).getD (s - 1) default) = false) (w2:s < m → m < e → lt ((A ++ (X ++ (Y ++ B))).getD (e - 1) default) ((A ++ (X ++ (Y ++ B))).getD s default) = true)
  (ih:∀ A' X' Y' B':List (ChE nB),X'.length + Y'.length < X.length + Y.length → 0 < X'.length → 0 < Y'.length → SortedL lt X' → SortedL lt Y' → (A' ++ (X' ++ (Y' ++ B'))).length ≤ 1000000 →
   PCall Try.prog 109 [.msl o v,.int .i64 (A'.length:Int),.int .i64 ((A'.length + X'.length:Nat):Int),.int .i64 ((A'.length + X'.length + Y'.length:Nat):Int),.func (.func F) [] caps] (stSC o v σ (A' ++ (X' ++ (Y' ++ B')))) (fun p τ=>p = .tup [] ∧ τ = stSC o v σ (A' ++ (mrg lt X' Y' ++ B')))) :
  ∃ D2 G2:List (ChE nB),(s < m → m < e → PCall Try.prog 128 [.msl o v,.int .i64 (s:Int),.int .i64 (m:Int),.int .i64 (e:Int),.func (.func F) [] caps] (stSC o v σ (A ++ (X ++ (Y ++ B)))) (fun p τ=>p = .tup [] ∧ τ = stSC o v σ D2)) ∧
   (a < s → s < mid → PCall Try.prog 109 [.msl o v,.int .i64 (a:Int),.int .i64 (s:Int),.int .i64 (mid:Int),.func (.func F) [] caps] (stSC o v σ D2) (fun p τ=>p = .tup [] ∧ τ = stSC o v σ G2)) ∧
   (mid < e → e < b → PCall Try.prog 109 [.msl o v,.int .i64 (mid:Int),.int .i64 (e:Int),.int .i64 (b:Int),.func (.func F) [] caps] (stSC o v σ G2) (fun p τ=>p = .tup [] ∧ τ = stSC o v σ (A ++ (mrg lt X Y ++ B)))) ∧
   (¬ (s < m ∧ m < e) → A ++ (X ++ (Y ++ B)) = D2) ∧ (¬ (a < s ∧ s < mid) → D2 = G2) ∧ (¬ (mid < e ∧ e < b) → G2 = A ++ (mrg lt X Y ++ B)):=by
 obtain ⟨hs1,hs2,hs3,hs4⟩:=hs
 obtain ⟨D,hD⟩:∃ D,D = A ++ (X ++ (Y ++ B)):=⟨_,rfl⟩
 rw [← hD] at w1 w2
 have gX:∀ j (h:j < X.length),D.getD (a + j) default = X[j]:=fun j h=>by
  rw [hD,ha,List.getD_eq_getElem?_getD,List.getElem?_append_right (by omega),List.getElem?_append_left (by omega)]
  simp [show A.length + j - A.length = j by omega,h]
 have gY:∀ j (h:j < Y.length),D.getD (m + j) default = Y[j]:=fun j h=>by
  rw [hD,hm,ha,List.getD_eq_getElem?_getD,List.getElem?_append_right (by omega),List.getElem?_append_right (by omega),List.getElem?_append_left (by omega)]
  simp [show A.length + X.length + j - A.length - X.length = j by omega,h]
 have hsym:mrg lt X Y = mrg lt (X.take (s - a)) (Y.take (e - m)) ++ mrg lt (X.drop (s - a)) (Y.drop (e - m)):=by
  refine sym_split hw hX hY (s - a) (e - m) (by omega) (by omega) (fun p q=>?_) (fun p q=>?_)
  ·have w:=w1 (by omega) (by omega)
   have q1:=gY (e - m) q
   have q2:=gX (s - a - 1) (by omega)
   rw [show m + (e - m) = e by omega] at q1
   rw [show a + (s - a - 1) = s - 1 by omega] at q2
   rw [q1,q2] at w; exact w
  ·have w:=w2 (by omega) (by omega)
   have q1:=gY (e - m - 1) (by omega)
   have q2:=gX (s - a) p
   rw [show m + (e - m - 1) = e - 1 by omega] at q1
   rw [show a + (s - a) = s by omega] at q2
   rw [q1,q2] at w; exact w
 obtain ⟨X1,hX1⟩:∃ X1,X1 = X.take (s - a):=⟨_,rfl⟩
 obtain ⟨X2,hX2⟩:∃ X2,X2 = X.drop (s - a):=⟨_,rfl⟩
 obtain ⟨Y1,hY1⟩:∃ Y1,Y1 = Y.take (e - m):=⟨_,rfl⟩
 obtain ⟨Y2,hY2⟩:∃ Y2,Y2 = Y.drop (e - m):=⟨_,rfl⟩
 have s1:SortedL lt X1:=by rw [hX1]; exact List.Pairwise.sublist (List.take_sublist _ _) hX
 have s2:SortedL lt X2:=by rw [hX2]; exact List.Pairwise.sublist (List.drop_sublist _ _) hX
 have s3:SortedL lt Y1:=by rw [hY1]; exact List.Pairwise.sublist (List.take_sublist _ _) hY
 have s4:SortedL lt Y2:=by rw [hY2]; exact List.Pairwise.sublist (List.drop_sublist _ _) hY
 have l1:X1.length = s - a:=by rw [hX1,List.length_take]; omega
 have l2:X2.length = m - s:=by rw [hX2,List.length_drop]; omega
 have l3:Y1.length = e - m:=by rw [hY1,List.length_take]; omega
 have l4:Y2.length = b - e:=by rw [hY2,List.length_drop]; omega
 have eX:X = X1 ++ X2:=by rw [hX1,hX2,List.take_append_drop]
 have eY:Y = Y1 ++ Y2:=by rw [hY1,hY2,List.take_append_drop]
 rw [← hX1,← hX2,← hY1,← hY2] at hsym
 have lm:(mrg lt X1 Y1).length = mid - a:=by rw [mrg_length,l1,l3]; omega
 have hlA:A.length + X.length + Y.length + B.length ≤ 1000000:=by
  have:=hl
  simp only [List.length_append] at this; omega
 refine ⟨A ++ (X1 ++ (Y1 ++ (X2 ++ (Y2 ++ B)))),A ++ (mrg lt X1 Y1 ++ (X2 ++ (Y2 ++ B))),fun c1 c2=>?_,fun c1 c2=>?_,fun c1 c2=>?_,fun c=>?_,fun c=>?_,fun c=>?_⟩
 ·refine rotSC o v σ hol _ _ _ s m e hl c1 c2 (by rw [← hD]; rw [hD]; simp only [List.length_append]; omega) ⟨A ++ X1,X2,Y1,Y2 ++ B,?_,?_,l2,l3,by rw [List.length_append,l1]; omega,by omega,by omega⟩
  ·rw [eX,eY]; simp only [List.append_assoc]
  ·simp only [List.append_assoc]
 ·have h:=ih A X1 Y1 (X2 ++ (Y2 ++ B)) (by omega) (by omega) (by omega) s1 s3 (by simp only [List.length_append]; omega)
  rw [show A.length + X1.length + Y1.length = mid by omega,show A.length + X1.length = s by omega,← ha] at h
  exact h
 ·have h:=ih (A ++ mrg lt X1 Y1) X2 Y2 B (by omega) (by omega) (by omega) s2 s4 (by simp only [List.length_append]; omega)
  rw [List.length_append,lm,show A.length + (mid - a) + X2.length + Y2.length = b by omega,show A.length + (mid - a) + X2.length = e by omega,show A.length + (mid - a) = mid by omega,List.append_assoc,List.append_assoc] at h
  rw [hsym,List.append_assoc]
  exact h
 ·rw [eX,eY]
  rcases (show s = m ∨ e = m by omega) with q | q
  ·have:X2 = []:=List.eq_nil_of_length_eq_zero (by omega)
   rw [this]; simp
  ·have:Y1 = []:=List.eq_nil_of_length_eq_zero (by omega)
   rw [this]; simp
 ·rcases (show s = a ∨ s = mid by omega) with q | q
  ·have:X1 = []:=List.eq_nil_of_length_eq_zero (by omega)
   rw [this,nil_mrg]; simp
  ·have:Y1 = []:=List.eq_nil_of_length_eq_zero (by omega)
   rw [this,mrg_nil]; simp
 ·rw [hsym]
  rcases (show mid = e ∨ e = b by omega) with q | q
  ·have:X2 = []:=List.eq_nil_of_length_eq_zero (by omega)
   rw [this,nil_mrg]; simp
  ·have:Y2 = []:=List.eq_nil_of_length_eq_zero (by omega)
   rw [this,mrg_nil]; simp
set_option maxHeartbeats 32000000 in
theorem symSC (hol:o < σ.length) {F:FuncId} {caps:List PV} {lt:(ChE nB) → (ChE nB) → Bool} (hw:Weak lt) (hF:CmpSC o v σ F caps lt):∀ (N:Nat) (A X Y B:List (ChE nB)),X.length + Y.length = N → 0 < X.length → 0 < Y.length → SortedL lt X → SortedL lt Y → (A ++ (X ++ (Y ++ B))).length ≤ 1000000 →
  PCall Try.prog 109 [.msl o v,.int .i64 (A.length:Int),.int .i64 ((A.length + X.length:Nat):Int),.int .i64 ((A.length + X.length + Y.length:Nat):Int),.func (.func F) [] caps] (stSC o v σ (A ++ (X ++ (Y ++ B)))) (fun p τ=>p = .tup [] ∧ τ = stSC o v σ (A ++ (mrg lt X Y ++ B))):=by
 intro N
 induction N using Nat.strongRecOn with
 | _ N ih =>
 intro A X Y B hN hX0 hY0 hX hY hl
 by_cases hX1:X.length = 1
 ·obtain ⟨x,rfl⟩:=List.length_eq_one_iff.1 hX1
  exact symLC o v σ hol hw hF A x Y B hY0 hY hl
 by_cases hY1:Y.length = 1
 ·obtain ⟨y,rfl⟩:=List.length_eq_one_iff.1 hY1
  exact symRC o v σ hol hw hF A X y B (by omega) hX hl
 obtain ⟨hF0,cf,hcf,hFc⟩:=id hF
 have hat:=stS_atC (nB:=nB) o v σ hol
 have hl0:=hl
 rw [List.length_append,List.length_append,List.length_append] at hl
 obtain ⟨a,ha⟩:∃ a,a = A.length:=⟨_,rfl⟩
 obtain ⟨m,hm⟩:∃ m,m = a + X.length:=⟨_,rfl⟩
 obtain ⟨b,hb⟩:∃ b,b = m + Y.length:=⟨_,rfl⟩
 obtain ⟨mid,hmid⟩:∃ mid,mid = (a + b) / 2:=⟨_,rfl⟩
 obtain ⟨D,hD⟩:∃ D,D = A ++ (X ++ (Y ++ B)):=⟨_,rfl⟩
 have hDl:D.length = b + B.length:=by
  rw [hD,hb,hm,ha]; simp only [List.length_append]; omega
 have gX:∀ j (h:j < X.length),D.getD (a + j) default = X[j]:=fun j h=>by
  rw [hD,ha,List.getD_eq_getElem?_getD,List.getElem?_append_right (by omega),List.getElem?_append_left (by omega)]
  simp [show A.length + j - A.length = j by omega,h]
 have gY:∀ j (h:j < Y.length),D.getD (m + j) default = Y[j]:=fun j h=>by
  rw [hD,hm,ha,List.getD_eq_getElem?_getD,List.getElem?_append_right (by omega),List.getElem?_append_right (by omega),List.getElem?_append_left (by omega)]
  simp [show A.length + X.length + j - A.length - X.length = j by omega,h]
 have hv:=halfSC a b mid (by omega) (by omega) (by omega)
 obtain ⟨lo,hi,hbr⟩:∃ lo hi:Nat,(mid < m ∧ lo = mid + m - b ∧ hi = mid) ∨ (m ≤ mid ∧ lo = a ∧ hi = m):=by
  by_cases h:mid < m
  ·exact ⟨_,_,.inl ⟨h,rfl,rfl⟩⟩
  ·exact ⟨_,_,.inr ⟨by omega,rfl,rfl⟩⟩
 have b1:a ≤ lo ∧ lo ≤ hi ∧ hi ≤ m ∧ hi ≤ mid ∧ m ≤ mid + m - hi ∧ mid + m - lo ≤ b:=by omega
 have b2:lo = a ∨ mid + m - lo = b:=by omega
 have b3:hi = m ∨ mid + m - hi = m:=by omega
 have hab:a + 4 ≤ b:=by omega
 rw [← hD,← ha,← hm,← hb]
 have k0:∀ args σ,noE.f 128 args σ = none:=fun _ _=>rfl
 have k1:∀ args σ,noE.f 109 args σ = none:=fun _ _=>rfl
 refine PCall.vraw [] 13164839976634628298295110780136696778032692856359452003713155071 220 [] (noE_ok _) mix Try.func109 rfl (by decide) rfl rfl (by simp) ?_
 simp -dsimp only [initFr,List.zipIdx_cons,List.zipIdx_nil,List.map_cons,List.map_nil,Nat.zero_add,Nat.reduceAdd]
 rcases hbr with ⟨hmm,hlo,hhi⟩ | ⟨hmm,hlo,hhi⟩
 all_goals
  simp -dsimp (maxSteps:=4000000) +contextual (disch:=first | omega | decide +kernel) only [↓vsD,vsE,↓Nat.reduceLT,simprocAttr,hv]
  refine v_loopS (fun s:Nat × Nat=>[(0,.msl o v),(1,.int .i64 (a:Int)),(2,.int .i64 (m:Int)),(3,.int .i64 (b:Int)),(4,.func (.func F) [] caps),(18,.int .i64 (mid:Int)),(19,.int .i64 ((mid + m:Nat):Int)),(22,.int .i64 ((mid + m - 1:Nat):Int)),(20,.int .i64 (s.1:Int)),(21,.int .i64 (s.2:Int))]) (fun s=>stSC o v σ D)
   (fun s=>lo ≤ s.1 ∧ s.1 ≤ s.2 ∧ s.2 ≤ hi ∧ (s.1 = lo ∨ lt (D.getD (mid + m - s.1) default) (D.getD (s.1 - 1) default) = false) ∧ (s.2 = hi ∨ lt (D.getD (mid + m - 1 - s.2) default) (D.getD s.2 default) = true)) (fun s=>s.2 - s.1) (lo,hi) (by simp [weaker,Go.PV.look]; omega) rfl ⟨Nat.le_refl _,b1.2.1,Nat.le_refl _,.inl rfl,.inl rfl⟩ ?_
  clear hlo hhi hmm
  rintro ⟨s,r⟩ ⟨h1,h2,h3,h4,h5⟩
  dsimp only at h1 h2 h3 h4 h5 ⊢
  by_cases hsr:s < r
  ·obtain ⟨c,hc⟩:∃ c,c = (s + r) / 2:=⟨_,rfl⟩
   have hv2:=halfSC s r c (by omega) (by omega) (by omega)
   have e1:(((mid + m - 1:Nat):Int) - (c:Int)).toNat = mid + m - 1 - c:=by omega
   have hcc:=hFc (D.getD (mid + m - 1 - c) default) (D.getD c default)
   unfold argSC at hcc
   simp -dsimp (maxSteps:=4000000) +contextual (disch:=first | omega | decide +kernel) only [↓vsD,vsE,↓Nat.reduceLT,simprocAttr,hv2]
   refine v_draws _ _ _ _ _ _ [11] [] [(0,0),(0,0),(0,0),(0,0),(0,0),(0,0),(0,0),(0,0),(0,0),(0,0),(0,0),(0,0),(1,1),(1,1)] (by decide +kernel) (by decide +kernel) (by decide +kernel) (by decide +kernel) ?_
   simp -dsimp (maxSteps:=4000000) +contextual (disch:=first | omega | decide +kernel) only [↓vsD,vsE,↓Nat.reduceLT,simprocAttr,vdA,↓vd_end,↓vdm_go,↓vd_op,↓guard_none,↓guard_some,hat,hF0,encE_length,encE_getD,e1]
   refine ⟨_,_,hcc _,by simp -dsimp (maxSteps:=4000000) +contextual (disch:=first | omega | decide +kernel) only [↓vsD,vsE,↓Nat.reduceLT,simprocAttr,vdA,↓vd_end,↓vdm_go,↓vd_op,↓guard_none,↓guard_some,hat,encE_length,encE_getD,e1],?_⟩
   simp -dsimp (maxSteps:=4000000) +contextual (disch:=first | omega | decide +kernel) only [↓vsD,vsE,↓Nat.reduceLT,simprocAttr,vdA,↓vd_end,↓vdm_go,↓vd_op,↓guard_none,↓guard_some,hat,hF0,encE_length,encE_getD,e1]
   refine ⟨fun hn=>?_,fun hn=>?_⟩
   ·have hn2:=(hcf _ _).1 hn
    exact ⟨(s,c),(by (try dsimp only); omega),(by simp [weaker,Go.PV.look]),rfl,h1,by dsimp only; omega,by dsimp only; omega,h4,.inr hn2⟩
   ·have hn2:lt (D.getD (mid + m - 1 - c) default) (D.getD c default) = false:=by
     cases hq:lt (D.getD (mid + m - 1 - c) default) (D.getD c default) with
     | false=>rfl
     | true=>exact absurd ((hcf _ _).2 hq) hn
    exact ⟨(c + 1,r),(by (try dsimp only); omega),by simp [weaker,Go.PV.look],rfl,by dsimp only; omega,by dsimp only; omega,h3,.inr (by dsimp only; rw [show mid + m - (c + 1) = mid + m - 1 - c by omega]; exact hn2),h5⟩
  ·obtain rfl:r = s:=by omega
   obtain ⟨e,he⟩:∃ e,e = mid + m - r:=⟨_,rfl⟩
   obtain ⟨D2,G2,p1,p2,p3,d1,d2,d3⟩:=symPC o v σ hol hw A X Y B a m b mid r e ha hm hb (by omega) ⟨by omega,by omega,by omega,by omega⟩ ⟨by omega,by omega⟩ hX hY hl0
    (fun q1 q2=>by
     rw [← hD,he]
     exact h4.resolve_left (fun h=>by omega))
    (fun q1 q2=>by
     rw [← hD,he,show mid + m - r - 1 = mid + m - 1 - r by omega]
     exact h5.resolve_left (fun h=>by omega))
    (fun A' X' Y' B' h=>ih (X'.length + Y'.length) (by omega) A' X' Y' B' rfl)
   rw [← hD] at p1 d1
   have ee:((e:Nat):Int) = ((mid + m:Nat):Int) - (r:Int):=by omega
   rw [ee] at p1 p3
   have hre:(r:Int) + e = (mid:Int) + m:=by omega
   clear ih hFc hcf h4 h5 hv gX gY hX hY b1 b2 b3 hl0
   by_cases q1:r < m <;> by_cases q2:m < e <;> by_cases q3:a < r <;> by_cases q4:e < b
   all_goals try (exfalso; omega)
   all_goals
    first | rw [d1 (by omega)] | (simp -dsimp (maxSteps:=4000000) +contextual (disch:=first | omega | decide +kernel) only [↓vsD,vsE,↓Nat.reduceLT,simprocAttr,k0,k1]; refine PCall.mono (p1 (by omega) (by omega)) ?_; rintro p τ ⟨rfl,rfl⟩)
    first | rw [d2 (by omega)] | (simp -dsimp (maxSteps:=4000000) +contextual (disch:=first | omega | decide +kernel) only [↓vsD,vsE,↓Nat.reduceLT,simprocAttr,k0,k1]; refine PCall.mono (p2 (by omega) (by omega)) ?_; rintro p τ ⟨rfl,rfl⟩)
    first | rw [d3 (by omega)] | (simp -dsimp (maxSteps:=4000000) +contextual (disch:=first | omega | decide +kernel) only [↓vsD,vsE,↓Nat.reduceLT,simprocAttr,k0,k1]; refine PCall.mono (p3 (by omega) (by omega)) ?_; rintro p τ ⟨rfl,rfl⟩)
    simp -dsimp (maxSteps:=4000000) +contextual (disch:=first | omega | decide +kernel) only [↓vsD,vsE,↓Nat.reduceLT,simprocAttr,k0,k1]
end
end Go.Proofs.Ytangodmcbmeeaaa
