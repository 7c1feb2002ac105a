import Derived.Test.YtangodmcbmeeaaaSwA
set_option maxRecDepth 8000
set_option linter.unusedSimpArgs false
set_option linter.unusedVariables false
namespace Go.Proofs.Ytangodmcbmeeaaa
open Go.PV
theorem halfSW (x y h:Nat) (hx:x + y ≤ 2000000) (h1:2 * h ≤ x + y) (h2:x + y ≤ 2 * h + 1):IntKind.i64.wrap ((IntKind.u64.wrap ((x:Int) + (y:Int))).fdiv (2 ^ min 1 IntKind.u64.bits)) = (h:Int):=by
 have e1:IntKind.u64.wrap ((x:Int) + (y:Int)) = (x:Int) + y:=by simp [IntKind.wrap,IntKind.bits,IntKind.signed]; omega
 rw [e1,show (2:Int) ^ min 1 IntKind.u64.bits = 2 by decide,Int.fdiv_eq_ediv_of_nonneg _ (by omega),show ((x:Int) + y) / 2 = h by omega]
 simp [IntKind.wrap,IntKind.bits,IntKind.signed]; omega
section
variable (o v:Nat) (σ:Store)
set_option maxHeartbeats 16000000 in
theorem symLW (hol:o < σ.length) {F:FuncId} {caps:List PV} {lt:Way → Way → Bool} (hw:Weak lt) (hF:CmpSW o v σ F caps lt) (A:List Way) (x:Way) (Y B:List Way) (hY0:0 < Y.length) (hY:SortedL lt Y) (hl:(A ++ ([x] ++ (Y ++ B))).length ≤ 1000000) :
  PCall Try.prog 107 [.msl o v,.int .i64 (A.length:Int),.int .i64 ((A.length + 1:Nat):Int),.int .i64 ((A.length + 1 + Y.length:Nat):Int),.func (.func F) [] caps] (stSW o v σ (A ++ ([x] ++ (Y ++ B)))) (fun p τ=>p = .tup [] ∧ τ = stSW o v σ (A ++ (mrg lt [x] Y ++ B))):=by
 obtain ⟨hF0,cf,hcf,hF⟩:=hF
 have hat:=stS_atW o v σ hol
 rw [List.length_append,List.length_append,List.length_append] at hl
 obtain ⟨a,ha⟩:∃ a,a = A.length:=⟨_,rfl⟩
 obtain ⟨D,hD⟩:∃ D,D = A ++ ([x] ++ (Y ++ B)):=⟨_,rfl⟩
 have hDl:D.length = a + 1 + Y.length + B.length:=by
  rw [hD,ha]; simp only [List.length_append,List.length_singleton]; omega
 have gx:D.getD a default = x:=by rw [hD,ha]; simp [List.getD_eq_getElem?_getD]
 have gY:∀ j (h:j < Y.length),D.getD (a + 1 + j) default = Y[j]:=fun j h=>by
  rw [hD,ha,List.getD_eq_getElem?_getD,List.getElem?_append_right (by omega),List.getElem?_append_right (by simp; omega),List.getElem?_append_left (by simp; omega)]
  simp [show A.length + 1 + j - A.length - 1 = j by omega,h]
 rw [← hD,← ha]
 simp only [List.length_singleton] at hl
 refine PCall.vraw [] 13164839976634628298295110780136696778032692856359452003713155071 220 [] (noE_ok _) mix Try.func107 rfl (by decide) rfl rfl (by simp) ?_
 simp -dsimp only [initFr,List.zipIdx_cons,List.zipIdx_nil,List.map_cons,List.map_nil,Nat.zero_add,Nat.reduceAdd]
 simp -dsimp (maxSteps:=4000000) +contextual (disch:=first | omega | decide +kernel) only [↓vsD,vsE,↓Nat.reduceLT,simprocAttr]
 refine v_loopS (fun s:Nat × Nat=>[(0,.msl o v),(1,.int .i64 (a:Int)),(4,.func (.func F) [] caps),(10,.int .i64 ((a + 1 + s.1:Nat):Int)),(11,.int .i64 ((a + 1 + s.2:Nat):Int))]) (fun s=>stSW o v σ D) (fun s=>s.1 ≤ s.2 ∧ s.2 ≤ Y.length ∧ (∀ p:0 < s.1,lt (D.getD (a + 1 + (s.1 - 1)) default) x = true) ∧ (∀ q:s.2 < Y.length,lt (D.getD (a + 1 + s.2) default) x = false)) (fun s=>s.2 - s.1) (0,Y.length) (by simp [weaker,Go.PV.look]) rfl ⟨Nat.zero_le _,Nat.le_refl _,fun p=>absurd p (Nat.lt_irrefl 0),fun q=>absurd q (Nat.lt_irrefl _)⟩ ?_
 rintro ⟨i,j⟩ ⟨hij,hj,h1,h2⟩
 dsimp only at hij hj h1 h2 ⊢
 by_cases hlt:i < j
 ·obtain ⟨h,hh⟩:∃ h,h = (i + j) / 2:=⟨_,rfl⟩
  have e1:((a + 1 + h:Nat):Int).toNat = a + 1 + h:=by omega
  have hc:=hF (D.getD (a + 1 + h) default) (D.getD a default)
  have hv:=halfSW (a + 1 + i) (a + 1 + j) (a + 1 + h) (by omega) (by omega) (by omega)
  unfold argSW at hc
  simp -dsimp (maxSteps:=4000000) +contextual (disch:=first | omega | decide +kernel) only [↓vsD,vsE,↓Nat.reduceLT,simprocAttr,hv]
  refine v_draws _ _ _ _ _ _ [9] [] [(0,0),(0,0),(0,0),(0,0),(0,0),(0,0),(0,0),(0,0),(0,0),(0,0),(1,1)] (by decide +kernel) (by decide +kernel) (by decide +kernel) (by decide +kernel) ?_
  simp -dsimp (maxSteps:=4000000) +contextual (disch:=first | omega | decide +kernel) only [↓vsD,vsE,↓Nat.reduceLT,simprocAttr,vdA,↓vd_end,↓vdm_go,↓vd_op,↓guard_none,↓guard_some,hat,hF0,encW_length,encW_getD,e1]
  refine ⟨_,_,hc _,by simp -dsimp (maxSteps:=4000000) +contextual (disch:=first | omega | decide +kernel) only [↓vsD,vsE,↓Nat.reduceLT,simprocAttr,vdA,↓vd_end,↓vdm_go,↓vd_op,↓guard_none,↓guard_some,hat,encW_length,encW_getD,e1],?_⟩
  simp -dsimp (maxSteps:=4000000) +contextual (disch:=first | omega | decide +kernel) only [↓vsD,vsE,↓Nat.reduceLT,simprocAttr,vdA,↓vd_end,↓vdm_go,↓vd_op,↓guard_none,↓guard_some,hat,hF0,encW_length,encW_getD,e1]
  refine ⟨fun hn=>?_,fun hn=>?_⟩
  ·have hn2:=(hcf _ _).1 hn
   rw [gx] at hn2
   exact ⟨(h + 1,j),(by (try dsimp only); omega),by simp [weaker,Go.PV.look]; omega,rfl,by dsimp only; omega,hj,fun _=>hn2,h2⟩
  ·have hn2:lt (D.getD (a + 1 + h) default) x = false:=by
    cases hq:lt (D.getD (a + 1 + h) default) x with
    | false=>rfl
    | true=>exact absurd ((hcf _ _).2 (by rw [gx]; exact hq)) hn
   exact ⟨(i,h),(by (try dsimp only); omega),(by simp [weaker,Go.PV.look]),rfl,by dsimp only; omega,by dsimp only; omega,h1,fun _=>hn2⟩
 ·obtain rfl:j = i:=by omega
  have hfin:=mrg_oneL hw (x:=x) hY j hj (fun q=>by rw [← gY j q]; exact h2 q) (fun p=>by rw [← gY (j - 1) (by omega)]; exact h1 p)
  have hD0:D = A ++ (Y.take 0 ++ x :: (Y.drop 0 ++ B)):=hD
  simp -dsimp (maxSteps:=4000000) +contextual (disch:=first | omega | decide +kernel) only [↓vsD,vsE,↓Nat.reduceLT,simprocAttr]
  refine v_loopS (fun k:Nat=>[(0,.msl o v),(10,.int .i64 ((a + 1 + j:Nat):Int)),(13,.int .i64 ((a + k:Nat):Int))]) (fun k=>stSW o v σ (A ++ (Y.take k ++ x :: (Y.drop k ++ B)))) (fun k=>k ≤ j) (fun k=>j - k) 0 (by simp [weaker,Go.PV.look]) (by rw [hD0]) (Nat.zero_le _) ?_
  intro k hk
  obtain ⟨M,hM⟩:∃ M,M = A ++ (Y.take k ++ x :: (Y.drop k ++ B)):=⟨_,rfl⟩
  rw [← hM]
  have hMl:M.length = D.length:=by
   rw [hM,hDl,ha]; simp only [List.length_append,List.length_cons,List.length_take,List.length_drop]; omega
  by_cases hkj:k < j
  ·have hsw:sw2 M (a + k) (a + k + 1) = A ++ (Y.take (k + 1) ++ x :: (Y.drop (k + 1) ++ B)):=by
    have e:=sw2_at (A ++ Y.take k) [] (Y.drop (k + 1) ++ B) x (Y[k]'(by omega))
    have el:(A ++ Y.take k).length = a + k:=by rw [List.length_append,List.length_take,ha]; omega
    rw [el] at e
    rw [hM,List.drop_eq_getElem_cons (show k < Y.length by omega),List.take_add_one,List.getElem?_eq_getElem (show k < Y.length by omega)]
    simp only [List.nil_append,List.length_nil,Nat.add_zero,List.append_assoc,List.cons_append,Option.toList_some] at e ⊢
    exact e
   have e1:((a + k:Nat):Int).toNat = a + k:=by omega
   have e2:(((a + k:Nat):Int) + 1).toNat = a + k + 1:=by omega
   have hgs:∀ (x:Way) (k i:Nat),i < M.length → (encW (M.set k x)).getD i [] = [.int .i64 (((M.set k x).getD i default).fr:Int),.int .i64 (((M.set k x).getD i default).to:Int),.int .i64 ((M.set k x).getD i default).cnt]:=fun x k i h=>encW_getD _ _ (by simpa using h)
   simp -dsimp (maxSteps:=4000000) +contextual (disch:=first | omega | decide +kernel) only [↓vsD,vsE,↓Nat.reduceLT,simprocAttr]
   refine v_draws _ _ _ _ _ _ [15,17] [] [(0,0),(0,0),(0,1),(0,1),(0,1),(0,0),(0,0),(0,0),(0,0),(0,0),(0,0),(0,0),(0,0),(0,0),(0,0),(0,0),(1,1),(0,0)] (by decide +kernel) (by decide +kernel) (by decide +kernel) (by decide +kernel) ?_
   simp -dsimp (maxSteps:=4000000) +contextual (disch:=first | omega | decide +kernel) only [↓vsD,vsE,↓Nat.reduceLT,simprocAttr,vdA,↓vd_end,↓vdm_go,↓vd_op,↓guard_none,↓guard_some,hat,stS_setW,encW_length,encW_getD,e1,e2,encW_set,List.set_set,List.length_set,hgs]
   exact ⟨k + 1,(by (try dsimp only); omega),by simp [weaker,Go.PV.look]; omega,show stSW o v σ (sw2 M (a + k) (a + k + 1)) = _ by rw [hsw],hkj⟩
  ·obtain rfl:k = j:=by omega
   simp -dsimp (maxSteps:=4000000) +contextual (disch:=first | omega | decide +kernel) only [↓vsD,vsE,↓Nat.reduceLT,simprocAttr]
   rw [hM,hfin]
   simp
set_option maxHeartbeats 16000000 in
theorem symRW (hol:o < σ.length) {F:FuncId} {caps:List PV} {lt:Way → Way → Bool} (hw:Weak lt) (hF:CmpSW o v σ F caps lt) (A:List Way) (X:List Way) (y:Way) (B:List Way) (hX2:2 ≤ X.length) (hX:SortedL lt X) (hl:(A ++ (X ++ ([y] ++ B))).length ≤ 1000000) :
  PCall Try.prog 107 [.msl o v,.int .i64 (A.length:Int),.int .i64 ((A.length + X.length:Nat):Int),.int .i64 ((A.length + X.length + 1:Nat):Int),.func (.func F) [] caps] (stSW o v σ (A ++ (X ++ ([y] ++ B)))) (fun p τ=>p = .tup [] ∧ τ = stSW o v σ (A ++ (mrg lt X [y] ++ B))):=by
 obtain ⟨hF0,cf,hcf,hF⟩:=hF
 have hat:=stS_atW o v σ hol
 rw [List.length_append,List.length_append,List.length_append] at hl
 obtain ⟨a,ha⟩:∃ a,a = A.length:=⟨_,rfl⟩
 obtain ⟨D,hD⟩:∃ D,D = A ++ (X ++ ([y] ++ B)):=⟨_,rfl⟩
 have hDl:D.length = a + X.length + 1 + B.length:=by
  rw [hD,ha]; simp only [List.length_append,List.length_singleton]; omega
 have gy:D.getD (a + X.length) default = y:=by
  rw [hD,ha,List.getD_eq_getElem?_getD,List.getElem?_append_right (by omega),List.getElem?_append_right (by omega)]
  simp [show A.length + X.length - A.length - X.length = 0 by omega]
 have gX:∀ j (h:j < X.length),D.getD (a + j) default = X[j]:=fun j h=>by
  rw [hD,ha,List.getD_eq_getElem?_getD,List.getElem?_append_right (by omega),List.getElem?_append_left (by omega)]
  simp [show A.length + j - A.length = j by omega,h]
 rw [← hD,← ha]
 simp only [List.length_singleton] at hl
 refine PCall.vraw [] 13164839976634628298295110780136696778032692856359452003713155071 220 [] (noE_ok _) mix Try.func107 rfl (by decide) rfl rfl (by simp) ?_
 simp -dsimp only [initFr,List.zipIdx_cons,List.zipIdx_nil,List.map_cons,List.map_nil,Nat.zero_add,Nat.reduceAdd]
 simp -dsimp (maxSteps:=4000000) +contextual (disch:=first | omega | decide +kernel) only [↓vsD,vsE,↓Nat.reduceLT,simprocAttr]
 refine v_loopS (fun s:Nat × Nat=>[(0,.msl o v),(2,.int .i64 ((a + X.length:Nat):Int)),(4,.func (.func F) [] caps),(14,.int .i64 ((a + s.1:Nat):Int)),(15,.int .i64 ((a + s.2:Nat):Int))]) (fun s=>stSW o v σ D) (fun s=>s.1 ≤ s.2 ∧ s.2 ≤ X.length ∧ (∀ p:0 < s.1,lt y (D.getD (a + (s.1 - 1)) default) = false) ∧ (∀ q:s.2 < X.length,lt y (D.getD (a + s.2) default) = true)) (fun s=>s.2 - s.1) (0,X.length) (by simp [weaker,Go.PV.look]) rfl ⟨Nat.zero_le _,Nat.le_refl _,fun p=>absurd p (Nat.lt_irrefl 0),fun q=>absurd q (Nat.lt_irrefl _)⟩ ?_
 rintro ⟨i,j⟩ ⟨hij,hj,h1,h2⟩
 dsimp only at hij hj h1 h2 ⊢
 by_cases hlt:i < j
 ·obtain ⟨h,hh⟩:∃ h,h = (i + j) / 2:=⟨_,rfl⟩
  have e1:((a + h:Nat):Int).toNat = a + h:=by omega
  have e2:((a + X.length:Nat):Int).toNat = a + X.length:=by omega
  have hc:=hF (D.getD (a + X.length) default) (D.getD (a + h) default)
  have hv:=halfSW (a + i) (a + j) (a + h) (by omega) (by omega) (by omega)
  unfold argSW at hc
  simp -dsimp (maxSteps:=4000000) +contextual (disch:=first | omega | decide +kernel) only [↓vsD,vsE,↓Nat.reduceLT,simprocAttr,hv]
  refine v_draws _ _ _ _ _ _ [9] [] [(0,0),(0,0),(0,0),(0,0),(0,0),(0,0),(0,0),(0,0),(0,0),(0,0),(1,1),(1,1)] (by decide +kernel) (by decide +kernel) (by decide +kernel) (by decide +kernel) ?_
  simp -dsimp (maxSteps:=4000000) +contextual (disch:=first | omega | decide +kernel) only [↓vsD,vsE,↓Nat.reduceLT,simprocAttr,vdA,↓vd_end,↓vdm_go,↓vd_op,↓guard_none,↓guard_some,hat,hF0,encW_length,encW_getD,e1,e2]
  refine ⟨_,_,hc _,by simp -dsimp (maxSteps:=4000000) +contextual (disch:=first | omega | decide +kernel) only [↓vsD,vsE,↓Nat.reduceLT,simprocAttr,vdA,↓vd_end,↓vdm_go,↓vd_op,↓guard_none,↓guard_some,hat,encW_length,encW_getD,e1,e2],?_⟩
  simp -dsimp (maxSteps:=4000000) +contextual (disch:=first | omega | decide +kernel) only [↓vsD,vsE,↓Nat.reduceLT,simprocAttr,vdA,↓vd_end,↓vdm_go,↓vd_op,↓guard_none,↓guard_some,hat,hF0,encW_length,encW_getD,e1,e2]
  refine ⟨fun hn=>?_,fun hn=>?_⟩
  ·have hn2:=(hcf _ _).1 hn
   rw [gy] at hn2
   exact ⟨(i,h),(by (try dsimp only); omega),(by simp [weaker,Go.PV.look]),rfl,by dsimp only; omega,by dsimp only; omega,h1,fun _=>hn2⟩
  ·have hn2:lt y (D.getD (a + h) default) = false:=by
    cases hq:lt y (D.getD (a + h) default) with
    | false=>rfl
    | true=>exact absurd ((hcf _ _).2 (by rw [gy]; exact hq)) hn
   exact ⟨(h + 1,j),(by (try dsimp only); omega),by simp [weaker,Go.PV.look]; omega,rfl,by dsimp only; omega,hj,fun _=>hn2,h2⟩
 ·obtain rfl:j = i:=by omega
  have hfin:=mrg_oneR hw (y:=y) hX j hj (fun p=>by rw [← gX (j - 1) (by omega)]; exact h1 p) (fun q=>by rw [← gX j q]; exact h2 q)
  have hD0:D = A ++ (X.take X.length ++ y :: (X.drop X.length ++ B)):=by rw [hD]; simp
  simp -dsimp (maxSteps:=4000000) +contextual (disch:=first | omega | decide +kernel) only [↓vsD,vsE,↓Nat.reduceLT,simprocAttr]
  refine v_loopS (fun k:Nat=>[(0,.msl o v),(14,.int .i64 ((a + j:Nat):Int)),(17,.int .i64 ((a + k:Nat):Int))]) (fun k=>stSW o v σ (A ++ (X.take k ++ y :: (X.drop k ++ B)))) (fun k=>j ≤ k ∧ k ≤ X.length) (fun k=>k - j) X.length (by simp [weaker,Go.PV.look]) (by rw [hD0]) ⟨hj,Nat.le_refl _⟩ ?_
  rintro k ⟨hk,hk2⟩
  obtain ⟨M,hM⟩:∃ M,M = A ++ (X.take k ++ y :: (X.drop k ++ B)):=⟨_,rfl⟩
  rw [← hM]
  have hMl:M.length = D.length:=by
   rw [hM,hDl,ha]; simp only [List.length_append,List.length_cons,List.length_take,List.length_drop]; omega
  by_cases hkj:j < k
  ·obtain ⟨q,rfl⟩:∃ q,k = q + 1:=⟨k - 1,by omega⟩
   have hsw:sw2 M (a + q + 1) (a + q) = A ++ (X.take q ++ y :: (X.drop q ++ B)):=by
    have e:=sw2_at (A ++ X.take q) [] (X.drop (q + 1) ++ B) (X[q]'(by omega)) y
    have el:(A ++ X.take q).length = a + q:=by rw [List.length_append,List.length_take,ha]; omega
    rw [el] at e
    rw [sw2_comm _ _ _ (by omega),hM,List.drop_eq_getElem_cons (show q < X.length by omega),List.take_add_one,List.getElem?_eq_getElem (show q < X.length by omega)]
    simp only [List.nil_append,List.length_nil,Nat.add_zero,List.append_assoc,List.cons_append,Option.toList_some] at e ⊢
    exact e
   have e1:((a + (q + 1):Nat):Int).toNat = a + q + 1:=by omega
   have e2:(((a + (q + 1):Nat):Int) - 1).toNat = a + q:=by omega
   have hgs:∀ (x:Way) (k i:Nat),i < M.length → (encW (M.set k x)).getD i [] = [.int .i64 (((M.set k x).getD i default).fr:Int),.int .i64 (((M.set k x).getD i default).to:Int),.int .i64 ((M.set k x).getD i default).cnt]:=fun x k i h=>encW_getD _ _ (by simpa using h)
   simp -dsimp (maxSteps:=4000000) +contextual (disch:=first | omega | decide +kernel) only [↓vsD,vsE,↓Nat.reduceLT,simprocAttr]
   refine v_draws _ _ _ _ _ _ [15,17] [] [(0,0),(0,0),(0,1),(0,1),(0,1),(0,0),(0,0),(0,0),(0,0),(0,0),(0,0),(0,0),(0,0),(0,0),(0,0),(0,0),(1,1),(0,0)] (by decide +kernel) (by decide +kernel) (by decide +kernel) (by decide +kernel) ?_
   simp -dsimp (maxSteps:=4000000) +contextual (disch:=first | omega | decide +kernel) only [↓vsD,vsE,↓Nat.reduceLT,simprocAttr,vdA,↓vd_end,↓vdm_go,↓vd_op,↓guard_none,↓guard_some,hat,stS_setW,encW_length,encW_getD,e1,e2,encW_set,List.set_set,List.length_set,hgs]
   exact ⟨q,(by (try dsimp only); omega),by simp [weaker,Go.PV.look]; omega,show stSW o v σ (sw2 M (a + q + 1) (a + q)) = _ by rw [hsw],by omega,by omega⟩
  ·obtain rfl:k = j:=by omega
   simp -dsimp (maxSteps:=4000000) +contextual (disch:=first | omega | decide +kernel) only [↓vsD,vsE,↓Nat.reduceLT,simprocAttr]
   rw [hM,hfin]
   simp
end
end Go.Proofs.Ytangodmcbmeeaaa
