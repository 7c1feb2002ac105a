import Derived.Test.YtangodmcbmeeaaaBoA
import Derived.Test.YtangodmcbmeeaaaSmQ
set_option maxRecDepth 8000
set_option linter.unusedSimpArgs false
set_option linter.unusedVariables false
namespace Go.Proofs.Ytangodmcbmeeaaa
open Go.PV
def argSW (x:Way):PV:=.agg [.int .i64 (x.fr:Int),.int .i64 (x.to:Int),.int .i64 x.cnt]
theorem encW_set (l:List Way) (i:Nat) (a b:Nat) (c:Int):(encW l).set i [.int .i64 (a:Int),.int .i64 (b:Int),.int .i64 c] = encW (l.set i ⟨a,b,c⟩):=by simp [encW,Way.row,List.map_set]
theorem bytesSW (a:Nat) (h:a ≤ 1099511627776):(a ≤ maxBytes) = True:=eq_true (by unfold maxBytes; omega)
section
variable (o v:Nat) (σ:Store)
def stSW (D:List Way):Store:=σ.set o (.rows 88 3 (encW D) v)
def CmpSW (F:FuncId) (caps:List PV) (lt:Way → Way → Bool):Prop:=(∀ args σ,noE.f F args σ = none) ∧ ∃ cf:Way → Way → Int,(∀ a b,cf a b < 0 ↔ lt a b = true) ∧ ∀ a b D,PCall Try.prog F (argSW a :: argSW b :: caps) (stSW o v σ D) (fun p τ=>p = .int .i64 (cf a b) ∧ τ = stSW o v σ D)
theorem stS_atW (hol:o < σ.length) (D:List Way):(stSW o v σ D)[o]? = some (.rows 88 3 (encW D) v):=List.getElem?_set_self hol
theorem stS_setW (D D2:List Way):(stSW o v σ D).set o (.rows 88 3 (encW D2) v) = stSW o v σ D2:=by unfold stSW; rw [List.set_set]
set_option maxHeartbeats 8000000 in
theorem swapRSW (hol:o < σ.length) (F:PV):∀ (D:List Way) (a b n:Nat),D.length ≤ 1000000 → a + n ≤ D.length → b + n ≤ D.length → PCall Try.prog 142 [.msl o v,.int .i64 (a:Int),.int .i64 (b:Int),.int .i64 (n:Int),F] (stSW o v σ D) (fun p τ=>p = .tup [] ∧ τ = stSW o v σ (swR D a b n)):=by
 intro D a b n hl ha hb
 have hat:=stS_atW o v σ hol
 refine PCall.vraw [] 10239 38 [] (noE_ok _) mix Try.func142 rfl (by decide) rfl rfl (by simp) ?_
 simp -dsimp only [initFr,List.zipIdx_cons,List.zipIdx_nil,List.map_cons,List.map_nil,Nat.zero_add,Nat.reduceAdd]
 simp -dsimp (maxSteps:=4000000) +contextual (disch:=first | omega | decide +kernel) only [↓vsD,vsE,↓Nat.reduceLT,simprocAttr]
 refine v_loopS (fun s:Nat × List Way=>[(0,.msl o v),(1,.int .i64 (a:Int)),(2,.int .i64 (b:Int)),(3,.int .i64 (n:Int)),(10,.int .i64 (s.1:Int))]) (fun s=>stSW o v σ s.2) (fun s=>s.1 ≤ n ∧ s.2.length = D.length ∧ swR s.2 (a + s.1) (b + s.1) (n - s.1) = swR D a b n) (fun s=>n - s.1) (0,D) (by simp [weaker,Go.PV.look]) rfl ⟨Nat.zero_le _,rfl,rfl⟩ ?_
 rintro ⟨i,M⟩ ⟨hi,hM,hS⟩
 dsimp only at hi hM hS ⊢
 by_cases hin:i < n
 ·have e1:(((a:Int) + (i:Int))).toNat = a + i:=by omega
  have e2:(((b:Int) + (i:Int))).toNat = b + i:=by omega
  have hgs:∀ (x:Way) (k i:Nat),i < M.length → (encW (M.set k x)).getD i [] = [.int .i64 (((M.set k x).getD i default).fr:Int),.int .i64 (((M.set k x).getD i default).to:Int),.int .i64 ((M.set k x).getD i default).cnt]:=fun x k i h=>encW_getD _ _ (by simpa using h)
  simp -dsimp (maxSteps:=4000000) +contextual (disch:=first | omega | decide +kernel) only [↓vsD,vsE,↓Nat.reduceLT,simprocAttr]
  refine v_draws _ _ _ _ _ _ [21,23] [] [(0,0),(0,0),(0,0),(0,0),(0,1),(0,1),(0,1),(0,1),(0,0),(0,0),(0,0),(0,0),(0,0),(0,0),(0,0),(0,0),(0,0),(0,0),(0,0),(0,0),(0,0),(0,0),(1,1),(0,0)] (by decide +kernel) (by decide +kernel) (by decide +kernel) (by decide +kernel) ?_
  simp -dsimp (maxSteps:=4000000) +contextual (disch:=first | omega | decide +kernel) only [↓vsD,vsE,↓Nat.reduceLT,simprocAttr,vdA,↓vd_end,↓vdm_go,↓vd_op,↓guard_none,↓guard_some,hat,stS_setW,encW_length,encW_getD,e1,e2,encW_set,List.set_set,List.length_set,hgs]
  refine ⟨(i + 1,sw2 M (a + i) (b + i)),(by (try dsimp only); omega),(by simp [weaker,Go.PV.look]),rfl,hin,by rw [sw2_length]; exact hM,?_⟩
  dsimp only
  rw [← hS,show n - i = (n - (i + 1)) + 1 by omega]; rfl
 ·obtain rfl:i = n:=by omega
  rw [Nat.sub_self] at hS
  simp -dsimp (maxSteps:=4000000) +contextual (disch:=first | omega | decide +kernel) only [↓vsD,vsE,↓Nat.reduceLT,simprocAttr]
  rw [← hS]; rfl
set_option maxHeartbeats 8000000 in
theorem rotSW (hol:o < σ.length) (F:PV) (G D:List Way) (a m b:Nat) (hl:D.length ≤ 1000000) (ham:a < m) (hmb:m < b) (hb:b ≤ D.length) (hR:Rot G D (m - a) (b - m) m):PCall Try.prog 127 [.msl o v,.int .i64 (a:Int),.int .i64 (m:Int),.int .i64 (b:Int),F] (stSW o v σ D) (fun p τ=>p = .tup [] ∧ τ = stSW o v σ G):=by
 have hsw:=swapRSW o v σ hol F
 have hGl:=hR.len.1
 have k0:∀ args σ,noE.f 142 args σ = none:=fun _ _=>rfl
 refine PCall.vraw [] 9441279 58 [] (noE_ok _) mix Try.func127 rfl (by decide) rfl rfl (by simp) ?_
 simp -dsimp only [initFr,List.zipIdx_cons,List.zipIdx_nil,List.map_cons,List.map_nil,Nat.zero_add,Nat.reduceAdd]
 simp -dsimp (maxSteps:=4000000) +contextual (disch:=first | omega | decide +kernel) only [↓vsD,vsE,↓Nat.reduceLT,simprocAttr,k0]
 refine v_loopS (fun s:Nat × Nat × List Way=>[(0,.msl o v),(2,.int .i64 (m:Int)),(4,F),(10,.int .i64 (s.1:Int)),(11,.int .i64 (s.2.1:Int))]) (fun s=>stSW o v σ s.2.2) (fun s=>Rot G s.2.2 s.1 s.2.1 m) (fun s=>s.1 + s.2.1) (m - a,b - m,D) (by simp [weaker,Go.PV.look]; omega) rfl hR ?_
 rintro ⟨i,j,M⟩ hM
 dsimp only at hM ⊢
 obtain ⟨c1,c2,c3,c4,c5⟩:=hM.len
 by_cases hij:i = j
 ·subst hij
  have h:=hsw M (m - i) m i (by omega) (by omega) (by omega)
  rw [hM.eq,show (((m - i:Nat):Int)) = (m:Int) - i by omega] at h
  simp -dsimp (maxSteps:=4000000) +contextual (disch:=first | omega | decide +kernel) only [↓vsD,vsE,↓Nat.reduceLT,simprocAttr,k0]
  refine PCall.mono h ?_
  rintro p τ ⟨rfl,rfl⟩
  simp -dsimp (maxSteps:=4000000) +contextual (disch:=first | omega | decide +kernel) only [↓vsD,vsE,↓Nat.reduceLT,simprocAttr]
 ·by_cases hgt:j < i
  ·have h:=hsw M (m - i) m j (by omega) (by omega) (by omega)
   rw [show (((m - i:Nat):Int)) = (m:Int) - i by omega] at h
   simp -dsimp (maxSteps:=4000000) +contextual (disch:=first | omega | decide +kernel) only [↓vsD,vsE,↓Nat.reduceLT,simprocAttr,k0]
   refine PCall.mono h ?_
   rintro p τ ⟨rfl,rfl⟩
   simp -dsimp (maxSteps:=4000000) +contextual (disch:=first | omega | decide +kernel) only [↓vsD,vsE,↓Nat.reduceLT,simprocAttr]
   exact ⟨(i - j,j,_),(by (try dsimp only); omega),by simp [weaker,Go.PV.look]; omega,rfl,hM.gt hgt⟩
  ·have h:=hsw M (m - i) (m + j - i) i (by omega) (by omega) (by omega)
   rw [show (((m - i:Nat):Int)) = (m:Int) - i by omega,show (((m + j - i:Nat):Int)) = (m:Int) + j - i by omega] at h
   simp -dsimp (maxSteps:=4000000) +contextual (disch:=first | omega | decide +kernel) only [↓vsD,vsE,↓Nat.reduceLT,simprocAttr,k0]
   refine PCall.mono h ?_
   rintro p τ ⟨rfl,rfl⟩
   simp -dsimp (maxSteps:=4000000) +contextual (disch:=first | omega | decide +kernel) only [↓vsD,vsE,↓Nat.reduceLT,simprocAttr]
   exact ⟨(i,j - i,_),(by (try dsimp only); omega),by simp [weaker,Go.PV.look]; omega,rfl,hM.lt (by omega)⟩
set_option maxHeartbeats 16000000 in
theorem insASW (hol:o < σ.length) {F:FuncId} {caps:List PV} {lt:Way → Way → Bool} (hw:Weak lt) (hF:CmpSW o v σ F caps lt) (A X B:List Way) (hl:(A ++ (X ++ B)).length ≤ 1000000):PCall Try.prog 106 [.msl o v,.int .i64 (A.length:Int),.int .i64 ((A.length + X.length:Nat):Int),.func (.func F) [] caps] (stSW o v σ (A ++ (X ++ B))) (fun p τ=>p = .tup [] ∧ ∃ R,Stb lt X R ∧ τ = stSW o v σ (A ++ (R ++ B))):=by
 obtain ⟨hF0,cf,hcf,hF⟩:=hF
 have hat:=stS_atW o v σ hol
 rw [List.length_append,List.length_append] at hl
 obtain ⟨a,ha⟩:∃ a,a = A.length:=⟨_,rfl⟩
 obtain ⟨b,hb⟩:∃ b,b = A.length + X.length:=⟨_,rfl⟩
 rw [← hb,← ha]
 refine PCall.vraw [] 17179886591 53 [] (noE_ok _) mix Try.func106 rfl (by decide) rfl rfl (by simp) ?_
 simp -dsimp only [initFr,List.zipIdx_cons,List.zipIdx_nil,List.map_cons,List.map_nil,Nat.zero_add,Nat.reduceAdd]
 simp -dsimp (maxSteps:=4000000) +contextual (disch:=first | omega | decide +kernel) only [↓vsD,vsE,↓Nat.reduceLT,simprocAttr]
 refine v_loopS (fun s:Nat × List Way=>[(0,.msl o v),(1,.int .i64 (a:Int)),(2,.int .i64 (b:Int)),(3,.func (.func F) [] caps),(8,.int .i64 ((a + s.1:Nat):Int))]) (fun s=>stSW o v σ s.2) (fun s=>1 ≤ s.1 ∧ (s.1 ≤ X.length ∨ s.1 = 1) ∧ ∃ R,Stb lt (X.take s.1) R ∧ s.2 = A ++ (R ++ (X.drop s.1 ++ B))) (fun s=>X.length - s.1) (1,A ++ (X ++ B)) (by simp [weaker,Go.PV.look]) rfl ⟨Nat.le_refl _,.inr rfl,X.take 1,?_,?_⟩ ?_
 ·match X with
  | []=>exact .nil
  | x :: X=>exact .one x
 ·rw [← List.append_assoc (X.take 1),List.take_append_drop]
 rintro ⟨i,M⟩ ⟨hi,hi2,R,hR,hM⟩
 dsimp only at hi hi2 hM ⊢
 have hRl:=hR.len
 rw [List.length_take] at hRl
 by_cases hil:i < X.length
 ·obtain ⟨x,hx⟩:∃ x,x = X[i]:=⟨_,rfl⟩
  have hdr:X.drop i = x :: X.drop (i + 1):=by rw [List.drop_eq_getElem_cons hil,hx]
  have hfin:insA lt a i M = A ++ (mrg lt R [x] ++ (X.drop (i + 1) ++ B)):=by
   rw [hM,hdr,ha]
   exact insA_at hw i A R x _ (by omega) hR.s
  have hMl:M.length = a + X.length + B.length:=by
   rw [hM]
   simp only [List.length_append,List.length_drop]
   omega
  simp -dsimp (maxSteps:=4000000) +contextual (disch:=first | omega | decide +kernel) only [↓vsD,vsE,↓Nat.reduceLT,simprocAttr]
  refine v_loopS (fun s:Nat × List Way=>[(0,.msl o v),(1,.int .i64 (a:Int)),(2,.int .i64 (b:Int)),(3,.func (.func F) [] caps),(8,.int .i64 ((a + i:Nat):Int)),(9,.int .i64 ((a + s.1:Nat):Int))]) (fun s=>stSW o v σ s.2) (fun s=>s.1 ≤ i ∧ s.2.length = M.length ∧ insA lt a s.1 s.2 = insA lt a i M) (fun s=>s.1) (i,M) (by simp [weaker,Go.PV.look]) rfl ⟨Nat.le_refl _,rfl,rfl⟩ ?_
  rintro ⟨j,M2⟩ ⟨hj,hM2,hI⟩
  dsimp only at hj hM2 hI ⊢
  have hnext:∀ M3,M3 = insA lt a i M → 1 ≤ i + 1 ∧ (i + 1 ≤ X.length ∨ i + 1 = 1) ∧ ∃ R,Stb lt (X.take (i + 1)) R ∧ M3 = A ++ (R ++ (X.drop (i + 1) ++ B)):=fun M3 h3=>by
   refine ⟨by omega,.inl hil,mrg lt R [x],?_,by rw [h3,hfin]⟩
   rw [List.take_add_one,List.getElem?_eq_getElem hil,← hx]
   exact hR.mrg hw (.one x)
  cases j with
  | zero =>
   simp -dsimp (maxSteps:=4000000) +contextual (disch:=first | omega | decide +kernel) only [↓vsD,vsE,↓Nat.reduceLT,simprocAttr]
   refine v_draws _ _ _ _ _ _ [14] [] [(0,0),(0,0),(0,0),(0,0),(0,0),(0,0),(0,0),(0,0),(0,0),(0,0),(0,0),(0,0),(0,0),(0,0),(0,0),(1,1),(1,1)] (by decide +kernel) (by decide +kernel) (by decide +kernel) (by decide +kernel) ?_
   simp -dsimp (maxSteps:=4000000) +contextual (disch:=first | omega | decide +kernel) only [↓vsD,vsE,↓Nat.reduceLT,simprocAttr,vdA,↓vd_end,↓vdm_go,↓vd_op,↓guard_none,↓guard_some,hat,hF0]
   exact ⟨(i + 1,M2),(by (try dsimp only); omega),by simp [weaker,Go.PV.look]; omega,rfl,hnext M2 hI⟩
  | succ q =>
   have e1:((a + (q + 1):Nat):Int).toNat = a + q + 1:=by omega
   have e2:(((a + (q + 1):Nat):Int) - 1).toNat = a + q:=by omega
   have hc:=hF (M2.getD (a + q + 1) default) (M2.getD (a + q) default)
   unfold argSW at hc
   simp -dsimp (maxSteps:=4000000) +contextual (disch:=first | omega | decide +kernel) only [↓vsD,vsE,↓Nat.reduceLT,simprocAttr]
   refine v_draws _ _ _ _ _ _ [14] [] [(0,0),(0,0),(0,0),(0,0),(0,0),(0,0),(0,0),(0,0),(0,0),(0,0),(0,0),(0,0),(0,0),(0,0),(0,0),(1,1),(1,1)] (by decide +kernel) (by decide +kernel) (by decide +kernel) (by decide +kernel) ?_
   simp -dsimp (maxSteps:=4000000) +contextual (disch:=first | omega | decide +kernel) only [↓vsD,vsE,↓Nat.reduceLT,simprocAttr,vdA,↓vd_end,↓vdm_go,↓vd_op,↓guard_none,↓guard_some,hat,hF0,encW_length,encW_getD,e1,e2]
   refine ⟨_,_,hc _,by simp -dsimp (maxSteps:=4000000) +contextual (disch:=first | omega | decide +kernel) only [↓vsD,vsE,↓Nat.reduceLT,simprocAttr,vdA,↓vd_end,↓vdm_go,↓vd_op,↓guard_none,↓guard_some,hat,encW_length,encW_getD,e1,e2],?_⟩
   simp -dsimp (maxSteps:=4000000) +contextual (disch:=first | omega | decide +kernel) only [↓vsD,vsE,↓Nat.reduceLT,simprocAttr,vdA,↓vd_end,↓vdm_go,↓vd_op,↓guard_none,↓guard_some,hat,hF0,encW_length,encW_getD,e1,e2]
   rw [insA] at hI
   refine ⟨fun hn=>?_,fun hn=>?_⟩
   ·rw [if_pos ((hcf _ _).1 hn)] at hI
    refine v_draws _ _ _ _ _ _ [15,17] [] [(0,0),(0,0),(0,1),(0,1),(0,1),(0,0),(0,0),(0,0),(0,0),(0,0),(0,0),(0,0),(0,0),(0,0),(0,0),(0,0),(1,1),(0,0)] (by decide +kernel) (by decide +kernel) (by decide +kernel) (by decide +kernel) ?_
    have hgs:∀ (x:Way) (k i:Nat),i < M2.length → (encW (M2.set k x)).getD i [] = [.int .i64 (((M2.set k x).getD i default).fr:Int),.int .i64 (((M2.set k x).getD i default).to:Int),.int .i64 ((M2.set k x).getD i default).cnt]:=fun x k i h=>encW_getD _ _ (by simpa using h)
    simp -dsimp (maxSteps:=4000000) +contextual (disch:=first | omega | decide +kernel) only [↓vsD,vsE,↓Nat.reduceLT,simprocAttr,vdA,↓vd_end,↓vdm_go,↓vd_op,↓guard_none,↓guard_some,hat,stS_setW,encW_length,encW_getD,e1,e2,encW_set,List.set_set,List.length_set,hgs]
    exact ⟨(q,sw2 M2 (a + q + 1) (a + q)),(by (try dsimp only); omega),by simp [weaker,Go.PV.look]; omega,rfl,by dsimp only; omega,by rw [sw2_length]; exact hM2,hI⟩
   ·rw [if_neg (fun h=>hn ((hcf _ _).2 h))] at hI
    exact ⟨(i + 1,M2),(by (try dsimp only); omega),by simp [weaker,Go.PV.look]; omega,rfl,hnext M2 hI⟩
 ·simp -dsimp (maxSteps:=4000000) +contextual (disch:=first | omega | decide +kernel) only [↓vsD,vsE,↓Nat.reduceLT,simprocAttr]
  rw [List.take_of_length_le (by omega)] at hR
  refine ⟨R,hR,?_⟩
  rw [hM,List.drop_eq_nil_of_le (by omega)]; rfl
end
end Go.Proofs.Ytangodmcbmeeaaa
