import Derived.Test.YthjoehaglonjaaaSuK
import Derived.Test.YthjoehaglonjaaaSuL
set_option maxRecDepth 8000
set_option linter.unusedSimpArgs false
set_option linter.unusedVariables false
namespace Go.Proofs.Ythjoehaglonjaaa
open Go.PV
def setRel (p:Pc) (v:Int):Pc:=⟨(v,p.id.2.1,p.id.2.2),p.dig,p.fs⟩
def setF0 (p:Pc) (x:FC):Pc:=⟨p.id,p.dig,p.fs.set 0 x⟩
def oddS (l:List Int) (k:Nat) (S:StS):StS × Nat :=
 if (nxt l k 5).1 = 0 then (⟨S.ps ++ [(pieceF l (nxt l k 5).2).1],S.cs⟩,(pieceF l (nxt l k 5).2).2)
 else if (nxt l k 5).1 = 1 then (⟨S.ps,S.cs ++ [((nxt l (nxt l k 5).2 3).1,(nxt l (nxt l (nxt l k 5).2 3).2 2).1,(nxt l (nxt l (nxt l (nxt l k 5).2 3).2 2).2 2).1)]⟩,(nxt l (nxt l (nxt l (nxt l k 5).2 3).2 2).2 2).2)
 else if (nxt l k 5).1 = 2 then (if S.ps.length = 0 then (S,(nxt l k 5).2) else
  (⟨S.ps.set (nxt l (nxt l k 5).2 S.ps.length).1.toNat (setRel (S.ps.getD (nxt l (nxt l k 5).2 S.ps.length).1.toNat default) (intC l (nxt l (nxt l k 5).2 S.ps.length).2).1),S.cs⟩,(intC l (nxt l (nxt l k 5).2 S.ps.length).2).2))
 else if (nxt l k 5).1 = 3 then (if S.ps.length = 0 then (S,(nxt l k 5).2) else
  (⟨S.ps.set (nxt l (nxt l k 5).2 S.ps.length).1.toNat (setF0 (S.ps.getD (nxt l (nxt l k 5).2 S.ps.length).1.toNat default) (oddC l (nxt l (nxt l k 5).2 S.ps.length).2 ((S.ps.getD (nxt l (nxt l k 5).2 S.ps.length).1.toNat default).fs.getD 0 default)).1),S.cs⟩,
   (oddC l (nxt l (nxt l k 5).2 S.ps.length).2 ((S.ps.getD (nxt l (nxt l k 5).2 S.ps.length).1.toNat default).fs.getD 0 default)).2))
 else (S,(nxt l k 5).2)
theorem codes_onX {F:FuncId} {σ:Store} {K:PV → Store → Prop} (o:Nat) (l:List Int) (k k2:Nat) (ar:List PV) (v:PV) (h:PCall Try.prog F (.ptr 0 0 0 0 :: ar) [codes l k] (fun p τ=>p = v ∧ τ = [codes l k2])) (has:∀ p ∈ ar,Bel 0 p) (hv:Bel 0 v) (ho:σ[o]? = some (codes l k))
  (hK:K v (σ.set o (codes l k2))):PCall Try.prog F (.ptr o 0 0 0 :: ar) σ K:=by
 refine PCall.use_on [o] h (by simp) rfl (fun j o' hj=>?_) (fun X hX=>?_) (MvL.cons (.ptr 0 o 0 0 0 rfl) (mvl_keep has)) ?_
 ·match j with
  | 0=>simp at hj; rw [← hj]; exact ho
  | j + 1=>simp at hj
 ·rw [List.mem_singleton] at hX
  rw [hX]; exact codes_bel _ _ _
 ·rintro p σ2 ⟨rfl,rfl⟩
  refine ⟨hv,rfl,fun X hX=>?_,hK⟩
  rw [List.mem_singleton] at hX
  rw [hX]; exact codes_bel _ _ _
theorem frz_set {k:Nat} {Q:Store} {o v oF vF:Nat} {ps:List Pc} {i:Nat} (hi:i < ps.length) {p:Pc} {fs:List FC} (hk:k ≤ o) (hkF:k ≤ oF)
  (ho:Q[o]? = some (.rows 32 5 ((encP ps).set i [.int .i64 p.id.1,.int .i64 p.id.2.1,.int .i64 p.id.2.2,.int .u64 p.dig,.msl oF vF]) v)) (hF:Q[oF]? = some (.rows 66 4 (encF fs) vF)) :
  Frz k Q (.msl o v) (.sl (encP (ps.set i ⟨p.id,p.dig,fs⟩))):=by
 have e2:encP (ps.set i ⟨p.id,p.dig,fs⟩) = (encP ps).set i (Pc.row ⟨p.id,p.dig,fs⟩):=by simp [encP,List.map_set]
 have hil:i < (encP ps).length:=by rw [encP_length]; exact hi
 rw [e2]
 have key:∀ j row,((encP ps).set i [.int .i64 p.id.1,.int .i64 p.id.2.1,.int .i64 p.id.2.2,.int .u64 p.dig,.msl oF vF])[j]? = some row →
   (j = i ∧ row = [.int .i64 p.id.1,.int .i64 p.id.2.1,.int .i64 p.id.2.2,.int .u64 p.dig,.msl oF vF] ∧ ((encP ps).set i (Pc.row ⟨p.id,p.dig,fs⟩)).getD j [] = Pc.row ⟨p.id,p.dig,fs⟩) ∨ (row ∈ encP ps ∧ ((encP ps).set i (Pc.row ⟨p.id,p.dig,fs⟩)).getD j [] = row):=fun j row hr=>by
  by_cases e:j = i
  ·subst e
   rw [List.getElem?_set_self hil] at hr
   cases hr
   exact .inl ⟨rfl,rfl,by rw [List.getD_eq_getElem?_getD,List.getElem?_set_self hil]; rfl⟩
  ·rw [List.getElem?_set_ne (fun h=>e h.symm)] at hr
   exact .inr ⟨List.mem_of_getElem? hr,by rw [List.getD_eq_getElem?_getD,List.getElem?_set_ne (fun h=>e h.symm),hr]; rfl⟩
 refine .msl o v _ _ _ _ hk ho (by simp) (fun j row hr=>?_) (fun j row c q hr hq=>?_)
 ·rcases key j row hr with ⟨_,rfl,h⟩ | ⟨_,h⟩
  ·rw [h]; rfl
  ·rw [h]
 ·rcases key j row hr with ⟨_,rfl,h⟩ | ⟨hm,h⟩
  ·rw [h]
   match c,hq with
   | 0,hq=>simp at hq; subst hq; exact .keep _ (bel_int _ _ _)
   | 1,hq=>simp at hq; subst hq; exact .keep _ (bel_int _ _ _)
   | 2,hq=>simp at hq; subst hq; exact .keep _ (bel_int _ _ _)
   | 3,hq=>simp at hq; subst hq; exact .keep _ (bel_int _ _ _)
   | 4,hq=>simp at hq; subst hq; exact Frz.msl0 hkF hF (encF_bel _ _)
   | c + 5,hq=>simp at hq
  ·rw [h,List.getD_eq_getElem?_getD,hq]
   exact .keep _ (encP_bel k ps row hm q (List.mem_of_getElem? hq))
theorem encP_set (T:List Pc) (i:Nat) (p:Pc):(encP T).set i [.int .i64 p.id.1,.int .i64 p.id.2.1,.int .i64 p.id.2.2,.int .u64 p.dig,.sl (encF p.fs)] = encP (T.set i p):=by simp [encP,List.map_set,Pc.row]
theorem encF_set0 (fs:List FC) (x:FC):(encF fs).set 0 [.int .i64 x.ent,.sl (ints x.blocks),.sl (encT x.edges),.sl (encS x.sites)] = encF (fs.set 0 x):=by simp [encF,List.map_set,FC.row]
set_option maxHeartbeats 16000000 in
theorem odd_w (l:List Int) (k:Nat) (hl:okInts .u8 l) (hll:l.length < 2 ^ 40) (hk:k ≤ l.length) (S:StS) (hd:∀ p ∈ S.ps,DrP p) (hpl:S.ps.length ≤ 100) (hcl:S.cs.length ≤ 100) :
  PCall Try.prog 13 [.ptr 0 0 0 0,stV S] [codes l k] (fun q τ=>q = stV (oddS l k S).1 ∧ τ = [codes l (oddS l k S).2]):=by
 have k0:∀ args σ,ny.f 36 args σ = none:=fun _ _=>rfl
 have a0:=nxt_lt hl k 5 (by omega)
 have c0:=nxt_le hk 5
 obtain ⟨r,hr⟩:∃ r,r = nxt l k 5:=⟨_,rfl⟩
 rw [← hr] at a0 c0
 have eP:(encP S.ps).length = S.ps.length:=encP_length _
 have eD:(encD S.cs).length = S.cs.length:=encD_length _
 have nP:newsOk Try.prog 32 (encP S.ps) = true:=by
  show newsOk _ _ (List.map _ _) = true
  simp [newsOk,PV.cell,tyC,Pc.row]
 have nD:=newsD S.cs
 have hfin:∀ (T:StS) (k':Nat) (Q:Store) (A B:PV),oddS l k S = (T,k') → Frz 1 (codes l k' :: Q) A (.sl (encP T.ps)) → Frz 1 (codes l k' :: Q) B (.sl (encD T.cs)) →
   Go.PV.Fin [codes l k] (fun q τ=>q = .agg [.sl (encP (oddS l k S).1.ps),.sl (encD (oddS l k S).1.cs)] ∧ τ = [codes l (oddS l k S).2]) (.agg [A,B]) (codes l k' :: Q):=fun T k' Q A B hy hA hB=>by
  rw [hy]
  refine fin1 (p2:=.agg [.sl (encP T.ps),.sl (encD T.cs)]) (.agg _ _ rfl (fun i q hi=>?_)) (codes_bel _ _ _) ⟨rfl,rfl⟩
  match i,hi with
  | 0,hi=>simp at hi; subst hi; exact hA
  | 1,hi=>simp at hi; subst hi; exact hB
  | i + 2,hi=>simp at hi
 unfold stV
 refine PCall.vfrz [] 18735260323153707519 91 [.cell 4 26] ny_ok mix Try.func13 rfl (by decide) rfl rfl (by simp) ?_
 simp -dsimp only [initFr,List.zipIdx_cons,List.zipIdx_nil,List.map_cons,List.map_nil,Nat.zero_add,Nat.reduceAdd]
 by_cases hp0:S.ps = []
 ·have e0:encP S.ps = []:=by rw [hp0]; rfl
  by_cases hc0:S.cs = []
  ·have e1:encD S.cs = []:=by rw [hc0]; rfl
   rcases (show r.1 = 0 ∨ r.1 = 1 ∨ r.1 = 2 ∨ r.1 = 3 ∨ r.1 = 4 by omega) with h | h | h | h | h
   ·have hpk:=pieceF_ok hl c0
    have hO:oddS l k S = (⟨S.ps ++ [(pieceF l r.2).1],S.cs⟩,(pieceF l r.2).2):=by simp only [oddS,← hr,if_pos h]
    have hnp:=newsPc (pieceF l r.2).1
    have hrw:encP (S.ps ++ [(pieceF l r.2).1]) = encP S.ps ++ [(pieceF l r.2).1.row]:=by simp [encP]
    rw [Pc.row] at hnp
    simp -dsimp (maxSteps:=4000000) +contextual (disch:=first | omega | decide +kernel) only [↓vsD,vsE,↓Nat.reduceLT,simprocAttr,ny_next,exNextO_codes,ny_int,exDrawO_codes,ny_piece,intG,pcG,vcel,e0,e1]
    refine v_draws _ _ _ _ _ _ [2,5,7,9] [] [(0,0),(0,0),(0,0),(0,1),(0,1),(0,0),(1,2),(0,0),(3,3),(0,0)] (by decide +kernel) (by decide +kernel) (by decide +kernel) (by decide +kernel) ?_
    simp -dsimp (maxSteps:=4000000) +contextual (disch:=first | omega | decide +kernel) only [↓vsD,vsE,↓Nat.reduceLT,simprocAttr,ny_next,exNextO_codes,ny_int,exDrawO_codes,ny_piece,intG,pcG,vdA,↓vd_end,↓vdm_go,↓vd_op,↓guard_none,↓guard_some,vcel,e0,e1,hl,← hr,nP,nD,bytesK,lenK,eP,eD]
    refine v_draws _ _ _ _ _ _ [3,5,7] [] [(0,1),(0,1),(0,0),(0,0),(1,1),(0,0),(2,2),(0,0)] (by decide +kernel) (by decide +kernel) (by decide +kernel) (by decide +kernel) ?_
    simp -dsimp (maxSteps:=4000000) +contextual (disch:=first | omega | decide +kernel) only [↓vsD,vsE,↓Nat.reduceLT,simprocAttr,ny_next,exNextO_codes,ny_int,exDrawO_codes,ny_piece,intG,pcG,vdA,↓vd_end,↓vdm_go,↓vd_op,↓guard_none,↓guard_some,vcel,hl,hnp,bytesK,lenK,eP,eD,Pc.row]
    exact hfin _ _ _ _ _ hO (Frz.msl0 (elem:=32) (sz:=5) (by omega) (by rw [hrw,e0]; rfl) (encP_bel _ _)) (by rw [hc0]; exact .nils)
   ·have b1:=nxt_le c0 3
    obtain ⟨r1,hr1⟩:∃ r1,r1 = nxt l r.2 3:=⟨_,rfl⟩
    rw [← hr1] at b1
    have b2:=nxt_le b1 2
    obtain ⟨r2,hr2⟩:∃ r2,r2 = nxt l r1.2 2:=⟨_,rfl⟩
    rw [← hr2] at b2
    obtain ⟨r3,hr3⟩:∃ r3,r3 = nxt l r2.2 2:=⟨_,rfl⟩
    have hO:oddS l k S = (⟨S.ps,S.cs ++ [(r1.1,r2.1,r3.1)]⟩,r3.2):=by simp only [oddS,← hr,if_neg (show ¬ r.1 = 0 by omega),if_pos h,← hr1,← hr2,← hr3]
    have hnp:=newsD [(r1.1,r2.1,r3.1)]
    simp only [encD,List.map_cons,List.map_nil,idRow] at hnp
    have hrw:encD (S.cs ++ [(r1.1,r2.1,r3.1)]) = encD S.cs ++ [idRow (r1.1,r2.1,r3.1)]:=by simp [encD]
    simp -dsimp (maxSteps:=4000000) +contextual (disch:=first | omega | decide +kernel) only [↓vsD,vsE,↓Nat.reduceLT,simprocAttr,ny_next,exNextO_codes,ny_int,exDrawO_codes,ny_piece,intG,pcG,vcel,e0,e1]
    refine v_draws _ _ _ _ _ _ [2,5,7,9] [] [(0,0),(0,0),(0,0),(0,1),(0,1),(0,0),(1,2),(0,0),(3,3),(0,0)] (by decide +kernel) (by decide +kernel) (by decide +kernel) (by decide +kernel) ?_
    simp -dsimp (maxSteps:=4000000) +contextual (disch:=first | omega | decide +kernel) only [↓vsD,vsE,↓Nat.reduceLT,simprocAttr,ny_next,exNextO_codes,ny_int,exDrawO_codes,ny_piece,intG,pcG,vdA,↓vd_end,↓vdm_go,↓vd_op,↓guard_none,↓guard_some,vcel,e0,e1,hl,← hr,nP,nD,bytesK,lenK,eP,eD]
    refine v_draws _ _ _ _ _ _ [3,5,7,10,12] [] [(0,3),(0,3),(0,0),(0,0),(0,1),(0,0),(0,2),(0,0),(3,3),(3,3),(0,0),(4,4),(0,0)] (by decide +kernel) (by decide +kernel) (by decide +kernel) (by decide +kernel) ?_
    simp -dsimp (maxSteps:=4000000) +contextual (disch:=first | omega | decide +kernel) only [↓vsD,vsE,↓Nat.reduceLT,simprocAttr,ny_next,exNextO_codes,ny_int,exDrawO_codes,ny_piece,intG,pcG,vdA,↓vd_end,↓vdm_go,↓vd_op,↓guard_none,↓guard_some,vcel,hl,← hr1,← hr2,← hr3,hnp,bytesK,lenK,eP,eD]
    exact hfin _ _ _ _ _ hO (by rw [hp0]; exact .nils) (Frz.msl0 (elem:=58) (sz:=3) (by omega) (by rw [hrw,e1]; rfl) (encD_bel _ _))
   ·have hO:oddS l k S = (S,r.2):=by simp only [oddS,← hr,if_neg (show ¬ r.1 = 0 by omega),if_neg (show ¬ r.1 = 1 by omega),if_pos h,hp0,List.length_nil,if_true]
    simp -dsimp (maxSteps:=4000000) +contextual (disch:=first | omega | decide +kernel) only [↓vsD,vsE,↓Nat.reduceLT,simprocAttr,ny_next,exNextO_codes,ny_int,exDrawO_codes,ny_piece,intG,pcG,vcel,e0,e1]
    refine v_draws _ _ _ _ _ _ [2,5,7,9] [] [(0,0),(0,0),(0,0),(0,1),(0,1),(0,0),(1,2),(0,0),(3,3),(0,0)] (by decide +kernel) (by decide +kernel) (by decide +kernel) (by decide +kernel) ?_
    simp -dsimp (maxSteps:=4000000) +contextual (disch:=first | omega | decide +kernel) only [↓vsD,vsE,↓Nat.reduceLT,simprocAttr,ny_next,exNextO_codes,ny_int,exDrawO_codes,ny_piece,intG,pcG,vdA,↓vd_end,↓vdm_go,↓vd_op,↓guard_none,↓guard_some,vcel,e0,e1,hl,← hr,nP,nD,bytesK,lenK,eP,eD]
    exact hfin _ _ _ _ _ hO (by rw [hp0]; exact .nils) (by rw [hc0]; exact .nils)
   ·have hO:oddS l k S = (S,r.2):=by simp only [oddS,← hr,if_neg (show ¬ r.1 = 0 by omega),if_neg (show ¬ r.1 = 1 by omega),if_neg (show ¬ r.1 = 2 by omega),if_pos h,hp0,List.length_nil,if_true]
    simp -dsimp (maxSteps:=4000000) +contextual (disch:=first | omega | decide +kernel) only [↓vsD,vsE,↓Nat.reduceLT,simprocAttr,ny_next,exNextO_codes,ny_int,exDrawO_codes,ny_piece,intG,pcG,vcel,e0,e1]
    refine v_draws _ _ _ _ _ _ [2,5,7,9] [] [(0,0),(0,0),(0,0),(0,1),(0,1),(0,0),(1,2),(0,0),(3,3),(0,0)] (by decide +kernel) (by decide +kernel) (by decide +kernel) (by decide +kernel) ?_
    simp -dsimp (maxSteps:=4000000) +contextual (disch:=first | omega | decide +kernel) only [↓vsD,vsE,↓Nat.reduceLT,simprocAttr,ny_next,exNextO_codes,ny_int,exDrawO_codes,ny_piece,intG,pcG,vdA,↓vd_end,↓vdm_go,↓vd_op,↓guard_none,↓guard_some,vcel,e0,e1,hl,← hr,nP,nD,bytesK,lenK,eP,eD]
    exact hfin _ _ _ _ _ hO (by rw [hp0]; exact .nils) (by rw [hc0]; exact .nils)
   ·have hO:oddS l k S = (S,r.2):=by simp only [oddS,← hr,if_neg (show ¬ r.1 = 0 by omega),if_neg (show ¬ r.1 = 1 by omega),if_neg (show ¬ r.1 = 2 by omega),if_neg (show ¬ r.1 = 3 by omega)]
    simp -dsimp (maxSteps:=4000000) +contextual (disch:=first | omega | decide +kernel) only [↓vsD,vsE,↓Nat.reduceLT,simprocAttr,ny_next,exNextO_codes,ny_int,exDrawO_codes,ny_piece,intG,pcG,vcel,e0,e1]
    refine v_draws _ _ _ _ _ _ [2,5,7,9] [] [(0,0),(0,0),(0,0),(0,1),(0,1),(0,0),(1,2),(0,0),(3,3),(0,0)] (by decide +kernel) (by decide +kernel) (by decide +kernel) (by decide +kernel) ?_
    simp -dsimp (maxSteps:=4000000) +contextual (disch:=first | omega | decide +kernel) only [↓vsD,vsE,↓Nat.reduceLT,simprocAttr,ny_next,exNextO_codes,ny_int,exDrawO_codes,ny_piece,intG,pcG,vdA,↓vd_end,↓vdm_go,↓vd_op,↓guard_none,↓guard_some,vcel,e0,e1,hl,← hr,nP,nD,bytesK,lenK,eP,eD]
    exact hfin _ _ _ _ _ hO (by rw [hp0]; exact .nils) (by rw [hc0]; exact .nils)
  ·obtain ⟨d0,ds,hdd⟩:=List.exists_cons_of_ne_nil hc0
   have e1:encD S.cs = idRow d0 :: encD ds:=by rw [hdd]; rfl
   rw [e1] at nD eD
   rw [List.length_cons] at eD
   rcases (show r.1 = 0 ∨ r.1 = 1 ∨ r.1 = 2 ∨ r.1 = 3 ∨ r.1 = 4 by omega) with h | h | h | h | h
   ·have hpk:=pieceF_ok hl c0
    have hO:oddS l k S = (⟨S.ps ++ [(pieceF l r.2).1],S.cs⟩,(pieceF l r.2).2):=by simp only [oddS,← hr,if_pos h]
    have hnp:=newsPc (pieceF l r.2).1
    have hrw:encP (S.ps ++ [(pieceF l r.2).1]) = encP S.ps ++ [(pieceF l r.2).1.row]:=by simp [encP]
    rw [Pc.row] at hnp
    simp -dsimp (maxSteps:=4000000) +contextual (disch:=first | omega | decide +kernel) only [↓vsD,vsE,↓Nat.reduceLT,simprocAttr,ny_next,exNextO_codes,ny_int,exDrawO_codes,ny_piece,intG,pcG,vcel,e0,e1]
    refine v_draws _ _ _ _ _ _ [2,5,7,9] [] [(0,0),(0,0),(0,0),(0,1),(0,1),(0,0),(1,2),(0,0),(3,3),(0,0)] (by decide +kernel) (by decide +kernel) (by decide +kernel) (by decide +kernel) ?_
    simp -dsimp (maxSteps:=4000000) +contextual (disch:=first | omega | decide +kernel) only [↓vsD,vsE,↓Nat.reduceLT,simprocAttr,ny_next,exNextO_codes,ny_int,exDrawO_codes,ny_piece,intG,pcG,vdA,↓vd_end,↓vdm_go,↓vd_op,↓guard_none,↓guard_some,vcel,e0,e1,hl,← hr,nP,nD,bytesK,lenK,eP,eD]
    refine v_draws _ _ _ _ _ _ [3,5,7] [] [(0,1),(0,1),(0,0),(0,0),(1,1),(0,0),(2,2),(0,0)] (by decide +kernel) (by decide +kernel) (by decide +kernel) (by decide +kernel) ?_
    simp -dsimp (maxSteps:=4000000) +contextual (disch:=first | omega | decide +kernel) only [↓vsD,vsE,↓Nat.reduceLT,simprocAttr,ny_next,exNextO_codes,ny_int,exDrawO_codes,ny_piece,intG,pcG,vdA,↓vd_end,↓vdm_go,↓vd_op,↓guard_none,↓guard_some,vcel,hl,hnp,bytesK,lenK,eP,eD,Pc.row]
    exact hfin _ _ _ _ _ hO (Frz.msl0 (elem:=32) (sz:=5) (by omega) (by rw [hrw,e0]; rfl) (encP_bel _ _)) (Frz.msl0 (elem:=58) (sz:=3) (by omega) (by rw [← e1]; rfl) (encD_bel _ _))
   ·have b1:=nxt_le c0 3
    obtain ⟨r1,hr1⟩:∃ r1,r1 = nxt l r.2 3:=⟨_,rfl⟩
    rw [← hr1] at b1
    have b2:=nxt_le b1 2
    obtain ⟨r2,hr2⟩:∃ r2,r2 = nxt l r1.2 2:=⟨_,rfl⟩
    rw [← hr2] at b2
    obtain ⟨r3,hr3⟩:∃ r3,r3 = nxt l r2.2 2:=⟨_,rfl⟩
    have hO:oddS l k S = (⟨S.ps,S.cs ++ [(r1.1,r2.1,r3.1)]⟩,r3.2):=by simp only [oddS,← hr,if_neg (show ¬ r.1 = 0 by omega),if_pos h,← hr1,← hr2,← hr3]
    have hnp:=newsD [(r1.1,r2.1,r3.1)]
    simp only [encD,List.map_cons,List.map_nil,idRow] at hnp
    have hrw:encD (S.cs ++ [(r1.1,r2.1,r3.1)]) = encD S.cs ++ [idRow (r1.1,r2.1,r3.1)]:=by simp [encD]
    simp -dsimp (maxSteps:=4000000) +contextual (disch:=first | omega | decide +kernel) only [↓vsD,vsE,↓Nat.reduceLT,simprocAttr,ny_next,exNextO_codes,ny_int,exDrawO_codes,ny_piece,intG,pcG,vcel,e0,e1]
    refine v_draws _ _ _ _ _ _ [2,5,7,9] [] [(0,0),(0,0),(0,0),(0,1),(0,1),(0,0),(1,2),(0,0),(3,3),(0,0)] (by decide +kernel) (by decide +kernel) (by decide +kernel) (by decide +kernel) ?_
    simp -dsimp (maxSteps:=4000000) +contextual (disch:=first | omega | decide +kernel) only [↓vsD,vsE,↓Nat.reduceLT,simprocAttr,ny_next,exNextO_codes,ny_int,exDrawO_codes,ny_piece,intG,pcG,vdA,↓vd_end,↓vdm_go,↓vd_op,↓guard_none,↓guard_some,vcel,e0,e1,hl,← hr,nP,nD,bytesK,lenK,eP,eD]
    refine v_draws _ _ _ _ _ _ [3,5,7,10,12] [] [(0,3),(0,3),(0,0),(0,0),(0,1),(0,0),(0,2),(0,0),(3,3),(3,3),(0,0),(4,4),(0,0)] (by decide +kernel) (by decide +kernel) (by decide +kernel) (by decide +kernel) ?_
    simp -dsimp (maxSteps:=4000000) +contextual (disch:=first | omega | decide +kernel) only [↓vsD,vsE,↓Nat.reduceLT,simprocAttr,ny_next,exNextO_codes,ny_int,exDrawO_codes,ny_piece,intG,pcG,vdA,↓vd_end,↓vdm_go,↓vd_op,↓guard_none,↓guard_some,vcel,hl,← hr1,← hr2,← hr3,hnp,bytesK,lenK,eP,eD]
    exact hfin _ _ _ _ _ hO (by rw [hp0]; exact .nils) (Frz.msl0 (elem:=58) (sz:=3) (by omega) (by rw [hrw,e1]; rfl) (encD_bel _ _))
   ·have hO:oddS l k S = (S,r.2):=by simp only [oddS,← hr,if_neg (show ¬ r.1 = 0 by omega),if_neg (show ¬ r.1 = 1 by omega),if_pos h,hp0,List.length_nil,if_true]
    simp -dsimp (maxSteps:=4000000) +contextual (disch:=first | omega | decide +kernel) only [↓vsD,vsE,↓Nat.reduceLT,simprocAttr,ny_next,exNextO_codes,ny_int,exDrawO_codes,ny_piece,intG,pcG,vcel,e0,e1]
    refine v_draws _ _ _ _ _ _ [2,5,7,9] [] [(0,0),(0,0),(0,0),(0,1),(0,1),(0,0),(1,2),(0,0),(3,3),(0,0)] (by decide +kernel) (by decide +kernel) (by decide +kernel) (by decide +kernel) ?_
    simp -dsimp (maxSteps:=4000000) +contextual (disch:=first | omega | decide +kernel) only [↓vsD,vsE,↓Nat.reduceLT,simprocAttr,ny_next,exNextO_codes,ny_int,exDrawO_codes,ny_piece,intG,pcG,vdA,↓vd_end,↓vdm_go,↓vd_op,↓guard_none,↓guard_some,vcel,e0,e1,hl,← hr,nP,nD,bytesK,lenK,eP,eD]
    exact hfin _ _ _ _ _ hO (by rw [hp0]; exact .nils) (Frz.msl0 (elem:=58) (sz:=3) (by omega) (by rw [← e1]; rfl) (encD_bel _ _))
   ·have hO:oddS l k S = (S,r.2):=by simp only [oddS,← hr,if_neg (show ¬ r.1 = 0 by omega),if_neg (show ¬ r.1 = 1 by omega),if_neg (show ¬ r.1 = 2 by omega),if_pos h,hp0,List.length_nil,if_true]
    simp -dsimp (maxSteps:=4000000) +contextual (disch:=first | omega | decide +kernel) only [↓vsD,vsE,↓Nat.reduceLT,simprocAttr,ny_next,exNextO_codes,ny_int,exDrawO_codes,ny_piece,intG,pcG,vcel,e0,e1]
    refine v_draws _ _ _ _ _ _ [2,5,7,9] [] [(0,0),(0,0),(0,0),(0,1),(0,1),(0,0),(1,2),(0,0),(3,3),(0,0)] (by decide +kernel) (by decide +kernel) (by decide +kernel) (by decide +kernel) ?_
    simp -dsimp (maxSteps:=4000000) +contextual (disch:=first | omega | decide +kernel) only [↓vsD,vsE,↓Nat.reduceLT,simprocAttr,ny_next,exNextO_codes,ny_int,exDrawO_codes,ny_piece,intG,pcG,vdA,↓vd_end,↓vdm_go,↓vd_op,↓guard_none,↓guard_some,vcel,e0,e1,hl,← hr,nP,nD,bytesK,lenK,eP,eD]
    exact hfin _ _ _ _ _ hO (by rw [hp0]; exact .nils) (Frz.msl0 (elem:=58) (sz:=3) (by omega) (by rw [← e1]; rfl) (encD_bel _ _))
   ·have hO:oddS l k S = (S,r.2):=by simp only [oddS,← hr,if_neg (show ¬ r.1 = 0 by omega),if_neg (show ¬ r.1 = 1 by omega),if_neg (show ¬ r.1 = 2 by omega),if_neg (show ¬ r.1 = 3 by omega)]
    simp -dsimp (maxSteps:=4000000) +contextual (disch:=first | omega | decide +kernel) only [↓vsD,vsE,↓Nat.reduceLT,simprocAttr,ny_next,exNextO_codes,ny_int,exDrawO_codes,ny_piece,intG,pcG,vcel,e0,e1]
    refine v_draws _ _ _ _ _ _ [2,5,7,9] [] [(0,0),(0,0),(0,0),(0,1),(0,1),(0,0),(1,2),(0,0),(3,3),(0,0)] (by decide +kernel) (by decide +kernel) (by decide +kernel) (by decide +kernel) ?_
    simp -dsimp (maxSteps:=4000000) +contextual (disch:=first | omega | decide +kernel) only [↓vsD,vsE,↓Nat.reduceLT,simprocAttr,ny_next,exNextO_codes,ny_int,exDrawO_codes,ny_piece,intG,pcG,vdA,↓vd_end,↓vdm_go,↓vd_op,↓guard_none,↓guard_some,vcel,e0,e1,hl,← hr,nP,nD,bytesK,lenK,eP,eD]
    exact hfin _ _ _ _ _ hO (by rw [hp0]; exact .nils) (Frz.msl0 (elem:=58) (sz:=3) (by omega) (by rw [← e1]; rfl) (encD_bel _ _))
 ·obtain ⟨p0,ps1,hpp⟩:=List.exists_cons_of_ne_nil hp0
  have e0:encP S.ps = p0.row :: encP ps1:=by rw [hpp]; rfl
  rw [e0] at nP eP
  rw [List.length_cons] at eP
  by_cases hc0:S.cs = []
  ·have e1:encD S.cs = []:=by rw [hc0]; rfl
   rcases (show r.1 = 0 ∨ r.1 = 1 ∨ r.1 = 2 ∨ r.1 = 3 ∨ r.1 = 4 by omega) with h | h | h | h | h
   ·have hpk:=pieceF_ok hl c0
    have hO:oddS l k S = (⟨S.ps ++ [(pieceF l r.2).1],S.cs⟩,(pieceF l r.2).2):=by simp only [oddS,← hr,if_pos h]
    have hnp:=newsPc (pieceF l r.2).1
    have hrw:encP (S.ps ++ [(pieceF l r.2).1]) = encP S.ps ++ [(pieceF l r.2).1.row]:=by simp [encP]
    rw [Pc.row] at hnp
    simp -dsimp (maxSteps:=4000000) +contextual (disch:=first | omega | decide +kernel) only [↓vsD,vsE,↓Nat.reduceLT,simprocAttr,ny_next,exNextO_codes,ny_int,exDrawO_codes,ny_piece,intG,pcG,vcel,e0,e1]
    refine v_draws _ _ _ _ _ _ [2,5,7,9] [] [(0,0),(0,0),(0,0),(0,1),(0,1),(0,0),(1,2),(0,0),(3,3),(0,0)] (by decide +kernel) (by decide +kernel) (by decide +kernel) (by decide +kernel) ?_
    simp -dsimp (maxSteps:=4000000) +contextual (disch:=first | omega | decide +kernel) only [↓vsD,vsE,↓Nat.reduceLT,simprocAttr,ny_next,exNextO_codes,ny_int,exDrawO_codes,ny_piece,intG,pcG,vdA,↓vd_end,↓vdm_go,↓vd_op,↓guard_none,↓guard_some,vcel,e0,e1,hl,← hr,nP,nD,bytesK,lenK,eP,eD]
    refine v_draws _ _ _ _ _ _ [3,5,7] [] [(0,1),(0,1),(0,0),(0,0),(1,1),(0,0),(2,2),(0,0)] (by decide +kernel) (by decide +kernel) (by decide +kernel) (by decide +kernel) ?_
    simp -dsimp (maxSteps:=4000000) +contextual (disch:=first | omega | decide +kernel) only [↓vsD,vsE,↓Nat.reduceLT,simprocAttr,ny_next,exNextO_codes,ny_int,exDrawO_codes,ny_piece,intG,pcG,vdA,↓vd_end,↓vdm_go,↓vd_op,↓guard_none,↓guard_some,vcel,hl,hnp,bytesK,lenK,eP,eD,Pc.row]
    exact hfin _ _ _ _ _ hO (Frz.msl0 (elem:=32) (sz:=5) (by omega) (by rw [hrw,e0]; rfl) (encP_bel _ _)) (by rw [hc0]; exact .nils)
   ·have b1:=nxt_le c0 3
    obtain ⟨r1,hr1⟩:∃ r1,r1 = nxt l r.2 3:=⟨_,rfl⟩
    rw [← hr1] at b1
    have b2:=nxt_le b1 2
    obtain ⟨r2,hr2⟩:∃ r2,r2 = nxt l r1.2 2:=⟨_,rfl⟩
    rw [← hr2] at b2
    obtain ⟨r3,hr3⟩:∃ r3,r3 = nxt l r2.2 2:=⟨_,rfl⟩
    have hO:oddS l k S = (⟨S.ps,S.cs ++ [(r1.1,r2.1,r3.1)]⟩,r3.2):=by simp only [oddS,← hr,if_neg (show ¬ r.1 = 0 by omega),if_pos h,← hr1,← hr2,← hr3]
    have hnp:=newsD [(r1.1,r2.1,r3.1)]
    simp only [encD,List.map_cons,List.map_nil,idRow] at hnp
    have hrw:encD (S.cs ++ [(r1.1,r2.1,r3.1)]) = encD S.cs ++ [idRow (r1.1,r2.1,r3.1)]:=by simp [encD]
    simp -dsimp (maxSteps:=4000000) +contextual (disch:=first | omega | decide +kernel) only [↓vsD,vsE,↓Nat.reduceLT,simprocAttr,ny_next,exNextO_codes,ny_int,exDrawO_codes,ny_piece,intG,pcG,vcel,e0,e1]
    refine v_draws _ _ _ _ _ _ [2,5,7,9] [] [(0,0),(0,0),(0,0),(0,1),(0,1),(0,0),(1,2),(0,0),(3,3),(0,0)] (by decide +kernel) (by decide +kernel) (by decide +kernel) (by decide +kernel) ?_
    simp -dsimp (maxSteps:=4000000) +contextual (disch:=first | omega | decide +kernel) only [↓vsD,vsE,↓Nat.reduceLT,simprocAttr,ny_next,exNextO_codes,ny_int,exDrawO_codes,ny_piece,intG,pcG,vdA,↓vd_end,↓vdm_go,↓vd_op,↓guard_none,↓guard_some,vcel,e0,e1,hl,← hr,nP,nD,bytesK,lenK,eP,eD]
    refine v_draws _ _ _ _ _ _ [3,5,7,10,12] [] [(0,3),(0,3),(0,0),(0,0),(0,1),(0,0),(0,2),(0,0),(3,3),(3,3),(0,0),(4,4),(0,0)] (by decide +kernel) (by decide +kernel) (by decide +kernel) (by decide +kernel) ?_
    simp -dsimp (maxSteps:=4000000) +contextual (disch:=first | omega | decide +kernel) only [↓vsD,vsE,↓Nat.reduceLT,simprocAttr,ny_next,exNextO_codes,ny_int,exDrawO_codes,ny_piece,intG,pcG,vdA,↓vd_end,↓vdm_go,↓vd_op,↓guard_none,↓guard_some,vcel,hl,← hr1,← hr2,← hr3,hnp,bytesK,lenK,eP,eD]
    exact hfin _ _ _ _ _ hO (Frz.msl0 (elem:=32) (sz:=5) (by omega) (by rw [← e0]; rfl) (encP_bel _ _)) (Frz.msl0 (elem:=58) (sz:=3) (by omega) (by rw [hrw,e1]; rfl) (encD_bel _ _))
   ·have a1:=nxt_lt hl r.2 S.ps.length (by omega)
    have b1:=nxt_le c0 S.ps.length
    obtain ⟨r1,hr1⟩:∃ r1,r1 = nxt l r.2 S.ps.length:=⟨_,rfl⟩
    rw [← hr1] at a1 b1
    obtain ⟨i,hi⟩:∃ i:Nat,r1.1 = (i:Int):=⟨r1.1.toNat,by omega⟩
    have hil:i < S.ps.length:=by omega
    have hO:oddS l k S = (⟨S.ps.set i (setRel (S.ps.getD i default) (intC l r1.2).1),S.cs⟩,(intC l r1.2).2):=by
     simp only [oddS,← hr,if_neg (show ¬ r.1 = 0 by omega),if_neg (show ¬ r.1 = 1 by omega),if_pos h,if_neg (show ¬ S.ps.length = 0 by omega),← hr1,hi,Int.toNat_natCast]
    have hg:=encP_getD S.ps i hil
    rw [e0] at hg
    have hset:=encP_set S.ps i (setRel (S.ps.getD i default) (intC l r1.2).1)
    simp -dsimp (maxSteps:=4000000) +contextual (disch:=first | omega | decide +kernel) only [↓vsD,vsE,↓Nat.reduceLT,simprocAttr,ny_next,exNextO_codes,ny_int,exDrawO_codes,ny_piece,intG,pcG,vcel,e0,e1]
    refine v_draws _ _ _ _ _ _ [2,5,7,9] [] [(0,0),(0,0),(0,0),(0,1),(0,1),(0,0),(1,2),(0,0),(3,3),(0,0)] (by decide +kernel) (by decide +kernel) (by decide +kernel) (by decide +kernel) ?_
    simp -dsimp (maxSteps:=4000000) +contextual (disch:=first | omega | decide +kernel) only [↓vsD,vsE,↓Nat.reduceLT,simprocAttr,ny_next,exNextO_codes,ny_int,exDrawO_codes,ny_piece,intG,pcG,vdA,↓vd_end,↓vdm_go,↓vd_op,↓guard_none,↓guard_some,vcel,e0,e1,hl,← hr,nP,nD,bytesK,lenK,eP,eD]
    refine v_draws _ _ _ _ _ _ [4,6,9] [] [(0,2),(0,2),(0,0),(0,0),(0,0),(0,1),(0,0),(2,2),(2,2),(0,0)] (by decide +kernel) (by decide +kernel) (by decide +kernel) (by decide +kernel) ?_
    simp -dsimp (maxSteps:=4000000) +contextual (disch:=first | omega | decide +kernel) only [↓vsD,vsE,↓Nat.reduceLT,simprocAttr,ny_next,exNextO_codes,ny_int,exDrawO_codes,ny_piece,intG,pcG,vdA,↓vd_end,↓vdm_go,↓vd_op,↓guard_none,↓guard_some,vcel,hl,← hr1,hi,hg,eP]
    exact hfin _ _ _ _ _ hO (Frz.msl0 (elem:=32) (sz:=5) (by omega) (by rw [← hset,e0]; rfl) (encP_bel _ _)) (by rw [hc0]; exact .nils)
   ·have a1:=nxt_lt hl r.2 S.ps.length (by omega)
    have b1:=nxt_le c0 S.ps.length
    obtain ⟨r1,hr1⟩:∃ r1,r1 = nxt l r.2 S.ps.length:=⟨_,rfl⟩
    rw [← hr1] at a1 b1
    obtain ⟨i,hi⟩:∃ i:Nat,r1.1 = (i:Int):=⟨r1.1.toNat,by omega⟩
    have hil:i < S.ps.length:=by omega
    have hpd:=hd _ (gtD (d:=default) hil)
    have hg:=encP_getD S.ps i hil
    rw [e0] at hg
    have hO:oddS l k S = (⟨S.ps.set i (setF0 (S.ps.getD i default) (oddC l r1.2 ((S.ps.getD i default).fs.getD 0 default)).1),S.cs⟩,(oddC l r1.2 ((S.ps.getD i default).fs.getD 0 default)).2):=by
     simp only [oddS,← hr,if_neg (show ¬ r.1 = 0 by omega),if_neg (show ¬ r.1 = 1 by omega),if_neg (show ¬ r.1 = 2 by omega),if_pos h,if_neg (show ¬ S.ps.length = 0 by omega),← hr1,hi,Int.toNat_natCast]
    have hfr:=fun Q v fs ho hF=>frz_set (k:=1) (Q:=Q) (o:=3) (v:=v) (oF:=4) (vF:=0) hil (p:=S.ps.getD i default) (fs:=fs) (by omega) (by omega) ho hF
    generalize S.ps.getD i default = p at hpd hg hO hfr
    have hn1:=hpd.n
    obtain ⟨x,xs,hxx⟩:∃ x xs,p.fs = x :: xs:=by
     cases hpf:p.fs with
     | nil=>rw [hpf] at hn1; simp at hn1
     | cons x xs=>exact ⟨x,xs,rfl⟩
    have hx0:p.fs.getD 0 default = x:=by rw [hxx]; rfl
    have hdx:=hpd.f x (by rw [hxx]; simp)
    rw [hx0] at hO
    have eF:encF p.fs = x.row :: encF xs:=by rw [hxx]; rfl
    have hlF:(encF xs).length ≤ 3:=by rw [encF_length]; have:=hn1.2; rw [hxx,List.length_cons] at this; omega
    have nF:newsOk Try.prog 66 (x.row :: encF xs) = true:=by
     rw [← eF]
     show newsOk _ _ (List.map _ _) = true
     simp [newsOk,PV.cell,tyC,FC.row]
    have hod:=oddC_w l r1.2 hl hll b1 x hdx.b hdx.e
    rw [FC.row] at hod nF
    simp -dsimp (maxSteps:=4000000) +contextual (disch:=first | omega | decide +kernel) only [↓vsD,vsE,↓Nat.reduceLT,simprocAttr,ny_next,exNextO_codes,ny_int,exDrawO_codes,ny_piece,intG,pcG,vcel,e0,e1]
    refine v_draws _ _ _ _ _ _ [2,5,7,9] [] [(0,0),(0,0),(0,0),(0,1),(0,1),(0,0),(1,2),(0,0),(3,3),(0,0)] (by decide +kernel) (by decide +kernel) (by decide +kernel) (by decide +kernel) ?_
    simp -dsimp (maxSteps:=4000000) +contextual (disch:=first | omega | decide +kernel) only [↓vsD,vsE,↓Nat.reduceLT,simprocAttr,ny_next,exNextO_codes,ny_int,exDrawO_codes,ny_piece,intG,pcG,vdA,↓vd_end,↓vdm_go,↓vd_op,↓guard_none,↓guard_some,vcel,e0,e1,hl,← hr,nP,nD,bytesK,lenK,eP,eD]
    simp -dsimp (maxSteps:=4000000) +contextual (disch:=first | omega | decide +kernel) only [↓vsD,vsE,↓Nat.reduceLT,simprocAttr,ny_next,exNextO_codes,ny_int,exDrawO_codes,ny_piece,intG,pcG,vcel,hl,← hr1,hi,hg,eP,eF,nF,bytesK,lenK,hlF,k0,FC.row]
    refine codes_onX 0 l r1.2 _ _ _ hod (fun q hq=>by simp at hq; rw [hq]; exact bel_fc 0 x) (bel_fc _ _) rfl ?_
    simp -dsimp only [FC.row,List.set_cons_zero]
    simp -dsimp (maxSteps:=4000000) +contextual (disch:=first | omega | decide +kernel) only [↓vsD,vsE,↓Nat.reduceLT,simprocAttr,ny_next,exNextO_codes,ny_int,exDrawO_codes,ny_piece,intG,pcG,vcel,hg,eP,hlF,hi]
    refine hfin _ _ _ _ _ hO (hfr _ _ (p.fs.set 0 (oddC l r1.2 x).1) (by rw [e0]; rfl) (by rw [← encF_set0,eF]; rfl)) (by rw [hc0]; exact .nils)
   ·have hO:oddS l k S = (S,r.2):=by simp only [oddS,← hr,if_neg (show ¬ r.1 = 0 by omega),if_neg (show ¬ r.1 = 1 by omega),if_neg (show ¬ r.1 = 2 by omega),if_neg (show ¬ r.1 = 3 by omega)]
    simp -dsimp (maxSteps:=4000000) +contextual (disch:=first | omega | decide +kernel) only [↓vsD,vsE,↓Nat.reduceLT,simprocAttr,ny_next,exNextO_codes,ny_int,exDrawO_codes,ny_piece,intG,pcG,vcel,e0,e1]
    refine v_draws _ _ _ _ _ _ [2,5,7,9] [] [(0,0),(0,0),(0,0),(0,1),(0,1),(0,0),(1,2),(0,0),(3,3),(0,0)] (by decide +kernel) (by decide +kernel) (by decide +kernel) (by decide +kernel) ?_
    simp -dsimp (maxSteps:=4000000) +contextual (disch:=first | omega | decide +kernel) only [↓vsD,vsE,↓Nat.reduceLT,simprocAttr,ny_next,exNextO_codes,ny_int,exDrawO_codes,ny_piece,intG,pcG,vdA,↓vd_end,↓vdm_go,↓vd_op,↓guard_none,↓guard_some,vcel,e0,e1,hl,← hr,nP,nD,bytesK,lenK,eP,eD]
    exact hfin _ _ _ _ _ hO (Frz.msl0 (elem:=32) (sz:=5) (by omega) (by rw [← e0]; rfl) (encP_bel _ _)) (by rw [hc0]; exact .nils)
  ·obtain ⟨d0,ds,hdd⟩:=List.exists_cons_of_ne_nil hc0
   have e1:encD S.cs = idRow d0 :: encD ds:=by rw [hdd]; rfl
   rw [e1] at nD eD
   rw [List.length_cons] at eD
   rcases (show r.1 = 0 ∨ r.1 = 1 ∨ r.1 = 2 ∨ r.1 = 3 ∨ r.1 = 4 by omega) with h | h | h | h | h
   ·have hpk:=pieceF_ok hl c0
    have hO:oddS l k S = (⟨S.ps ++ [(pieceF l r.2).1],S.cs⟩,(pieceF l r.2).2):=by simp only [oddS,← hr,if_pos h]
    have hnp:=newsPc (pieceF l r.2).1
    have hrw:encP (S.ps ++ [(pieceF l r.2).1]) = encP S.ps ++ [(pieceF l r.2).1.row]:=by simp [encP]
    rw [Pc.row] at hnp
    simp -dsimp (maxSteps:=4000000) +contextual (disch:=first | omega | decide +kernel) only [↓vsD,vsE,↓Nat.reduceLT,simprocAttr,ny_next,exNextO_codes,ny_int,exDrawO_codes,ny_piece,intG,pcG,vcel,e0,e1]
    refine v_draws _ _ _ _ _ _ [2,5,7,9] [] [(0,0),(0,0),(0,0),(0,1),(0,1),(0,0),(1,2),(0,0),(3,3),(0,0)] (by decide +kernel) (by decide +kernel) (by decide +kernel) (by decide +kernel) ?_
    simp -dsimp (maxSteps:=4000000) +contextual (disch:=first | omega | decide +kernel) only [↓vsD,vsE,↓Nat.reduceLT,simprocAttr,ny_next,exNextO_codes,ny_int,exDrawO_codes,ny_piece,intG,pcG,vdA,↓vd_end,↓vdm_go,↓vd_op,↓guard_none,↓guard_some,vcel,e0,e1,hl,← hr,nP,nD,bytesK,lenK,eP,eD]
    refine v_draws _ _ _ _ _ _ [3,5,7] [] [(0,1),(0,1),(0,0),(0,0),(1,1),(0,0),(2,2),(0,0)] (by decide +kernel) (by decide +kernel) (by decide +kernel) (by decide +kernel) ?_
    simp -dsimp (maxSteps:=4000000) +contextual (disch:=first | omega | decide +kernel) only [↓vsD,vsE,↓Nat.reduceLT,simprocAttr,ny_next,exNextO_codes,ny_int,exDrawO_codes,ny_piece,intG,pcG,vdA,↓vd_end,↓vdm_go,↓vd_op,↓guard_none,↓guard_some,vcel,hl,hnp,bytesK,lenK,eP,eD,Pc.row]
    exact hfin _ _ _ _ _ hO (Frz.msl0 (elem:=32) (sz:=5) (by omega) (by rw [hrw,e0]; rfl) (encP_bel _ _)) (Frz.msl0 (elem:=58) (sz:=3) (by omega) (by rw [← e1]; rfl) (encD_bel _ _))
   ·have b1:=nxt_le c0 3
    obtain ⟨r1,hr1⟩:∃ r1,r1 = nxt l r.2 3:=⟨_,rfl⟩
    rw [← hr1] at b1
    have b2:=nxt_le b1 2
    obtain ⟨r2,hr2⟩:∃ r2,r2 = nxt l r1.2 2:=⟨_,rfl⟩
    rw [← hr2] at b2
    obtain ⟨r3,hr3⟩:∃ r3,r3 = nxt l r2.2 2:=⟨_,rfl⟩
    have hO:oddS l k S = (⟨S.ps,S.cs ++ [(r1.1,r2.1,r3.1)]⟩,r3.2):=by simp only [oddS,← hr,if_neg (show ¬ r.1 = 0 by omega),if_pos h,← hr1,← hr2,← hr3]
    have hnp:=newsD [(r1.1,r2.1,r3.1)]
    simp only [encD,List.map_cons,List.map_nil,idRow] at hnp
    have hrw:encD (S.cs ++ [(r1.1,r2.1,r3.1)]) = encD S.cs ++ [idRow (r1.1,r2.1,r3.1)]:=by simp [encD]
    simp -dsimp (maxSteps:=4000000) +contextual (disch:=first | omega | decide +kernel) only [↓vsD,vsE,↓Nat.reduceLT,simprocAttr,ny_next,exNextO_codes,ny_int,exDrawO_codes,ny_piece,intG,pcG,vcel,e0,e1]
    refine v_draws _ _ _ _ _ _ [2,5,7,9] [] [(0,0),(0,0),(0,0),(0,1),(0,1),(0,0),(1,2),(0,0),(3,3),(0,0)] (by decide +kernel) (by decide +kernel) (by decide +kernel) (by decide +kernel) ?_
    simp -dsimp (maxSteps:=4000000) +contextual (disch:=first | omega | decide +kernel) only [↓vsD,vsE,↓Nat.reduceLT,simprocAttr,ny_next,exNextO_codes,ny_int,exDrawO_codes,ny_piece,intG,pcG,vdA,↓vd_end,↓vdm_go,↓vd_op,↓guard_none,↓guard_some,vcel,e0,e1,hl,← hr,nP,nD,bytesK,lenK,eP,eD]
    refine v_draws _ _ _ _ _ _ [3,5,7,10,12] [] [(0,3),(0,3),(0,0),(0,0),(0,1),(0,0),(0,2),(0,0),(3,3),(3,3),(0,0),(4,4),(0,0)] (by decide +kernel) (by decide +kernel) (by decide +kernel) (by decide +kernel) ?_
    simp -dsimp (maxSteps:=4000000) +contextual (disch:=first | omega | decide +kernel) only [↓vsD,vsE,↓Nat.reduceLT,simprocAttr,ny_next,exNextO_codes,ny_int,exDrawO_codes,ny_piece,intG,pcG,vdA,↓vd_end,↓vdm_go,↓vd_op,↓guard_none,↓guard_some,vcel,hl,← hr1,← hr2,← hr3,hnp,bytesK,lenK,eP,eD]
    exact hfin _ _ _ _ _ hO (Frz.msl0 (elem:=32) (sz:=5) (by omega) (by rw [← e0]; rfl) (encP_bel _ _)) (Frz.msl0 (elem:=58) (sz:=3) (by omega) (by rw [hrw,e1]; rfl) (encD_bel _ _))
   ·have a1:=nxt_lt hl r.2 S.ps.length (by omega)
    have b1:=nxt_le c0 S.ps.length
    obtain ⟨r1,hr1⟩:∃ r1,r1 = nxt l r.2 S.ps.length:=⟨_,rfl⟩
    rw [← hr1] at a1 b1
    obtain ⟨i,hi⟩:∃ i:Nat,r1.1 = (i:Int):=⟨r1.1.toNat,by omega⟩
    have hil:i < S.ps.length:=by omega
    have hO:oddS l k S = (⟨S.ps.set i (setRel (S.ps.getD i default) (intC l r1.2).1),S.cs⟩,(intC l r1.2).2):=by
     simp only [oddS,← hr,if_neg (show ¬ r.1 = 0 by omega),if_neg (show ¬ r.1 = 1 by omega),if_pos h,if_neg (show ¬ S.ps.length = 0 by omega),← hr1,hi,Int.toNat_natCast]
    have hg:=encP_getD S.ps i hil
    rw [e0] at hg
    have hset:=encP_set S.ps i (setRel (S.ps.getD i default) (intC l r1.2).1)
    simp -dsimp (maxSteps:=4000000) +contextual (disch:=first | omega | decide +kernel) only [↓vsD,vsE,↓Nat.reduceLT,simprocAttr,ny_next,exNextO_codes,ny_int,exDrawO_codes,ny_piece,intG,pcG,vcel,e0,e1]
    refine v_draws _ _ _ _ _ _ [2,5,7,9] [] [(0,0),(0,0),(0,0),(0,1),(0,1),(0,0),(1,2),(0,0),(3,3),(0,0)] (by decide +kernel) (by decide +kernel) (by decide +kernel) (by decide +kernel) ?_
    simp -dsimp (maxSteps:=4000000) +contextual (disch:=first | omega | decide +kernel) only [↓vsD,vsE,↓Nat.reduceLT,simprocAttr,ny_next,exNextO_codes,ny_int,exDrawO_codes,ny_piece,intG,pcG,vdA,↓vd_end,↓vdm_go,↓vd_op,↓guard_none,↓guard_some,vcel,e0,e1,hl,← hr,nP,nD,bytesK,lenK,eP,eD]
    refine v_draws _ _ _ _ _ _ [4,6,9] [] [(0,2),(0,2),(0,0),(0,0),(0,0),(0,1),(0,0),(2,2),(2,2),(0,0)] (by decide +kernel) (by decide +kernel) (by decide +kernel) (by decide +kernel) ?_
    simp -dsimp (maxSteps:=4000000) +contextual (disch:=first | omega | decide +kernel) only [↓vsD,vsE,↓Nat.reduceLT,simprocAttr,ny_next,exNextO_codes,ny_int,exDrawO_codes,ny_piece,intG,pcG,vdA,↓vd_end,↓vdm_go,↓vd_op,↓guard_none,↓guard_some,vcel,hl,← hr1,hi,hg,eP]
    exact hfin _ _ _ _ _ hO (Frz.msl0 (elem:=32) (sz:=5) (by omega) (by rw [← hset,e0]; rfl) (encP_bel _ _)) (Frz.msl0 (elem:=58) (sz:=3) (by omega) (by rw [← e1]; rfl) (encD_bel _ _))
   ·have a1:=nxt_lt hl r.2 S.ps.length (by omega)
    have b1:=nxt_le c0 S.ps.length
    obtain ⟨r1,hr1⟩:∃ r1,r1 = nxt l r.2 S.ps.length:=⟨_,rfl⟩
    rw [← hr1] at a1 b1
    obtain ⟨i,hi⟩:∃ i:Nat,r1.1 = (i:Int):=⟨r1.1.toNat,by omega⟩
    have hil:i < S.ps.length:=by omega
    have hpd:=hd _ (gtD (d:=default) hil)
    have hg:=encP_getD S.ps i hil
    rw [e0] at hg
    have hO:oddS l k S = (⟨S.ps.set i (setF0 (S.ps.getD i default) (oddC l r1.2 ((S.ps.getD i default).fs.getD 0 default)).1),S.cs⟩,(oddC l r1.2 ((S.ps.getD i default).fs.getD 0 default)).2):=by
     simp only [oddS,← hr,if_neg (show ¬ r.1 = 0 by omega),if_neg (show ¬ r.1 = 1 by omega),if_neg (show ¬ r.1 = 2 by omega),if_pos h,if_neg (show ¬ S.ps.length = 0 by omega),← hr1,hi,Int.toNat_natCast]
    have hfr:=fun Q v fs ho hF=>frz_set (k:=1) (Q:=Q) (o:=3) (v:=v) (oF:=5) (vF:=0) hil (p:=S.ps.getD i default) (fs:=fs) (by omega) (by omega) ho hF
    generalize S.ps.getD i default = p at hpd hg hO hfr
    have hn1:=hpd.n
    obtain ⟨x,xs,hxx⟩:∃ x xs,p.fs = x :: xs:=by
     cases hpf:p.fs with
     | nil=>rw [hpf] at hn1; simp at hn1
     | cons x xs=>exact ⟨x,xs,rfl⟩
    have hx0:p.fs.getD 0 default = x:=by rw [hxx]; rfl
    have hdx:=hpd.f x (by rw [hxx]; simp)
    rw [hx0] at hO
    have eF:encF p.fs = x.row :: encF xs:=by rw [hxx]; rfl
    have hlF:(encF xs).length ≤ 3:=by rw [encF_length]; have:=hn1.2; rw [hxx,List.length_cons] at this; omega
    have nF:newsOk Try.prog 66 (x.row :: encF xs) = true:=by
     rw [← eF]
     show newsOk _ _ (List.map _ _) = true
     simp [newsOk,PV.cell,tyC,FC.row]
    have hod:=oddC_w l r1.2 hl hll b1 x hdx.b hdx.e
    rw [FC.row] at hod nF
    simp -dsimp (maxSteps:=4000000) +contextual (disch:=first | omega | decide +kernel) only [↓vsD,vsE,↓Nat.reduceLT,simprocAttr,ny_next,exNextO_codes,ny_int,exDrawO_codes,ny_piece,intG,pcG,vcel,e0,e1]
    refine v_draws _ _ _ _ _ _ [2,5,7,9] [] [(0,0),(0,0),(0,0),(0,1),(0,1),(0,0),(1,2),(0,0),(3,3),(0,0)] (by decide +kernel) (by decide +kernel) (by decide +kernel) (by decide +kernel) ?_
    simp -dsimp (maxSteps:=4000000) +contextual (disch:=first | omega | decide +kernel) only [↓vsD,vsE,↓Nat.reduceLT,simprocAttr,ny_next,exNextO_codes,ny_int,exDrawO_codes,ny_piece,intG,pcG,vdA,↓vd_end,↓vdm_go,↓vd_op,↓guard_none,↓guard_some,vcel,e0,e1,hl,← hr,nP,nD,bytesK,lenK,eP,eD]
    simp -dsimp (maxSteps:=4000000) +contextual (disch:=first | omega | decide +kernel) only [↓vsD,vsE,↓Nat.reduceLT,simprocAttr,ny_next,exNextO_codes,ny_int,exDrawO_codes,ny_piece,intG,pcG,vcel,hl,← hr1,hi,hg,eP,eF,nF,bytesK,lenK,hlF,k0,FC.row]
    refine codes_onX 0 l r1.2 _ _ _ hod (fun q hq=>by simp at hq; rw [hq]; exact bel_fc 0 x) (bel_fc _ _) rfl ?_
    simp -dsimp only [FC.row,List.set_cons_zero]
    simp -dsimp (maxSteps:=4000000) +contextual (disch:=first | omega | decide +kernel) only [↓vsD,vsE,↓Nat.reduceLT,simprocAttr,ny_next,exNextO_codes,ny_int,exDrawO_codes,ny_piece,intG,pcG,vcel,hg,eP,hlF,hi]
    refine hfin _ _ _ _ _ hO (hfr _ _ (p.fs.set 0 (oddC l r1.2 x).1) (by rw [e0]; rfl) (by rw [← encF_set0,eF]; rfl)) (Frz.msl0 (elem:=58) (sz:=3) (by omega) (by rw [← e1]; rfl) (encD_bel _ _))
   ·have hO:oddS l k S = (S,r.2):=by simp only [oddS,← hr,if_neg (show ¬ r.1 = 0 by omega),if_neg (show ¬ r.1 = 1 by omega),if_neg (show ¬ r.1 = 2 by omega),if_neg (show ¬ r.1 = 3 by omega)]
    simp -dsimp (maxSteps:=4000000) +contextual (disch:=first | omega | decide +kernel) only [↓vsD,vsE,↓Nat.reduceLT,simprocAttr,ny_next,exNextO_codes,ny_int,exDrawO_codes,ny_piece,intG,pcG,vcel,e0,e1]
    refine v_draws _ _ _ _ _ _ [2,5,7,9] [] [(0,0),(0,0),(0,0),(0,1),(0,1),(0,0),(1,2),(0,0),(3,3),(0,0)] (by decide +kernel) (by decide +kernel) (by decide +kernel) (by decide +kernel) ?_
    simp -dsimp (maxSteps:=4000000) +contextual (disch:=first | omega | decide +kernel) only [↓vsD,vsE,↓Nat.reduceLT,simprocAttr,ny_next,exNextO_codes,ny_int,exDrawO_codes,ny_piece,intG,pcG,vdA,↓vd_end,↓vdm_go,↓vd_op,↓guard_none,↓guard_some,vcel,e0,e1,hl,← hr,nP,nD,bytesK,lenK,eP,eD]
    exact hfin _ _ _ _ _ hO (Frz.msl0 (elem:=32) (sz:=5) (by omega) (by rw [← e0]; rfl) (encP_bel _ _)) (Frz.msl0 (elem:=58) (sz:=3) (by omega) (by rw [← e1]; rfl) (encD_bel _ _))
end Go.Proofs.Ythjoehaglonjaaa
