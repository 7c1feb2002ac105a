import Derived.Test.YthjoehaglonjaaaSuD
import Derived.Test.YthjoehaglonjaaaInA
set_option maxRecDepth 8000
set_option linter.unusedSimpArgs false
set_option linter.unusedVariables false
namespace Go.Proofs.Ythjoehaglonjaaa
open Go.PV
def intG (l:List Int) (k:Nat):PV × Nat:=(.int .i64 (intC l k).1,(intC l k).2)
def pcG (l:List Int) (k:Nat):PV × Nat:=(.agg (pieceF l k).1.row,(pieceF l k).2)
def ny:Ext:=(nx.add 35 (fun args σ=>exDraw intG σ args)).add 14 (fun args σ=>exDraw pcG σ args)
theorem ny_ok:ExtOk Try.prog ny :=
 ((nx_ok).add rfl (exDraw_ok (fun l k=>bel_int _ _ _) (fun l k h1 h2 h3=>int_ok l k h1 h2 h3))).add rfl (exDraw_ok (fun l k=>bel_pc _ _) (fun l k h1 h2 h3=>dpieceX_w l k h1 h2 h3))
section
variable (σ:Store) (o:Nat) (n:Int)
theorem ny_next:ny.f 24 [.ptr o 0 0 0,.int .i64 n] σ = exNextO o n σ σ[o]?:=rfl
theorem ny_int:ny.f 35 [.ptr o 0 0 0] σ = exDrawO intG o σ σ[o]?:=rfl
theorem ny_piece:ny.f 14 [.ptr o 0 0 0] σ = exDrawO pcG o σ σ[o]?:=rfl
end
def oddC (l:List Int) (k:Nat) (x:FC):FC × Nat :=
 if (nxt l k 6).1 = 0 then (⟨(intC l (nxt l k 6).2).1,x.blocks,x.edges,x.sites⟩,(intC l (nxt l k 6).2).2)
 else if (nxt l k 6).1 = 1 then (⟨x.ent,x.blocks.set (nxt l (nxt l k 6).2 2).1.toNat (intC l (nxt l (nxt l k 6).2 2).2).1,x.edges,x.sites⟩,(intC l (nxt l (nxt l k 6).2 2).2).2)
 else if (nxt l k 6).1 = 2 then (⟨x.ent,x.blocks,x.edges.set (nxt l (nxt l k 6).2 2).1.toNat
   (if (nxt l (nxt l (nxt l k 6).2 2).2 2).1 = 0 then ((intC l (nxt l (nxt l (nxt l k 6).2 2).2 2).2).1,(x.edges.getD (nxt l (nxt l k 6).2 2).1.toNat (0,0)).2) else ((x.edges.getD (nxt l (nxt l k 6).2 2).1.toNat (0,0)).1,(intC l (nxt l (nxt l (nxt l k 6).2 2).2 2).2).1)),x.sites⟩,(intC l (nxt l (nxt l (nxt l k 6).2 2).2 2).2).2)
 else if (nxt l k 6).1 = 3 then (⟨x.ent,x.blocks ++ [1],x.edges,x.sites⟩,(nxt l k 6).2)
 else if (nxt l k 6).1 = 4 then (⟨x.ent,x.blocks,x.edges ++ [(0,0)],x.sites⟩,(nxt l k 6).2)
 else (x,(nxt l k 6).2)
set_option maxHeartbeats 16000000 in
theorem oddC_w (l:List Int) (k:Nat) (hl:okInts .u8 l) (hll:l.length < 2 ^ 40) (hk:k ≤ l.length) (x:FC) (hx1:x.blocks.length = 2) (hx2:x.edges.length = 2) :
  PCall Try.prog 36 [.ptr 0 0 0 0,.agg x.row] [codes l k] (fun q τ=>q = .agg (oddC l k x).1.row ∧ τ = [codes l (oddC l k x).2]):=by
 obtain ⟨ent,bs,es,ss⟩:=x
 dsimp only at hx1 hx2
 obtain ⟨b0,b1,rfl⟩:∃ b0 b1,bs = [b0,b1]:=by
  match bs,hx1 with
  | [a,b],_=>exact ⟨a,b,rfl⟩
 obtain ⟨t0,t1,rfl⟩:∃ b0 b1,es = [b0,b1]:=by
  match es,hx2 with
  | [a,b],_=>exact ⟨a,b,rfl⟩
 have e0:ints [b0,b1] = [[.int .i64 b0],[.int .i64 b1]]:=rfl
 have e1:encT [t0,t1] = [[.int .i64 t0.1,.int .i64 t0.2],[.int .i64 t1.1,.int .i64 t1.2]]:=rfl
 have nI:=newsI [b0,b1]
 have nP:=newsP2 [t0,t1]
 rw [e0] at nI
 rw [e1] at nP
 have a0:=nxt_lt hl k 6 (by omega)
 have c0:=nxt_le hk 6
 obtain ⟨r,hr⟩:∃ r,r = nxt l k 6:=⟨_,rfl⟩
 rw [← hr] at a0 c0
 have a1:=nxt_lt hl r.2 2 (by omega)
 have c1:=nxt_le c0 2
 obtain ⟨r1,hr1⟩:∃ r1,r1 = nxt l r.2 2:=⟨_,rfl⟩
 rw [← hr1] at a1 c1
 have a2:=nxt_lt hl r1.2 2 (by omega)
 have c2:=nxt_le c1 2
 obtain ⟨r2,hr2⟩:∃ r2,r2 = nxt l r1.2 2:=⟨_,rfl⟩
 rw [← hr2] at a2 c2
 have hO:∀ x:FC,oddC l k x = if r.1 = 0 then (⟨(intC l r.2).1,x.blocks,x.edges,x.sites⟩,(intC l r.2).2)
   else if r.1 = 1 then (⟨x.ent,x.blocks.set r1.1.toNat (intC l r1.2).1,x.edges,x.sites⟩,(intC l r1.2).2)
   else if r.1 = 2 then (⟨x.ent,x.blocks,x.edges.set r1.1.toNat (if r2.1 = 0 then ((intC l r2.2).1,(x.edges.getD r1.1.toNat (0,0)).2) else ((x.edges.getD r1.1.toNat (0,0)).1,(intC l r2.2).1)),x.sites⟩,(intC l r2.2).2)
   else if r.1 = 3 then (⟨x.ent,x.blocks ++ [1],x.edges,x.sites⟩,r.2)
   else if r.1 = 4 then (⟨x.ent,x.blocks,x.edges ++ [(0,0)],x.sites⟩,r.2)
   else (x,r.2):=fun x=>by simp only [oddC,← hr,← hr1,← hr2]
 have hfin:∀ (y:FC) (k':Nat) (Q:Store) (A B:PV),oddC l k ⟨ent,[b0,b1],[t0,t1],ss⟩ = (y,k') → Frz 1 (codes l k' :: Q) A (.sl (ints y.blocks)) → Frz 1 (codes l k' :: Q) B (.sl (encT y.edges)) → y.sites = ss →
   Go.PV.Fin [codes l k] (fun q τ=>q = .agg (oddC l k ⟨ent,[b0,b1],[t0,t1],ss⟩).1.row ∧ τ = [codes l (oddC l k ⟨ent,[b0,b1],[t0,t1],ss⟩).2]) (.agg [.int .i64 y.ent,A,B,.sl (encS ss)]) (codes l k' :: Q):=fun y k' Q A B hy hA hB hs=>by
  rw [hy]
  refine fin1 (p2:=.agg y.row) (.agg _ _ rfl (fun i q hi=>?_)) (codes_bel _ _ _) ⟨rfl,rfl⟩
  match i,hi with
  | 0,hi=>simp at hi; subst hi; exact .keep _ (bel_int _ _ _)
  | 1,hi=>simp at hi; subst hi; exact hA
  | 2,hi=>simp at hi; subst hi; exact hB
  | 3,hi=>simp at hi; subst hi; show Frz 1 _ _ (.sl (encS y.sites)); rw [hs]; exact .keep _ (bel_sites _ _)
  | i + 4,hi=>simp at hi
 simp -dsimp only [FC.row,e0,e1]
 refine PCall.vfrz [] 18590868332894945343 73 [.cell 4 66] ny_ok mix Try.func36 rfl (by decide) rfl rfl (by simp) ?_
 simp -dsimp only [initFr,List.zipIdx_cons,List.zipIdx_nil,List.map_cons,List.map_nil,Nat.zero_add,Nat.reduceAdd]
 simp -dsimp (maxSteps:=4000000) +contextual (disch:=first | omega | decide +kernel) only [↓vsD,vsE,↓Nat.reduceLT,simprocAttr,ny_next,exNextO_codes,ny_int,exDrawO_codes,ny_piece,intG,pcG,vcel,hl]
 refine v_draws _ _ _ _ _ _ [2,5,7,9] [] [(0,0),(0,0),(0,0),(0,1),(0,1),(0,0),(1,2),(0,0),(3,3),(0,0)] (by decide +kernel) (by decide +kernel) (by decide +kernel) (by decide +kernel) ?_
 have l0:(ints [b0,b1]).length = 2:=rfl
 rcases (show r.1 = 0 ∨ r.1 = 1 ∨ r.1 = 2 ∨ r.1 = 3 ∨ r.1 = 4 ∨ r.1 = 5 by omega) with h | h | h | h | h | h
 ·simp -dsimp (maxSteps:=4000000) +contextual (disch:=first | omega | decide +kernel) only [↓vsD,vsE,↓Nat.reduceLT,simprocAttr,ny_next,exNextO_codes,ny_int,exDrawO_codes,ny_piece,intG,pcG,vdA,↓vd_end,↓vdm_go,↓vd_op,↓guard_none,↓guard_some,vcel,hl,nI,nP,bytesK,lenK,← hr]
  exact hfin ⟨(intC l r.2).1,[b0,b1],[t0,t1],ss⟩ _ _ _ _ (by rw [hO,if_pos h]) (Frz.msl0 (elem:=3) (sz:=1) (by omega) rfl (enc_bel _ _ _)) (Frz.msl0 (elem:=80) (sz:=2) (by omega) rfl (encT_bel _ _)) rfl
 ·simp -dsimp (maxSteps:=4000000) +contextual (disch:=first | omega | decide +kernel) only [↓vsD,vsE,↓Nat.reduceLT,simprocAttr,ny_next,exNextO_codes,ny_int,exDrawO_codes,ny_piece,intG,pcG,vdA,↓vd_end,↓vdm_go,↓vd_op,↓guard_none,↓guard_some,vcel,hl,nI,nP,bytesK,lenK,← hr]
  refine v_draws _ _ _ _ _ _ [6,8,10] [] [(0,2),(0,2),(0,0),(0,0),(0,0),(0,0),(0,0),(0,1),(0,0),(2,2),(0,0)] (by decide +kernel) (by decide +kernel) (by decide +kernel) (by decide +kernel) ?_
  rcases (show r1.1 = 0 ∨ r1.1 = 1 by omega) with hi | hi
  ·simp -dsimp (maxSteps:=4000000) +contextual (disch:=first | omega | decide +kernel) only [↓vsD,vsE,↓Nat.reduceLT,simprocAttr,ny_next,exNextO_codes,ny_int,exDrawO_codes,ny_piece,intG,pcG,vdA,↓vd_end,↓vdm_go,↓vd_op,↓guard_none,↓guard_some,vcel,hl,← hr1,hi]
   exact hfin ⟨ent,[(intC l r1.2).1,b1],[t0,t1],ss⟩ _ _ _ _ (by rw [hO,if_neg (by omega),if_pos h,hi]; rfl) (Frz.msl0 (elem:=3) (sz:=1) (by omega) rfl (enc_bel _ _ _)) (Frz.msl0 (elem:=80) (sz:=2) (by omega) rfl (encT_bel _ _)) rfl
  ·simp -dsimp (maxSteps:=4000000) +contextual (disch:=first | omega | decide +kernel) only [↓vsD,vsE,↓Nat.reduceLT,simprocAttr,ny_next,exNextO_codes,ny_int,exDrawO_codes,ny_piece,intG,pcG,vdA,↓vd_end,↓vdm_go,↓vd_op,↓guard_none,↓guard_some,vcel,hl,← hr1,hi]
   exact hfin ⟨ent,[b0,(intC l r1.2).1],[t0,t1],ss⟩ _ _ _ _ (by rw [hO,if_neg (by omega),if_pos h,hi]; rfl) (Frz.msl0 (elem:=3) (sz:=1) (by omega) rfl (enc_bel _ _ _)) (Frz.msl0 (elem:=80) (sz:=2) (by omega) rfl (encT_bel _ _)) rfl
 ·simp -dsimp (maxSteps:=4000000) +contextual (disch:=first | omega | decide +kernel) only [↓vsD,vsE,↓Nat.reduceLT,simprocAttr,ny_next,exNextO_codes,ny_int,exDrawO_codes,ny_piece,intG,pcG,vdA,↓vd_end,↓vdm_go,↓vd_op,↓guard_none,↓guard_some,vcel,hl,nI,nP,bytesK,lenK,← hr]
  refine v_draws _ _ _ _ _ _ [6,8,10,13] [] [(0,3),(0,3),(0,0),(0,0),(0,0),(0,0),(0,0),(0,1),(0,0),(0,2),(0,0),(1,3),(3,3),(0,0)] (by decide +kernel) (by decide +kernel) (by decide +kernel) (by decide +kernel) ?_
  rcases (show r1.1 = 0 ∨ r1.1 = 1 by omega) with hi | hi
  ·rcases (show r2.1 = 0 ∨ r2.1 = 1 by omega) with hw | hw
   ·simp -dsimp (maxSteps:=4000000) +contextual (disch:=first | omega | decide +kernel) only [↓vsD,vsE,↓Nat.reduceLT,simprocAttr,ny_next,exNextO_codes,ny_int,exDrawO_codes,ny_piece,intG,pcG,vdA,↓vd_end,↓vdm_go,↓vd_op,↓guard_none,↓guard_some,vcel,hl,← hr1,← hr2,hi,hw]
    exact hfin ⟨ent,[b0,b1],[((intC l r2.2).1,t0.2),t1],ss⟩ _ _ _ _ (by rw [hO,if_neg (by omega),if_neg (by omega),if_pos h,hi,if_pos hw]; rfl) (Frz.msl0 (elem:=3) (sz:=1) (by omega) rfl (enc_bel _ _ _)) (Frz.msl0 (elem:=80) (sz:=2) (by omega) rfl (encT_bel _ _)) rfl
   ·simp -dsimp (maxSteps:=4000000) +contextual (disch:=first | omega | decide +kernel) only [↓vsD,vsE,↓Nat.reduceLT,simprocAttr,ny_next,exNextO_codes,ny_int,exDrawO_codes,ny_piece,intG,pcG,vdA,↓vd_end,↓vdm_go,↓vd_op,↓guard_none,↓guard_some,vcel,hl,← hr1,← hr2,hi,hw]
    exact hfin ⟨ent,[b0,b1],[(t0.1,(intC l r2.2).1),t1],ss⟩ _ _ _ _ (by rw [hO,if_neg (by omega),if_neg (by omega),if_pos h,hi,if_neg (by omega)]; rfl) (Frz.msl0 (elem:=3) (sz:=1) (by omega) rfl (enc_bel _ _ _)) (Frz.msl0 (elem:=80) (sz:=2) (by omega) rfl (encT_bel _ _)) rfl
  ·rcases (show r2.1 = 0 ∨ r2.1 = 1 by omega) with hw | hw
   ·simp -dsimp (maxSteps:=4000000) +contextual (disch:=first | omega | decide +kernel) only [↓vsD,vsE,↓Nat.reduceLT,simprocAttr,ny_next,exNextO_codes,ny_int,exDrawO_codes,ny_piece,intG,pcG,vdA,↓vd_end,↓vdm_go,↓vd_op,↓guard_none,↓guard_some,vcel,hl,← hr1,← hr2,hi,hw]
    exact hfin ⟨ent,[b0,b1],[t0,((intC l r2.2).1,t1.2)],ss⟩ _ _ _ _ (by rw [hO,if_neg (by omega),if_neg (by omega),if_pos h,hi,if_pos hw]; rfl) (Frz.msl0 (elem:=3) (sz:=1) (by omega) rfl (enc_bel _ _ _)) (Frz.msl0 (elem:=80) (sz:=2) (by omega) rfl (encT_bel _ _)) rfl
   ·simp -dsimp (maxSteps:=4000000) +contextual (disch:=first | omega | decide +kernel) only [↓vsD,vsE,↓Nat.reduceLT,simprocAttr,ny_next,exNextO_codes,ny_int,exDrawO_codes,ny_piece,intG,pcG,vdA,↓vd_end,↓vdm_go,↓vd_op,↓guard_none,↓guard_some,vcel,hl,← hr1,← hr2,hi,hw]
    exact hfin ⟨ent,[b0,b1],[t0,(t1.1,(intC l r2.2).1)],ss⟩ _ _ _ _ (by rw [hO,if_neg (by omega),if_neg (by omega),if_pos h,hi,if_neg (by omega)]; rfl) (Frz.msl0 (elem:=3) (sz:=1) (by omega) rfl (enc_bel _ _ _)) (Frz.msl0 (elem:=80) (sz:=2) (by omega) rfl (encT_bel _ _)) rfl
 ·simp -dsimp (maxSteps:=4000000) +contextual (disch:=first | omega | decide +kernel) only [↓vsD,vsE,↓Nat.reduceLT,simprocAttr,ny_next,exNextO_codes,ny_int,exDrawO_codes,ny_piece,intG,pcG,vdA,↓vd_end,↓vdm_go,↓vd_op,↓guard_none,↓guard_some,vcel,hl,nI,nP,bytesK,lenK,← hr]
  exact hfin ⟨ent,[b0,b1,1],[t0,t1],ss⟩ _ _ _ _ (by rw [hO,if_neg (by omega),if_neg (by omega),if_neg (by omega),if_pos h]; rfl) (Frz.msl0 (elem:=3) (sz:=1) (by omega) rfl (enc_bel _ _ _)) (Frz.msl0 (elem:=80) (sz:=2) (by omega) rfl (encT_bel _ _)) rfl
 ·simp -dsimp (maxSteps:=4000000) +contextual (disch:=first | omega | decide +kernel) only [↓vsD,vsE,↓Nat.reduceLT,simprocAttr,ny_next,exNextO_codes,ny_int,exDrawO_codes,ny_piece,intG,pcG,vdA,↓vd_end,↓vdm_go,↓vd_op,↓guard_none,↓guard_some,vcel,hl,nI,nP,bytesK,lenK,← hr]
  exact hfin ⟨ent,[b0,b1],[t0,t1,(0,0)],ss⟩ _ _ _ _ (by rw [hO,if_neg (by omega),if_neg (by omega),if_neg (by omega),if_neg (by omega),if_pos h]; rfl) (Frz.msl0 (elem:=3) (sz:=1) (by omega) rfl (enc_bel _ _ _)) (Frz.msl0 (elem:=80) (sz:=2) (by omega) rfl (encT_bel _ _)) rfl
 ·simp -dsimp (maxSteps:=4000000) +contextual (disch:=first | omega | decide +kernel) only [↓vsD,vsE,↓Nat.reduceLT,simprocAttr,ny_next,exNextO_codes,ny_int,exDrawO_codes,ny_piece,intG,pcG,vdA,↓vd_end,↓vdm_go,↓vd_op,↓guard_none,↓guard_some,vcel,hl,nI,nP,bytesK,lenK,← hr]
  exact hfin ⟨ent,[b0,b1],[t0,t1],ss⟩ _ _ _ _ (by rw [hO,if_neg (by omega),if_neg (by omega),if_neg (by omega),if_neg (by omega),if_neg (by omega)]) (Frz.msl0 (elem:=3) (sz:=1) (by omega) rfl (enc_bel _ _ _)) (Frz.msl0 (elem:=80) (sz:=2) (by omega) rfl (encT_bel _ _)) rfl
end Go.Proofs.Ythjoehaglonjaaa
