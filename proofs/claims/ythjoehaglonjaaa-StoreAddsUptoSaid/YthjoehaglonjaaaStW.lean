import Derived.Test.YthjoehaglonjaaaStS
import Derived.Test.YthjoehaglonjaaaStN
import Derived.Test.YthjoehaglonjaaaStP
set_option maxRecDepth 8000
set_option linter.unusedSimpArgs false
set_option linter.unusedVariables false
namespace Go.PV
theorem PCall.ofFin {P:Program} {F:FuncId} {args:List PV} {σ:Store} {K:PV → Store → Prop} (h:PCall P F args σ (Fin σ K)):PCall P F args σ K:=by
 refine ⟨h.1,fun I ρ w vs hinv ha=>(h.2 I ρ w vs hinv ha).mono ?_⟩
 rintro e w' ⟨v,p,I',ρ',σ',rfl,hR,hinv',hg,⟨p2,hf,hold,hK⟩⟩
 exact ⟨v,p2,frzI I' ρ' σ' w' σ.length,cutR σ.length ρ',σ'.take σ.length,rfl,hf.sound hinv' v hR,hinv'.cut (fun o ho=>by
   obtain ⟨obj,h1,h2⟩:=hold o ho
   refine ⟨obj,h1,?_⟩
   rcases h2 with h2 | h2
   ·exact objBel_of_inv hinv h2
   ·exact h2),hg.cut hinv hinv',hK⟩
end Go.PV
namespace Go.Proofs.Ythjoehaglonjaaa
open Go.PV
def exCl (T:TypeId) (σ:Store):List PV → Option (Prop × PV × Store)
 | [.sl rows]=>some (rows.length ≤ 2900000 ∧ newsOk Try.prog T rows = true ∧ (∀ k,∀ row ∈ rows,∀ p ∈ row,Bel k p),.sl rows,σ)
 | _=>some (False,.unk,σ)
theorem exCl_pure (T:TypeId) (args:List PV) (σ:Store):∃ c p,exCl T σ args = some (c,p,σ):=by
 unfold exCl; split <;> exact ⟨_,_,rfl⟩
theorem exCl_ok {F:FuncId} {T:TypeId} (h:∀ rows:List (List PV),rows.length ≤ 2900000 → newsOk Try.prog T rows = true → (∀ k,∀ row ∈ rows,∀ p ∈ row,Bel k p) → ∀ σ,PCall Try.prog F [.sl rows] σ (fun p σ'=>p = .sl rows ∧ σ' = σ)):Known.Ok Try.prog F (fun args σ=>exCl T σ args):=by
 intro args σ c p σ' he hc
 simp only [exCl] at he
 split at he
 ·cases he; exact h _ hc.1 hc.2.1 hc.2.2 σ
 ·cases he; exact hc.elim
theorem cloneIn_frz (rows:List (List PV)) (hl:rows.length ≤ 2900000) (hn:newsOk Try.prog 3 rows = true) (hb:∀ k,∀ row ∈ rows,∀ p ∈ row,Bel k p) (σ:Store):PCall Try.prog 100 [.sl rows] σ (fun p σ'=>p = .sl rows ∧ σ' = σ):=by
 cases rows with
 | nil=>exact cloneIn_none σ
 | cons r rows =>
  rw [List.length_cons] at hl
  refine PCall.ofFin (PCall.mono (cloneIn_some r rows (by omega) hn σ) ?_)
  rintro p τ ⟨rfl,rfl⟩
  exact fin_app (Frz.msl0 (elem:=3) (sz:=1) (Nat.le_refl _) (by simp) (hb _)) ⟨rfl,rfl⟩
theorem cloneP2_frz (rows:List (List PV)) (hl:rows.length ≤ 2900000) (hn:newsOk Try.prog 80 rows = true) (hb:∀ k,∀ row ∈ rows,∀ p ∈ row,Bel k p) (σ:Store):PCall Try.prog 113 [.sl rows] σ (fun p σ'=>p = .sl rows ∧ σ' = σ):=by
 cases rows with
 | nil=>exact cloneP2_none σ
 | cons r rows =>
  rw [List.length_cons] at hl
  refine PCall.ofFin (PCall.mono (cloneP2_some r rows (by omega) hn σ) ?_)
  rintro p τ ⟨rfl,rfl⟩
  exact fin_app (Frz.msl0 (elem:=80) (sz:=2) (Nat.le_refl _) (by simp) (hb _)) ⟨rfl,rfl⟩
theorem cloneTg_frz (rows:List (List PV)) (hl:rows.length ≤ 2900000) (hn:newsOk Try.prog 88 rows = true) (hb:∀ k,∀ row ∈ rows,∀ p ∈ row,Bel k p) (σ:Store):PCall Try.prog 115 [.sl rows] σ (fun p σ'=>p = .sl rows ∧ σ' = σ):=by
 cases rows with
 | nil=>exact cloneTg_none σ
 | cons r rows =>
  rw [List.length_cons] at hl
  refine PCall.ofFin (PCall.mono (cloneTg_some r rows (by omega) hn σ) ?_)
  rintro p τ ⟨rfl,rfl⟩
  exact fin_app (Frz.msl0 (elem:=88) (sz:=2) (Nat.le_refl _) (by simp) (hb _)) ⟨rfl,rfl⟩
theorem cloneId_frz (rows:List (List PV)) (hl:rows.length ≤ 2900000) (hn:newsOk Try.prog 58 rows = true) (hb:∀ k,∀ row ∈ rows,∀ p ∈ row,Bel k p) (σ:Store):PCall Try.prog 87 [.sl rows] σ (fun p σ'=>p = .sl rows ∧ σ' = σ):=by
 cases rows with
 | nil=>exact cloneId_none σ
 | cons r rows =>
  rw [List.length_cons] at hl
  refine PCall.ofFin (PCall.mono (cloneId_some r rows (by omega) hn σ) ?_)
  rintro p τ ⟨rfl,rfl⟩
  exact fin_app (Frz.msl0 (elem:=58) (sz:=3) (Nat.le_refl _) (by simp) (hb _)) ⟨rfl,rfl⟩
def cl1:Ext:=(((sc2.addP 100 (fun args σ=>exCl 3 σ args)).addP 113 (fun args σ=>exCl 80 σ args)).addP 115 (fun args σ=>exCl 88 σ args)).addP 87 (fun args σ=>exCl 58 σ args)
theorem cl1_ok:ExtOk Try.prog cl1 :=
 (((sc2_ok.addP (exCl_ok cloneIn_frz) (exCl_pure _)).addP (exCl_ok cloneP2_frz) (exCl_pure _)).addP (exCl_ok cloneTg_frz) (exCl_pure _)).addP (exCl_ok cloneId_frz) (exCl_pure _)
section
variable (σ:Store) (a b:Int) (x y:Idn) (p:Pc)
theorem cl1_in (l:List Int) (h:l.length ≤ 2900000):cl1.f 100 [.sl (ints l)] σ = some (True,.sl (ints l),σ):=by
 show some (_,_,σ) = _
 rw [eq_true (show (ints l).length ≤ 2900000 ∧ newsOk Try.prog 3 (ints l) = true ∧ (∀ k,∀ row ∈ ints l,∀ p ∈ row,Bel k p) from ⟨by rw [show (ints l).length = l.length from enc_length _ _]; exact h,newsI l,fun k=>enc_bel _ k l⟩)]
theorem cl1_p2 (l:List (Int × Int)) (h:l.length ≤ 2900000):cl1.f 113 [.sl (encT l)] σ = some (True,.sl (encT l),σ):=by
 show some (_,_,σ) = _
 rw [eq_true (show (encT l).length ≤ 2900000 ∧ newsOk Try.prog 80 (encT l) = true ∧ (∀ k,∀ row ∈ encT l,∀ p ∈ row,Bel k p) from ⟨by rw [show (encT l).length = l.length from encT_length _]; exact h,newsP2 l,fun k=>encT_bel k l⟩)]
theorem cl1_tg (l:List (Int × Int)) (h:l.length ≤ 2900000):cl1.f 115 [.sl (encT l)] σ = some (True,.sl (encT l),σ):=by
 show some (_,_,σ) = _
 rw [eq_true (show (encT l).length ≤ 2900000 ∧ newsOk Try.prog 88 (encT l) = true ∧ (∀ k,∀ row ∈ encT l,∀ p ∈ row,Bel k p) from ⟨by rw [show (encT l).length = l.length from encT_length _]; exact h,newsT l,fun k=>encT_bel k l⟩)]
theorem cl1_cid (l:List Idn) (h:l.length ≤ 2900000):cl1.f 87 [.sl (encD l)] σ = some (True,.sl (encD l),σ):=by
 show some (_,_,σ) = _
 rw [eq_true (show (encD l).length ≤ 2900000 ∧ newsOk Try.prog 58 (encD l) = true ∧ (∀ k,∀ row ∈ encD l,∀ p ∈ row,Bel k p) from ⟨by rw [show (encD l).length = l.length from encD_length _]; exact h,newsD l,fun k=>encD_bel k l⟩)]
theorem cl1_comp:cl1.f 54 [.agg [.int .i64 x.1,.int .i64 x.2.1,.int .i64 x.2.2],.agg [.int .i64 y.1,.int .i64 y.2.1,.int .i64 y.2.2]] σ = some (True,.int .i64 (cmp3 x y),σ):=rfl
theorem cl1_rcomp:cl1.f 46 [.agg [.int .i64 x.1,.int .i64 x.2.1,.int .i64 x.2.2],.agg [.int .i64 y.1,.int .i64 y.2.1,.int .i64 y.2.2]] σ = some (True,.int .i64 (cmp3 x y),σ):=rfl
theorem cl1_ident:cl1.f 49 [.agg [.int .i64 p.id.1,.int .i64 p.id.2.1,.int .i64 p.id.2.2,.int .u64 p.dig,.sl (encF p.fs)]] σ = some (True,.agg [.int .i64 p.id.1,.int .i64 p.id.2.1,.int .i64 p.id.2.2],σ):=sc2_id σ p
theorem cl1_rid:cl1.f 47 [.agg [.int .i64 p.id.1,.int .i64 p.id.2.1,.int .i64 p.id.2.2,.int .u64 p.dig,.sl (encF p.fs)]] σ = some (True,.agg [.int .i64 p.id.1,.int .i64 p.id.2.1,.int .i64 p.id.2.2],σ):=sc2_rid σ p
end
def OwnC (Y:Store) (C:PV) (l:List Site):Prop:=(C = .sl [] ∧ l = []) ∨ ∃ o,C = .msl (o + 3) 1 ∧ Y[o]? = some (.rows 91 3 (encS l) 1)
theorem OwnC.app {Y:Store} {C:PV} {l:List Site} (h:OwnC Y C l) (X:Store):OwnC (Y ++ X) C l:=by
 rcases h with h | ⟨o,h1,h2⟩
 ·exact .inl h
 ·exact .inr ⟨o,h1,by rw [List.getElem?_append_left (List.getElem?_eq_some_iff.1 h2).1,h2]⟩
def RowC (Y:Store) (x:FC) (row:List PV):Prop:=∃ C,row = [.int .i64 x.ent,.sl (ints x.blocks),.sl (encT x.edges),C] ∧ OwnC Y C x.sites
theorem RowC.app {Y:Store} {x:FC} {row:List PV} (h:RowC Y x row) (X:Store):RowC (Y ++ X) x row:=by
 obtain ⟨C,h1,h2⟩:=h
 exact ⟨C,h1,h2.app X⟩
theorem RowC.frz {Y:Store} {x:FC} {row:List PV} (h:RowC Y x row) (a b c:Go.PV.Obj):row.length = 4 ∧ ∀ (j:Nat) (p:PV),row[j]? = some p → Frz 0 (a :: b :: c :: Y) p (x.row.getD j .unk):=by
 obtain ⟨C,rfl,h2⟩:=h
 refine ⟨rfl,fun j p hj=>?_⟩
 match j,hj with
 | 0,hj=>simp at hj; subst hj; exact .keep _ (bel_int _ _ _)
 | 1,hj=>simp at hj; subst hj; exact .keep _ (bel_ints _ _)
 | 2,hj=>simp at hj; subst hj; exact .keep _ (bel_pairs _ _)
 | 3,hj =>
  simp at hj; subst hj
  rcases h2 with ⟨rfl,h⟩ | ⟨o,rfl,h2⟩
  ·show Frz 0 _ _ (.sl (encS x.sites))
   rw [h]
   exact .keep _ (bel_sites _ [])
  ·exact Frz.msl0 (Nat.zero_le _) (show (a :: b :: c :: Y)[o + 3]? = _ from h2) (encS_bel _ _)
 | j + 4,hj=>simp at hj
structure CpC (p:Pc) (k:Nat) (R:List (List PV)) (Y:Store):Prop where
 kk:k ≤ p.fs.length
 l:R.length = p.fs.length
 d:∀ j,j < k → RowC Y (p.fs.getD j default) (R.getD j [])
 t:∀ j,k ≤ j → j < p.fs.length → R.getD j [] = (p.fs.getD j default).row
theorem CpC.step {p:Pc} {k:Nat} {R:List (List PV)} {Y:Store} (h:CpC p k R Y) (hk:k < p.fs.length) (X:Store) {row:List PV} (hr:RowC (Y ++ X) (p.fs.getD k default) row):CpC p (k + 1) (R.set k row) (Y ++ X):=by
 have hl:=h.l
 refine ⟨hk,by rw [List.length_set,hl],fun j hj=>?_,fun j hj hj2=>?_⟩
 ·by_cases e:j = k
  ·subst e
   rw [List.getD_eq_getElem?_getD (l:=R.set _ row),List.getElem?_set_self (by omega)]
   exact hr
  ·rw [List.getD_eq_getElem?_getD (l:=R.set _ row),List.getElem?_set_ne (fun e2=>e e2.symm),← List.getD_eq_getElem?_getD]
   exact (h.d j (by omega)).app X
 ·rw [List.getD_eq_getElem?_getD (l:=R.set _ row),List.getElem?_set_ne (by omega),← List.getD_eq_getElem?_getD]
  exact h.t j (by omega) hj2
theorem CpC.frz {p:Pc} {R:List (List PV)} {Y:Store} (h:CpC p p.fs.length R Y) (a b:Go.PV.Obj):Frz 0 (a :: b :: .rows 66 4 R 1 :: Y) (.msl 2 1) (.sl (encF p.fs)):=by
 have key:∀ i row,R[i]? = some row → RowC Y (p.fs.getD i default) row ∧ (encF p.fs).getD i [] = (p.fs.getD i default).row:=fun i row hr=>by
  have hi:i < p.fs.length:=by rw [← h.l]; exact (List.getElem?_eq_some_iff.1 hr).1
  have:=h.d i hi
  rw [List.getD_eq_getElem?_getD (l:=R),hr,Option.getD_some] at this
  exact ⟨this,encF_getD _ _ hi⟩
 refine .msl 2 1 _ _ R (encF p.fs) (Nat.zero_le _) rfl (by rw [encF_length,h.l]) (fun i row hr=>?_) (fun i row j q hr hj=>?_)
 ·obtain ⟨h1,h2⟩:=key i row hr
  rw [h2,(h1.frz a b a).1]; rfl
 ·obtain ⟨h1,h2⟩:=key i row hr
  rw [h2]
  exact (h1.frz a b _).2 j q hj
theorem newsS (l:List Site):newsOk Try.prog 91 (encS l) = true:=by
 show newsOk _ _ (List.map _ _) = true
 simp [newsOk,PV.cell,tyC,Site.row]
set_option maxHeartbeats 8000000 in
theorem copied_w (p:Pc) (hp:OkPc p) (hx:∀ x ∈ p.fs,SmC x) :
  PCall Try.prog 86 [.agg p.row] [] (fun q _=>q = .agg p.row):=by
 have k0:∀ args σ,cl1.f 112 args σ = none:=fun _ _=>rfl
 have k1:∀ args σ,cl1.f 114 args σ = none:=fun _ _=>rfl
 have eF:(encF p.fs).length = p.fs.length:=encF_length _
 have er:p.row = [.int .i64 p.id.1,.int .i64 p.id.2.1,.int .i64 p.id.2.2,.int .u64 p.dig,.sl (encF p.fs)]:=rfl
 have hn:=hp.n
 have hnw:newsOk Try.prog 66 (encF p.fs) = true:=by
  show newsOk _ _ (List.map _ _) = true
  simp [newsOk,PV.cell,tyC,FC.row]
 rw [er]
 refine PCall.vfrz [] 31525197391822911 75 [.cell 2 32] cl1_ok mix Try.func86 rfl (by decide) rfl rfl (by simp) ?_
 simp -dsimp only [initFr,List.zipIdx_cons,List.zipIdx_nil,List.map_cons,List.map_nil,Nat.zero_add,Nat.reduceAdd]
 simp -dsimp (maxSteps:=4000000) +contextual (disch:=first | omega | decide +kernel) only [↓vsD,vsE,↓Nat.reduceLT,simprocAttr,cl1_in,cl1_p2,cl1_tg,cl1_cid,cl1_comp,cl1_rcomp,cl1_ident,cl1_rid,k0]
 obtain ⟨r,rows,hrr⟩:∃ r rows,encF p.fs = r :: rows:=by
  cases h:encF p.fs with
  | nil=>rw [h] at eF; simp at eF; omega
  | cons r rows=>exact ⟨r,rows,rfl⟩
 have hrl:rows.length + 1 = p.fs.length:=by rw [← eF,hrr]; rfl
 rw [hrr]
 refine PCall.mono (cloneFc_some r rows (by omega) (by rw [← hrr]; exact hnw) _) ?_
 rintro q τ ⟨rfl,rfl⟩
 rw [← hrr]
 simp -dsimp (maxSteps:=4000000) +contextual (disch:=first | omega | decide +kernel) only [↓vsD,vsE,↓Nat.reduceLT,simprocAttr,cl1_in,cl1_p2,cl1_tg,cl1_cid,cl1_comp,cl1_rcomp,cl1_ident,cl1_rid,eF]
 refine v_loopS (fun s:Nat × List (List PV) × Store=>[(1,.ptr 0 0 0 0),(2,.ptr 1 0 0 0),(15,.int .i64 p.fs.length),(16,.int .i64 s.1)])
  (fun s=>.rows 32 5 [[.int .i64 p.id.1,.int .i64 p.id.2.1,.int .i64 p.id.2.2,.int .u64 p.dig,.msl 2 1]] 0 :: .rows 32 5 [[.int .i64 0,.int .i64 0,.int .i64 0,.int .u64 0,.nils]] 0 :: .rows 66 4 s.2.1 1 :: s.2.2)
  (fun s=>CpC p s.1 s.2.1 s.2.2) (fun s=>p.fs.length - s.1) (0,encF p.fs,[]) (by simp [weaker,Go.PV.look]) rfl ⟨Nat.zero_le _,eF,fun j hj=>absurd hj (Nat.not_lt_zero _),fun j _ hj=>encF_getD _ _ hj⟩ ?_
 rintro ⟨k,R,Y⟩ h
 dsimp only at h ⊢
 have hRl:=h.l
 by_cases hkl:k < p.fs.length
 ·have hrow:=h.t k (Nat.le_refl _) hkl
  have hs:=hx _ (gtD (d:=default) hkl)
  have hst:=fun X row hr=>h.step (row:=row) hkl X hr
  obtain ⟨x,hxe⟩:∃ x,x = p.fs.getD k default:=⟨_,rfl⟩
  rw [← hxe] at hrow hs hst
  rw [FC.row] at hrow
  obtain ⟨hs1,hs2,hs3,hs4⟩:=hs
  simp -dsimp (maxSteps:=4000000) +contextual (disch:=first | omega | decide +kernel) only [↓vsD,vsE,↓Nat.reduceLT,simprocAttr,cl1_in,cl1_p2,cl1_tg,cl1_cid,cl1_comp,cl1_rcomp,cl1_ident,cl1_rid,hRl,hrow,vcel]
  refine v_draws _ _ _ _ _ _ [7,12,17,20,23,26] [] [(0,3),(0,4),(0,5),(0,0),(0,0),(0,0),(0,0),(0,0),(0,1),(0,1),(0,1),(0,1),(0,0),(0,2),(0,2),(0,2),(0,2),(0,0),(3,3),(3,3),(0,0),(4,4),(4,4),(0,0),(5,5),(5,5),(0,0)] (by decide +kernel) (by decide +kernel) (by decide +kernel) (by decide +kernel) ?_
  simp -dsimp (maxSteps:=4000000) +contextual (disch:=first | omega | decide +kernel) only [↓vsD,vsE,↓Nat.reduceLT,simprocAttr,cl1_in,cl1_p2,cl1_tg,cl1_cid,cl1_comp,cl1_rcomp,cl1_ident,cl1_rid,vdA,↓vd_end,↓vdm_go,↓vd_op,↓guard_none,↓guard_some,hRl,hrow,k1,vcel]
  have hgs:∀ a,(R.set k a).getD k [] = a:=fun a=>by rw [List.getD_eq_getElem?_getD,List.getElem?_set_self (by omega),Option.getD_some]
  by_cases hsi:x.sites = []
  ·have hcl:∀ σ,PCall Try.prog 114 [.sl (encS x.sites)] σ (fun p σ'=>p = .sl [] ∧ σ' = σ):=fun σ=>by rw [hsi]; exact cloneSite_none σ
   refine ⟨_,_,hcl _,by simp [rowsAt,outR],?_⟩
   simp -dsimp (maxSteps:=4000000) +contextual (disch:=first | omega | decide +kernel) only [↓vsD,vsE,↓Nat.reduceLT,simprocAttr,cl1_in,cl1_p2,cl1_tg,cl1_cid,cl1_comp,cl1_rcomp,cl1_ident,cl1_rid,vdA,↓vd_end,↓vdm_go,↓vd_op,↓guard_none,↓guard_some,hRl,hrow,k1,vcel,List.length_set,hgs,List.set_set]
   refine v_loopS (fun _:Unit=>[(1,.ptr 0 0 0 0),(2,.ptr 1 0 0 0),(15,.int .i64 p.fs.length),(16,.int .i64 k),(52,.int .i64 0),(53,.int .i64 0)])
    (fun _=>.rows 32 5 [[.int .i64 p.id.1,.int .i64 p.id.2.1,.int .i64 p.id.2.2,.int .u64 p.dig,.msl 2 1]] 0 :: .rows 32 5 [[.int .i64 0,.int .i64 0,.int .i64 0,.int .u64 0,.nils]] 0 :: .rows 66 4 (R.set k [.int .i64 x.ent,.sl (ints x.blocks),.sl (encT x.edges),.sl []]) 1 :: Y) (fun _=>True) (fun _=>0) () (by simp [weaker,Go.PV.look]) rfl trivial ?_
   intro _ _
   simp -dsimp (maxSteps:=4000000) +contextual (disch:=first | omega | decide +kernel) only [↓vsD,vsE,↓Nat.reduceLT,simprocAttr,cl1_in,cl1_p2,cl1_tg,cl1_cid,cl1_comp,cl1_rcomp,cl1_ident,cl1_rid]
   refine ⟨(k + 1,R.set k [.int .i64 x.ent,.sl (ints x.blocks),.sl (encT x.edges),.sl []],Y),(by (try dsimp only); omega),by simp [weaker,Go.PV.look],rfl,?_⟩
   have:=hst [] _ ⟨.sl [],rfl,.inl ⟨rfl,hsi⟩⟩
   rw [List.append_nil] at this
   exact this
  ·obtain ⟨t,l,hsi⟩:=List.exists_cons_of_ne_nil hsi
   have hcl:∀ σ,PCall Try.prog 114 [.sl (encS x.sites)] σ (fun p σ'=>p = .msl σ.length 1 ∧ σ' = σ ++ [.rows 91 3 (encS x.sites) 1]):=fun σ=>by
    have e:encS x.sites = t.row :: encS l:=by rw [hsi]; rfl
    have:=newsS x.sites
    rw [e] at this ⊢
    rw [hsi,List.length_cons] at hs3
    exact cloneSi_some _ _ (by rw [encS_length]; omega) this σ
   refine ⟨_,_,hcl _,by simp [rowsAt,outR],?_⟩
   simp -dsimp (maxSteps:=4000000) +contextual (disch:=first | omega | decide +kernel) only [↓vsD,vsE,↓Nat.reduceLT,simprocAttr,cl1_in,cl1_p2,cl1_tg,cl1_cid,cl1_comp,cl1_rcomp,cl1_ident,cl1_rid,vdA,↓vd_end,↓vdm_go,↓vd_op,↓guard_none,↓guard_some,hRl,hrow,k1,vcel,List.length_set,hgs,List.set_set]
   refine v_loopS (fun j:Nat=>[(1,.ptr 0 0 0 0),(2,.ptr 1 0 0 0),(4,.ptr 2 1 k 0),(15,.int .i64 p.fs.length),(16,.int .i64 k),(52,.int .i64 x.sites.length),(53,.int .i64 j)])
    (fun _=>.rows 32 5 [[.int .i64 p.id.1,.int .i64 p.id.2.1,.int .i64 p.id.2.2,.int .u64 p.dig,.msl 2 1]] 0 :: .rows 32 5 [[.int .i64 0,.int .i64 0,.int .i64 0,.int .u64 0,.nils]] 0 :: .rows 66 4 (R.set k [.int .i64 x.ent,.sl (ints x.blocks),.sl (encT x.edges),.msl (Y.length + 3) 1]) 1 :: (Y ++ [.rows 91 3 (encS x.sites) 1])) (fun j=>j ≤ x.sites.length) (fun j=>x.sites.length - j) 0 (by simp [weaker,Go.PV.look,encS_length]) (by simp) (Nat.zero_le _) ?_
   intro j hj
   by_cases hjl:j < x.sites.length
   ·have hsr:=encS_getD x.sites j hjl
    have htl:=hs4 _ (gtD (d:=default) hjl)
    have hset:(encS x.sites).set j [.int .i64 (x.sites.getD j default).blk,.int .i64 (x.sites.getD j default).ins,.sl (encT (x.sites.getD j default).tg)] = encS x.sites:=by
     rw [← hsr,List.getD_eq_getElem?_getD,List.getElem?_eq_getElem (by rw [encS_length]; exact hjl),Option.getD_some,List.set_getElem_self]
    generalize x.sites.getD j default = si at hsr htl hset
    simp -dsimp (maxSteps:=4000000) +contextual (disch:=first | omega | decide +kernel) only [↓vsD,vsE,↓Nat.reduceLT,simprocAttr,cl1_in,cl1_p2,cl1_tg,cl1_cid,cl1_comp,cl1_rcomp,cl1_ident,cl1_rid,hRl,hgs,List.length_set,encS_length,hsr,vgap]
    refine v_draws _ _ _ _ _ _ [13,16] [] [(0,1),(0,1),(0,1),(0,1),(0,1),(0,0),(0,0),(0,0),(0,0),(0,0),(0,0),(0,0),(0,0),(0,0),(1,1),(1,1),(0,0)] (by decide +kernel) (by decide +kernel) (by decide +kernel) (by decide +kernel) ?_
    simp -dsimp (maxSteps:=4000000) +contextual (disch:=first | omega | decide +kernel) only [↓vsD,vsE,↓Nat.reduceLT,simprocAttr,cl1_in,cl1_p2,cl1_tg,cl1_cid,cl1_comp,cl1_rcomp,cl1_ident,cl1_rid,vdA,↓vd_end,↓vdm_go,↓vd_op,↓guard_none,↓guard_some,hRl,hgs,List.length_set,encS_length,hsr,vgap,hset]
    exact ⟨j + 1,(by (try dsimp only); omega),by simp [weaker,Go.PV.look],rfl,hjl⟩
   ·simp -dsimp (maxSteps:=4000000) +contextual (disch:=first | omega | decide +kernel) only [↓vsD,vsE,↓Nat.reduceLT,simprocAttr,cl1_in,cl1_p2,cl1_tg,cl1_cid,cl1_comp,cl1_rcomp,cl1_ident,cl1_rid,encS_length]
    refine ⟨(k + 1,R.set k [.int .i64 x.ent,.sl (ints x.blocks),.sl (encT x.edges),.msl (Y.length + 3) 1],Y ++ [.rows 91 3 (encS x.sites) 1]),(by (try dsimp only); omega),by simp [weaker,Go.PV.look],rfl,?_⟩
    exact hst _ _ ⟨_,rfl,.inr ⟨Y.length,rfl,by simp⟩⟩
 ·obtain rfl:k = p.fs.length:=by have:=h.kk; omega
  simp -dsimp (maxSteps:=4000000) +contextual (disch:=first | omega | decide +kernel) only [↓vsD,vsE,↓Nat.reduceLT,simprocAttr,cl1_in,cl1_p2,cl1_tg,cl1_cid,cl1_comp,cl1_rcomp,cl1_ident,cl1_rid,vcel]
  exact fin0 (frz_pc (h.frz _ _)) rfl
theorem copied_on (p:Pc) (hp:OkPc p) (hx:∀ x ∈ p.fs,SmC x) (σ:Store) :
  PCall Try.prog 86 [.agg p.row] σ (fun q τ=>q = .agg p.row ∧ τ = σ) :=
 PCall.lift (copied_w p hp hx) (bel1 (bel_pc _ p)) (fun q h=>⟨by rw [h]; exact bel_pc _ _,h,rfl⟩)
def cutP (s:StS):Prop:=s.cs.length = 0 ∨ (0 < s.ps.length ∧ idlt (s.cs.getD (s.cs.length - 1) default) (s.ps.getD (s.ps.length - 1) default).id)
instance (s:StS):Decidable (cutP s):=by unfold cutP; infer_instance
def cut1 (s:StS):StS:=if cutP s then ⟨s.ps.take (s.ps.length - 1),s.cs⟩ else ⟨s.ps,s.cs.take (s.cs.length - 1)⟩
def cutN (s:StS):Nat → StS
 | 0=>s
 | k + 1=>cut1 (cutN s k)
def sizeS (s:StS):Nat:=s.ps.length + s.cs.length
def leastS (s:StS):StS:=cutN s (sizeS s - 256)
theorem cut1_size (s:StS) (h:0 < sizeS s):sizeS (cut1 s) + 1 = sizeS s:=by
 unfold sizeS at *
 unfold cut1
 split
 ·rename_i hc
  simp only [List.length_take]
  unfold cutP at hc
  omega
 ·rename_i hc
  simp only [List.length_take]
  unfold cutP at hc
  omega
theorem cut1_sub (s:StS):(∀ p ∈ (cut1 s).ps,p ∈ s.ps) ∧ ∀ x ∈ (cut1 s).cs,x ∈ s.cs:=by
 unfold cut1
 split
 ·exact ⟨fun p hp=>List.mem_of_mem_take hp,fun x hx=>hx⟩
 ·exact ⟨fun p hp=>hp,fun x hx=>List.mem_of_mem_take hx⟩
theorem leastS_small (s:StS) (h:sizeS s ≤ 256):leastS s = s:=by
 have:sizeS s - 256 = 0:=by omega
 rw [leastS,this,cutN]
theorem encD_tk (l:List Idn) (n:Nat):(encD l).take n = encD (l.take n):=by simp [encD,List.map_take]
theorem newsPc (x:Pc):newsOk Try.prog 32 [x.row] = true:=by
 simp [newsOk,PV.cell,tyC,Pc.row]
theorem encP_take (l:List Pc) (n:Nat):(encP l).take n = encP (l.take n):=by simp [encP,List.map_take]
def stL (s:StS) (k o:Nat) (Y:Store):Store:=.rows 26 2 [[.nils,.nils]] 0 :: .rows 26 2 [[match k with | 0=>.nils | j + 1=>.msl (o + 2) j,.nils]] 0 :: Y
def LtI (s:StS) (k o:Nat) (Y:Store):Prop:=k ≤ s.ps.length ∧ ∀ j,k = j + 1 → Y[o]? = some (.rows 32 5 (encP (s.ps.take k)) j)
theorem frz_st {Q:Store} {A B:PV} {s:StS} (hA:Frz 0 Q A (.sl (encP s.ps))) (hB:Frz 0 Q B (.sl (encD s.cs))):Frz 0 Q (.agg [A,B]) (stV s):=by
 refine .agg _ _ rfl (fun j p hj=>?_)
 match j,hj with
 | 0,hj=>simp at hj; subst hj; exact hA
 | 1,hj=>simp at hj; subst hj; exact hB
 | j + 2,hj=>simp at hj
set_option maxHeartbeats 8000000 in
theorem least_w (s:StS) (hp:∀ p ∈ s.ps,OkPc p) (hx:∀ p ∈ s.ps,∀ x ∈ p.fs,SmC x) (hl:s.ps.length ≤ 1000) (hc:s.cs.length ≤ 1000) :
  PCall Try.prog 55 [.sl (encP s.ps),.sl (encD s.cs)] [] (fun q _=>q = stV (leastS s)):=by
 have k0:∀ args σ,cl1.f 86 args σ = none:=fun _ _=>rfl
 refine PCall.vfrz [] 2112161836991487 65 [.cell 4 26] cl1_ok mix Try.func55 rfl (by decide) rfl rfl (by simp) ?_
 simp -dsimp only [initFr,List.zipIdx_cons,List.zipIdx_nil,List.map_cons,List.map_nil,Nat.zero_add,Nat.reduceAdd]
 simp -dsimp (maxSteps:=4000000) +contextual (disch:=first | omega | decide +kernel) only [↓vsD,vsE,↓Nat.reduceLT,simprocAttr,cl1_in,cl1_p2,cl1_tg,cl1_cid,cl1_comp,cl1_rcomp,cl1_ident,cl1_rid]
 refine v_loopS (fun t:StS=>[(0,.sl (encP t.ps)),(1,.sl (encD t.cs)),(4,.ptr 0 0 0 0)]) (fun _=>[.rows 26 2 [[.nils,.nils]] 0])
  (fun t=>∃ k,t = cutN s k ∧ sizeS t + k = sizeS s ∧ k ≤ sizeS s - 256 ∧ (∀ p ∈ t.ps,p ∈ s.ps) ∧ ∀ x ∈ t.cs,x ∈ s.cs) (fun t=>sizeS t) s (by simp [weaker,Go.PV.look]) rfl ⟨0,rfl,by omega,by omega,fun _ h=>h,fun _ h=>h⟩ ?_
 rintro t ⟨k,ht,hk,hk2,hs1,hs2⟩
 have hsz:sizeS t = t.ps.length + t.cs.length:=rfl
 have hszs:sizeS s = s.ps.length + s.cs.length:=rfl
 have htp:t.ps.length + t.cs.length ≤ 2000:=by omega
 by_cases hbig:256 < t.ps.length + t.cs.length
 ·have hnx:∀ u:StS,u = cut1 t → ∃ k,u = cutN s k ∧ sizeS u + k = sizeS s ∧ k ≤ sizeS s - 256 ∧ (∀ p ∈ u.ps,p ∈ s.ps) ∧ ∀ x ∈ u.cs,x ∈ s.cs:=fun u hu=>by
   have h1:=cut1_size t (by omega)
   have h2:=cut1_sub t
   subst hu
   exact ⟨k + 1,by rw [cutN,← ht],by omega,by omega,fun p hp=>hs1 p (h2.1 p hp),fun x hx=>hs2 x (h2.2 x hx)⟩
  have hms:sizeS (cut1 t) < sizeS t:=by have:=cut1_size t (by omega); omega
  have eA:∀ l:List Pc,((encP l).all fun row=>row.length == 5) = true:=fun l=>by simp [encP,Pc.row]
  have eB:∀ l:List Idn,((encD l).all fun row=>row.length == 3) = true:=fun l=>by simp [encD,idRow]
  by_cases hc0:t.cs.length = 0
  ·have hcut:cut1 t = ⟨t.ps.take (t.ps.length - 1),t.cs⟩:=by rw [cut1,if_pos (.inl hc0)]
   have e1:((t.ps.length:Int) - 1) = ((t.ps.length - 1:Nat):Int):=by omega
   simp -dsimp (maxSteps:=4000000) +contextual (disch:=first | omega | decide +kernel) only [↓vsD,vsE,↓Nat.reduceLT,simprocAttr,cl1_in,cl1_p2,cl1_tg,cl1_cid,cl1_comp,cl1_rcomp,cl1_ident,cl1_rid,encP_length,encD_length,e1,eA,encP_take]
   exact ⟨cut1 t,hms,by rw [hcut]; simp [weaker,Go.PV.look],rfl,hnx _ rfl⟩
  ·have e2:((t.cs.length:Int) - 1) = ((t.cs.length - 1:Nat):Int):=by omega
   by_cases hp0:t.ps.length = 0
   ·have hcut:cut1 t = ⟨t.ps,t.cs.take (t.cs.length - 1)⟩:=by rw [cut1,if_neg (by unfold cutP; omega)]
    simp -dsimp (maxSteps:=4000000) +contextual (disch:=first | omega | decide +kernel) only [↓vsD,vsE,↓Nat.reduceLT,simprocAttr,cl1_in,cl1_p2,cl1_tg,cl1_cid,cl1_comp,cl1_rcomp,cl1_ident,cl1_rid,encP_length,encD_length,e2,eB,encD_tk]
    exact ⟨cut1 t,hms,by rw [hcut]; simp [weaker,Go.PV.look],rfl,hnx _ rfl⟩
   ·have e1:((t.ps.length:Int) - 1) = ((t.ps.length - 1:Nat):Int):=by omega
    have g1:=encP_getD t.ps (t.ps.length - 1) (by omega)
    have g2:=encD_getD t.cs (t.cs.length - 1) (by omega)
    have hgt:=cmp3_gt (t.ps.getD (t.ps.length - 1) default).id (t.cs.getD (t.cs.length - 1) default)
    simp -dsimp (maxSteps:=4000000) +contextual (disch:=first | omega | decide +kernel) only [↓vsD,vsE,↓Nat.reduceLT,simprocAttr,cl1_in,cl1_p2,cl1_tg,cl1_cid,cl1_comp,cl1_rcomp,cl1_ident,cl1_rid,encP_length,encD_length,e1,e2,eA,eB,encP_take,encD_tk,g1,g2]
    refine ⟨fun h=>?_,fun h=>?_⟩
    ·have hcut:cut1 t = ⟨t.ps.take (t.ps.length - 1),t.cs⟩:=by rw [cut1,if_pos (.inr ⟨by omega,hgt.1 h⟩)]
     exact ⟨cut1 t,hms,by rw [hcut]; simp [weaker,Go.PV.look],rfl,hnx _ rfl⟩
    ·have hcut:cut1 t = ⟨t.ps,t.cs.take (t.cs.length - 1)⟩:=by rw [cut1,if_neg (by rintro (h1 | h1); exact hc0 h1; exact h (hgt.2 h1.2))]
     exact ⟨cut1 t,hms,by rw [hcut]; simp [weaker,Go.PV.look],rfl,hnx _ rfl⟩
 ·have hex:t = leastS s:=by
   have:k = sizeS s - 256:=by omega
   rw [ht,this,leastS]
  simp -dsimp (maxSteps:=4000000) +contextual (disch:=first | omega | decide +kernel) only [↓vsD,vsE,↓Nat.reduceLT,simprocAttr,cl1_in,cl1_p2,cl1_tg,cl1_cid,cl1_comp,cl1_rcomp,cl1_ident,cl1_rid,encP_length,encD_length]
  rw [← hex]
  clear hex
  refine v_loopS (fun u:Nat × Nat × Store=>[(1,.sl (encD t.cs)),(4,.ptr 0 0 0 0),(7,.ptr 1 0 0 0),(47,.sl (encP t.ps)),(48,.int .i64 t.ps.length),(49,.int .i64 u.1)])
   (fun u=>stL t u.1 u.2.1 u.2.2) (fun u=>LtI t u.1 u.2.1 u.2.2) (fun u=>t.ps.length - u.1) (0,0,[]) (by simp [weaker,Go.PV.look]) rfl ⟨Nat.zero_le _,fun j h=>by simp at h⟩ ?_
  rintro ⟨i,o,Y⟩ ⟨hi,hY⟩
  dsimp only at hi hY ⊢
  by_cases hil:i < t.ps.length
  ·have hrow:=encP_getD t.ps i hil
   have hpi:=hs1 _ (gtD (d:=default) hil)
   have e1:=take_succD t.ps i hil
   obtain ⟨p,hpe⟩:∃ p,p = t.ps.getD i default:=⟨_,rfl⟩
   rw [← hpe] at hrow hpi e1
   have hcp:=copied_on p (hp p hpi) (hx p hpi)
   have hn:=newsPc p
   rw [Pc.row] at hcp hn
   cases i with
   | zero =>
    simp -dsimp only [stL]
    simp -dsimp (maxSteps:=4000000) +contextual (disch:=first | omega | decide +kernel) only [↓vsD,vsE,↓Nat.reduceLT,simprocAttr,cl1_in,cl1_p2,cl1_tg,cl1_cid,cl1_comp,cl1_rcomp,cl1_ident,cl1_rid,encP_length,hrow,k0]
    refine v_draws _ _ _ _ _ _ [3,5,7] [] [(0,1),(0,1),(0,0),(0,0),(1,1),(0,0),(2,2),(0,0)] (by decide +kernel) (by decide +kernel) (by decide +kernel) (by decide +kernel) ?_
    simp -dsimp (maxSteps:=4000000) +contextual (disch:=first | omega | decide +kernel) only [↓vsD,vsE,↓Nat.reduceLT,simprocAttr,cl1_in,cl1_p2,cl1_tg,cl1_cid,cl1_comp,cl1_rcomp,cl1_ident,cl1_rid,vdA,↓vd_end,↓vdm_go,↓vd_op,↓guard_none,↓guard_some,encP_length,hrow,k0,vcel]
    refine ⟨_,_,hcp _,by simp [rowsAt,outR],?_⟩
    simp -dsimp (maxSteps:=4000000) +contextual (disch:=first | omega | decide +kernel) only [↓vsD,vsE,↓Nat.reduceLT,simprocAttr,cl1_in,cl1_p2,cl1_tg,cl1_cid,cl1_comp,cl1_rcomp,cl1_ident,cl1_rid,vdA,↓vd_end,↓vdm_go,↓vd_op,↓guard_none,↓guard_some,vcel,hn,bytesK,lenK,vgap]
    refine ⟨(1,Y.length + 1,_),(by (try dsimp only); omega),by simp [weaker,Go.PV.look],rfl,hil,fun j h=>?_⟩
    obtain rfl:j = 0:=by dsimp only at h; omega
    dsimp only
    rw [e1]
    simp [encP,Pc.row]
   | succ j =>
    have hY2:=hY j rfl
    have hyl:=(List.getElem?_eq_some_iff.1 hY2).1
    have g1:∀ X,(Y ++ X)[o]? = some (.rows 32 5 (encP (t.ps.take (j + 1))) j):=fun X=>by rw [List.getElem?_append_left hyl,hY2]
    have g2:∀ X y,(Y ++ X).set o y = Y.set o y ++ X:=fun X y=>by rw [List.set_append_left _ _ hyl]
    have hlk:(encP (t.ps.take (j + 1))).length = j + 1:=by rw [encP_length,List.length_take]; omega
    simp -dsimp only [stL]
    simp -dsimp (maxSteps:=4000000) +contextual (disch:=first | omega | decide +kernel) only [↓vsD,vsE,↓Nat.reduceLT,simprocAttr,cl1_in,cl1_p2,cl1_tg,cl1_cid,cl1_comp,cl1_rcomp,cl1_ident,cl1_rid,encP_length,hrow,k0]
    refine v_draws _ _ _ _ _ _ [3,5,7] [] [(0,1),(0,1),(0,0),(0,0),(1,1),(0,0),(2,2),(0,0)] (by decide +kernel) (by decide +kernel) (by decide +kernel) (by decide +kernel) ?_
    simp -dsimp (maxSteps:=4000000) +contextual (disch:=first | omega | decide +kernel) only [↓vsD,vsE,↓Nat.reduceLT,simprocAttr,cl1_in,cl1_p2,cl1_tg,cl1_cid,cl1_comp,cl1_rcomp,cl1_ident,cl1_rid,vdA,↓vd_end,↓vdm_go,↓vd_op,↓guard_none,↓guard_some,encP_length,hrow,k0,vcel]
    refine ⟨_,_,hcp _,by simp [rowsAt,outR],?_⟩
    simp -dsimp (maxSteps:=4000000) +contextual (disch:=first | omega | decide +kernel) only [↓vsD,vsE,↓Nat.reduceLT,simprocAttr,cl1_in,cl1_p2,cl1_tg,cl1_cid,cl1_comp,cl1_rcomp,cl1_ident,cl1_rid,vdA,↓vd_end,↓vdm_go,↓vd_op,↓guard_none,↓guard_some,vcel,hn,bytesK,lenK,vgap,g1,g2,hlk]
    refine ⟨(j + 1 + 1,o,_),(by (try dsimp only); omega),by simp [weaker,Go.PV.look],rfl,hil,fun j2 h=>?_⟩
    obtain rfl:j2 = j + 1:=by dsimp only at h; omega
    dsimp only
    rw [e1,List.getElem?_append_left (by rw [List.length_set]; exact hyl),List.getElem?_set_self hyl]
    simp [encP,Pc.row]
  ·have hie:i = t.ps.length:=by omega
   cases i with
   | zero =>
    have hps:t.ps = []:=List.eq_nil_of_length_eq_zero hie.symm
    simp -dsimp only [stL]
    simp -dsimp (maxSteps:=4000000) +contextual (disch:=first | omega | decide +kernel) only [↓vsD,vsE,↓Nat.reduceLT,simprocAttr,cl1_in,cl1_p2,cl1_tg,cl1_cid,cl1_comp,cl1_rcomp,cl1_ident,cl1_rid,encP_length,vcel]
    exact fin0 (frz_st (by rw [hps]; exact .nils) (.keep _ (bel_ids _ _))) rfl
   | succ j =>
    have hY2:=hY j rfl
    rw [hie,List.take_length] at hY2
    simp -dsimp only [stL]
    simp -dsimp (maxSteps:=4000000) +contextual (disch:=first | omega | decide +kernel) only [↓vsD,vsE,↓Nat.reduceLT,simprocAttr,cl1_in,cl1_p2,cl1_tg,cl1_cid,cl1_comp,cl1_rcomp,cl1_ident,cl1_rid,encP_length,vcel]
    exact fin0 (frz_st (Frz.msl0 (elem:=32) (sz:=5) (Nat.zero_le _) (by simpa using hY2) (encP_bel _ _)) (.keep _ (bel_ids _ _))) rfl
theorem least_on (s:StS) (hp:∀ p ∈ s.ps,OkPc p) (hx:∀ p ∈ s.ps,∀ x ∈ p.fs,SmC x) (hl:s.ps.length ≤ 1000) (hc:s.cs.length ≤ 1000) (σ:Store) :
  PCall Try.prog 55 [.sl (encP s.ps),.sl (encD s.cs)] σ (fun q τ=>q = stV (leastS s) ∧ τ = σ) :=
 PCall.lift (least_w s hp hx hl hc) (bel2 (bel_pcs _ _) (bel_ids _ _)) (fun q h=>⟨by rw [h]; exact bel_st _ _,h,rfl⟩)
theorem nodup_le {α:Type} [DecidableEq α]:∀ (r l:List α),r.Nodup → (∀ x ∈ r,x ∈ l) → r.length ≤ l.length
 | [],_,_,_=>Nat.zero_le _
 | x :: r,l,hn,hs=>by
  have hn2:=List.nodup_cons.1 hn
  have hx:=hs x (by simp)
  have:=nodup_le r (l.erase x) hn2.2 (fun y hy=>(List.mem_erase_of_ne (fun e=>by subst e; exact hn2.1 hy)).2 (hs y (by simp [hy])))
  rw [List.length_erase_of_mem hx] at this
  have:=List.length_pos_of_mem hx
  rw [List.length_cons]
  omega
theorem idlt_nodup {l:List Idn} (h:l.Pairwise idlt):l.Nodup:=h.imp (fun h e=>by subst e; exact idlt_irrefl _ h)
theorem UnD.len {a b r:List Idn} (h:UnD a b r):r.length ≤ a.length + b.length:=by
 rw [← List.length_append]
 exact nodup_le _ _ (idlt_nodup h.1) (fun x hx=>List.mem_append.2 ((h.2 x).1 hx))
def UnionOk (N:Nat):Prop:=∀ (a b:List Idn),a.length + b.length ≤ N → ∀ σ:Store,
 PCall Try.prog 53 [.sl (encD a),.sl (encD b)] σ (fun q τ=>(∃ r,q = .sl (encD r) ∧ UnD a b r) ∧ τ = σ)
theorem drop_ge {l:List Pc} (h:l.Pairwise (fun p q=>idlt p.id q.id)) {k:Nat} (hk:k < l.length):∀ q ∈ l.drop k,q = l.getD k default ∨ idlt (l.getD k default).id q.id:=fun q hq=>by
 have h2:(l.drop k).Pairwise (fun p q=>idlt p.id q.id):=h.sublist (List.drop_sublist _ _)
 rw [drop_consD l k hk] at h2 hq
 rcases List.mem_cons.1 hq with h3 | h3
 ·exact .inl h3
 ·exact .inr ((List.pairwise_cons.1 h2).1 q h3)
structure MgI (a b:StS) (i k n:Nat) (cs:List Idn) (ps:List Pc) (o:Nat) (Y:Store):Prop where
 m:MI a b i k cs ps
 hn:n = ps.length
 y:∀ j,n = j + 1 → Y[o]? = some (.rows 32 5 (encP ps) j)
 l:cs.length ≤ a.cs.length + b.cs.length + i
 l2:cs.length ≤ a.cs.length + b.cs.length + k
 lp:n ≤ i + k
def stG (a b:StS) (Y:Store):Store:=.rows 26 2 [[.sl (encP a.ps),.sl (encD a.cs)]] 0 :: .rows 26 2 [[.sl (encP b.ps),.sl (encD b.cs)]] 0 :: .rows 26 2 [[.nils,.nils]] 0 :: Y
def psV (n o:Nat):PV:=match n with | 0=>.nils | j + 1=>.msl (o + 3) j
def MgRes (a b:StS) (q:PV):Prop:=(¬ (OkSt a ∧ OkSt b) ∧ q = .tup [stV ⟨[],[]⟩,.int .i64 20]) ∨ (OkSt a ∧ OkSt b ∧ ∃ m,Sf m [a,b] ∧ q = .tup [stV (leastS m),.int .i64 0])
set_option maxHeartbeats 16000000 in
theorem merge_w (N:Nat) (hU:UnionOk N) (a b:StS) (ha:FitS a) (hb:FitS b) (hxa:∀ p ∈ a.ps,∀ x ∈ p.fs,SmC x) (hxb:∀ p ∈ b.ps,∀ x ∈ p.fs,SmC x)
  (hN:a.cs.length + b.cs.length + min a.ps.length b.ps.length + 1 ≤ N) :
  PCall Try.prog 22 [stV a,stV b] [] (fun q _=>MgRes a b q):=by
 have k0:∀ args σ,cl1.f 15 args σ = none:=fun _ _=>rfl
 have k1:∀ args σ,cl1.f 53 args σ = none:=fun _ _=>rfl
 have k2:∀ args σ,cl1.f 44 args σ = none:=fun _ _=>rfl
 have k3:∀ args σ,cl1.f 20 args σ = none:=fun _ _=>rfl
 have k4:∀ args σ,cl1.f 55 args σ = none:=fun _ _=>rfl
 unfold stV
 refine PCall.vfrz [] 649076760121515891633324894457855 117 [.cell 4 26,.tmp 5] cl1_ok mix Try.func22 rfl (by decide) rfl rfl (by simp) ?_
 simp -dsimp only [initFr,List.zipIdx_cons,List.zipIdx_nil,List.map_cons,List.map_nil,Nat.zero_add,Nat.reduceAdd]
 have fno:¬ (OkSt a ∧ OkSt b) → ∀ σ',Go.PV.Fin [] (fun q _=>MgRes a b q) (.tup [.agg [.nils,.nils],.int .i64 20]) σ':=fun h σ' =>
  fin0 (.tup _ [stV ⟨[],[]⟩,.int .i64 20] rfl (fun j p hj=>by
   match j,hj with
   | 0,hj=>simp at hj; subst hj; exact frz_st (s:=⟨[],[]⟩) .nils .nils
   | 1,hj=>simp at hj; subst hj; exact .keep _ (bel_int _ _ _)
   | j + 2,hj=>simp at hj)) (.inl ⟨h,rfl⟩)
 have hva:=sval_on a ha
 have hvb:=sval_on b hb
 unfold stV at hva hvb
 simp -dsimp (maxSteps:=4000000) +contextual (disch:=first | omega | decide +kernel) only [↓vsD,vsE,↓Nat.reduceLT,simprocAttr,cl1_in,cl1_p2,cl1_tg,cl1_cid,cl1_comp,cl1_rcomp,cl1_ident,cl1_rid,k0,vcel]
 refine PCall.mono (hva _) ?_
 rintro q τ ⟨rfl,rfl⟩
 by_cases hoa:OkSt a
 ·rw [stB_t hoa]
  simp -dsimp (maxSteps:=4000000) +contextual (disch:=first | omega | decide +kernel) only [↓vsD,vsE,↓Nat.reduceLT,simprocAttr,cl1_in,cl1_p2,cl1_tg,cl1_cid,cl1_comp,cl1_rcomp,cl1_ident,cl1_rid,k0,vcel]
  refine PCall.mono (hvb _) ?_
  rintro q τ ⟨rfl,rfl⟩
  by_cases hob:OkSt b
  ·rw [stB_t hob]
   simp -dsimp (maxSteps:=4000000) +contextual (disch:=first | omega | decide +kernel) only [↓vsD,vsE,↓Nat.reduceLT,simprocAttr,cl1_in,cl1_p2,cl1_tg,cl1_cid,cl1_comp,cl1_rcomp,cl1_ident,cl1_rid,k1,vcel]
   refine PCall.mono (hU a.cs b.cs (by omega) _) ?_
   rintro q τ ⟨⟨r,rfl,hr⟩,rfl⟩
   simp -dsimp (maxSteps:=4000000) +contextual (disch:=first | omega | decide +kernel) only [↓vsD,vsE,↓Nat.reduceLT,simprocAttr,cl1_in,cl1_p2,cl1_tg,cl1_cid,cl1_comp,cl1_rcomp,cl1_ident,cl1_rid,vcel]
   clear hva hvb
   refine v_loopS (fun s:Nat × Nat × Nat × List Idn × List Pc × Nat × Store=>[(2,.ptr 0 0 0 0),(3,.ptr 1 0 0 0),(4,.ptr 2 0 0 0),(6,psV s.2.2.1 s.2.2.2.2.2.1),(7,.sl (encD s.2.2.2.1)),(8,.int .i64 s.1),(9,.int .i64 s.2.1)])
    (fun s=>stG a b s.2.2.2.2.2.2) (fun s=>MgI a b s.1 s.2.1 s.2.2.1 s.2.2.2.1 s.2.2.2.2.1 s.2.2.2.2.2.1 s.2.2.2.2.2.2) (fun s=>(a.ps.length - s.1) + (b.ps.length - s.2.1)) (0,0,0,r,[],0,[])
    (by simp [weaker,Go.PV.look,psV]) rfl ⟨MI.start hr.1 hr.2,rfl,fun j h=>by simp at h,by have:=hr.len; omega,by have:=hr.len; omega,Nat.zero_le _⟩ ?_
   rintro ⟨i,k,n,cs,ps,o,Y⟩ hI
   dsimp only at hI ⊢
   have hik:=hI.m.hi
   have hkk:=hI.m.hk
   have hcl:=hI.l
   have hcl2:=hI.l2
   have hlp:=hI.lp
   have hna:=hoa.n
   have hnb:=hob.n
   simp -dsimp only [stG]
   by_cases hil:i < a.ps.length
   ·have hrow:=encP_getD a.ps i hil
    have hfx:=ha.2.2 _ (gtD (d:=default) hil)
    have hge:=drop_ge hoa.o.p hil
    have hA:=hI.m.stepA hoa.o hil
    have hB:=fun hkl=>hI.m.stepB hob.o (k:=k) hkl
    have hE:=fun (hkl:k < b.ps.length) cs2=>hI.m.both (cs2:=cs2) hoa.o hob.o hil hkl
    obtain ⟨x,hxe⟩:∃ x,x = a.ps.getD i default:=⟨_,rfl⟩
    rw [← hxe] at hrow hfx hge hA hE
    by_cases hkl:k < b.ps.length
    ·have hrow2:=encP_getD b.ps k hkl
     have hge2:=drop_ge hob.o.p hkl
     have hB:=hB hkl
     have hE:=hE hkl
     obtain ⟨y,hye⟩:∃ y,y = b.ps.getD k default:=⟨_,rfl⟩
     rw [← hye] at hrow2 hge2 hB hE
     have h1:=cmp3_lt x.id y.id
     have h2:=cmp3_gt x.id y.id
     have h3:=cmp3_eq x.id y.id
     rcases idlt_tri x.id y.id with hlt | heq | hlt
     ·have hc:=h1.2 hlt
      have hA:=hA (fun q hq=>(hge2 q hq).elim (fun e=>by rw [e]; exact hlt) (fun e=>idlt_trans hlt e))
      simp -dsimp (maxSteps:=4000000) +contextual (disch:=first | omega | decide +kernel) only [↓vsD,vsE,↓Nat.reduceLT,simprocAttr,cl1_in,cl1_p2,cl1_tg,cl1_cid,cl1_comp,cl1_rcomp,cl1_ident,cl1_rid,encP_length,hrow,hrow2,vcel,vgap,k2]
      refine PCall.mono (contD_on cs x.id (by omega) _) ?_
      rintro q τ ⟨rfl,rfl⟩
      by_cases hmem:x.id ∈ cs
      ·have hM:=hA
       rw [if_pos hmem] at hM
       rw [decide_eq_true hmem]
       simp -dsimp (maxSteps:=4000000) +contextual (disch:=first | omega | decide +kernel) only [↓vsD,vsE,↓Nat.reduceLT,simprocAttr,cl1_in,cl1_p2,cl1_tg,cl1_cid,cl1_comp,cl1_rcomp,cl1_ident,cl1_rid,vcel]
       exact ⟨(i + 1,k,n,cs,ps,o,_),(by (try dsimp only); omega),by simp [weaker,Go.PV.look],rfl,hM,hI.hn,fun j hj=>by rw [List.getElem?_append_left (List.getElem?_eq_some_iff.1 (hI.y j hj)).1]; exact hI.y j hj,(by dsimp only; omega),(by dsimp only; omega),(by dsimp only; omega)⟩
      ·have hM:=hA
       rw [if_neg hmem] at hM
       rw [decide_eq_false hmem]
       have hn:=newsPc x
       rw [Pc.row] at hn
       have hIn:=hI.hn
       cases n with
       | zero =>
        have hps:ps = []:=List.eq_nil_of_length_eq_zero hIn.symm
        simp -dsimp only [psV]
        simp -dsimp (maxSteps:=4000000) +contextual (disch:=first | omega | decide +kernel) only [↓vsD,vsE,↓Nat.reduceLT,simprocAttr,cl1_in,cl1_p2,cl1_tg,cl1_cid,cl1_comp,cl1_rcomp,cl1_ident,cl1_rid,vcel,hn,bytesK,lenK,vgap]
        refine ⟨(i + 1,k,1,cs,ps ++ [x],Y.length + 1,_),(by (try dsimp only); omega),by simp [weaker,Go.PV.look,psV],rfl,hM,by rw [hps]; rfl,fun j hj=>?_,(by dsimp only; omega),(by dsimp only; omega),(by dsimp only; omega)⟩
        obtain rfl:j = 0:=by dsimp only at hj; omega
        rw [hps]; simp [encP,Pc.row]
       | succ j =>
        have hY2:=hI.y j rfl
        have hyl:=(List.getElem?_eq_some_iff.1 hY2).1
        have g1:∀ X,(Y ++ X)[o]? = some (.rows 32 5 (encP ps) j):=fun X=>by rw [List.getElem?_append_left hyl,hY2]
        have g2:∀ X y,(Y ++ X).set o y = Y.set o y ++ X:=fun X y=>by rw [List.set_append_left _ _ hyl]
        have hlk:(encP ps).length = j + 1:=by rw [encP_length,hIn]
        simp -dsimp only [psV]
        simp -dsimp (maxSteps:=4000000) +contextual (disch:=first | omega | decide +kernel) only [↓vsD,vsE,↓Nat.reduceLT,simprocAttr,cl1_in,cl1_p2,cl1_tg,cl1_cid,cl1_comp,cl1_rcomp,cl1_ident,cl1_rid,vcel,hn,bytesK,lenK,vgap,g1,g2,hlk]
        refine ⟨(i + 1,k,j + 2,cs,ps ++ [x],o,_),(by (try dsimp only); omega),by simp [weaker,Go.PV.look,psV],rfl,hM,by rw [List.length_append,← hIn]; rfl,fun j2 hj=>?_,(by dsimp only; omega),(by dsimp only; omega),(by dsimp only; omega)⟩
        obtain rfl:j2 = j + 1:=by dsimp only at hj; omega
        dsimp only
        rw [List.getElem?_append_left (by rw [List.length_set]; exact hyl),List.getElem?_set_self hyl]
        simp [encP,Pc.row]
     ·have hc:=h3.2 heq
      have hbx:=pEq_on x y hfx
      simp -dsimp (maxSteps:=4000000) +contextual (disch:=first | omega | decide +kernel) only [↓vsD,vsE,↓Nat.reduceLT,simprocAttr,cl1_in,cl1_p2,cl1_tg,cl1_cid,cl1_comp,cl1_rcomp,cl1_ident,cl1_rid,encP_length,hrow,hrow2,vcel,vgap,k3,hc]
      rw [Pc.row,Pc.row] at hbx
      refine v_draws _ _ _ _ _ _ [6] [] [(0,0),(0,0),(0,0),(0,0),(0,0),(0,0),(0,0),(1,1)] (by decide +kernel) (by decide +kernel) (by decide +kernel) (by decide +kernel) ?_
      simp -dsimp (maxSteps:=4000000) +contextual (disch:=first | omega | decide +kernel) only [↓vsD,vsE,↓Nat.reduceLT,simprocAttr,cl1_in,cl1_p2,cl1_tg,cl1_cid,cl1_comp,cl1_rcomp,cl1_ident,cl1_rid,vdA,↓vd_end,↓vdm_go,↓vd_op,↓guard_none,↓guard_some,encP_length,hrow,hrow2,vcel,vgap,k3]
      refine ⟨_,_,hbx _,by simp [rowsAt,outR],?_⟩
      by_cases hxy:x = y
      ·rw [eqB_t hxy]
       simp -dsimp (maxSteps:=4000000) +contextual (disch:=first | omega | decide +kernel) only [↓vsD,vsE,↓Nat.reduceLT,simprocAttr,cl1_in,cl1_p2,cl1_tg,cl1_cid,cl1_comp,cl1_rcomp,cl1_ident,cl1_rid,vdA,↓vd_end,↓vdm_go,↓vd_op,↓guard_none,↓guard_some,vcel,vgap,k2]
       refine PCall.mono (contD_on cs x.id (by omega) _) ?_
       rintro q τ ⟨rfl,rfl⟩
       by_cases hmem:x.id ∈ cs
       ·have hM:=hE cs heq hI.m.c (fun z=>⟨.inl,fun h=>h.elim id (fun h=>absurd hxy h.1)⟩)
        rw [if_pos hmem] at hM
        rw [decide_eq_true hmem]
        simp -dsimp (maxSteps:=4000000) +contextual (disch:=first | omega | decide +kernel) only [↓vsD,vsE,↓Nat.reduceLT,simprocAttr,cl1_in,cl1_p2,cl1_tg,cl1_cid,cl1_comp,cl1_rcomp,cl1_ident,cl1_rid,vcel]
        exact ⟨(i + 1,k + 1,n,cs,ps,o,_),(by (try dsimp only); omega),by simp [weaker,Go.PV.look],rfl,hM,hI.hn,fun j hj=>by rw [List.getElem?_append_left (List.getElem?_eq_some_iff.1 (hI.y j hj)).1]; exact hI.y j hj,(by dsimp only; omega),(by dsimp only; omega),(by dsimp only; omega)⟩
       ·have hM:=hE cs heq hI.m.c (fun z=>⟨.inl,fun h=>h.elim id (fun h=>absurd hxy h.1)⟩)
        rw [if_neg hmem] at hM
        rw [decide_eq_false hmem]
        have hn:=newsPc x
        rw [Pc.row] at hn
        have hIn:=hI.hn
        cases n with
        | zero =>
         have hps:ps = []:=List.eq_nil_of_length_eq_zero hIn.symm
         simp -dsimp only [psV]
         simp -dsimp (maxSteps:=4000000) +contextual (disch:=first | omega | decide +kernel) only [↓vsD,vsE,↓Nat.reduceLT,simprocAttr,cl1_in,cl1_p2,cl1_tg,cl1_cid,cl1_comp,cl1_rcomp,cl1_ident,cl1_rid,vcel,hn,bytesK,lenK,vgap]
         refine ⟨(i + 1,k + 1,1,cs,ps ++ [x],Y.length + 1,_),(by (try dsimp only); omega),by simp [weaker,Go.PV.look,psV],rfl,hM,by rw [hps]; rfl,fun j hj=>?_,(by dsimp only; omega),(by dsimp only; omega),(by dsimp only; omega)⟩
         obtain rfl:j = 0:=by dsimp only at hj; omega
         rw [hps]; simp [encP,Pc.row]
        | succ j =>
         have hY2:=hI.y j rfl
         have hyl:=(List.getElem?_eq_some_iff.1 hY2).1
         have g1:∀ X,(Y ++ X)[o]? = some (.rows 32 5 (encP ps) j):=fun X=>by rw [List.getElem?_append_left hyl,hY2]
         have g2:∀ X y,(Y ++ X).set o y = Y.set o y ++ X:=fun X y=>by rw [List.set_append_left _ _ hyl]
         have hlk:(encP ps).length = j + 1:=by rw [encP_length,hIn]
         simp -dsimp only [psV]
         simp -dsimp (maxSteps:=4000000) +contextual (disch:=first | omega | decide +kernel) only [↓vsD,vsE,↓Nat.reduceLT,simprocAttr,cl1_in,cl1_p2,cl1_tg,cl1_cid,cl1_comp,cl1_rcomp,cl1_ident,cl1_rid,vcel,hn,bytesK,lenK,vgap,g1,g2,hlk]
         refine ⟨(i + 1,k + 1,j + 2,cs,ps ++ [x],o,_),(by (try dsimp only); omega),by simp [weaker,Go.PV.look,psV],rfl,hM,by rw [List.length_append,← hIn]; rfl,fun j2 hj=>?_,(by dsimp only; omega),(by dsimp only; omega),(by dsimp only; omega)⟩
         obtain rfl:j2 = j + 1:=by dsimp only at hj; omega
         dsimp only
         rw [List.getElem?_append_left (by rw [List.length_set]; exact hyl),List.getElem?_set_self hyl]
         simp [encP,Pc.row]
      ·rw [eqB_f hxy]
       simp -dsimp (maxSteps:=4000000) +contextual (disch:=first | omega | decide +kernel) only [↓vsD,vsE,↓Nat.reduceLT,simprocAttr,cl1_in,cl1_p2,cl1_tg,cl1_cid,cl1_comp,cl1_rcomp,cl1_ident,cl1_rid,vdA,↓vd_end,↓vdm_go,↓vd_op,↓guard_none,↓guard_some,vcel,vgap,k1]
       refine PCall.mono (hU cs [x.id] (by simp only [List.length_cons,List.length_nil]; omega) _) ?_
       rintro q τ ⟨⟨r2,rfl,hr2⟩,rfl⟩
       have hrl:=hr2.len
       simp only [List.length_cons,List.length_nil] at hrl
       simp -dsimp (maxSteps:=4000000) +contextual (disch:=first | omega | decide +kernel) only [↓vsD,vsE,↓Nat.reduceLT,simprocAttr,cl1_in,cl1_p2,cl1_tg,cl1_cid,cl1_comp,cl1_rcomp,cl1_ident,cl1_rid,vdA,↓vd_end,↓vdm_go,↓vd_op,↓guard_none,↓guard_some,vcel,vgap,k2]
       refine PCall.mono (contD_on r2 x.id (by omega) _) ?_
       rintro q τ ⟨rfl,rfl⟩
       by_cases hmem:x.id ∈ r2
       ·have hM:=hE r2 heq hr2.1 (fun z=>by rw [hr2.2]; simp [hxy])
        rw [if_pos hmem] at hM
        rw [decide_eq_true hmem]
        simp -dsimp (maxSteps:=4000000) +contextual (disch:=first | omega | decide +kernel) only [↓vsD,vsE,↓Nat.reduceLT,simprocAttr,cl1_in,cl1_p2,cl1_tg,cl1_cid,cl1_comp,cl1_rcomp,cl1_ident,cl1_rid,vcel]
        exact ⟨(i + 1,k + 1,n,r2,ps,o,_),(by (try dsimp only); omega),by simp [weaker,Go.PV.look],rfl,hM,hI.hn,fun j hj=>by rw [List.getElem?_append_left (List.getElem?_eq_some_iff.1 (hI.y j hj)).1]; exact hI.y j hj,(by dsimp only; omega),(by dsimp only; omega),(by dsimp only; omega)⟩
       ·have hM:=hE r2 heq hr2.1 (fun z=>by rw [hr2.2]; simp [hxy])
        rw [if_neg hmem] at hM
        rw [decide_eq_false hmem]
        have hn:=newsPc x
        rw [Pc.row] at hn
        have hIn:=hI.hn
        cases n with
        | zero =>
         have hps:ps = []:=List.eq_nil_of_length_eq_zero hIn.symm
         simp -dsimp only [psV]
         simp -dsimp (maxSteps:=4000000) +contextual (disch:=first | omega | decide +kernel) only [↓vsD,vsE,↓Nat.reduceLT,simprocAttr,cl1_in,cl1_p2,cl1_tg,cl1_cid,cl1_comp,cl1_rcomp,cl1_ident,cl1_rid,vcel,hn,bytesK,lenK,vgap]
         refine ⟨(i + 1,k + 1,1,r2,ps ++ [x],Y.length + 1,_),(by (try dsimp only); omega),by simp [weaker,Go.PV.look,psV],rfl,hM,by rw [hps]; rfl,fun j hj=>?_,(by dsimp only; omega),(by dsimp only; omega),(by dsimp only; omega)⟩
         obtain rfl:j = 0:=by dsimp only at hj; omega
         rw [hps]; simp [encP,Pc.row]
        | succ j =>
         have hY2:=hI.y j rfl
         have hyl:=(List.getElem?_eq_some_iff.1 hY2).1
         have g1:∀ X,(Y ++ X)[o]? = some (.rows 32 5 (encP ps) j):=fun X=>by rw [List.getElem?_append_left hyl,hY2]
         have g2:∀ X y,(Y ++ X).set o y = Y.set o y ++ X:=fun X y=>by rw [List.set_append_left _ _ hyl]
         have hlk:(encP ps).length = j + 1:=by rw [encP_length,hIn]
         simp -dsimp only [psV]
         simp -dsimp (maxSteps:=4000000) +contextual (disch:=first | omega | decide +kernel) only [↓vsD,vsE,↓Nat.reduceLT,simprocAttr,cl1_in,cl1_p2,cl1_tg,cl1_cid,cl1_comp,cl1_rcomp,cl1_ident,cl1_rid,vcel,hn,bytesK,lenK,vgap,g1,g2,hlk]
         refine ⟨(i + 1,k + 1,j + 2,r2,ps ++ [x],o,_),(by (try dsimp only); omega),by simp [weaker,Go.PV.look,psV],rfl,hM,by rw [List.length_append,← hIn]; rfl,fun j2 hj=>?_,(by dsimp only; omega),(by dsimp only; omega),(by dsimp only; omega)⟩
         obtain rfl:j2 = j + 1:=by dsimp only at hj; omega
         dsimp only
         rw [List.getElem?_append_left (by rw [List.length_set]; exact hyl),List.getElem?_set_self hyl]
         simp [encP,Pc.row]
     ·have hc:=h2.2 hlt
      have hB:=hB (fun q hq=>(hge q hq).elim (fun e=>by rw [e]; exact hlt) (fun e=>idlt_trans hlt e))
      simp -dsimp (maxSteps:=4000000) +contextual (disch:=first | omega | decide +kernel) only [↓vsD,vsE,↓Nat.reduceLT,simprocAttr,cl1_in,cl1_p2,cl1_tg,cl1_cid,cl1_comp,cl1_rcomp,cl1_ident,cl1_rid,encP_length,hrow,hrow2,vcel,vgap,k2]
      refine PCall.mono (contD_on cs y.id (by omega) _) ?_
      rintro q τ ⟨rfl,rfl⟩
      by_cases hmem:y.id ∈ cs
      ·have hM:=hB
       rw [if_pos hmem] at hM
       rw [decide_eq_true hmem]
       simp -dsimp (maxSteps:=4000000) +contextual (disch:=first | omega | decide +kernel) only [↓vsD,vsE,↓Nat.reduceLT,simprocAttr,cl1_in,cl1_p2,cl1_tg,cl1_cid,cl1_comp,cl1_rcomp,cl1_ident,cl1_rid,vcel]
       exact ⟨(i,k + 1,n,cs,ps,o,_),(by (try dsimp only); omega),by simp [weaker,Go.PV.look],rfl,hM,hI.hn,fun j hj=>by rw [List.getElem?_append_left (List.getElem?_eq_some_iff.1 (hI.y j hj)).1]; exact hI.y j hj,(by dsimp only; omega),(by dsimp only; omega),(by dsimp only; omega)⟩
      ·have hM:=hB
       rw [if_neg hmem] at hM
       rw [decide_eq_false hmem]
       have hn:=newsPc y
       rw [Pc.row] at hn
       have hIn:=hI.hn
       cases n with
       | zero =>
        have hps:ps = []:=List.eq_nil_of_length_eq_zero hIn.symm
        simp -dsimp only [psV]
        simp -dsimp (maxSteps:=4000000) +contextual (disch:=first | omega | decide +kernel) only [↓vsD,vsE,↓Nat.reduceLT,simprocAttr,cl1_in,cl1_p2,cl1_tg,cl1_cid,cl1_comp,cl1_rcomp,cl1_ident,cl1_rid,vcel,hn,bytesK,lenK,vgap]
        refine ⟨(i,k + 1,1,cs,ps ++ [y],Y.length + 1,_),(by (try dsimp only); omega),by simp [weaker,Go.PV.look,psV],rfl,hM,by rw [hps]; rfl,fun j hj=>?_,(by dsimp only; omega),(by dsimp only; omega),(by dsimp only; omega)⟩
        obtain rfl:j = 0:=by dsimp only at hj; omega
        rw [hps]; simp [encP,Pc.row]
       | succ j =>
        have hY2:=hI.y j rfl
        have hyl:=(List.getElem?_eq_some_iff.1 hY2).1
        have g1:∀ X,(Y ++ X)[o]? = some (.rows 32 5 (encP ps) j):=fun X=>by rw [List.getElem?_append_left hyl,hY2]
        have g2:∀ X y,(Y ++ X).set o y = Y.set o y ++ X:=fun X y=>by rw [List.set_append_left _ _ hyl]
        have hlk:(encP ps).length = j + 1:=by rw [encP_length,hIn]
        simp -dsimp only [psV]
        simp -dsimp (maxSteps:=4000000) +contextual (disch:=first | omega | decide +kernel) only [↓vsD,vsE,↓Nat.reduceLT,simprocAttr,cl1_in,cl1_p2,cl1_tg,cl1_cid,cl1_comp,cl1_rcomp,cl1_ident,cl1_rid,vcel,hn,bytesK,lenK,vgap,g1,g2,hlk]
        refine ⟨(i,k + 1,j + 2,cs,ps ++ [y],o,_),(by (try dsimp only); omega),by simp [weaker,Go.PV.look,psV],rfl,hM,by rw [List.length_append,← hIn]; rfl,fun j2 hj=>?_,(by dsimp only; omega),(by dsimp only; omega),(by dsimp only; omega)⟩
        obtain rfl:j2 = j + 1:=by dsimp only at hj; omega
        dsimp only
        rw [List.getElem?_append_left (by rw [List.length_set]; exact hyl),List.getElem?_set_self hyl]
        simp [encP,Pc.row]
    ·have hke:k = b.ps.length:=by omega
     have hA:=hA (fun q hq=>by rw [hke,List.drop_length] at hq; simp at hq)
     subst hke
     simp -dsimp (maxSteps:=4000000) +contextual (disch:=first | omega | decide +kernel) only [↓vsD,vsE,↓Nat.reduceLT,simprocAttr,cl1_in,cl1_p2,cl1_tg,cl1_cid,cl1_comp,cl1_rcomp,cl1_ident,cl1_rid,encP_length,hrow,vcel,vgap,k2]
     refine PCall.mono (contD_on cs x.id (by omega) _) ?_
     rintro q τ ⟨rfl,rfl⟩
     by_cases hmem:x.id ∈ cs
     ·have hM:=hA
      rw [if_pos hmem] at hM
      rw [decide_eq_true hmem]
      simp -dsimp (maxSteps:=4000000) +contextual (disch:=first | omega | decide +kernel) only [↓vsD,vsE,↓Nat.reduceLT,simprocAttr,cl1_in,cl1_p2,cl1_tg,cl1_cid,cl1_comp,cl1_rcomp,cl1_ident,cl1_rid,vcel]
      exact ⟨(i + 1,b.ps.length,n,cs,ps,o,_),(by (try dsimp only); omega),by simp [weaker,Go.PV.look],rfl,hM,hI.hn,fun j hj=>by rw [List.getElem?_append_left (List.getElem?_eq_some_iff.1 (hI.y j hj)).1]; exact hI.y j hj,(by dsimp only; omega),(by dsimp only; omega),(by dsimp only; omega)⟩
     ·have hM:=hA
      rw [if_neg hmem] at hM
      rw [decide_eq_false hmem]
      have hn:=newsPc x
      rw [Pc.row] at hn
      have hIn:=hI.hn
      cases n with
      | zero =>
       have hps:ps = []:=List.eq_nil_of_length_eq_zero hIn.symm
       simp -dsimp only [psV]
       simp -dsimp (maxSteps:=4000000) +contextual (disch:=first | omega | decide +kernel) only [↓vsD,vsE,↓Nat.reduceLT,simprocAttr,cl1_in,cl1_p2,cl1_tg,cl1_cid,cl1_comp,cl1_rcomp,cl1_ident,cl1_rid,vcel,hn,bytesK,lenK,vgap]
       refine ⟨(i + 1,b.ps.length,1,cs,ps ++ [x],Y.length + 1,_),(by (try dsimp only); omega),by simp [weaker,Go.PV.look,psV],rfl,hM,by rw [hps]; rfl,fun j hj=>?_,(by dsimp only; omega),(by dsimp only; omega),(by dsimp only; omega)⟩
       obtain rfl:j = 0:=by dsimp only at hj; omega
       rw [hps]; simp [encP,Pc.row]
      | succ j =>
       have hY2:=hI.y j rfl
       have hyl:=(List.getElem?_eq_some_iff.1 hY2).1
       have g1:∀ X,(Y ++ X)[o]? = some (.rows 32 5 (encP ps) j):=fun X=>by rw [List.getElem?_append_left hyl,hY2]
       have g2:∀ X y,(Y ++ X).set o y = Y.set o y ++ X:=fun X y=>by rw [List.set_append_left _ _ hyl]
       have hlk:(encP ps).length = j + 1:=by rw [encP_length,hIn]
       simp -dsimp only [psV]
       simp -dsimp (maxSteps:=4000000) +contextual (disch:=first | omega | decide +kernel) only [↓vsD,vsE,↓Nat.reduceLT,simprocAttr,cl1_in,cl1_p2,cl1_tg,cl1_cid,cl1_comp,cl1_rcomp,cl1_ident,cl1_rid,vcel,hn,bytesK,lenK,vgap,g1,g2,hlk]
       refine ⟨(i + 1,b.ps.length,j + 2,cs,ps ++ [x],o,_),(by (try dsimp only); omega),by simp [weaker,Go.PV.look,psV],rfl,hM,by rw [List.length_append,← hIn]; rfl,fun j2 hj=>?_,(by dsimp only; omega),(by dsimp only; omega),(by dsimp only; omega)⟩
       obtain rfl:j2 = j + 1:=by dsimp only at hj; omega
       dsimp only
       rw [List.getElem?_append_left (by rw [List.length_set]; exact hyl),List.getElem?_set_self hyl]
       simp [encP,Pc.row]
   ·have hie:i = a.ps.length:=by omega
    by_cases hkl:k < b.ps.length
    ·have hrow2:=encP_getD b.ps k hkl
     have hB:=hI.m.stepB hob.o hkl (fun q hq=>by rw [hie,List.drop_length] at hq; simp at hq)
     obtain ⟨y,hye⟩:∃ y,y = b.ps.getD k default:=⟨_,rfl⟩
     rw [← hye] at hrow2 hB
     subst hie
     simp -dsimp (maxSteps:=4000000) +contextual (disch:=first | omega | decide +kernel) only [↓vsD,vsE,↓Nat.reduceLT,simprocAttr,cl1_in,cl1_p2,cl1_tg,cl1_cid,cl1_comp,cl1_rcomp,cl1_ident,cl1_rid,encP_length,hrow2,vcel,vgap,k2]
     refine PCall.mono (contD_on cs y.id (by omega) _) ?_
     rintro q τ ⟨rfl,rfl⟩
     by_cases hmem:y.id ∈ cs
     ·have hM:=hB
      rw [if_pos hmem] at hM
      rw [decide_eq_true hmem]
      simp -dsimp (maxSteps:=4000000) +contextual (disch:=first | omega | decide +kernel) only [↓vsD,vsE,↓Nat.reduceLT,simprocAttr,cl1_in,cl1_p2,cl1_tg,cl1_cid,cl1_comp,cl1_rcomp,cl1_ident,cl1_rid,vcel]
      exact ⟨(a.ps.length,k + 1,n,cs,ps,o,_),(by (try dsimp only); omega),by simp [weaker,Go.PV.look],rfl,hM,hI.hn,fun j hj=>by rw [List.getElem?_append_left (List.getElem?_eq_some_iff.1 (hI.y j hj)).1]; exact hI.y j hj,(by dsimp only; omega),(by dsimp only; omega),(by dsimp only; omega)⟩
     ·have hM:=hB
      rw [if_neg hmem] at hM
      rw [decide_eq_false hmem]
      have hn:=newsPc y
      rw [Pc.row] at hn
      have hIn:=hI.hn
      cases n with
      | zero =>
       have hps:ps = []:=List.eq_nil_of_length_eq_zero hIn.symm
       simp -dsimp only [psV]
       simp -dsimp (maxSteps:=4000000) +contextual (disch:=first | omega | decide +kernel) only [↓vsD,vsE,↓Nat.reduceLT,simprocAttr,cl1_in,cl1_p2,cl1_tg,cl1_cid,cl1_comp,cl1_rcomp,cl1_ident,cl1_rid,vcel,hn,bytesK,lenK,vgap]
       refine ⟨(a.ps.length,k + 1,1,cs,ps ++ [y],Y.length + 1,_),(by (try dsimp only); omega),by simp [weaker,Go.PV.look,psV],rfl,hM,by rw [hps]; rfl,fun j hj=>?_,(by dsimp only; omega),(by dsimp only; omega),(by dsimp only; omega)⟩
       obtain rfl:j = 0:=by dsimp only at hj; omega
       rw [hps]; simp [encP,Pc.row]
      | succ j =>
       have hY2:=hI.y j rfl
       have hyl:=(List.getElem?_eq_some_iff.1 hY2).1
       have g1:∀ X,(Y ++ X)[o]? = some (.rows 32 5 (encP ps) j):=fun X=>by rw [List.getElem?_append_left hyl,hY2]
       have g2:∀ X y,(Y ++ X).set o y = Y.set o y ++ X:=fun X y=>by rw [List.set_append_left _ _ hyl]
       have hlk:(encP ps).length = j + 1:=by rw [encP_length,hIn]
       simp -dsimp only [psV]
       simp -dsimp (maxSteps:=4000000) +contextual (disch:=first | omega | decide +kernel) only [↓vsD,vsE,↓Nat.reduceLT,simprocAttr,cl1_in,cl1_p2,cl1_tg,cl1_cid,cl1_comp,cl1_rcomp,cl1_ident,cl1_rid,vcel,hn,bytesK,lenK,vgap,g1,g2,hlk]
       refine ⟨(a.ps.length,k + 1,j + 2,cs,ps ++ [y],o,_),(by (try dsimp only); omega),by simp [weaker,Go.PV.look,psV],rfl,hM,by rw [List.length_append,← hIn]; rfl,fun j2 hj=>?_,(by dsimp only; omega),(by dsimp only; omega),(by dsimp only; omega)⟩
       obtain rfl:j2 = j + 1:=by dsimp only at hj; omega
       dsimp only
       rw [List.getElem?_append_left (by rw [List.length_set]; exact hyl),List.getElem?_set_self hyl]
       simp [encP,Pc.row]
    ·have hke:k = b.ps.length:=by omega
     subst hie
     subst hke
     simp -dsimp (maxSteps:=4000000) +contextual (disch:=first | omega | decide +kernel) only [↓vsD,vsE,↓Nat.reduceLT,simprocAttr,cl1_in,cl1_p2,cl1_tg,cl1_cid,cl1_comp,cl1_rcomp,cl1_ident,cl1_rid,encP_length,k4]
     have hdone:=hI.m.done hoa.o hob.o
     have hmem:∀ p ∈ ps,OkPc p ∧ ∀ x ∈ p.fs,SmC x:=fun p hp=>by
      obtain ⟨t,ht,hpt⟩:=hdone.src hp
      rcases List.mem_cons.1 ht with rfl | ht
      ·obtain ⟨i,hi,rfl⟩:=List.mem_iff_getElem.1 hpt
       have h1:=hoa.p i hi
       rw [List.getD_eq_getElem?_getD,List.getElem?_eq_getElem hi,Option.getD_some] at h1
       exact ⟨h1,hxa _ hpt⟩
      ·rw [List.mem_singleton] at ht
       subst ht
       obtain ⟨i,hi,rfl⟩:=List.mem_iff_getElem.1 hpt
       have h1:=hob.p i hi
       rw [List.getD_eq_getElem?_getD,List.getElem?_eq_getElem hi,Option.getD_some] at h1
       exact ⟨h1,hxb _ hpt⟩
     have hIn:=hI.hn
     have hle:=least_on ⟨ps,cs⟩ (fun p hp=>(hmem p hp).1) (fun p hp=>(hmem p hp).2) (by dsimp only; omega) (by dsimp only; omega)
     refine PCall.frz [o + 3] (args2:=[.sl (encP ps),.sl (encD cs)]) (PCall.mono (hle _) ?_) rfl (fun j p p2 h1 h2=>?_)
     ·rintro q τ ⟨rfl,rfl⟩
      simp -dsimp only [killZ,List.set_cons_succ]
      unfold stV
      simp -dsimp (maxSteps:=4000000) +contextual (disch:=first | omega | decide +kernel) only [↓vsD,vsE,↓Nat.reduceLT,simprocAttr,cl1_in,cl1_p2,cl1_tg,cl1_cid,cl1_comp,cl1_rcomp,cl1_ident,cl1_rid,vcel]
      exact fin0 (.keep _ (bel_tup2 (bel_st 0 (leastS ⟨ps,cs⟩)) (bel_int _ _ _))) (.inr ⟨hoa,hob,_,hdone,rfl⟩)
     ·match j,h1,h2 with
      | 0,h1,h2 =>
       simp at h1 h2
       subst h1 h2
       cases n with
       | zero =>
        have hps:ps = []:=List.eq_nil_of_length_eq_zero hIn.symm
        rw [hps]
        exact .nils
       | succ j=>exact Frzn.msl0 (by simp) (by simpa using hI.y j rfl)
      | 1,h1,h2=>simp at h1 h2; subst h1 h2; exact .keep _
      | j + 2,h1,h2=>simp at h1
  ·rw [stB_f hob]
   simp -dsimp (maxSteps:=4000000) +contextual (disch:=first | omega | decide +kernel) only [↓vsD,vsE,↓Nat.reduceLT,simprocAttr,cl1_in,cl1_p2,cl1_tg,cl1_cid,cl1_comp,cl1_rcomp,cl1_ident,cl1_rid,k0,vcel]
   exact fno (fun h=>hob h.2) _
 ·rw [stB_f hoa]
  simp -dsimp (maxSteps:=4000000) +contextual (disch:=first | omega | decide +kernel) only [↓vsD,vsE,↓Nat.reduceLT,simprocAttr,cl1_in,cl1_p2,cl1_tg,cl1_cid,cl1_comp,cl1_rcomp,cl1_ident,cl1_rid,k0,vcel]
  exact fno (fun h=>hoa h.1) _
theorem bel_mg {a b:StS} {q:PV} (h:MgRes a b q):Bel 0 q:=by
 rcases h with ⟨_,rfl⟩ | ⟨_,_,m,_,rfl⟩
 ·exact bel_tup2 (bel_st _ _) (bel_int _ _ _)
 ·exact bel_tup2 (bel_st _ _) (bel_int _ _ _)
theorem merge_on (N:Nat) (hU:UnionOk N) (a b:StS) (ha:FitS a) (hb:FitS b) (hxa:∀ p ∈ a.ps,∀ x ∈ p.fs,SmC x) (hxb:∀ p ∈ b.ps,∀ x ∈ p.fs,SmC x)
  (hN:a.cs.length + b.cs.length + min a.ps.length b.ps.length + 1 ≤ N) (σ:Store) :
  PCall Try.prog 22 [stV a,stV b] σ (fun q τ=>MgRes a b q ∧ τ = σ) :=
 PCall.lift (merge_w N hU a b ha hb hxa hxb hN) (bel2 (bel_st _ _) (bel_st _ _)) (fun q h=>⟨bel_mg h,h,rfl⟩)
end Go.Proofs.Ythjoehaglonjaaa
