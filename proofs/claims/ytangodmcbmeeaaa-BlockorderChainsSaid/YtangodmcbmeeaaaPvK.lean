import Derived.Test.YtangodmcbmeeaaaPvJ
set_option maxRecDepth 8000
namespace Go.PV
inductive Frz (k:Nat) (σ:Store):PV → PV → Prop where
 | keep (p:PV):Bel k p → Frz k σ p p
 | nils:Frz k σ .nils (.sl [])
 | msl (o ver elem sz:Nat) (rows rows2:List (List PV)):k ≤ o → σ[o]? = some (.rows elem sz rows ver) → rows2.length = rows.length → (∀ (i:Nat) (row:List PV),rows[i]? = some row → (rows2.getD i []).length = row.length) →
   (∀ (i:Nat) (row:List PV) (j:Nat) (p:PV),rows[i]? = some row → row[j]? = some p → Frz k σ p ((rows2.getD i []).getD j .unk)) → Frz k σ (.msl o ver) (.sl rows2)
 | sl (rows rows2:List (List PV)):rows2.length = rows.length → (∀ (i:Nat) (row:List PV),rows[i]? = some row → (rows2.getD i []).length = row.length) →
   (∀ (i:Nat) (row:List PV) (j:Nat) (p:PV),rows[i]? = some row → row[j]? = some p → Frz k σ p ((rows2.getD i []).getD j .unk)) → Frz k σ (.sl rows) (.sl rows2)
 | ptr (o ver i off elem sz:Nat) (rows:List (List PV)) (row row2:List PV):k ≤ o → σ[o]? = some (.rows elem sz rows ver) → rows[i]? = some row → row2.length = row.length → (∀ (j:Nat) (p:PV),row[j]? = some p → Frz k σ p (row2.getD j .unk)) → Frz k σ (.ptr o ver i off) (.iptr row2 off)
 | agg (cells cells2:List PV):cells2.length = cells.length → (∀ (j:Nat) (p:PV),cells[j]? = some p → Frz k σ p (cells2.getD j .unk)) → Frz k σ (.agg cells) (.agg cells2)
 | tup (cells cells2:List PV):cells2.length = cells.length → (∀ (j:Nat) (p:PV),cells[j]? = some p → Frz k σ p (cells2.getD j .unk)) → Frz k σ (.tup cells) (.tup cells2)
theorem Frz.msl0 {k:Nat} {σ:Store} {o ver elem sz:Nat} {rows:List (List PV)} (hk:k ≤ o) (ho:σ[o]? = some (.rows elem sz rows ver)) (hb:∀ row ∈ rows,∀ p ∈ row,Bel k p):Frz k σ (.msl o ver) (.sl rows) :=
 .msl o ver elem sz rows rows hk ho rfl (fun i row hi=>by rw [List.getD_eq_getElem?_getD,hi]; rfl) (fun i row j p hi hj=>by
  rw [List.getD_eq_getElem?_getD (l:=rows),hi,Option.getD_some,List.getD_eq_getElem?_getD,hj,Option.getD_some]
  exact .keep p (hb row (List.mem_of_getElem? hi) p (List.mem_of_getElem? hj)))
theorem Frz.ptr0 {k:Nat} {σ:Store} {o ver i off elem sz:Nat} {rows:List (List PV)} {row:List PV} (hk:k ≤ o) (ho:σ[o]? = some (.rows elem sz rows ver)) (hi:rows[i]? = some row) (hb:∀ p ∈ row,Bel k p):Frz k σ (.ptr o ver i off) (.iptr row off) :=
 .ptr o ver i off elem sz rows row row hk ho hi rfl (fun j p hj=>by
  rw [List.getD_eq_getElem?_getD,hj,Option.getD_some]
  exact .keep p (hb p (List.mem_of_getElem? hj)))
open Classical in
noncomputable def frzI (I:Imm) (ρ:Rho) (σ:Store) (w:World) (k:Nat):Imm:=fun b off=>if (∃ o,k ≤ o ∧ BlockIs ρ σ o b) then w.cell? ⟨b,off,none⟩ else I b off
section
variable {I:Imm} {ρ:Rho} {σ:Store} {w:World}
theorem frzI_le (hinv:Inv I ρ σ w) (k:Nat):∀ b off v,I b off = some v → frzI I ρ σ w k b off = some v:=fun b off v hv=>by
 unfold frzI
 split
 ·exact hinv.imm b off v hv
 ·exact hv
theorem Frz.sound (hinv:Inv I ρ σ w) {k:Nat} {p p2:PV} (h:Frz k σ p p2):∀ v,R I ρ p v → R (frzI I ρ σ w k) (cutR k ρ) p2 v:=by
 have hle:=frzI_le hinv k
 have hcut:∀ o,o < k → ∀ ver,ρ o ver = cutR k ρ o ver:=fun o ho ver=>by simp [cutR,ho]
 induction h with
 | keep p hb=>exact fun v hr=>hb _ _ _ _ hcut (hr.mono hle (fun _ _ _ h=>h))
 | nils =>
  intro v hr
  cases hr with
  | nils=>exact .slNil _ _
 | msl o ver elem sz rows rows2 hk ho hl hrow _ ih =>
  intro v hr
  cases hr with
  | msl _ _ L hL =>
  obtain ⟨L',cs,hL',g1,g2,g3,g4,g5,g6,g7,g8,g9,g10⟩:=hinv.objs o _ ho
  cases hL.symm.trans hL'
  have hback:∀ (i:Nat) (row2:List PV) (j:Nat) (p2:PV),rows2[i]? = some row2 → row2[j]? = some p2 → ∃ row p,rows[i]? = some row ∧ row[j]? = some p ∧ p2 = (rows2.getD i []).getD j .unk:=fun i row2 j p2 hi hj=>by
   have hlt:i < rows.length:=by have:=(List.getElem?_eq_some_iff.1 hi).1; omega
   have h1:=List.getElem?_eq_getElem hlt
   have h2:=hrow i _ h1
   rw [List.getD_eq_getElem?_getD,hi,Option.getD_some] at h2
   have hjl:j < rows[i].length:=by have:=(List.getElem?_eq_some_iff.1 hj).1; omega
   exact ⟨_,_,h1,List.getElem?_eq_getElem hjl,by rw [List.getD_eq_getElem?_getD (l:=rows2),hi,Option.getD_some,List.getD_eq_getElem?_getD,hj,Option.getD_some]⟩
  rw [g2,← hl]
  refine R.sl rows2 L.block 0 sz L.cap (fun i j=>cs.getD (i * sz + j) Go.undef) (by omega) (fun row2 hr2=>?_) (fun i row2 j p2 hi hj=>?_) (fun i row2 j p2 hi hj=>?_)
  ·obtain ⟨i,hi⟩:=List.mem_iff_getElem?.1 hr2
   have hlt:i < rows.length:=by have:=(List.getElem?_eq_some_iff.1 hi).1; omega
   have h2:=hrow i _ (List.getElem?_eq_getElem hlt)
   rw [List.getD_eq_getElem?_getD,hi,Option.getD_some] at h2
   rw [h2]
   exact g7 _ (List.getElem_mem hlt)
  ·obtain ⟨row,p,h1,h2,_⟩:=hback i row2 j p2 hi hj
   obtain ⟨u,hu,_⟩:=g8 i row j p h1 h2
   unfold frzI
   rw [if_pos ⟨o,hk,_,L,ho,by simp,hL,rfl⟩,cell_of_row w _ _ _ _ _ g3,Nat.zero_add,Array.getD_eq_getD_getElem?,hu]
   rfl
  ·obtain ⟨row,p,h1,h2,h3⟩:=hback i row2 j p2 hi hj
   obtain ⟨u,hu,hR⟩:=g8 i row j p h1 h2
   rw [h3,Array.getD_eq_getD_getElem?,hu]
   exact ih i row j p h1 h2 u hR
 | sl rows rows2 hl hrow _ ih =>
  intro v hr
  have hback:∀ (i:Nat) (row2:List PV) (j:Nat) (p2:PV),rows2[i]? = some row2 → row2[j]? = some p2 → ∃ row p,rows[i]? = some row ∧ row[j]? = some p ∧ p2 = (rows2.getD i []).getD j .unk:=fun i row2 j p2 hi hj=>by
   have hlt:i < rows.length:=by have:=(List.getElem?_eq_some_iff.1 hi).1; omega
   have h1:=List.getElem?_eq_getElem hlt
   have h2:=hrow i _ h1
   rw [List.getD_eq_getElem?_getD,hi,Option.getD_some] at h2
   have hjl:j < rows[i].length:=by have:=(List.getElem?_eq_some_iff.1 hj).1; omega
   exact ⟨_,_,h1,List.getElem?_eq_getElem hjl,by rw [List.getD_eq_getElem?_getD (l:=rows2),hi,Option.getD_some,List.getD_eq_getElem?_getD,hj,Option.getD_some]⟩
  cases hr with
  | sl _ b base sz cap vs h0 h1 h2 h3 =>
   rw [← hl]
   refine R.sl rows2 b base sz cap vs (by omega) (fun row2 hr2=>?_) (fun i row2 j p2 hi hj=>?_) (fun i row2 j p2 hi hj=>?_)
   ·obtain ⟨i,hi⟩:=List.mem_iff_getElem?.1 hr2
    have hlt:i < rows.length:=by have:=(List.getElem?_eq_some_iff.1 hi).1; omega
    have h2:=hrow i _ (List.getElem?_eq_getElem hlt)
    rw [List.getD_eq_getElem?_getD,hi,Option.getD_some] at h2
    rw [h2]
    exact h1 _ (List.getElem_mem hlt)
   ·obtain ⟨row,p,k1,k2,_⟩:=hback i row2 j p2 hi hj
    exact hle _ _ _ (h2 i row j p k1 k2)
   ·obtain ⟨row,p,k1,k2,k3⟩:=hback i row2 j p2 hi hj
    rw [k3]
    exact ih i row j p k1 k2 _ (h3 i row j p k1 k2)
  | slNil a c =>
   have:rows2 = []:=List.eq_nil_of_length_eq_zero hl
   subst this
   exact .slNil _ _
 | ptr o ver i off elem sz rows row row2 hk ho hi hl _ ih =>
  intro v hr
  cases hr with
  | ptr _ _ _ _ L hL =>
  obtain ⟨L',cs,hL',g1,g2,g3,g4,g5,g6,g7,g8,g9,g10⟩:=hinv.objs o _ ho
  cases hL.symm.trans hL'
  have hback:∀ (j:Nat) (p2:PV),row2[j]? = some p2 → ∃ p,row[j]? = some p ∧ p2 = row2.getD j .unk:=fun j p2 hj=>by
   have hjl:j < row.length:=by have:=(List.getElem?_eq_some_iff.1 hj).1; omega
   exact ⟨_,List.getElem?_eq_getElem hjl,by rw [List.getD_eq_getElem?_getD,hj,Option.getD_some]⟩
  rw [g1]
  refine R.iptr row2 off L.block (i * sz) (fun j=>cs.getD (i * sz + j) Go.undef) (fun j p2 hj=>?_) (fun j p2 hj=>?_)
  ·obtain ⟨p,h2,_⟩:=hback j p2 hj
   obtain ⟨u,hu,_⟩:=g8 i row j p hi h2
   unfold frzI
   rw [if_pos ⟨o,hk,_,L,ho,by simp,hL,rfl⟩,cell_of_row w _ _ _ _ _ g3,Array.getD_eq_getD_getElem?,hu]
   rfl
  ·obtain ⟨p,h2,h3⟩:=hback j p2 hj
   obtain ⟨u,hu,hR⟩:=g8 i row j p hi h2
   rw [h3,Array.getD_eq_getD_getElem?,hu]
   exact ih j p h2 u hR
 | agg cells cells2 hl _ ih =>
  intro v hr
  cases hr with
  | agg _ cs h1 h2=>exact .agg _ cs (by omega) (fun j p2 hj=>by
    have hlt:j < cells.length:=by have:=(List.getElem?_eq_some_iff.1 hj).1; omega
    have:=ih j _ (List.getElem?_eq_getElem hlt) _ (h2 j _ (List.getElem?_eq_getElem hlt))
    rwa [List.getD_eq_getElem?_getD,hj,Option.getD_some] at this)
 | tup cells cells2 hl _ ih =>
  intro v hr
  cases hr with
  | tup _ cs h1 h2=>exact .tup _ cs (by omega) (fun j p2 hj=>by
    have hlt:j < cells.length:=by have:=(List.getElem?_eq_some_iff.1 hj).1; omega
    have:=ih j _ (List.getElem?_eq_getElem hlt) _ (h2 j _ (List.getElem?_eq_getElem hlt))
    rwa [List.getD_eq_getElem?_getD,hj,Option.getD_some] at this)
theorem Inv.cut (hinv:Inv I ρ σ w) {k:Nat} (hold:∀ o,o < k → ∃ obj,σ[o]? = some obj ∧ ObjBel k obj):Inv (frzI I ρ σ w k) (cutR k ρ) (σ.take k) w:=by
 have hle:=frzI_le hinv k
 have hcut:∀ o,o < k → ∀ ver,ρ o ver = cutR k ρ o ver:=fun o ho ver=>by simp [cutR,ho]
 have hk:k ≤ σ.length:=by
  rcases Nat.lt_or_ge σ.length k with h | h
  ·obtain ⟨obj,ho,_⟩:=hold σ.length h
   have:=(List.getElem?_eq_some_iff.1 ho).1
   omega
  ·exact h
 have hget:∀ o obj,(σ.take k)[o]? = some obj → o < k ∧ σ[o]? = some obj:=fun o obj h=>by
  rw [List.getElem?_take] at h
  split at h
  ·rename_i hlt; exact ⟨hlt,h⟩
  ·cases h
 have hblk:∀ o b,BlockIs (cutR k ρ) (σ.take k) o b → o < k ∧ BlockIs ρ σ o b:=fun o b ⟨obj,L,h1,h2,h3,h4⟩=>by
  obtain ⟨hlt,ho⟩:=hget o obj h1
  exact ⟨hlt,obj,L,ho,h2,by rw [hcut o hlt]; exact h3,h4⟩
 have hnone:∀ o obj L,o < k → σ[o]? = some obj → obj ≠ .dead → ρ o (verOf obj) = some L → ∀ off,frzI I ρ σ w k L.block off = none:=fun o obj L hlt ho hd hL off=>by
  unfold frzI
  rw [if_neg (fun ⟨o',ho',hb⟩=>by have:=hinv.apart o o' L.block ⟨obj,L,ho,hd,hL,rfl⟩ hb; omega)]
  exact (hinv.objs o obj ho).imm_none hd hL off
 refine ⟨fun o obj h=>?_,fun o o' b h h'=>hinv.apart o o' b (hblk o b h).2 (hblk o' b h').2,fun b off v hv=>?_,fun o ver ho=>?_⟩
 ·obtain ⟨hlt,ho⟩:=hget o obj h
  obtain ⟨obj',ho',hbel⟩:=hold o hlt
  cases ho.symm.trans ho'
  have hobj:=hinv.objs o obj ho
  cases obj with
  | dead=>trivial
  | rows elem sz rows ver =>
   obtain ⟨L,cs,hL,h1,h2,h3,h4,h5,h6,h7,h8,h9,h10⟩:=hobj
   refine ⟨L,cs,by rw [← hcut o hlt]; exact hL,h1,h2,h3,h4,h5,h6,h7,fun i row j p hi hj=>?_,hnone o _ L hlt ho (by simp) hL,fun v' hv'=>by rw [← hcut o hlt]; exact h10 v' hv'⟩
   obtain ⟨u,hu,hR⟩:=h8 i row j p hi hj
   exact ⟨u,hu,hbel row (List.mem_of_getElem? hi) p (List.mem_of_getElem? hj) _ _ _ _ hcut (hR.mono hle (fun _ _ _ h=>h))⟩
  | map es =>
   obtain ⟨L,ms,clock,hL,h1,h2,h3,h4⟩:=hobj
   refine ⟨L,ms,clock,by rw [← hcut o hlt]; exact hL,h1,h2,fun i e hi=>?_,hnone o _ L hlt ho (by simp) hL⟩
   obtain ⟨m,hm,hk1,hv1⟩:=h3 i e hi
   have hb:=hbel e (List.mem_of_getElem? hi)
   exact ⟨m,hm,hb.1 _ _ _ _ hcut (hk1.mono hle (fun _ _ _ h=>h)),hb.2 _ _ _ _ hcut (hv1.mono hle (fun _ _ _ h=>h))⟩
 ·unfold frzI at hv
  split at hv
  ·exact hv
  ·exact hinv.imm b off v hv
 ·rw [List.length_take,Nat.min_eq_left hk] at ho
  simp [cutR,Nat.not_lt.2 ho]
theorem Grow.cut {I0:Imm} {ρ0:Rho} {σ0:Store} {w0:World} (h0:Inv I0 ρ0 σ0 w0) (hg:Grow I0 ρ0 σ0 w0 I ρ σ w) (hinv:Inv I ρ σ w):Grow I0 ρ0 σ0 w0 (frzI I ρ σ w σ0.length) (cutR σ0.length ρ) (σ.take σ0.length) w where
 imm b off v hv:=frzI_le hinv _ b off v (hg.imm b off v hv)
 rho o ver L hL:=by
  have hlt:o < σ0.length:=by
   rcases Nat.lt_or_ge o σ0.length with h | h
   ·exact h
   ·rw [h0.free o ver h] at hL; cases hL
  simp only [cutR,hlt,if_true]
  exact hg.rho o ver L hL
 os:=hg.os
 tape:=hg.tape
 output:=hg.output
 size:=hg.size
 frame:=hg.frame
 newImm b off hn hs:=by
  by_cases hI:I b off = none
  ·unfold frzI at hs
   split at hs
   ·rename_i hex
    obtain ⟨o,_,hb⟩:=hex
    exact hg.newLive b ⟨o,hb⟩
   ·exact absurd hI hs
  ·exact hg.newImm b off hn hI
 newLive b hl:=by
  obtain ⟨o,obj,L,h1,h2,h3,h4⟩:=hl
  refine hg.newLive b ⟨o,obj,L,?_,h2,?_,h4⟩
  ·rw [List.getElem?_take] at h1
   split at h1
   ·exact h1
   ·cases h1
  ·simp only [cutR] at h3
   split at h3
   ·exact h3
   ·cases h3
 deadR o ver hd:=by
  have hlt:=(List.getElem?_eq_some_iff.1 hd).1
  simp only [cutR,hlt,if_true]
  exact hg.deadR o ver hd
 deadS o hd:=by
  have hlt:=(List.getElem?_eq_some_iff.1 hd).1
  rw [List.getElem?_take,if_pos hlt]
  exact hg.deadS o hd
def Fin (σ:Store) (K:PV → Store → Prop) (p:PV) (σ':Store):Prop :=
 ∃ p2,Frz σ.length σ' p p2 ∧ (∀ o,o < σ.length → ∃ obj,σ'[o]? = some obj ∧ (σ[o]? = some obj ∨ ObjBel σ.length obj)) ∧ K p2 (σ'.take σ.length)
theorem PCall.of_body_frz {P:Program} {M:List Nat} (hmix:P.follows .mixedOrders = true) {F:FuncId} {fn:Func} {c:Code} {args:List PV} {σ:Store} {K:PV → Store → Prop} (hfn:P.funcs[F]? = some fn) (hb:fn.body = some c) (hname:(fn.name != "runtime.NumGoroutine") = true)
  (hargs:args.length ≤ fn.ntmps) (h:pwp P M fn.ntmps c (fun e fr σ'=>(e = .ret ∨ e = .normal) ∧ resW P σ' fr (fun l=>Fin σ K (fnRet l) σ') fn.results.toList) (initFr args) σ):PCall P F args σ K :=
 PCall.of_body_with hmix hfn hb hname hargs (Fin σ K) h fun I ρ w p v σ' I' ρ' w' hinv ⟨p2,hf,hold,hK⟩ hR hinv' hg =>
  ⟨p2,frzI I' ρ' σ' w' σ.length,cutR σ.length ρ',σ'.take σ.length,hf.sound hinv' v hR,hinv'.cut (fun o ho=>by
   obtain ⟨obj,h1,h2⟩:=hold o ho
   refine ⟨obj,h1,?_⟩
   rcases h2 with h2 | h2
   ·exact objBel_of_inv hinv h2
   ·exact h2),hg.cut hinv hinv',hK⟩
def flat1:PV → Bool
 | .bool _ | .int _ _ | .str _ | .nilp | .nils | .nilm | .nilf | .undef=>true
 | _=>false
def flat:PV → Bool
 | .agg cs=>cs.all flat1
 | .tup cs=>cs.all flat1
 | p=>flat1 p
theorem R.flat1 {I':Imm} {ρ':Rho} {p:PV} {v:Value} (hf:flat1 p = true) (h:R I ρ p v):R I' ρ' p v:=by
 cases h <;> simp [PV.flat1] at hf <;> constructor
theorem R.flat {I':Imm} {ρ':Rho} {p:PV} {v:Value} (hf:flat p = true) (h:R I ρ p v):R I' ρ' p v:=by
 cases h with
 | agg cells cs h1 h2=>exact .agg cells cs h1 (fun j q hj=>R.flat1 (List.all_eq_true.1 hf q (List.mem_of_getElem? hj)) (h2 j q hj))
 | tup cells cs h1 h2=>exact .tup cells cs h1 (fun j q hj=>R.flat1 (List.all_eq_true.1 hf q (List.mem_of_getElem? hj)) (h2 j q hj))
 | _=>first
  | (simp [PV.flat,PV.flat1] at hf; done)
  | constructor
def FrzL (σ:Store) (args args2:List PV):Prop:=args2.length = args.length ∧ ∀ (j:Nat) (p p2:PV),args[j]? = some p → args2[j]? = some p2 → Frz 0 σ p p2
theorem FrzL.nil (σ:Store):FrzL σ [] []:=⟨rfl,by simp⟩
theorem FrzL.cons {p p2:PV} {l l2:List PV} (h:Frz 0 σ p p2) (hl:FrzL σ l l2):FrzL σ (p :: l) (p2 :: l2) :=
 ⟨by simp [hl.1],fun j q q2 hq hq2=>by
  cases j with
  | zero=>simp at hq hq2; subst hq hq2; exact h
  | succ j=>exact hl.2 j q q2 (by simpa using hq) (by simpa using hq2)⟩
theorem Inv.none (hinv:Inv I ρ σ w):Inv (frzI I ρ σ w 0) (cutR 0 ρ) [] w:=by
 have:=hinv.cut (k:=0) (fun o ho=>absurd ho (Nat.not_lt_zero _))
 simpa using this
theorem ArgsR.frz (hinv:Inv I ρ σ w) {args args2:List PV} {vs:Array Value} (ha:ArgsR I ρ args vs) (hl:FrzL σ args args2):ArgsR (frzI I ρ σ w 0) (cutR 0 ρ) args2 vs :=
 ⟨by rw [ha.1,hl.1],fun j p2 hj=>by
  have hlt:j < args.length:=by have:=(List.getElem?_eq_some_iff.1 hj).1; rw [hl.1] at this; exact this
  have h1:=List.getElem?_eq_getElem hlt
  exact (hl.2 j _ _ h1 hj).sound hinv _ (ha.2 j _ h1)⟩
theorem PCall.use_lend {P:Program} {F:FuncId} {args args2:List PV} {Φ:PV → Prop} {K:PV → Store → Prop} (h:PCall P F args2 [] (fun p _=>Φ p)) (hl:FrzL σ args args2) (hK:∀ r,Φ r → PV.flat r = true ∧ K r σ):PCall P F args σ K:=by
 refine ⟨h.1,fun I ρ w vs hinv ha=>(h.2 _ _ w vs hinv.none (ha.frz hinv hl)).mono ?_⟩
 rintro e w' ⟨rv,p,I',ρ',σ',rfl,hR,_,hg,hp⟩
 obtain ⟨hf,hK⟩:=hK p hp
 have hframe:∀ b,b < w.heap.size → w'.heap[b]? = w.heap[b]?:=fun b hb=>hg.frame b hb (fun ⟨o,obj,L,h1,_⟩=>by simp at h1)
 refine ⟨rv,p,I,ρ,σ,rfl,hR.flat hf,?_,?_,hK⟩
 ·refine ⟨fun o obj ho=>(hinv.objs o obj ho).keep (fun _ _ _ h=>h) (fun _ _ _ h=>h) (fun L hd hL=>⟨hframe _ ((hinv.objs o obj ho).block_lt hd hL),(hinv.objs o obj ho).imm_none hd hL⟩) (fun _ _ h=>h),hinv.apart,fun b off v hv=>?_,hinv.free⟩
  have hc:=hinv.imm b off v hv
  rw [World.cell?_of_block (w:=w) (hframe b (World.block_lt_of_cell? w ⟨b,off,none⟩ hc))]
  exact hc
 ·exact ⟨fun _ _ _ h=>h,fun _ _ _ h=>h,hg.os,hg.tape,hg.output,hg.size,fun b hb _=>hframe b hb,fun _ _ h h'=>absurd h h',fun _ h=>.inl h,fun _ _ _=>rfl,fun _ h=>h⟩
theorem frzI_nil (I:Imm) (ρ:Rho) (w:World) (k:Nat):frzI I ρ [] w k = I:=by
 funext b off
 unfold frzI
 rw [if_neg (fun ⟨o,_,obj,L,h1,_⟩=>by simp at h1)]
theorem PCall.use {P:Program} {F:FuncId} {args args2:List PV} {Φ:PV → Prop} {K:PV → Store → Prop} (h:PCall P F args2 [] (fun p _=>Φ p)) (hl:FrzL [] args args2) (hK:∀ r,Φ r → Bel 0 r ∧ K r σ):PCall P F args σ K:=by
 refine ⟨h.1,fun I ρ w vs hinv ha=>?_⟩
 have hinv0:Inv I (fun _ _=>Option.none) [] w:=⟨fun _ _ h=>by simp at h,fun o _ _ ⟨_,_,h,_⟩=>by simp at h,hinv.imm,fun _ _ _=>rfl⟩
 have ha2:ArgsR I (fun _ _=>Option.none) args2 vs:=by
  refine ⟨by rw [ha.1,hl.1],fun j p2 hj=>?_⟩
  have hlt:j < args.length:=by have:=(List.getElem?_eq_some_iff.1 hj).1; rw [hl.1] at this; exact this
  have h1:=List.getElem?_eq_getElem hlt
  have key:∀ (p p2:PV) (v:Value),Frz 0 [] p p2 → R I ρ p v → R I (fun _ _=>Option.none) p2 v:=by
   intro p p2 v hf
   induction hf generalizing v with
   | keep p hb=>exact fun hr=>hb _ _ _ _ (fun o ho=>absurd ho (Nat.not_lt_zero _)) hr
   | nils=>intro hr; cases hr with | nils=>exact .slNil _ _
   | msl o ver elem sz rows rows2 _ ho=>simp at ho
   | ptr o ver i off elem sz rows row row2 _ ho=>simp at ho
   | sl rows rows2 hl2 hrow _ ih =>
    intro hr
    have hback:∀ (i:Nat) (row2:List PV) (j:Nat) (p2:PV),rows2[i]? = some row2 → row2[j]? = some p2 → ∃ row p,rows[i]? = some row ∧ row[j]? = some p ∧ p2 = (rows2.getD i []).getD j .unk:=fun i row2 j p2 hi hj=>by
     have hlt:i < rows.length:=by have:=(List.getElem?_eq_some_iff.1 hi).1; omega
     have h1:=List.getElem?_eq_getElem hlt
     have h2:=hrow i _ h1
     rw [List.getD_eq_getElem?_getD,hi,Option.getD_some] at h2
     have hjl:j < rows[i].length:=by have:=(List.getElem?_eq_some_iff.1 hj).1; omega
     exact ⟨_,_,h1,List.getElem?_eq_getElem hjl,by rw [List.getD_eq_getElem?_getD (l:=rows2),hi,Option.getD_some,List.getD_eq_getElem?_getD,hj,Option.getD_some]⟩
    cases hr with
    | sl _ b base sz cap vs h0 h1 h2 h3 =>
     rw [← hl2]
     refine R.sl rows2 b base sz cap vs (by omega) (fun row2 hr2=>?_) (fun i row2 j p2 hi hj=>?_) (fun i row2 j p2 hi hj=>?_)
     ·obtain ⟨i,hi⟩:=List.mem_iff_getElem?.1 hr2
      have hlt:i < rows.length:=by have:=(List.getElem?_eq_some_iff.1 hi).1; omega
      have h2:=hrow i _ (List.getElem?_eq_getElem hlt)
      rw [List.getD_eq_getElem?_getD,hi,Option.getD_some] at h2
      rw [h2]
      exact h1 _ (List.getElem_mem hlt)
     ·obtain ⟨row,p,k1,k2,_⟩:=hback i row2 j p2 hi hj
      exact h2 i row j p k1 k2
     ·obtain ⟨row,p,k1,k2,k3⟩:=hback i row2 j p2 hi hj
      rw [k3]
      exact ih i row j p k1 k2 _ (h3 i row j p k1 k2)
    | slNil a c =>
     have:rows2 = []:=List.eq_nil_of_length_eq_zero hl2
     subst this
     exact .slNil _ _
   | agg cells cells2 hl2 _ ih =>
    intro hr
    cases hr with
    | agg _ cs h1 h2=>exact .agg _ cs (by omega) (fun j p2 hj=>by
      have hlt:j < cells.length:=by have:=(List.getElem?_eq_some_iff.1 hj).1; omega
      have:=ih j _ (List.getElem?_eq_getElem hlt) _ (h2 j _ (List.getElem?_eq_getElem hlt))
      rwa [List.getD_eq_getElem?_getD,hj,Option.getD_some] at this)
   | tup cells cells2 hl2 _ ih =>
    intro hr
    cases hr with
    | tup _ cs h1 h2=>exact .tup _ cs (by omega) (fun j p2 hj=>by
      have hlt:j < cells.length:=by have:=(List.getElem?_eq_some_iff.1 hj).1; omega
      have:=ih j _ (List.getElem?_eq_getElem hlt) _ (h2 j _ (List.getElem?_eq_getElem hlt))
      rwa [List.getD_eq_getElem?_getD,hj,Option.getD_some] at this)
  exact key _ _ _ (hl.2 j _ _ h1 hj) (ha.2 j _ h1)
 refine (h.2 I _ w vs hinv0 ha2).mono ?_
 rintro e w' ⟨rv,p,I',ρ',σ',rfl,hR,hinv',hg,hp⟩
 obtain ⟨hb,hK⟩:=hK p hp
 have hframe:∀ b,b < w.heap.size → w'.heap[b]? = w.heap[b]?:=fun b hb=>hg.frame b hb (fun ⟨o,obj,L,h1,_⟩=>by simp at h1)
 have hnew:∀ b off,b < w.heap.size → I' b off = I b off:=fun b off hb=>by
  cases hI:I b off with
  | some v=>exact hg.imm b off v hI
  | none =>
   apply Classical.byContradiction
   intro hne
   rcases hg.newImm b off hI hne with ⟨o,obj,L,h1,_⟩ | h1
   ·simp at h1
   ·omega
 refine ⟨rv,p,I',ρ,σ,rfl,hb I' ρ' ρ rv (fun o ho=>absurd ho (Nat.not_lt_zero _)) hR,?_,?_,hK⟩
 ·refine ⟨fun o obj ho=>(hinv.objs o obj ho).keep hg.imm (fun _ _ _ h=>h) (fun L hd hL=>⟨hframe _ ((hinv.objs o obj ho).block_lt hd hL),fun off=>?_⟩) (fun _ _ h=>h),hinv.apart,hinv'.imm,hinv.free⟩
  rw [hnew _ off ((hinv.objs o obj ho).block_lt hd hL)]
  exact (hinv.objs o obj ho).imm_none hd hL off
 ·refine ⟨hg.imm,fun _ _ _ h=>h,hg.os,hg.tape,hg.output,hg.size,fun b hb _=>hframe b hb,fun b off hn hs=>?_,fun _ h=>.inl h,fun _ _ _=>rfl,fun _ h=>h⟩
  rcases hg.newImm b off hn hs with ⟨o,obj,L,h1,_⟩ | h1
  ·simp at h1
  ·exact .inr h1
end
end Go.PV
