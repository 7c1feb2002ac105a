import Derived.Test.YtangodmcbmeeaaaPvP
set_option maxRecDepth 8000
set_option linter.unusedSimpArgs false
set_option linter.unusedVariables false
namespace Go.PV
inductive Frzn (zs:List Nat) (σ:Store):PV → PV → Prop where
 | keep (p:PV):Frzn zs σ p p
 | nils:Frzn zs σ .nils (.sl [])
 | msl (o ver elem sz:Nat) (rows rows2:List (List PV)):o ∈ zs → σ[o]? = some (.rows elem sz rows ver) → rows2.length = rows.length → (∀ (i:Nat) (row:List PV),rows[i]? = some row → (rows2.getD i []).length = row.length) →
   (∀ (i:Nat) (row:List PV) (j:Nat) (p:PV),rows[i]? = some row → row[j]? = some p → Frzn zs σ p ((rows2.getD i []).getD j .unk)) → Frzn zs σ (.msl o ver) (.sl rows2)
 | sl (rows rows2:List (List PV)):rows2.length = rows.length → (∀ (i:Nat) (row:List PV),rows[i]? = some row → (rows2.getD i []).length = row.length) →
   (∀ (i:Nat) (row:List PV) (j:Nat) (p:PV),rows[i]? = some row → row[j]? = some p → Frzn zs σ p ((rows2.getD i []).getD j .unk)) → Frzn zs σ (.sl rows) (.sl rows2)
 | ptr (o ver i off elem sz:Nat) (rows:List (List PV)) (row row2:List PV):o ∈ zs → σ[o]? = some (.rows elem sz rows ver) → rows[i]? = some row → row2.length = row.length → (∀ (j:Nat) (p:PV),row[j]? = some p → Frzn zs σ p (row2.getD j .unk)) → Frzn zs σ (.ptr o ver i off) (.iptr row2 off)
 | agg (cells cells2:List PV):cells2.length = cells.length → (∀ (j:Nat) (p:PV),cells[j]? = some p → Frzn zs σ p (cells2.getD j .unk)) → Frzn zs σ (.agg cells) (.agg cells2)
 | tup (cells cells2:List PV):cells2.length = cells.length → (∀ (j:Nat) (p:PV),cells[j]? = some p → Frzn zs σ p (cells2.getD j .unk)) → Frzn zs σ (.tup cells) (.tup cells2)
theorem Frzn.msl0 {zs:List Nat} {σ:Store} {o ver elem sz:Nat} {rows:List (List PV)} (hk:o ∈ zs) (ho:σ[o]? = some (.rows elem sz rows ver)):Frzn zs σ (.msl o ver) (.sl rows) :=
 .msl o ver elem sz rows rows hk ho rfl (fun i row hi=>by rw [List.getD_eq_getElem?_getD,hi]; rfl) (fun i row j p hi hj=>by
  rw [List.getD_eq_getElem?_getD (l:=rows),hi,Option.getD_some,List.getD_eq_getElem?_getD,hj,Option.getD_some]
  exact .keep p)
theorem Frzn.ptr0 {zs:List Nat} {σ:Store} {o ver i off elem sz:Nat} {rows:List (List PV)} {row:List PV} (hk:o ∈ zs) (ho:σ[o]? = some (.rows elem sz rows ver)) (hi:rows[i]? = some row):Frzn zs σ (.ptr o ver i off) (.iptr row off) :=
 .ptr o ver i off elem sz rows row row hk ho hi rfl (fun j p hj=>by
  rw [List.getD_eq_getElem?_getD,hj,Option.getD_some]
  exact .keep p)
open Classical in
noncomputable def frnI (I:Imm) (ρ:Rho) (σ:Store) (w:World) (zs:List Nat):Imm:=fun b off=>if (∃ o,o ∈ zs ∧ BlockIs ρ σ o b) then w.cell? ⟨b,off,none⟩ else I b off
def killZ:List Nat → Store → Store
 | [],σ=>σ
 | o :: zs,σ=>killZ zs (σ.set o .dead)
theorem killZ_length:∀ (zs:List Nat) (σ:Store),(killZ zs σ).length = σ.length
 | [],σ=>rfl
 | o :: zs,σ=>by rw [killZ,killZ_length zs,List.length_set]
theorem killZ_get:∀ (zs:List Nat) (σ:Store) (o:Nat),(killZ zs σ)[o]? = if o ∈ zs then (if o < σ.length then some .dead else none) else σ[o]?
 | [],σ,o=>by simp [killZ]
 | z :: zs,σ,o=>by
  rw [killZ,killZ_get zs,List.length_set]
  by_cases h:o ∈ zs
  ·simp [h]
  ·by_cases hz:o = z
   ·subst hz
    simp only [h,if_false,List.mem_cons,true_or,if_true]
    by_cases hl:o < σ.length
    ·simp [hl]
    ·rw [List.getElem?_eq_none (by rw [List.length_set]; omega),if_neg hl]
   ·have:o ∉ z :: zs:=by simp [h,hz]
    rw [if_neg h,if_neg this,List.getElem?_set_ne (fun e=>hz e.symm)]
section
variable {I:Imm} {ρ:Rho} {σ:Store} {w:World}
theorem frnI_le (hinv:Inv I ρ σ w) (zs:List Nat):∀ b off v,I b off = some v → frnI I ρ σ w zs b off = some v:=fun b off v hv=>by
 unfold frnI
 split
 ·exact hinv.imm b off v hv
 ·exact hv
theorem Frzn.sound (hinv:Inv I ρ σ w) {zs:List Nat} {p p2:PV} (h:Frzn zs σ p p2):∀ v,R I ρ p v → R (frnI I ρ σ w zs) ρ p2 v:=by
 have hle:=frnI_le hinv zs
 induction h with
 | keep p=>exact fun v hr=>hr.mono hle (fun _ _ _ h=>h)
 | nils =>
  intro v hr
  cases hr with
  | nils=>exact .slNil _ _
 | msl o ver elem sz rows rows2 hk ho hl hrow _ ih =>
  intro v hr
  cases hr with
  | msl _ _ L hL =>
  obtain ⟨L',cs,hL',g1,g2,g3,g4,g5,g6,g7,g8,g9,g10⟩:=hinv.objs o _ ho
  cases hL.symm.trans hL'
  have hback:∀ (i:Nat) (row2:List PV) (j:Nat) (p2:PV),rows2[i]? = some row2 → row2[j]? = some p2 → ∃ row p,rows[i]? = some row ∧ row[j]? = some p ∧ p2 = (rows2.getD i []).getD j .unk:=fun i row2 j p2 hi hj=>by
   have hlt:i < rows.length:=by have:=(List.getElem?_eq_some_iff.1 hi).1; omega
   have h1:=List.getElem?_eq_getElem hlt
   have h2:=hrow i _ h1
   rw [List.getD_eq_getElem?_getD,hi,Option.getD_some] at h2
   have hjl:j < rows[i].length:=by have:=(List.getElem?_eq_some_iff.1 hj).1; omega
   exact ⟨_,_,h1,List.getElem?_eq_getElem hjl,by rw [List.getD_eq_getElem?_getD (l:=rows2),hi,Option.getD_some,List.getD_eq_getElem?_getD,hj,Option.getD_some]⟩
  rw [g2,← hl]
  refine R.sl rows2 L.block 0 sz L.cap (fun i j=>cs.getD (i * sz + j) Go.undef) (by omega) (fun row2 hr2=>?_) (fun i row2 j p2 hi hj=>?_) (fun i row2 j p2 hi hj=>?_)
  ·obtain ⟨i,hi⟩:=List.mem_iff_getElem?.1 hr2
   have hlt:i < rows.length:=by have:=(List.getElem?_eq_some_iff.1 hi).1; omega
   have h2:=hrow i _ (List.getElem?_eq_getElem hlt)
   rw [List.getD_eq_getElem?_getD,hi,Option.getD_some] at h2
   rw [h2]
   exact g7 _ (List.getElem_mem hlt)
  ·obtain ⟨row,p,h1,h2,_⟩:=hback i row2 j p2 hi hj
   obtain ⟨u,hu,_⟩:=g8 i row j p h1 h2
   unfold frnI
   rw [if_pos ⟨o,hk,_,L,ho,by simp,hL,rfl⟩,cell_of_row w _ _ _ _ _ g3,Nat.zero_add,Array.getD_eq_getD_getElem?,hu]
   rfl
  ·obtain ⟨row,p,h1,h2,h3⟩:=hback i row2 j p2 hi hj
   obtain ⟨u,hu,hR⟩:=g8 i row j p h1 h2
   rw [h3,Array.getD_eq_getD_getElem?,hu]
   exact ih i row j p h1 h2 u hR
 | sl rows rows2 hl hrow _ ih =>
  intro v hr
  have hback:∀ (i:Nat) (row2:List PV) (j:Nat) (p2:PV),rows2[i]? = some row2 → row2[j]? = some p2 → ∃ row p,rows[i]? = some row ∧ row[j]? = some p ∧ p2 = (rows2.getD i []).getD j .unk:=fun i row2 j p2 hi hj=>by
   have hlt:i < rows.length:=by have:=(List.getElem?_eq_some_iff.1 hi).1; omega
   have h1:=List.getElem?_eq_getElem hlt
   have h2:=hrow i _ h1
   rw [List.getD_eq_getElem?_getD,hi,Option.getD_some] at h2
   have hjl:j < rows[i].length:=by have:=(List.getElem?_eq_some_iff.1 hj).1; omega
   exact ⟨_,_,h1,List.getElem?_eq_getElem hjl,by rw [List.getD_eq_getElem?_getD (l:=rows2),hi,Option.getD_some,List.getD_eq_getElem?_getD,hj,Option.getD_some]⟩
  cases hr with
  | sl _ b base sz cap vs h0 h1 h2 h3 =>
   rw [← hl]
   refine R.sl rows2 b base sz cap vs (by omega) (fun row2 hr2=>?_) (fun i row2 j p2 hi hj=>?_) (fun i row2 j p2 hi hj=>?_)
   ·obtain ⟨i,hi⟩:=List.mem_iff_getElem?.1 hr2
    have hlt:i < rows.length:=by have:=(List.getElem?_eq_some_iff.1 hi).1; omega
    have h2:=hrow i _ (List.getElem?_eq_getElem hlt)
    rw [List.getD_eq_getElem?_getD,hi,Option.getD_some] at h2
    rw [h2]
    exact h1 _ (List.getElem_mem hlt)
   ·obtain ⟨row,p,k1,k2,_⟩:=hback i row2 j p2 hi hj
    exact hle _ _ _ (h2 i row j p k1 k2)
   ·obtain ⟨row,p,k1,k2,k3⟩:=hback i row2 j p2 hi hj
    rw [k3]
    exact ih i row j p k1 k2 _ (h3 i row j p k1 k2)
  | slNil a c =>
   have:rows2 = []:=List.eq_nil_of_length_eq_zero hl
   subst this
   exact .slNil _ _
 | ptr o ver i off elem sz rows row row2 hk ho hi hl _ ih =>
  intro v hr
  cases hr with
  | ptr _ _ _ _ L hL =>
  obtain ⟨L',cs,hL',g1,g2,g3,g4,g5,g6,g7,g8,g9,g10⟩:=hinv.objs o _ ho
  cases hL.symm.trans hL'
  have hback:∀ (j:Nat) (p2:PV),row2[j]? = some p2 → ∃ p,row[j]? = some p ∧ p2 = row2.getD j .unk:=fun j p2 hj=>by
   have hjl:j < row.length:=by have:=(List.getElem?_eq_some_iff.1 hj).1; omega
   exact ⟨_,List.getElem?_eq_getElem hjl,by rw [List.getD_eq_getElem?_getD,hj,Option.getD_some]⟩
  rw [g1]
  refine R.iptr row2 off L.block (i * sz) (fun j=>cs.getD (i * sz + j) Go.undef) (fun j p2 hj=>?_) (fun j p2 hj=>?_)
  ·obtain ⟨p,h2,_⟩:=hback j p2 hj
   obtain ⟨u,hu,_⟩:=g8 i row j p hi h2
   unfold frnI
   rw [if_pos ⟨o,hk,_,L,ho,by simp,hL,rfl⟩,cell_of_row w _ _ _ _ _ g3,Array.getD_eq_getD_getElem?,hu]
   rfl
  ·obtain ⟨p,h2,h3⟩:=hback j p2 hj
   obtain ⟨u,hu,hR⟩:=g8 i row j p hi h2
   rw [h3,Array.getD_eq_getD_getElem?,hu]
   exact ih j p h2 u hR
 | agg cells cells2 hl _ ih =>
  intro v hr
  cases hr with
  | agg _ cs h1 h2=>exact .agg _ cs (by omega) (fun j p2 hj=>by
    have hlt:j < cells.length:=by have:=(List.getElem?_eq_some_iff.1 hj).1; omega
    have:=ih j _ (List.getElem?_eq_getElem hlt) _ (h2 j _ (List.getElem?_eq_getElem hlt))
    rwa [List.getD_eq_getElem?_getD,hj,Option.getD_some] at this)
 | tup cells cells2 hl _ ih =>
  intro v hr
  cases hr with
  | tup _ cs h1 h2=>exact .tup _ cs (by omega) (fun j p2 hj=>by
    have hlt:j < cells.length:=by have:=(List.getElem?_eq_some_iff.1 hj).1; omega
    have:=ih j _ (List.getElem?_eq_getElem hlt) _ (h2 j _ (List.getElem?_eq_getElem hlt))
    rwa [List.getD_eq_getElem?_getD,hj,Option.getD_some] at this)
theorem killZ_some {zs:List Nat} {o:Nat} {obj:Obj} (h:(killZ zs σ)[o]? = some obj):obj = .dead ∨ (o ∉ zs ∧ σ[o]? = some obj):=by
 rw [killZ_get] at h
 split at h
 ·split at h
  ·cases h; exact .inl rfl
  ·cases h
 ·rename_i hn; exact .inr ⟨hn,h⟩
theorem killZ_block {zs:List Nat} {o b:Nat} (h:BlockIs ρ (killZ zs σ) o b):o ∉ zs ∧ BlockIs ρ σ o b:=by
 obtain ⟨obj,L,h1,h2,h3,h4⟩:=h
 rcases killZ_some h1 with e | ⟨hn,h5⟩
 ·exact absurd e h2
 ·exact ⟨hn,obj,L,h5,h2,h3,h4⟩
theorem Inv.freeze (hinv:Inv I ρ σ w) (zs:List Nat):Inv (frnI I ρ σ w zs) ρ (killZ zs σ) w:=by
 have hle:=frnI_le hinv zs
 have hnone:∀ o obj L,o ∉ zs → σ[o]? = some obj → obj ≠ .dead → ρ o (verOf obj) = some L → ∀ off,frnI I ρ σ w zs L.block off = Option.none:=fun o obj L hn ho hd hL off=>by
  unfold frnI
  rw [if_neg (fun ⟨o',ho',hb⟩=>hn (by rw [hinv.apart o o' L.block ⟨obj,L,ho,hd,hL,rfl⟩ hb]; exact ho'))]
  exact (hinv.objs o obj ho).imm_none hd hL off
 refine ⟨fun o obj h=>?_,fun o o' b h h'=>hinv.apart o o' b (killZ_block h).2 (killZ_block h').2,fun b off v hv=>?_,fun o ver ho=>?_⟩
 ·rcases killZ_some h with e | ⟨hn,ho⟩
  ·rw [e]; trivial
  ·have hobj:=hinv.objs o obj ho
   cases obj with
   | dead=>trivial
   | rows elem sz rows ver =>
    obtain ⟨L,cs,hL,h1,h2,h3,h4,h5,h6,h7,h8,h9,h10⟩:=hobj
    refine ⟨L,cs,hL,h1,h2,h3,h4,h5,h6,h7,fun i row j p hi hj=>?_,hnone o _ L hn ho (by simp) hL,h10⟩
    obtain ⟨u,hu,hR⟩:=h8 i row j p hi hj
    exact ⟨u,hu,hR.mono hle (fun _ _ _ h=>h)⟩
   | map es =>
    obtain ⟨L,ms,clock,hL,h1,h2,h3,h4⟩:=hobj
    refine ⟨L,ms,clock,hL,h1,h2,fun i e hi=>?_,hnone o _ L hn ho (by simp) hL⟩
    obtain ⟨m,hm,hk1,hv1⟩:=h3 i e hi
    exact ⟨m,hm,hk1.mono hle (fun _ _ _ h=>h),hv1.mono hle (fun _ _ _ h=>h)⟩
 ·unfold frnI at hv
  split at hv
  ·exact hv
  ·exact hinv.imm b off v hv
 ·rw [killZ_length] at ho
  exact hinv.free o ver ho
theorem Grow.freeze (hinv:Inv I ρ σ w) (zs:List Nat):Grow I ρ σ w (frnI I ρ σ w zs) ρ (killZ zs σ) w where
 imm:=frnI_le hinv zs
 rho _ _ _ h:=h
 os:=rfl
 tape:=rfl
 output:=rfl
 size:=Nat.le_refl _
 frame _ _ _:=rfl
 newImm b off hn hs:=by
  unfold frnI at hs
  split at hs
  ·rename_i hex
   obtain ⟨o,_,hb⟩:=hex
   exact .inl ⟨o,hb⟩
  ·exact absurd hn hs
 newLive b hl:=by
  obtain ⟨o,ho⟩:=hl
  exact .inl ⟨o,(killZ_block ho).2⟩
 deadR _ _ _:=rfl
 deadS o hd:=by
  have hlt:=(List.getElem?_eq_some_iff.1 hd).1
  rw [killZ_get]
  by_cases h:o ∈ zs
  ·rw [if_pos h,if_pos hlt]
  ·rw [if_neg h]; exact hd
def frzTo (fr:Fr) (σ:Store) (fr0:Fr) (σ0:Store):Prop:=∃ zs,σ0 = killZ zs σ ∧ ∀ tv ∈ fr0,Frzn zs σ (look fr tv.1) tv.2
theorem frzTo_weaker {fr fr0:Fr} (h:weaker fr0 fr):frzTo fr σ fr0 σ:=⟨[],rfl,fun tv htv=>by rw [h tv htv]; exact .keep _⟩
theorem look_mem:∀ (fr:Fr) (t:Nat),look fr t = .unk ∨ (t,look fr t) ∈ fr
 | [],t=>.inl rfl
 | (k,x) :: r,t=>by
  simp only [look]
  by_cases h:k = t
  ·subst h; simp
  ·rw [if_neg h]
   rcases look_mem r t with e | e
   ·exact .inl e
   ·exact .inr (by simp [e])
theorem frzTo_sound {n:Nat} {fr fr0:Fr} {σ0:Store} {tmps:Array Value} (h:frzTo fr σ fr0 σ0) (hinv:Inv I ρ σ w) (hf:Frel I ρ n fr tmps):∃ I',Inv I' ρ σ0 w ∧ Grow I ρ σ w I' ρ σ0 w ∧ Frel I' ρ n fr0 tmps:=by
 obtain ⟨zs,rfl,h⟩:=h
 refine ⟨_,hinv.freeze zs,Grow.freeze hinv zs,hf.1,fun t=>?_⟩
 rcases look_mem fr0 t with e | e
 ·rw [e]; exact .unk _
 ·exact (h _ e).sound hinv _ (hf.2 t)
theorem frzTo_eq {fr fr' fr0:Fr} {σ0:Store} (h:frzTo fr σ fr0 σ0) (he:∀ t,look fr t = look fr' t):frzTo fr' σ fr0 σ0:=by
 obtain ⟨zs,h1,h2⟩:=h
 exact ⟨zs,h1,fun tv htv=>by rw [← he]; exact h2 tv htv⟩
end
end Go.PV
