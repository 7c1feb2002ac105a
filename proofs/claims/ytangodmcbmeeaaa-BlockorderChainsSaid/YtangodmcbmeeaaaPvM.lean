import Derived.Test.YtangodmcbmeeaaaPvL
set_option maxRecDepth 8000
namespace Go.PV
def pullR (os:List Nat) (ρ:Rho):Rho:=fun j ver=>(os[j]?).bind fun o=>ρ o ver
open Classical in
noncomputable def pushR (os:List Nat) (ρ ρ2:Rho):Rho:=fun o ver=>if h:∃ j,os[j]? = some o then ρ2 (Classical.choose h) ver else ρ o ver
def setAll (σ:Store):List Nat → Store → Store
 | o :: os,X :: Xs=>setAll (σ.set o X) os Xs
 | _,_=>σ
theorem setAll_nil (σ Xs:Store):setAll σ [] Xs = σ:=by cases Xs <;> rfl
theorem setAll_cons (σ:Store) (o:Nat) (os:List Nat) (X:Obj) (Xs:Store):setAll σ (o :: os) (X :: Xs) = setAll (σ.set o X) os Xs:=rfl
inductive Mv (os:List Nat):PV → PV → Prop where
 | keep (p:PV):Bel 0 p → Mv os p p
 | ptr (j o ver i off:Nat):os[j]? = some o → Mv os (.ptr o ver i off) (.ptr j ver i off)
 | msl (j o ver:Nat):os[j]? = some o → Mv os (.msl o ver) (.msl j ver)
 | map (j o:Nat):os[j]? = some o → Mv os (.map o) (.map j)
def MvL (os:List Nat) (args args2:List PV):Prop:=args2.length = args.length ∧ ∀ (j:Nat) (p p2:PV),args[j]? = some p → args2[j]? = some p2 → Mv os p p2
theorem MvL.nil (os:List Nat):MvL os [] []:=⟨rfl,by simp⟩
theorem MvL.cons {os:List Nat} {p p2:PV} {l l2:List PV} (h:Mv os p p2) (hl:MvL os l l2):MvL os (p :: l) (p2 :: l2) :=
 ⟨by simp [hl.1],fun j q q2 hq hq2=>by
  cases j with
  | zero=>simp at hq hq2; subst hq hq2; exact h
  | succ j=>exact hl.2 j q q2 (by simpa using hq) (by simpa using hq2)⟩
theorem Mv.sound {I:Imm} {ρ:Rho} {os:List Nat} {p p2:PV} (h:Mv os p p2) {v:Value} (hr:R I ρ p v):R I (pullR os ρ) p2 v:=by
 cases h with
 | keep _ hb=>exact hb _ _ _ _ (fun o ho=>absurd ho (Nat.not_lt_zero _)) hr
 | ptr j o ver i off ho=>cases hr; rename_i L hL; exact .ptr _ _ _ _ L (by simp [pullR,ho,hL])
 | msl j o ver ho=>cases hr; rename_i L hL; exact .msl _ _ L (by simp [pullR,ho,hL])
 | map j o ho=>cases hr; rename_i L hL; exact .map _ L (by simp [pullR,ho,hL])
theorem ObjInv.move {I:Imm} {ρ ρ2:Rho} {w:World} {o j:Nat} {obj:Obj} (h:ObjInv I ρ w o obj) (hb:ObjBel 0 obj) (he:∀ ver,ρ2 j ver = ρ o ver):ObjInv I ρ2 w j obj:=by
 cases obj with
 | dead=>trivial
 | rows elem sz rows ver =>
  obtain ⟨L,cs,hL,h1,h2,h3,h4,h5,h6,h7,h8,h9,h10⟩:=h
  refine ⟨L,cs,by rw [he]; exact hL,h1,h2,h3,h4,h5,h6,h7,fun i row jj p hi hj=>?_,h9,fun v' hv'=>by rw [he]; exact h10 v' hv'⟩
  obtain ⟨u,hu,hR⟩:=h8 i row jj p hi hj
  exact ⟨u,hu,hb row (List.mem_of_getElem? hi) p (List.mem_of_getElem? hj) _ _ _ _ (fun o ho=>absurd ho (Nat.not_lt_zero _)) hR⟩
 | map es =>
  obtain ⟨L,ms,clock,hL,h1,h2,h3,h4⟩:=h
  refine ⟨L,ms,clock,by rw [he]; exact hL,h1,h2,fun i e hi=>?_,h4⟩
  obtain ⟨m,hm,hk1,hv1⟩:=h3 i e hi
  have hbe:=hb e (List.mem_of_getElem? hi)
  exact ⟨m,hm,hbe.1 _ _ _ _ (fun o ho=>absurd ho (Nat.not_lt_zero _)) hk1,hbe.2 _ _ _ _ (fun o ho=>absurd ho (Nat.not_lt_zero _)) hv1⟩
theorem setAll_length:∀ (os:List Nat) (σ Xs:Store),(setAll σ os Xs).length = σ.length
 | [],σ,Xs=>by cases Xs <;> rfl
 | o :: os,σ,[]=>rfl
 | o :: os,σ,X :: Xs=>by rw [setAll_cons,setAll_length os]; simp
theorem setAll_out:∀ (os:List Nat) (σ Xs:Store) (o:Nat),o ∉ os → (setAll σ os Xs)[o]? = σ[o]?
 | [],σ,Xs,o,_=>by cases Xs <;> rfl
 | o' :: os,σ,[],o,_=>rfl
 | o' :: os,σ,X :: Xs,o,h=>by
  rw [setAll_cons,setAll_out os _ Xs o (fun hm=>h (List.mem_cons_of_mem _ hm)),List.getElem?_set_ne (fun he=>h (by rw [he]; exact List.mem_cons_self))]
theorem setAll_in:∀ (os:List Nat) (σ Xs:Store) (j o:Nat),os.Nodup → os[j]? = some o → Xs.length = os.length → o < σ.length → (setAll σ os Xs)[o]? = Xs[j]?
 | [],σ,Xs,j,o,_,h,_,_=>by simp at h
 | o' :: os,σ,[],j,o,_,_,h,_=>by simp at h
 | o' :: os,σ,X :: Xs,j,o,hn,hj,hl,ho=>by
  rw [setAll_cons]
  rw [List.nodup_cons] at hn
  cases j with
  | zero =>
   simp at hj
   subst hj
   rw [setAll_out os _ Xs o' hn.1,List.getElem?_set_self ho]
   rfl
  | succ j=>exact setAll_in os _ Xs j o hn.2 (by simpa using hj) (by simpa using hl) (by simpa using ho)
theorem PCall.use_on {P:Program} {F:FuncId} {args args2:List PV} {σ σ2:Store} {Φ:PV → Store → Prop} {K:PV → Store → Prop} (os:List Nat) (h:PCall P F args2 σ2 Φ) (hnd:os.Nodup) (hlen:σ2.length = os.length)
  (hos:∀ (j o:Nat),os[j]? = some o → σ[o]? = σ2[j]?) (hcl:∀ X ∈ σ2,ObjBel 0 X) (hl:MvL os args args2)
  (hK:∀ p σ2',Φ p σ2' → Bel 0 p ∧ σ2'.length = os.length ∧ (∀ X ∈ σ2',ObjBel 0 X) ∧ K p (setAll σ os σ2')):PCall P F args σ K:=by
 have hdup:∀ (i j o:Nat),os[i]? = some o → os[j]? = some o → i = j:=fun i j o hi hj=>by
  have hlt:=(List.getElem?_eq_some_iff.1 hi).1
  exact (List.getElem?_inj hlt hnd).1 (hi.trans hj.symm)
 have hin:∀ (j o:Nat),os[j]? = some o → ∃ X,σ[o]? = some X ∧ σ2[j]? = some X:=fun j o hj=>by
  have hlt:=(List.getElem?_eq_some_iff.1 hj).1
  have h2:σ2[j]? = some σ2[j]:=List.getElem?_eq_getElem (by omega)
  exact ⟨_,(hos j o hj).trans h2,h2⟩
 refine ⟨h.1,fun I ρ w vs hinv ha=>?_⟩
 have hpull:∀ (j o ver:Nat),os[j]? = some o → pullR os ρ j ver = ρ o ver:=fun j o ver hj=>by simp [pullR,hj]
 have hblk:∀ (j b:Nat),BlockIs (pullR os ρ) σ2 j b → ∃ o,os[j]? = some o ∧ BlockIs ρ σ o b:=fun j b ⟨obj,L,h1,h2,h3,h4⟩=>by
  have hlt:=(List.getElem?_eq_some_iff.1 h1).1
  have hj:os[j]? = some os[j]:=List.getElem?_eq_getElem (by omega)
  exact ⟨_,hj,obj,L,by rw [hos j _ hj]; exact h1,h2,by rw [← hpull j _ _ hj]; exact h3,h4⟩
 have hlive:∀ b,Live (pullR os ρ) σ2 b → Live ρ σ b:=fun b ⟨j,hj⟩=>let ⟨o,_,ho⟩:=hblk j b hj; ⟨o,ho⟩
 have hinv0:Inv I (pullR os ρ) σ2 w:=by
  refine ⟨fun j obj hj=>?_,fun j j' b hj hj'=>?_,hinv.imm,fun j ver hj=>?_⟩
  ·have hlt:=(List.getElem?_eq_some_iff.1 hj).1
   have ho:os[j]? = some os[j]:=List.getElem?_eq_getElem (by omega)
   exact (hinv.objs os[j] obj (by rw [hos j _ ho]; exact hj)).move (hcl obj (List.mem_of_getElem? hj)) (fun ver=>hpull j _ ver ho)
  ·obtain ⟨o,ho,hb⟩:=hblk j b hj
   obtain ⟨o',ho',hb'⟩:=hblk j' b hj'
   cases hinv.apart o o' b hb hb'
   exact hdup _ _ _ ho ho'
  ·simp [pullR,List.getElem?_eq_none (show os.length ≤ j by omega)]
 have ha2:ArgsR I (pullR os ρ) args2 vs:=by
  refine ⟨by rw [ha.1,hl.1],fun j p2 hj=>?_⟩
  have hlt:j < args.length:=by have:=(List.getElem?_eq_some_iff.1 hj).1; rw [hl.1] at this; exact this
  have h1:=List.getElem?_eq_getElem hlt
  exact (hl.2 j _ _ h1 hj).sound (ha.2 j _ h1)
 refine (h.2 I _ w vs hinv0 ha2).mono ?_
 rintro e w' ⟨rv,p,I',ρ',σ2',rfl,hR,hinv',hg,hp⟩
 obtain ⟨hb,hlen',hcl',hK⟩:=hK p σ2' hp
 have hpin:∀ (j o ver:Nat),os[j]? = some o → pushR os ρ ρ' o ver = ρ' j ver:=fun j o ver hj=>by
  have hex:∃ j,os[j]? = some o:=⟨j,hj⟩
  unfold pushR
  rw [dif_pos hex,hdup _ _ _ (Classical.choose_spec hex) hj]
 have hpout:∀ (o ver:Nat),o ∉ os → pushR os ρ ρ' o ver = ρ o ver:=fun o ver ho=>by
  unfold pushR
  rw [dif_neg (fun ⟨j,hj⟩=>ho (List.mem_of_getElem? hj))]
 have hcase:∀ (o:Nat) (obj:Obj),(setAll σ os σ2')[o]? = some obj → (∃ j,os[j]? = some o ∧ σ2'[j]? = some obj) ∨ (o ∉ os ∧ σ[o]? = some obj):=fun o obj ho=>by
  by_cases hm:o ∈ os
  ·obtain ⟨j,hj⟩:=List.mem_iff_getElem?.1 hm
   have hlt:o < σ.length:=by have:=(List.getElem?_eq_some_iff.1 ho).1; rwa [setAll_length] at this
   rw [setAll_in os σ σ2' j o hnd hj hlen' hlt] at ho
   exact .inl ⟨j,hj,ho⟩
  ·rw [setAll_out os σ σ2' o hm] at ho
   exact .inr ⟨hm,ho⟩
 have hnlive:∀ (o b:Nat),o ∉ os → BlockIs ρ σ o b → ¬ Live (pullR os ρ) σ2 b:=fun o b hm hb ⟨j,hj⟩=>by
  obtain ⟨o',ho',hb'⟩:=hblk j b hj
  cases hinv.apart o o' b hb hb'
  exact hm (List.mem_of_getElem? ho')
 have hblk2:∀ (o b:Nat),BlockIs (pushR os ρ ρ') (setAll σ os σ2') o b → (∃ j,os[j]? = some o ∧ BlockIs ρ' σ2' j b) ∨ (o ∉ os ∧ BlockIs ρ σ o b):=fun o b ⟨obj,L,h1,h2,h3,h4⟩=>by
  rcases hcase o obj h1 with ⟨j,hj,hx⟩ | ⟨hm,hx⟩
  ·exact .inl ⟨j,hj,obj,L,hx,h2,by rw [← hpin j o _ hj]; exact h3,h4⟩
  ·exact .inr ⟨hm,obj,L,hx,h2,by rw [← hpout o _ hm]; exact h3,h4⟩
 have hlt:∀ (o b:Nat),BlockIs ρ σ o b → b < w.heap.size:=fun o b ⟨obj,L,h1,h2,h3,h4⟩=>by
  rw [← h4]
  exact (hinv.objs o obj h1).block_lt h2 h3
 have hrho:∀ o ver L,ρ o ver = some L → pushR os ρ ρ' o ver = some L:=fun o ver L hL=>by
  by_cases hm:o ∈ os
  ·obtain ⟨j,hj⟩:=List.mem_iff_getElem?.1 hm
   rw [hpin j o ver hj]
   exact hg.rho j ver L (by rw [hpull j o ver hj]; exact hL)
  ·rw [hpout o ver hm]; exact hL
 refine ⟨rv,p,I',pushR os ρ ρ',setAll σ os σ2',rfl,hb _ _ _ _ (fun o ho=>absurd ho (Nat.not_lt_zero _)) hR,⟨fun o obj ho=>?_,fun o o' b hbo hbo'=>?_,hinv'.imm,fun o ver ho=>?_⟩,⟨hg.imm,hrho,hg.os,hg.tape,hg.output,hg.size,fun b hb hn=>hg.frame b hb (fun hl=>hn (hlive b hl)),fun b off hn hs=>?_,fun b hlb=>?_,fun o ver hd=>?_,fun o hd=>?_⟩,hK⟩
 ·rcases hcase o obj ho with ⟨j,hj,hx⟩ | ⟨hm,hx⟩
  ·exact (hinv'.objs j obj hx).move (hcl' obj (List.mem_of_getElem? hx)) (fun ver=>hpin j o ver hj)
  ·refine (hinv.objs o obj hx).keep hg.imm hrho (fun L hd hL=>?_) (fun ver _ hv=>by rw [hpout o ver hm]; exact hv)
   have hbl:BlockIs ρ σ o L.block:=⟨obj,L,hx,hd,hL,rfl⟩
   refine ⟨hg.frame _ (hlt o _ hbl) (hnlive o _ hm hbl),fun off=>?_⟩
   apply Classical.byContradiction
   intro hne
   rcases hg.newImm L.block off ((hinv.objs o obj hx).imm_none hd hL off) hne with h1 | h1
   ·exact hnlive o _ hm hbl h1
   ·have:=hlt o _ hbl; omega
 ·rcases hblk2 o b hbo with ⟨j,hj,hx⟩ | ⟨hm,hx⟩
  ·rcases hblk2 o' b hbo' with ⟨j',hj',hx'⟩ | ⟨hm',hx'⟩
   ·cases hinv'.apart j j' b hx hx'
    exact Option.some.inj (hj.symm.trans hj')
   ·rcases hg.newLive b ⟨j,hx⟩ with h1 | h1
    ·exact absurd h1 (hnlive o' b hm' hx')
    ·have:=hlt o' b hx'; omega
  ·rcases hblk2 o' b hbo' with ⟨j',hj',hx'⟩ | ⟨hm',hx'⟩
   ·rcases hg.newLive b ⟨j',hx'⟩ with h1 | h1
    ·exact absurd h1 (hnlive o b hm hx)
    ·have:=hlt o b hx; omega
   ·exact hinv.apart o o' b hx hx'
 ·rw [setAll_length] at ho
  have hm:o ∉ os:=fun hm=>by
   obtain ⟨j,hj⟩:=List.mem_iff_getElem?.1 hm
   obtain ⟨X,hX,_⟩:=hin j o hj
   have:=(List.getElem?_eq_some_iff.1 hX).1
   omega
  rw [hpout o ver hm]
  exact hinv.free o ver ho
 ·rcases hg.newImm b off hn hs with h1 | h1
  ·exact .inl (hlive b h1)
  ·exact .inr h1
 ·obtain ⟨o,ho⟩:=hlb
  rcases hblk2 o b ho with ⟨j,hj,hx⟩ | ⟨hm,hx⟩
  ·rcases hg.newLive b ⟨j,hx⟩ with h1 | h1
   ·exact .inl (hlive b h1)
   ·exact .inr h1
  ·exact .inl ⟨o,hx⟩
 ·by_cases hm:o ∈ os
  ·obtain ⟨j,hj⟩:=List.mem_iff_getElem?.1 hm
   rw [hpin j o ver hj,hg.deadR j ver (by rw [← hos j o hj]; exact hd),hpull j o ver hj]
  ·exact hpout o ver hm
 ·by_cases hm:o ∈ os
  ·obtain ⟨j,hj⟩:=List.mem_iff_getElem?.1 hm
   rw [setAll_in os σ σ2' j o hnd hj hlen' (List.getElem?_eq_some_iff.1 hd).1]
   exact hg.deadS j (by rw [← hos j o hj]; exact hd)
  ·rw [setAll_out os σ σ2' o hm]; exact hd
end Go.PV
