import Derived.Test.YthjoehaglonjaaaSuO
set_option maxRecDepth 8000
set_option linter.unusedSimpArgs false
set_option linter.unusedVariables false
namespace Go.Proofs.Ythjoehaglonjaaa
open Go.PV
structure OdR (N:Nat) (S:StS):Prop where
 z:2 * S.cs.length + S.ps.length ≤ N + 2
 f:∀ p ∈ S.ps,FitP p ∧ ∀ x ∈ p.fs,SmC x
theorem OdR.fit {N:Nat} {S:StS} (h:OdR N S) (hn:N ≤ 100):FitS S:=by
 have:=h.z
 exact ⟨by omega,by omega,fun p hp=>(h.f p hp).1⟩
theorem oddC_ok {l:List Int} (hl:okInts .u8 l) {k:Nat} (hk:k ≤ l.length) {x:FC} (hx:DrF x):SmC (oddC l k x).1 ∧ (oddC l k x).2 ≤ l.length:=by
 have h1:=hx.b
 have h2:=hx.e
 have h3:=hx.sm
 have c0:=nxt_le hk 6
 have c1:=nxt_le c0 2
 have c2:=nxt_le c1 2
 have sm:∀ y:FC,y.blocks.length ≤ 3 → y.edges.length ≤ 3 → y.sites = x.sites → SmC y:=fun y q1 q2 q3=>⟨by omega,by omega,by rw [q3]; exact h3.2.2.1,by rw [q3]; exact h3.2.2.2⟩
 unfold oddC
 split
 ·exact ⟨sm _ (by dsimp only; omega) (by dsimp only; omega) rfl,intC_le c0⟩
 ·split
  ·exact ⟨sm _ (by dsimp only; rw [List.length_set]; omega) (by dsimp only; omega) rfl,intC_le c1⟩
  ·split
   ·exact ⟨sm _ (by dsimp only; omega) (by dsimp only; rw [List.length_set]; omega) rfl,intC_le c2⟩
   ·split
    ·exact ⟨sm _ (by dsimp only; rw [List.length_append]; simp; omega) (by dsimp only; omega) rfl,c0⟩
    ·split
     ·exact ⟨sm _ (by dsimp only; omega) (by dsimp only; rw [List.length_append]; simp; omega) rfl,c0⟩
     ·exact ⟨h3,c0⟩
theorem oddS_ok {l:List Int} (hl:okInts .u8 l) {k:Nat} (hk:k ≤ l.length) {N:Nat} {S:StS} {L:List Pc} (hS:FilR N S L):OdR N (oddS l k S).1 ∧ (oddS l k S).2 ≤ l.length:=by
 have ht:=hS.s.two
 have hll:=hS.l
 have hd:=hS.dr
 have hdf:∀ p ∈ S.ps,FitP p ∧ ∀ x ∈ p.fs,SmC x:=fun p hp=>⟨(hd p hp).fit,(hd p hp).sm⟩
 have c0:=nxt_le hk 5
 have hself:OdR N S:=⟨by omega,hdf⟩
 unfold oddS
 split
 ·have hp:=pieceF_ok hl c0
  refine ⟨⟨by dsimp only; rw [List.length_append]; simp; omega,fun p hp2=>?_⟩,hp.2⟩
  rcases List.mem_append.1 hp2 with h | h
  ·exact hdf p h
  ·rw [List.mem_singleton] at h
   rw [h]; exact ⟨hp.1.fit,hp.1.sm⟩
 ·split
  ·exact ⟨⟨by dsimp only; rw [List.length_append]; simp; omega,hdf⟩,nxt_le (nxt_le (nxt_le c0 3) 2) 2⟩
  ·split
   ·split
    ·exact ⟨hself,c0⟩
    ·rename_i hz
     have a1:=nxt_lt hl (nxt l k 5).2 S.ps.length (by omega)
     have c1:=nxt_le c0 (S.ps.length:Int)
     refine ⟨⟨by dsimp only; rw [List.length_set]; omega,fun p hp=>?_⟩,intC_le c1⟩
     rcases List.mem_or_eq_of_mem_set hp with h | rfl
     ·exact hdf p h
     ·have hm:S.ps.getD (nxt l (nxt l k 5).2 S.ps.length).1.toNat default ∈ S.ps:=gtD (show (nxt l (nxt l k 5).2 S.ps.length).1.toNat < S.ps.length by omega)
      exact ⟨(hdf _ hm).1,(hdf _ hm).2⟩
   ·split
    ·split
     ·exact ⟨hself,c0⟩
     ·rename_i hz
      have a1:=nxt_lt hl (nxt l k 5).2 S.ps.length (by omega)
      have c1:=nxt_le c0 (S.ps.length:Int)
      have hm:S.ps.getD (nxt l (nxt l k 5).2 S.ps.length).1.toNat default ∈ S.ps:=gtD (show (nxt l (nxt l k 5).2 S.ps.length).1.toNat < S.ps.length by omega)
      have hpd:=hd _ hm
      have hxd:=hpd.f _ (gtD (d:=default) (i:=0) (by have:=hpd.n; omega))
      have hoc:=oddC_ok hl c1 hxd
      refine ⟨⟨by dsimp only; rw [List.length_set]; omega,fun p hp=>?_⟩,hoc.2⟩
      rcases List.mem_or_eq_of_mem_set hp with h | rfl
      ·exact hdf p h
      ·have hsm:∀ y ∈ (S.ps.getD (nxt l (nxt l k 5).2 S.ps.length).1.toNat default).fs.set 0 (oddC l (nxt l (nxt l k 5).2 S.ps.length).2 ((S.ps.getD (nxt l (nxt l k 5).2 S.ps.length).1.toNat default).fs.getD 0 default)).1,SmC y:=fun y hy=>by
        rcases List.mem_or_eq_of_mem_set hy with h | rfl
        ·exact hpd.sm y h
        ·exact hoc.1
       exact ⟨⟨by show (List.set _ _ _).length < _; rw [List.length_set]; have:=hpd.n; omega,fun y hy=>(hsm y hy).fit⟩,hsm⟩
    ·exact ⟨hself,c0⟩
theorem bel_stx (k:Nat) (S:StS):∀ p ∈ [stV S],Bel k p:=fun p hp=>by
 rw [List.mem_singleton] at hp; rw [hp]; exact bel_st _ _
theorem odd_on (l:List Int) (k:Nat) (hl:okInts .u8 l) (hll:l.length < 2 ^ 40) (hk:k ≤ l.length) {N:Nat} {S:StS} {L:List Pc} (hS:FilR N S L) (hn:N ≤ 100) {σ:Store} {K:PV → Store → Prop} (o:Nat) (ho:σ[o]? = some (codes l k))
  (hK:K (stV (oddS l k S).1) (σ.set o (codes l (oddS l k S).2))):PCall Try.prog 13 [.ptr o 0 0 0,stV S] σ K :=
 codes_onX o l k _ _ _ (odd_w l k hl hll hk S hS.dr (by have:=hS.sz; unfold sizeS at this; omega) (by have:=hS.sz; unfold sizeS at this; omega)) (bel_stx _ _) (bel_st _ _) ho hK
end Go.Proofs.Ythjoehaglonjaaa
