import Derived.Test.YtangodmcbmeeaaaPvD
set_option maxRecDepth 8000
namespace Go.PV
section
variable {I:Imm} {ρ:Rho} {σ:Store} {w:World} {P:Program}
theorem putAll_list (off:Nat):∀ (l:List Value) (k:Nat) (A:Array Value),off + k + l.length ≤ A.size →
  ((l.zipIdx k).foldl (fun (a:Array Value) (x:Value × Nat)=>a.setIfInBounds (off + x.2) x.1) A).size = A.size ∧
  ∀ p,((l.zipIdx k).foldl (fun (a:Array Value) (x:Value × Nat)=>a.setIfInBounds (off + x.2) x.1) A)[p]? = if off + k ≤ p ∧ p < off + k + l.length then l[p - (off + k)]? else A[p]?
 | [],k,A,_=>by simp; intro p h1 h2; omega
 | v :: l,k,A,h=>by
  simp only [List.zipIdx_cons,List.foldl_cons]
  simp only [List.length_cons] at h
  obtain ⟨h1,h2⟩:=putAll_list off l (k + 1) (A.setIfInBounds (off + k) v) (by simp; omega)
  refine ⟨by rw [h1]; simp,fun p=>?_⟩
  rw [h2]
  by_cases hp:off + (k + 1) ≤ p ∧ p < off + (k + 1) + l.length
  ·rw [if_pos hp,if_pos (by simp only [List.length_cons]; omega)]
   rw [show p - (off + k) = (p - (off + (k + 1))) + 1 from by omega,List.getElem?_cons_succ]
  ·rw [if_neg hp]
   by_cases hk:p = off + k
   ·subst hk
    rw [if_pos (by simp only [List.length_cons]; omega),Nat.sub_self,List.getElem?_cons_zero,Array.getElem?_setIfInBounds_self_of_lt (by omega)]
   ·rw [if_neg (by simp only [List.length_cons]; omega),Array.getElem?_setIfInBounds_ne (by omega)]
theorem putAll (off:Nat) (cs A:Array Value) (h:off + cs.size ≤ A.size) :
  (cs.zipIdx.foldl (fun (a:Array Value) (x:Value × Nat)=>a.setIfInBounds (off + x.2) x.1) A).size = A.size ∧
  ∀ p,(cs.zipIdx.foldl (fun (a:Array Value) (x:Value × Nat)=>a.setIfInBounds (off + x.2) x.1) A)[p]? = if off ≤ p ∧ p < off + cs.size then cs[p - off]? else A[p]?:=by
 have:=putAll_list off cs.toList 0 A (by simpa using h)
 rw [← Array.foldl_toList,Array.toList_zipIdx]
 simpa using this
theorem fill_sound (place:Nat → Option (Nat × Nat)):∀ (parts:List (Nat × PV)) (vals:List (Nat × Value)) (cells cells':List PV) (A:Array Value),parts.length = vals.length →
  (∀ (m:Nat) (q:Nat × PV) (v:Nat × Value),parts[m]? = some q → vals[m]? = some v → q.1 = v.1 ∧ R I ρ q.2 v.2) → A.size = cells.length → (∀ (j:Nat) (p:PV),cells[j]? = some p → ∃ u,A[j]? = some u ∧ R I ρ p u) →
  fillP place cells parts = some cells' → ∃ A',Instr.fill place A vals = some A' ∧ A'.size = cells'.length ∧ ∀ (j:Nat) (p:PV),cells'[j]? = some p → ∃ u,A'[j]? = some u ∧ R I ρ p u
 | [],[],cells,cells',A,_,_,hs,hr,h=>by
  simp only [fillP,Option.some.injEq] at h
  subst h
  exact ⟨A,rfl,hs,hr⟩
 | [],_ :: _,_,_,_,hl,_,_,_,_=>by simp at hl
 | _ :: _,[],_,_,_,hl,_,_,_,_=>by simp at hl
 | (i,x) :: parts,(i',v) :: vals,cells,cells',A,hl,hrel,hs,hr,h=>by
  obtain ⟨rfl,hR⟩:=hrel 0 _ _ rfl rfl
  simp only [fillP] at h
  split at h
  ·rename_i off size cs hpl hcs
   split at h
   ·rename_i hc
    obtain ⟨hc1,hc2⟩:=hc
    obtain ⟨hv1,hv2,_⟩:=cellsV_spec hR hcs
    simp only at hv1 hv2
    have hfit:off + v.cells.size ≤ A.size:=by omega
    obtain ⟨p1,p2⟩:=putAll off v.cells A hfit
    have ih:=fill_sound place parts vals (splice cells off cs) cells' (v.cells.zipIdx.foldl (fun (a:Array Value) (x:Value × Nat)=>a.setIfInBounds (off + x.2) x.1) A) (by simpa using hl)
     (fun m q u hq hu=>hrel (m + 1) q u (by simpa using hq) (by simpa using hu))
     (by rw [p1,splice_length (by omega),hs]) (fun j p hj=>by
      rw [p2]
      rcases splice_get (by omega) hj with ⟨g1,g2,g3⟩ | ⟨g1,g2⟩
      ·rw [if_pos (by omega)]
       exact hv2 _ _ g3
      ·rw [if_neg (by omega)]
       exact hr j p g2) h
    obtain ⟨A',e1,e2,e3⟩:=ih
    refine ⟨A',?_,e2,e3⟩
    simp only [Instr.fill]
    rw [show place i = some (off,size) from hpl]
    simp only []
    rw [if_neg (by simp; omega)]
    exact e1
   ·cases h
  ·cases h
theorem rowsP_spec (sz:Nat):∀ (parts:List (Nat × PV)) (k:Nat) (rows:List (List PV)),rowsP sz k parts = some rows →
  rows.length = parts.length ∧ ∀ (m:Nat) (q:Nat × PV),parts[m]? = some q → q.1 = k + m ∧ ∃ row,rows[m]? = some row ∧ row.length = sz ∧ cellsV q.2 = some row
 | [],k,rows,h=>by
  simp only [rowsP,Option.some.injEq] at h
  subst h
  exact ⟨rfl,by simp⟩
 | (i,v) :: parts,k,rows,h=>by
  simp only [rowsP] at h
  split at h
  ·rename_i cs hcs
   split at h
   ·rename_i hc
    obtain ⟨hc1,hc2⟩:=hc
    simp only [Option.map_eq_some_iff] at h
    obtain ⟨rows',h',rfl⟩:=h
    obtain ⟨h1,h2⟩:=rowsP_spec sz parts (k + 1) rows' h'
    refine ⟨by simp [h1],fun m q hq=>?_⟩
    cases m with
    | zero =>
     simp at hq
     subst hq
     exact ⟨by simpa using hc1,cs,rfl,hc2,hcs⟩
    | succ m =>
     obtain ⟨a,row,b,c,d⟩:=h2 m q (by simpa using hq)
     exact ⟨by omega,row,by simpa using b,c,d⟩
   ·cases h
  ·cases h
theorem fill_rows (sz:Nat) (all:List (List PV)) (hall:∀ row ∈ all,row.length = sz):∀ (vals:List (Nat × Value)) (k:Nat) (A:Array Value),k + vals.length = all.length → A.size = all.length * sz →
  (∀ (m:Nat) (v:Nat × Value),vals[m]? = some v → v.1 = k + m ∧ v.2.cells.size = sz ∧ ∀ (row:List PV) (j:Nat) (p:PV),all[k + m]? = some row → row[j]? = some p → ∃ u,v.2.cells[j]? = some u ∧ R I ρ p u) →
  (∀ (i:Nat) (row:List PV) (j:Nat) (p:PV),i < k → all[i]? = some row → row[j]? = some p → ∃ u,A[i * sz + j]? = some u ∧ R I ρ p u) →
  ∃ A',Instr.fill (fun i=>some (i * sz,sz)) A vals = some A' ∧ A'.size = A.size ∧ ∀ (i:Nat) (row:List PV) (j:Nat) (p:PV),all[i]? = some row → row[j]? = some p → ∃ u,A'[i * sz + j]? = some u ∧ R I ρ p u
 | [],k,A,hl,hA,_,hpre=>⟨A,rfl,rfl,fun i row j p hi hj=>hpre i row j p (by have:=(List.getElem?_eq_some_iff.1 hi).1; simp at hl; omega) hi hj⟩
 | (i0,v) :: vals,k,A,hl,hA,hv,hpre=>by
  obtain ⟨e1,e2,e3⟩:=hv 0 _ rfl
  simp only [Nat.add_zero] at e1 e2 e3
  subst e1
  simp only [List.length_cons] at hl
  have hmul:(i0 + 1) * sz ≤ all.length * sz:=Nat.mul_le_mul_right _ (by omega)
  rw [Nat.add_mul] at hmul
  have hfit:i0 * sz + v.cells.size ≤ A.size:=by rw [hA,e2]; omega
  obtain ⟨p1,p2⟩:=putAll (i0 * sz) v.cells A hfit
  obtain ⟨A',f1,f2,f3⟩:=fill_rows sz all hall vals (i0 + 1) (v.cells.zipIdx.foldl (fun (a:Array Value) (x:Value × Nat)=>a.setIfInBounds (i0 * sz + x.2) x.1) A) (by omega) (by rw [p1,hA])
   (fun m u hu=>by
    obtain ⟨g1,g2,g3⟩:=hv (m + 1) u (by simpa using hu)
    exact ⟨by omega,g2,fun row j p hr=>g3 row j p (by rw [← hr]; congr 1; omega)⟩)
   (fun i row j p hi hr hj=>by
    have hjs:j < sz:=by rw [← hall row (List.mem_of_getElem? hr)]; exact (List.getElem?_eq_some_iff.1 hj).1
    rw [p2]
    by_cases hii:i = i0
    ·subst hii
     rw [if_pos (by omega),show i * sz + j - i * sz = j from by omega]
     exact e3 row j p hr hj
    ·have h1:(i + 1) * sz ≤ i0 * sz:=Nat.mul_le_mul_right _ (by omega)
     rw [Nat.add_mul] at h1
     rw [if_neg (by omega)]
     exact hpre i row j p (by omega) hr hj)
  refine ⟨A',?_,by rw [f2,p1],f3⟩
  simp only [Instr.fill]
  rw [if_neg (by simp; omega)]
  exact f1
theorem rowsOf_cells (hinv:Inv I ρ σ w) {x:PV} {v:Value} (hx:R I ρ x v) {K:List (List PV) → Prop} (h:rowsOf σ K x) (sz:Nat) (hK:∀ rows,K rows → ∀ row ∈ rows,row.length = sz ∧ row.all PV.cell = true) :
  ∃ a rows cap,v = .slice a rows.length cap ∧ K rows ∧ (a = none → rows = []) ∧ ∃ cs:List Value,cs.length = rows.length * sz ∧ (∀ u ∈ cs,u.oneCell' = true) ∧
   (∀ ad,a = some ad → ∀ j u,cs[j]? = some u → w.cell? (ad.add j) = some u) ∧
   ∀ (i:Nat) (row:List PV) (j:Nat) (p:PV),rows[i]? = some row → row[j]? = some p → ∃ u,cs[i * sz + j]? = some u ∧ R I ρ p u:=by
 have build:∀ (rows:List (List PV)) (b base:Nat) (cap:Nat),(∀ row ∈ rows,row.length = sz ∧ row.all PV.cell = true) →
   (∀ (i:Nat) (row:List PV) (j:Nat) (p:PV),rows[i]? = some row → row[j]? = some p → ∃ u,w.cell? ⟨b,base + i * sz + j,none⟩ = some u ∧ R I ρ p u) →
   ∃ cs:List Value,cs.length = rows.length * sz ∧ (∀ u ∈ cs,u.oneCell' = true) ∧ (∀ ad,some (⟨b,base,none⟩:Addr) = some ad → ∀ j u,cs[j]? = some u → w.cell? (ad.add j) = some u) ∧
   ∀ (i:Nat) (row:List PV) (j:Nat) (p:PV),rows[i]? = some row → row[j]? = some p → ∃ u,cs[i * sz + j]? = some u ∧ R I ρ p u:=by
  intro rows b base cap hrows hcell
  have hsome:∀ q,q < rows.length * sz → ∃ u,w.cell? ⟨b,base + q,none⟩ = some u ∧ u.oneCell' = true:=fun q hq=>by
   have hsz:0 < sz:=by
    rcases Nat.eq_zero_or_pos sz with h0 | h0
    ·subst h0; simp at hq
    ·exact h0
   have h1:q / sz < rows.length:=by rw [Nat.div_lt_iff_lt_mul hsz]; exact hq
   have h2:=Nat.mod_lt q hsz
   have hrow:=hrows _ (List.getElem_mem h1)
   obtain ⟨u,hu,hR⟩:=hcell (q / sz) _ (q % sz) _ (List.getElem?_eq_getElem h1) (List.getElem?_eq_getElem (by rw [hrow.1]; exact h2))
   have hd:=Nat.div_add_mod q sz
   rw [Nat.mul_comm] at hd
   rw [Nat.add_assoc,hd] at hu
   exact ⟨u,hu,hR.oneCell (List.all_eq_true.1 hrow.2 _ (List.getElem_mem _))⟩
  let f:Nat → Value:=fun q=>if hq:q < rows.length * sz then (hsome q hq).choose else Go.undef
  have hf:∀ q,q < rows.length * sz → w.cell? ⟨b,base + q,none⟩ = some (f q) ∧ (f q).oneCell' = true:=fun q hq=>by
   simp only [f,hq,dif_pos]; exact (hsome q hq).choose_spec
  refine ⟨(List.range (rows.length * sz)).map f,by simp,?_,?_,?_⟩
  ·intro u hu
   simp only [List.mem_map,List.mem_range] at hu
   obtain ⟨q,hq,rfl⟩:=hu
   exact (hf q hq).2
  ·intro ad had j u hj
   cases had
   simp only [List.getElem?_map,Option.map_eq_some_iff] at hj
   obtain ⟨q,hq,rfl⟩:=hj
   obtain ⟨hq1,hq2⟩:=List.getElem?_eq_some_iff.1 hq
   simp at hq1 hq2
   subst hq2
   rw [Addr.add_lit]
   exact (hf _ hq1).1
  ·intro i row j p hi hj
   obtain ⟨u,hu,hR⟩:=hcell i row j p hi hj
   have h1:i < rows.length:=(List.getElem?_eq_some_iff.1 hi).1
   have h2:j < sz:=by rw [← (hrows row (List.mem_of_getElem? hi)).1]; exact (List.getElem?_eq_some_iff.1 hj).1
   have hlt:=idx_lt h1 h2
   refine ⟨f (i * sz + j),by simp [hlt],?_⟩
   have:=(hf _ hlt).1
   rw [← Nat.add_assoc,hu] at this
   cases this
   exact hR
 cases hx <;> simp only [rowsOf] at h
 ·exact ⟨_,[],_,rfl,h,fun _=>rfl,[],by simp,by simp,by simp,by simp⟩
 ·rename_i rows b base sz' cap vs hcap h1 h2 h3
  have hk:=hK _ h
  refine ⟨_,rows,cap,rfl,h,(fun hn=>by cases hn),?_⟩
  refine build rows b base cap hk (fun i row j p hi hj=>?_)
  have he:sz' = sz:=(h1 row (List.mem_of_getElem? hi)).symm.trans (hk row (List.mem_of_getElem? hi)).1
  subst he
  exact ⟨_,hinv.imm _ _ _ (h2 i row j p hi hj),h3 i row j p hi hj⟩
 ·exact ⟨_,[],_,rfl,h,fun _=>rfl,[],by simp,by simp,by simp,by simp⟩
 ·rename_i o ver L hL
  obtain ⟨elem,sz',rows,ho,hk⟩:=h
  obtain ⟨L',cs,hL',g1,g2,g3,g4,g5,g6,g7,g8,_⟩:=hinv.objs o _ ho
  cases hL.symm.trans hL'
  have hk':=hK _ hk
  refine ⟨_,rows,_,by rw [g2],hk,(fun hn=>by cases hn),?_⟩
  refine build rows L.block 0 L.cap hk' (fun i row j p hi hj=>?_)
  have he:sz' = sz:=(g7 row (List.mem_of_getElem? hi)).symm.trans (hk' row (List.mem_of_getElem? hi)).1
  subst he
  obtain ⟨u,hu,hR⟩:=g8 i row j p hi hj
  exact ⟨u,by rw [cell_of_row w _ _ _ _ _ g3,Nat.zero_add]; exact hu,hR⟩
 ·rename_i o ver h' L hL hc
  obtain ⟨elem,sz',rows,ho,hh,hk⟩:=h
  obtain ⟨L',cs,hL',g1,g2,g3,g4,g5,g6,g7,g8,_⟩:=hinv.objs o _ ho
  cases hL.symm.trans hL'
  have hk':=hK _ hk
  refine ⟨_,rows.take h',_,by rw [List.length_take,Nat.min_eq_left hh],hk,(fun hn=>by cases hn),?_⟩
  refine build (rows.take h') L.block 0 L.cap hk' (fun i row j p hi hj=>?_)
  have hi2:rows[i]? = some row:=by
   rw [List.getElem?_take] at hi
   split at hi
   ·exact hi
   ·cases hi
  have he:sz' = sz:=(g7 row (List.mem_of_getElem? hi2)).symm.trans (hk' row (List.mem_of_getElem? hi)).1
  subst he
  obtain ⟨u,hu,hR⟩:=g8 i row j p hi2 hj
  exact ⟨u,by rw [cell_of_row w _ _ _ _ _ g3,Nat.zero_add]; exact hu,hR⟩
 ·rename_i o ver l L a hL hl ha
  obtain ⟨elem,sz',rows,ho,hh,hk⟩:=h
  obtain ⟨L',cs,hL',g1,g2,g3,g4,g5,g6,g7,g8,_⟩:=hinv.objs o _ ho
  cases hL.symm.trans hL'
  have hk':=hK _ hk
  by_cases hlt:l < L.len
  ·obtain rfl:=ha hlt
   refine ⟨_,rows.drop l,_,by rw [List.length_drop,g2],hk,(fun hn=>by cases hn),?_⟩
   refine build (rows.drop l) L.block (l * L.sz) L.cap hk' (fun i row j p hi hj=>?_)
   have hi2:rows[l + i]? = some row:=by rwa [List.getElem?_drop] at hi
   have he:sz' = sz:=(g7 row (List.mem_of_getElem? hi2)).symm.trans (hk' row (List.mem_of_getElem? hi)).1
   subst he
   obtain ⟨u,hu,hR⟩:=g8 (l + i) row j p hi2 hj
   refine ⟨u,?_,hR⟩
   rw [cell_of_row w _ _ _ _ _ g3,g1,show l * sz' + i * sz' + j = (l + i) * sz' + j by rw [Nat.add_mul]]
   exact hu
  ·have e0:rows.drop l = []:=List.drop_of_length_le (by omega)
   rw [e0] at hk
   exact ⟨_,[],_,by rw [show L.len - l = 0 by omega]; rfl,hk,fun _=>rfl,[],by simp,by simp,by simp,by simp⟩
end
end Go.PV
