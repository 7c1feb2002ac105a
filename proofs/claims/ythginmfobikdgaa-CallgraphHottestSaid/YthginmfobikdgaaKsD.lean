import Derived.Test.YthginmfobikdgaaKsC
import Derived.Test.YthginmfobikdgaaTy
import Derived.Test.YthginmfobikdgaaEnA
import Derived.Test.YthginmfobikdgaaPvY
set_option maxRecDepth 8000
set_option linter.unusedSimpArgs false
set_option linter.unusedVariables false
namespace Go.PV
open Go.RowKit
theorem PCall.ofOwn {P:Program} {F:FuncId} {args:List PV} {σ:Store} (e:TypeId) (l:List Int) (hb:hasBody P F = true)
  (h:∀ (I:Imm) (ρ:Rho) (w:World) (vs:Array Value),Inv I ρ σ w → ArgsR I ρ args vs → Calls P F vs w fun x w'=>∃ v,x = .returned v ∧ w'.ownsRow w.heap.size e 1 v l.length (l.map (Value.int .i64)) ∧ Below w.heap.size w w') :
  PCall P F args σ (fun p σ'=>p = .sl (encI .i64 l) ∧ σ' = σ):=by
 refine ⟨hb,fun I ρ w vs hinv ha=>(h I ρ w vs hinv ha).mono ?_⟩
 rintro x w' ⟨v,rfl,hrow,hbl⟩
 have hframe:∀ b,b < w.heap.size → w'.heap[b]? = w.heap[b]?:=fun b hb=>hbl.block b hb
 have himm:∀ b off u,I b off = some u → b < w.heap.size:=fun b off u hv=>World.block_lt_of_cell? w ⟨b,off,none⟩ (hinv.imm b off u hv)
 obtain ⟨I',hI'⟩:∃ I':Imm,I' = fun b off=>if b < w.heap.size then I b off else w'.cell? ⟨b,off,none⟩:=⟨_,rfl⟩
 have hle:∀ b off u,I b off = some u → I' b off = some u:=fun b off u hv=>by
  rw [hI']; dsimp only; rw [if_pos (himm b off u hv)]; exact hv
 refine ⟨v,.sl (encI .i64 l),I',ρ,σ,rfl,?_,?_,?_,rfl,rfl⟩
 ·rcases hrow.2 with ⟨rfl,hz⟩ | ⟨g,cap,cur,rfl,hg,hgb,r1,r2,r3,r4⟩
  ·have:l = []:=List.eq_nil_of_length_eq_zero hz
   subst this
   exact .slNil none 0
  ·have hc:∀ i,i < l.length → w'.cell? ⟨g,0 + i * 1 + 0,none⟩ = some (.int .i64 (l.getD i 0)):=fun i hi=>by
    have e1:cur[i]? = some (.int .i64 (l.getD i 0)):=by
     have h1:(cur.toList.take (l.length * 1))[i]? = (l.map (Value.int .i64))[i]?:=by rw [r4]
     rw [List.getElem?_take_of_lt (by omega),List.getElem?_map,List.getElem?_eq_getElem hi,Array.getElem?_toList] at h1
     rw [h1,List.getD_eq_getElem?_getD,List.getElem?_eq_getElem hi]; rfl
    simp [World.cell?,hgb,e1]
   have hlen:(encI .i64 l).length = l.length:=by simp [encI]
   have:=R.sl (I:=I') (ρ:=ρ) (encI .i64 l) g 0 1 cap (fun i _=>.int .i64 (l.getD i 0)) (by rw [hlen]; exact r1) (fun row hr=>by simp only [encI,List.mem_map] at hr; obtain ⟨x,_,rfl⟩:=hr; rfl) (fun i row j p hi hj=>by
    unfold encI at hi
    rw [List.getElem?_map,Option.map_eq_some_iff] at hi
    obtain ⟨x,hx,rfl⟩:=hi
    have hil:=(List.getElem?_eq_some_iff.1 hx).1
    match j,hj with
    | 0,hj =>
     rw [hI']; dsimp only
     rw [if_neg (by omega)]
     exact hc i hil) (fun i row j p hi hj=>by
    unfold encI at hi
    rw [List.getElem?_map,Option.map_eq_some_iff] at hi
    obtain ⟨x,hx,rfl⟩:=hi
    match j,hj with
    | 0,hj =>
     cases hj
     rw [List.getD_eq_getElem?_getD,hx]
     exact .int _ _)
   rw [hlen] at this
   exact this
 ·refine ⟨fun o obj ho=>(hinv.objs o obj ho).keep hle (fun _ _ _ h=>h) (fun L hd hL=>?_) (fun _ _ h=>h),hinv.apart,fun b off u hv=>?_,hinv.free⟩
  ·have hlt:=(hinv.objs o obj ho).block_lt hd hL
   refine ⟨hframe _ hlt,fun off=>?_⟩
   rw [hI']; dsimp only; rw [if_pos hlt]
   exact (hinv.objs o obj ho).imm_none hd hL off
  ·rw [hI'] at hv; dsimp only at hv
   split at hv
   ·rename_i hlt
    rw [World.cell?_of_block (w:=w) (hframe b hlt)]
    exact hinv.imm b off u hv
   ·exact hv
 ·refine ⟨hle,fun _ _ _ h=>h,hbl.os,hbl.tape,hbl.output,hbl.size,fun b hb _=>hframe b hb,fun b off hn hne=>?_,fun _ h=>.inl h,fun _ _ _=>rfl,fun _ h=>h⟩
  by_cases hlt:b < w.heap.size
  ·rw [hI'] at hne; dsimp only at hne; rw [if_pos hlt] at hne
   exact absurd hn hne
  ·exact .inr (by omega)
end Go.PV
namespace Go.Proofs.Ythginmfobikdgaa
open Go.PV Go.RowKit
theorem ints_at (l:List Int) (j:Nat) (hj:j < l.length):(ints l)[j]? = some [.int .i64 (l[j]?.getD 0)]:=by
 show (l.map fun x=>[PV.int .i64 x])[j]? = _
 rw [List.getElem?_map,List.getElem?_eq_getElem hj]; rfl
theorem ints_len (l:List Int):(ints l).length = l.length:=enc_length _ _
def SliceOf (σ:Store) (X:PV) (l:List Int):Prop:=(X = .nils ∧ l = []) ∨ X = .sl (ints l) ∨ (∃ o ver,X = .msl o ver ∧ σ[o]? = some (.rows 3 1 (ints l) ver)) ∨ ∃ o ver k full,X = .msuf o ver k ∧ σ[o]? = some (.rows 3 1 (ints full) ver) ∧ l = full.drop k
theorem SliceOf.holds {I:Imm} {ρ:Rho} {σ:Store} {w:World} {X:PV} {l:List Int} {v:Value} (h:SliceOf σ X l) (hinv:Inv I ρ σ w) (hr:R I ρ X v):HoldsInts w.heap.size w v l:=by
 rcases h with ⟨rfl,rfl⟩ | rfl | ⟨o,ver,rfl,ho⟩ | ⟨o,ver,k,full,rfl,ho,rfl⟩
 ·cases hr
  exact .inl ⟨_,_,rfl,rfl⟩
 ·have hlen:=ints_len l
  have hat:=ints_at l
  generalize hrows:ints l = rows at hr hlen
  cases hr with
  | sl _ b base sz cap vs h0 h1 h2 h3 =>
   by_cases hl:l = []
   ·subst hl
    have:rows.length = 0:=hlen
    rw [this]
    exact .inl ⟨_,_,rfl,rfl⟩
   ·refine .inr ⟨b,base,cap,by rw [hlen],?_,fun j hj=>?_⟩
    ·have hp:=List.length_pos_iff.2 hl
     have hi:rows[0]? = some [.int .i64 (l[0]?.getD 0)]:=by rw [← hrows]; exact hat 0 hp
     exact World.block_lt_of_cell? w _ (hinv.imm _ _ _ (h2 0 _ 0 _ hi rfl))
    ·have hi:rows[j]? = some [.int .i64 (l[j]?.getD 0)]:=by
      rw [← hrows]; exact hat j hj
     have hs:sz = 1:=(h1 _ (List.mem_of_getElem? hi)).symm
     have hc:=hinv.imm _ _ _ (h2 j _ 0 _ hi rfl)
     have hv:=h3 j _ 0 _ hi rfl
     generalize vs j 0 = u at hc hv
     cases hv
     rw [hs,Nat.mul_one,Nat.add_zero] at hc
     exact hc
  | slNil a c =>
   have:l = []:=by
    cases l with
    | nil=>rfl
    | cons x l=>have:=hlen; rw [List.length_nil] at this; simp at this
   exact .inl ⟨_,_,rfl,this⟩
 ·cases hr with
  | msl _ _ L hL =>
   obtain ⟨L',cs,hL',h1,h2,h3,h4,h5,h6,h7,h8,h9,h10⟩:=hinv.objs o _ ho
   cases hL.symm.trans hL'
   have hlen:=ints_len l
   refine .inr ⟨L.block,0,L.cap,by rw [h2,hlen],(Array.getElem?_eq_some_iff.1 h3).1,fun j hj=>?_⟩
   have hi:=ints_at l j hj
   obtain ⟨u,hu,hv⟩:=h8 j _ 0 _ hi rfl
   cases hv
   rw [Nat.mul_one,Nat.add_zero] at hu
   simp [World.cell?,h3,hu]
 ·cases hr with
  | msuf _ _ _ L a hL hle ha =>
   obtain ⟨L',cs,hL',h1,h2,h3,h4,h5,h6,h7,h8,h9,h10⟩:=hinv.objs o _ ho
   cases hL.symm.trans hL'
   have hlen:=ints_len full
   by_cases hk:k < full.length
   ·rw [ha (by omega),h1,Nat.mul_one]
    refine .inr ⟨L.block,k,L.cap - k,by rw [List.length_drop,h2,hlen],(Array.getElem?_eq_some_iff.1 h3).1,fun j hj=>?_⟩
    rw [List.length_drop] at hj
    have hi:=ints_at full (k + j) (by omega)
    obtain ⟨u,hu,hv⟩:=h8 (k + j) _ 0 _ hi rfl
    cases hv
    rw [Nat.mul_one,Nat.add_zero] at hu
    simp [World.cell?,h3,hu,List.getElem?_drop]
   ·refine .inl ⟨_,_,by rw [show L.len - k = 0 by omega],List.drop_eq_nil_iff.2 (by omega)⟩
theorem sorted_ok (o:Nat) (X:PV) (l:List Int) (σ:Store) (ho:σ[o]? = some (.rows 40 1 [[X]] 0)) (hX:SliceOf σ X l) (hl:l.length < 2 ^ 40) :
  PCall Try.prog 70 [.func (.func 106) [] [.ptr o 0 0 0]] σ (fun p σ'=>p = .sl (ints (l.mergeSort fun x y=>decide (x ≤ y))) ∧ σ' = σ):=by
 refine PCall.ofOwn 3 _ (by kernel_rfl) (fun I ρ w vs hinv ha=>?_)
 have h0:=ha.2 0 _ rfl
 have hsz:vs.size = 1:=ha.1
 have hvs:vs = #[vs.getD 0 Go.undef]:=by
  apply Array.ext
  ·simp [hsz]
  ·intro i hi1 hi2
   have:i = 0:=by simp at hi2; exact hi2
   subst this
   simp [Array.getD,hsz]
 generalize vs.getD 0 Go.undef = v at h0 hvs
 cases h0 with
 | func _ _ _ fs cs hfs hcs hf hc =>
  have hfs':fs = #[]:=Array.eq_empty_of_size_eq_zero hfs
  have h1:=hc 0 _ rfl
  have hcs':cs = #[cs.getD 0 Go.undef]:=by
   apply Array.ext
   ·simpa using hcs
   ·intro i hi1 hi2
    have:i = 0:=by simp at hi2; exact hi2
    subst this
    simp [Array.getD,show cs.size = 1 from hcs]
  generalize cs.getD 0 Go.undef = u at h1 hcs'
  subst hfs'
  cases h1 with
  | ptr _ _ _ _ L hL =>
   obtain ⟨L',cs2,hL',e1,e2,e3,e4,e5,e6,e7,e8,e9,e10⟩:=hinv.objs o _ ho
   cases hL.symm.trans hL'
   obtain ⟨u,hu,hv⟩:=e8 0 _ 0 _ rfl rfl
   have hcell:w.cell? ⟨L.block,0,none⟩ = some u:=by simp [World.cell?,e3] at hu ⊢; exact hu
   have hH:=hX.holds hinv hv
   rw [hvs,hcs',Nat.zero_mul,Nat.zero_add]
   have hlm:(l.mergeSort fun x y=>decide (x ≤ y)).length = l.length:=List.length_mergeSort l
   rw [hlm]
   exact sorted_calls L.block u l (by unfold maxLen; omega) (by omega) w (Array.getElem?_eq_some_iff.1 e3).1 hcell hH
end Go.Proofs.Ythginmfobikdgaa
