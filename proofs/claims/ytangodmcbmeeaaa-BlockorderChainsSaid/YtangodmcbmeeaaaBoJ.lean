import Derived.Test.YtangodmcbmeeaaaBoI
import Derived.Test.YtangodmcbmeeaaaBoD
set_option maxRecDepth 8000
set_option linter.unusedSimpArgs false
set_option linter.unusedVariables false
namespace Go.Proofs.Ytangodmcbmeeaaa
open Go.PV
theorem lift_list {α:Type} {p:α → Prop}:∀ (L:List α),(∀ l ∈ L,p l) → ∃ R:List {l // p l},R.map (·.1) = L
 | [],_=>⟨[],rfl⟩
 | l :: L,h=>by
  obtain ⟨R,hR⟩:=lift_list L (fun x hx=>h x (by simp [hx]))
  exact ⟨⟨l,h l (by simp)⟩ :: R,by rw [List.map_cons,hR]⟩
def ChR (T:List TermI) (E:List (Int × Int)) (o:List Int):Prop :=
 (0 :: o).Perm (natB T.length) ∧ ∀ m,0 < m → (∀ w ∈ waysF T E T.length,w.to ≠ 0 → w.to ≠ w.fr → w.cnt ≤ m) → (∃ w ∈ waysF T E T.length,w.to ≠ 0 ∧ w.to ≠ w.fr ∧ w.cnt = m) → m ≤ wsum (waysF T E T.length) (0 :: o)
theorem chains_ex (nm:PV) (hnm:PV.cell nm = true) (hB:Bel 0 nm) {T:List TermI} {B:List Int} {E:List (Int × Int)} (h:GoodB T B E) (hk:∀ t ∈ T,t.kind = 2 ∨ t.kind = 3) (hne:waysF T E T.length ≠ []) (hn2:2 ≤ T.length) :
  ∃ o,ChR T E o ∧ ∀ σ,PCall Try.prog 33 [fnV nm T,cnV B E] σ (fun p τ=>p = .sl (ints (0 :: o)) ∧ τ = σ):=by
 have hn:=h.n
 have hst:=stb_all way_weak (waysF T E T.length)
 have hw:∀ w ∈ stb wayLt (waysF T E T.length),w.fr < T.length ∧ w.to < T.length:=fun w hw=>by
  have:=h.way (hst.p.mem_iff.1 hw)
  exact ⟨this.1,this.2.1⟩
 have hC:CI T.length (chF T E):=CI.run _ (CI.init h.n0) hw
 obtain ⟨t,ht⟩:=hC.hd
 obtain ⟨nB,hnB⟩:∃ nB,T.length = nB + 1:=⟨T.length - 1,by omega⟩
 obtain ⟨RE,hRE⟩:∃ RE:List (ChE nB),RE.map (·.1) = restC (chF T E):=lift_list _ (fun l hl=>by
  have h1:=List.mem_filter.1 hl
  obtain ⟨g,hg,rfl⟩:=List.mem_map.1 h1.1
  have hg2:=List.mem_of_mem_drop hg
  obtain ⟨i,hi,rfl⟩:=List.mem_iff_getElem.1 hg2
  rw [hC.gl] at hi
  have e:(chF T E).gs[i].1 = chain (chF T E) i:=by rw [chain,getDB (by rw [hC.gl]; exact hi)]
  rw [e] at h1 ⊢
  refine ⟨of_decide_eq_true h1.2,by have:=hC.chainLen hi; omega,fun b hb=>?_⟩
  obtain ⟨c,rfl,hc,_⟩:=hC.own i hi b hb
  omega)
 have hch:=chains_walk nm hnm h hk hne hn2 nB hnB RE hRE
 have hso:=stb_all (ch_weak B) RE
 have hpm:((stb (chLt B) RE).map (·.1)).Perm (restC (chF T E)):=by rw [← hRE]; exact hso.p.map _
 rw [ht,List.cons_append] at hch
 refine ⟨t ++ ((stb (chLt B) RE).map (·.1)).flatten,⟨?_,fun m hm hmax hex=>?_⟩,fun σ=>PCall.lift hch (args2_bel hB T B E) (fun p h=>⟨by rw [h]; exact bel_intsB _ _,h,rfl⟩)⟩
 ·have:=hC.out h.n0 hpm
  rwa [ht,List.cons_append] at this
 ·obtain ⟨w,hwm,hwc,hA⟩:=first_join hst.s hw hm (fun w hw=>hmax w (hst.p.mem_iff.1 hw)) (by
   obtain ⟨w,h1,h2⟩:=hex
   exact ⟨w,hst.p.mem_iff.2 h1,h2⟩)
  have h1:=hC.adj hpm hA
  have h2:=hC.out h.n0 hpm
  rw [ht,List.cons_append] at h1 h2
  rw [← hwc]
  exact wsum_ge (fun w hw=>(h.way hw).2.2.1) (hst.p.mem_iff.1 hwm) (h2.nodup_iff.2 (natB_nodup _)) h1
theorem tup_bel {l:List Int}:Bel 0 (.tup [.sl (ints l),.int .i64 0]):=bel_tup (fun p hp=>by
 simp only [List.mem_cons,List.not_mem_nil,or_false] at hp
 rcases hp with rfl | rfl
 ·exact bel_intsB _ _
 ·exact bel_int _ _ _)
theorem chainsF_on (nm:PV) (hnm:PV.cell nm = true) (hB:Bel 0 nm) {T:List TermI} {B:List Int} {E:List (Int × Int)} (h:GoodB T B E) (o:List Int) (hc:∀ σ,PCall Try.prog 33 [fnV nm T,cnV B E] σ (fun p τ=>p = .sl (ints o) ∧ τ = σ)) (σ:Store) :
  PCall Try.prog 13 [fnV nm T,cnV B E] σ (fun p τ=>p = .tup [.sl (ints o),.int .i64 0] ∧ τ = σ):=by
 have hf:=fits_on nm hnm hB h
 have k0:∀ args σ,noE.f 32 args σ = none:=fun _ _=>rfl
 have k1:∀ args σ,noE.f 33 args σ = none:=fun _ _=>rfl
 refine PCall.lift (Φ:=fun p=>p = .tup [.sl (ints o),.int .i64 0]) ?_ (args2_bel hB T B E) (fun p h=>⟨by rw [h]; exact tup_bel,h,rfl⟩)
 unfold fnV cnV at hf hc ⊢
 refine PCall.vfrz [] 575 13 [.tmp 4,.tmp 5] (noE_ok _) mix Try.func13 rfl (by decide) rfl rfl (by simp) ?_
 simp -dsimp only [initFr,List.zipIdx_cons,List.zipIdx_nil,List.map_cons,List.map_nil,Nat.zero_add,Nat.reduceAdd]
 simp -dsimp (maxSteps:=4000000) +contextual (disch:=first | omega | decide +kernel) only [↓vsD,vsE,↓Nat.reduceLT,simprocAttr,vcel,hnm,k0]
 refine PCall.mono (hf _) ?_
 rintro p τ ⟨rfl,rfl⟩
 simp -dsimp (maxSteps:=4000000) +contextual (disch:=first | omega | decide +kernel) only [↓vsD,vsE,↓Nat.reduceLT,simprocAttr,vcel,hnm,k1]
 refine PCall.mono (hc _) ?_
 rintro p τ ⟨rfl,rfl⟩
 simp -dsimp (maxSteps:=4000000) +contextual (disch:=first | omega | decide +kernel) only [↓vsD,vsE,↓Nat.reduceLT,simprocAttr]
 exact fin0 (.keep _ tup_bel) rfl
theorem orderC_on (nm:PV) (hnm:PV.cell nm = true) (hB:Bel 0 nm) {T:List TermI} {B:List Int} {E:List (Int × Int)} (h:GoodB T B E) (hn:9 < T.length) (o:List Int) (hc:∀ σ,PCall Try.prog 33 [fnV nm T,cnV B E] σ (fun p τ=>p = .sl (ints o) ∧ τ = σ)) (σ:Store) :
  PCall Try.prog 12 [fnV nm T,cnV B E] σ (fun p τ=>p = .tup [.sl (ints o),.int .i64 0] ∧ τ = σ):=by
 have hf:=fits_on nm hnm hB h
 have hn40:=h.n
 have k0:∀ args σ,noE.f 32 args σ = none:=fun _ _=>rfl
 have k1:∀ args σ,noE.f 33 args σ = none:=fun _ _=>rfl
 refine PCall.lift (Φ:=fun p=>p = .tup [.sl (ints o),.int .i64 0]) ?_ (args2_bel hB T B E) (fun p h=>⟨by rw [h]; exact tup_bel,h,rfl⟩)
 unfold fnV cnV at hf hc ⊢
 refine PCall.vfrz [] 2175 22 [.tmp 4,.tmp 5] (noE_ok _) mix Try.func12 rfl (by decide) rfl rfl (by simp) ?_
 simp -dsimp only [initFr,List.zipIdx_cons,List.zipIdx_nil,List.map_cons,List.map_nil,Nat.zero_add,Nat.reduceAdd]
 simp -dsimp (maxSteps:=4000000) +contextual (disch:=first | omega | decide +kernel) only [↓vsD,vsE,↓Nat.reduceLT,simprocAttr,vcel,hnm,k0]
 refine PCall.mono (hf _) ?_
 rintro p τ ⟨rfl,rfl⟩
 simp -dsimp (maxSteps:=4000000) +contextual (disch:=first | omega | decide +kernel) only [↓vsD,vsE,↓Nat.reduceLT,simprocAttr,vcel,hnm,k1,encT_length]
 refine PCall.mono (hc _) ?_
 rintro p τ ⟨rfl,rfl⟩
 simp -dsimp (maxSteps:=4000000) +contextual (disch:=first | omega | decide +kernel) only [↓vsD,vsE,↓Nat.reduceLT,simprocAttr]
 exact fin0 (.keep _ tup_bel) rfl
theorem orderE_on (nm:PV) (hnm:PV.cell nm = true) (hB:Bel 0 nm) {T:List TermI} {B:List Int} {E:List (Int × Int)} (h:GoodB T B E) (hn:T.length ≤ 9) (o:List Int) (hc:∀ σ,PCall Try.prog 34 [fnV nm T,cnV B E] σ (fun p τ=>p = .sl (ints o) ∧ τ = σ)) (σ:Store) :
  PCall Try.prog 12 [fnV nm T,cnV B E] σ (fun p τ=>p = .tup [.sl (ints o),.int .i64 0] ∧ τ = σ):=by
 have hf:=fits_on nm hnm hB h
 have k0:∀ args σ,noE.f 32 args σ = none:=fun _ _=>rfl
 have k1:∀ args σ,noE.f 34 args σ = none:=fun _ _=>rfl
 refine PCall.lift (Φ:=fun p=>p = .tup [.sl (ints o),.int .i64 0]) ?_ (args2_bel hB T B E) (fun p h=>⟨by rw [h]; exact tup_bel,h,rfl⟩)
 unfold fnV cnV at hf hc ⊢
 refine PCall.vfrz [] 2175 22 [.tmp 4,.tmp 5] (noE_ok _) mix Try.func12 rfl (by decide) rfl rfl (by simp) ?_
 simp -dsimp only [initFr,List.zipIdx_cons,List.zipIdx_nil,List.map_cons,List.map_nil,Nat.zero_add,Nat.reduceAdd]
 simp -dsimp (maxSteps:=4000000) +contextual (disch:=first | omega | decide +kernel) only [↓vsD,vsE,↓Nat.reduceLT,simprocAttr,vcel,hnm,k0]
 refine PCall.mono (hf _) ?_
 rintro p τ ⟨rfl,rfl⟩
 simp -dsimp (maxSteps:=4000000) +contextual (disch:=first | omega | decide +kernel) only [↓vsD,vsE,↓Nat.reduceLT,simprocAttr,vcel,hnm,k1,encT_length]
 refine PCall.mono (hc _) ?_
 rintro p τ ⟨rfl,rfl⟩
 simp -dsimp (maxSteps:=4000000) +contextual (disch:=first | omega | decide +kernel) only [↓vsD,vsE,↓Nat.reduceLT,simprocAttr]
 exact fin0 (.keep _ tup_bel) rfl
theorem exactE_on (nm:PV) (hnm:PV.cell nm = true) (hB:Bel 0 nm) {T:List TermI} {B:List Int} {E:List (Int × Int)} (h:GoodB T B E) (hn:T.length ≤ 9) (o:List Int) (hc:∀ σ,PCall Try.prog 34 [fnV nm T,cnV B E] σ (fun p τ=>p = .sl (ints o) ∧ τ = σ)) (σ:Store) :
  PCall Try.prog 14 [fnV nm T,cnV B E] σ (fun p τ=>p = .tup [.sl (ints o),.int .i64 0] ∧ τ = σ):=by
 have hf:=fits_on nm hnm hB h
 have k0:∀ args σ,noE.f 32 args σ = none:=fun _ _=>rfl
 have k1:∀ args σ,noE.f 34 args σ = none:=fun _ _=>rfl
 refine PCall.lift (Φ:=fun p=>p = .tup [.sl (ints o),.int .i64 0]) ?_ (args2_bel hB T B E) (fun p h=>⟨by rw [h]; exact tup_bel,h,rfl⟩)
 unfold fnV cnV at hf hc ⊢
 refine PCall.vfrz [] 2175 19 [.tmp 4,.tmp 5] (noE_ok _) mix Try.func14 rfl (by decide) rfl rfl (by simp) ?_
 simp -dsimp only [initFr,List.zipIdx_cons,List.zipIdx_nil,List.map_cons,List.map_nil,Nat.zero_add,Nat.reduceAdd]
 simp -dsimp (maxSteps:=4000000) +contextual (disch:=first | omega | decide +kernel) only [↓vsD,vsE,↓Nat.reduceLT,simprocAttr,vcel,hnm,k0]
 refine PCall.mono (hf _) ?_
 rintro p τ ⟨rfl,rfl⟩
 simp -dsimp (maxSteps:=4000000) +contextual (disch:=first | omega | decide +kernel) only [↓vsD,vsE,↓Nat.reduceLT,simprocAttr,vcel,hnm,k1,encT_length]
 refine PCall.mono (hc _) ?_
 rintro p τ ⟨rfl,rfl⟩
 simp -dsimp (maxSteps:=4000000) +contextual (disch:=first | omega | decide +kernel) only [↓vsD,vsE,↓Nat.reduceLT,simprocAttr]
 exact fin0 (.keep _ tup_bel) rfl
theorem exactL_on (nm:PV) (hnm:PV.cell nm = true) (hB:Bel 0 nm) {T:List TermI} {B:List Int} {E:List (Int × Int)} (h:GoodB T B E) (hn:9 < T.length) (σ:Store) :
  PCall Try.prog 14 [fnV nm T,cnV B E] σ (fun p τ=>p = .tup [.nils,.int .i64 5] ∧ τ = σ):=by
 have hf:=fits_on nm hnm hB h
 have hn40:=h.n
 have hb:Bel 0 (.tup [.nils,.int .i64 5]):=bel_tup (fun p hp=>by
  simp only [List.mem_cons,List.not_mem_nil,or_false] at hp
  rcases hp with rfl | rfl
  ·exact bel_nils _
  ·exact bel_int _ _ _)
 have k0:∀ args σ,noE.f 32 args σ = none:=fun _ _=>rfl
 refine PCall.lift (Φ:=fun p=>p = .tup [.nils,.int .i64 5]) ?_ (args2_bel hB T B E) (fun p h=>⟨by rw [h]; exact hb,h,rfl⟩)
 unfold fnV cnV at hf ⊢
 refine PCall.vfrz [] 2175 19 [.tmp 4,.tmp 5] (noE_ok _) mix Try.func14 rfl (by decide) rfl rfl (by simp) ?_
 simp -dsimp only [initFr,List.zipIdx_cons,List.zipIdx_nil,List.map_cons,List.map_nil,Nat.zero_add,Nat.reduceAdd]
 simp -dsimp (maxSteps:=4000000) +contextual (disch:=first | omega | decide +kernel) only [↓vsD,vsE,↓Nat.reduceLT,simprocAttr,vcel,hnm,k0]
 refine PCall.mono (hf _) ?_
 rintro p τ ⟨rfl,rfl⟩
 simp -dsimp (maxSteps:=4000000) +contextual (disch:=first | omega | decide +kernel) only [↓vsD,vsE,↓Nat.reduceLT,simprocAttr,vcel,hnm,encT_length]
 exact fin0 (.keep _ hb) rfl
theorem exact_on (nm:PV) (hnm:PV.cell nm = true) (hB:Bel 0 nm) {T:List TermI} {B:List Int} {E:List (Int × Int)} (h:GoodB T B E) (hk:∀ t ∈ T,t.kind = 2 ∨ t.kind = 3) (hne:waysF T E T.length ≠ []) (hn9:T.length ≤ 9) (σ:Store) :
  PCall Try.prog 34 [fnV nm T,cnV B E] σ (fun p τ=>p = .sl (ints (castL (exactO (wt (waysF T E T.length)) T.length))) ∧ τ = σ) :=
 PCall.lift (exact_w nm hnm h hk hne hn9) (args2_bel hB T B E) (fun p h=>⟨by rw [h]; exact bel_intsB _ _,h,rfl⟩)
end Go.Proofs.Ytangodmcbmeeaaa
