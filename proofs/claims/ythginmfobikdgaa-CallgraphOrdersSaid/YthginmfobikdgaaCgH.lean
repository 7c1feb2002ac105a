import Derived.Test.YthginmfobikdgaaCgC
import Derived.Test.YthginmfobikdgaaDrA
set_option maxRecDepth 8000
set_option linter.unusedSimpArgs false
set_option linter.unusedVariables false
namespace Go.Proofs.Ythginmfobikdgaa
open Go.PV
theorem fin_setC {σ X:Store} {o:Nat} {B B2:Go.PV.Obj} {K:PV → Store → Prop} {p p2:PV} (hf:Frz σ.length (σ.set o B2 ++ X) p p2) (hB:ObjBel σ.length B2) (hk:K p2 (σ.set o B2)):Go.PV.Fin (σ.set o B) K p (σ.set o B2 ++ X) :=
 ⟨p2,by rw [List.length_set]; exact hf,fun i hi=>by
  rw [List.length_set] at hi
  by_cases h:i = o
  ·subst h
   exact ⟨B2,by rw [List.getElem?_append_left (by rw [List.length_set]; exact hi),List.getElem?_set_self hi],.inr (by rw [List.length_set]; exact hB)⟩
  ·refine ⟨σ[i],by rw [List.getElem?_append_left (by rw [List.length_set]; exact hi),List.getElem?_set_ne (fun e=>h e.symm),List.getElem?_eq_getElem hi],.inl ?_⟩
   rw [List.getElem?_set_ne (fun e=>h e.symm),List.getElem?_eq_getElem hi],by
  rw [List.length_set,List.take_append_of_le_length (by rw [List.length_set]; exact Nat.le_refl _),List.take_of_length_le (by rw [List.length_set]; exact Nat.le_refl _)]
  exact hk⟩
theorem mvl_keepC {os:List Nat}:∀ {l:List PV},(∀ p ∈ l,Bel 0 p) → MvL os l l
 | [],_=>MvL.nil _
 | a :: l,h=>MvL.cons (.keep _ (h a (by simp))) (mvl_keepC (fun p hp=>h p (by simp [hp])))
theorem codes_onC {F:FuncId} {σ:Store} {K:PV → Store → Prop} (o:Nat) (l:List Int) (k:Nat) (ar:List PV) {Φ:PV → Prop} (h:PCall Try.prog F (.ptr 0 0 0 0 :: ar) [codes l k] (fun p τ=>Φ p ∧ ∃ k',k' ≤ l.length ∧ τ = [codes l k'])) (has:∀ p ∈ ar,Bel 0 p) (hv:∀ p,Φ p → Bel 0 p) (ho:σ[o]? = some (codes l k))
  (hK:∀ p k',Φ p → k' ≤ l.length → K p (σ.set o (codes l k'))):PCall Try.prog F (.ptr o 0 0 0 :: ar) σ K:=by
 refine PCall.use_on [o] h (by simp) rfl (fun j o' hj=>?_) (fun X hX=>?_) (MvL.cons (.ptr 0 o 0 0 0 rfl) (mvl_keepC has)) ?_
 ·match j with
  | 0=>simp at hj; rw [← hj]; exact ho
  | j + 1=>simp at hj
 ·rw [List.mem_singleton] at hX
  rw [hX]; exact codes_bel _ _ _
 ·rintro p σ2 ⟨hp,k',hk',rfl⟩
  refine ⟨hv _ hp,rfl,fun X hX=>?_,hK _ _ hp hk'⟩
  rw [List.mem_singleton] at hX
  rw [hX]; exact codes_bel _ _ _
theorem upG_len {G:Nat → List Int} {j q:Nat} (h:∀ f,(G f).length + (j + 1) ≤ q) (f:Nat) (g:Int):∀ f2,(upG G f (G f ++ [g]) f2).length + j ≤ q:=fun f2=>by
 have h2:=h f2
 have h1:=h f
 unfold upG
 split
 ·rw [List.length_append,List.length_singleton]; omega
 ·omega
set_option maxHeartbeats 8000000 in
theorem calls_w (l:List Int) (hl:okInts .u8 l) (hl2:l.length < 2 ^ 40) (k0:Nat) (hk0:k0 ≤ l.length):PCall Try.prog 18 [.ptr 0 0 0 0] [codes l k0]
  (fun q τ=>(∃ C:List (List Int),q = .sl (intss C) ∧ 1 ≤ C.length ∧ C.length ≤ 7 ∧ ∀ c ∈ C,c.length ≤ 1000) ∧ ∃ k,k ≤ l.length ∧ τ = [codes l k]):=by
 have a1:=nxt_lt hl k0 7 (by omega)
 have b1:=nxt_le hk0 7
 have a2:=nxt_lt hl (nxt l k0 7).2 14 (by omega)
 have b2:=nxt_le b1 14
 obtain ⟨n,hn⟩:∃ n:Nat,(n:Int) = 1 + (nxt l k0 7).1:=⟨(1 + (nxt l k0 7).1).toNat,by omega⟩
 obtain ⟨q,hq⟩:∃ q:Nat,(q:Int) = (nxt l (nxt l k0 7).2 14).1:=⟨((nxt l (nxt l k0 7).2 14).1).toNat,by omega⟩
 refine PCall.vfrz [] 8255 38 [.tmp 2] nx_ok mix Try.func18 rfl (by decide) rfl rfl (by simp) ?_
 simp -dsimp only [initFr,List.zipIdx_cons,List.zipIdx_nil,List.map_cons,List.map_nil,Nat.zero_add,Nat.reduceAdd]
 simp -dsimp (maxSteps:=4000000) +contextual (disch:=first | omega | decide +kernel) only [↓vsD,vsE,↓Nat.reduceLT,simprocAttr,nx_next,exNextO_codes,← hn,← hq,hl,bytesC,lenC]
 refine v_loopS (fun s:Nat × Nat × List (List PV) × Store × (Nat → List Int)=>[(0,.ptr 0 0 0 0),(3,.msl 1 0),(4,.int .i64 (s.1:Int))])
  (fun s=>codes l s.2.1 :: .rows 40 1 s.2.2.1 0 :: s.2.2.2.1) (fun s=>s.1 ≤ q ∧ s.2.1 ≤ l.length ∧ GX s.2.2.2.1 s.2.2.1 s.2.2.2.2 n ∧ ∀ f,(s.2.2.2.2 f).length + s.1 ≤ q) (fun s=>s.1) (q,_,List.replicate n [.nils],[],fun _=>[]) (by simp [weaker,Go.PV.look]) rfl ⟨Nat.le_refl _,b2,GX.start _ _,fun f=>by simp⟩ ?_
 rintro ⟨j,k,R,Z,G⟩ ⟨hj,hk,hG,hlen⟩
 dsimp only at hj hk hG hlen ⊢
 have hRl:=hG.len
 have hn1:1 ≤ n ∧ n ≤ 7:=by omega
 cases j with
 | zero =>
  simp -dsimp (maxSteps:=4000000) +contextual (disch:=first | omega | decide +kernel) only [↓vsD,vsE,↓Nat.reduceLT,simprocAttr,nx_next,exNextO_codes,hl,hRl,vcel]
  have hf:=hG.fz
  refine fin_setC (σ:=[codes l k0]) (o:=0) (B2:=codes l k) (p2:=.sl (intss (tabG G n))) ?_ ?_ ?_
  ·exact (Fz.of_rows (A:=fun u=>1 ≤ u) (elem:=40) (sz:=1) (rows:=R) (by omega) rfl (hf.to (fun u h=>by omega) (zz_keep _ _ Z (fun u h=>h)))).frz _ (fun _ h=>h)
  ·exact codes_bel _ _ _
  ·refine ⟨⟨_,rfl,by rw [tabG_length]; omega,by rw [tabG_length]; omega,fun c hc=>?_⟩,k,hk,rfl⟩
   obtain ⟨f,_,rfl⟩:=List.mem_map.1 hc
   have:=hlen f
   omega
 | succ j =>
  have d1:=nxt_lt hl k n (by omega)
  have e1:=nxt_le hk n
  have d2:=nxt_lt hl (nxt l k n).2 ((n:Int) + 1) (by omega)
  have e2:=nxt_le e1 ((n:Int) + 1)
  have d3:=nxt_lt hl (nxt l (nxt l k n).2 ((n:Int) + 1)).2 2 (by omega)
  have e3:=nxt_le e2 2
  obtain ⟨f,hf⟩:∃ f:Nat,(f:Int) = (nxt l k n).1:=⟨((nxt l k n).1).toNat,by omega⟩
  obtain ⟨g,hg⟩:∃ g:Int,g = (nxt l (nxt l k n).2 ((n:Int) + 1)).1 - (nxt l (nxt l (nxt l k n).2 ((n:Int) + 1)).2 2).1:=⟨_,rfl⟩
  have hn2:=newsI1 g
  have hlf:=hlen f
  rcases hG.row f (by omega) with ⟨q1,q2⟩ | ⟨o,v,q1,q2⟩
  ·simp -dsimp (maxSteps:=4000000) +contextual (disch:=first | omega | decide +kernel) only [↓vsD,vsE,↓Nat.reduceLT,simprocAttr,nx_next,exNextO_codes,hl,hRl,← hf,vcel]
   refine v_draws _ _ _ _ _ _ [10,12,15,17] [] [(0,3),(0,3),(0,2),(0,2),(0,2),(0,2),(0,0),(0,0),(0,0),(0,0),(0,0),(0,1),(0,0),(2,2),(2,2),(0,0),(3,3),(0,0)] (by decide +kernel) (by decide +kernel) (by decide +kernel) (by decide +kernel) ?_
   simp -dsimp (maxSteps:=4000000) +contextual (disch:=first | omega | decide +kernel) only [↓vsD,vsE,↓Nat.reduceLT,simprocAttr,nx_next,exNextO_codes,vdA,↓vd_end,↓vdm_go,↓vd_op,↓guard_none,↓guard_some,hl,e2,← hg,hRl,q1,vcel,vgap,hn2,List.length_append,List.length_singleton,List.append_assoc]
   refine ⟨(j,_,R.set f [.msl (Z.length + 2) 0],Z ++ [.rows 3 1 [[.int .i64 g]] 0],upG G f (G f ++ [g])),(by (try dsimp only); omega),(by simp [weaker,Go.PV.look]),rfl,by omega,e3,hG.new (by omega) q1 g,upG_len hlen f g⟩
  ·simp -dsimp (maxSteps:=4000000) +contextual (disch:=first | omega | decide +kernel) only [↓vsD,vsE,↓Nat.reduceLT,simprocAttr,nx_next,exNextO_codes,hl,hRl,← hf,vcel]
   have hol:=(List.getElem?_eq_some_iff.1 q2).1
   have g1:∀ Y,(Z ++ Y)[o]? = some (.rows 3 1 (ints (G f)) v):=fun Y=>by rw [List.getElem?_append_left hol,q2]
   have g2:∀ Y y,(Z ++ Y).set o y = Z.set o y ++ Y:=fun Y y=>by rw [List.set_append_left _ _ hol]
   have el:(ints (G f)).length = (G f).length:=enc_length _ _
   refine v_draws _ _ _ _ _ _ [10,12,15,17] [] [(0,3),(0,3),(0,2),(0,2),(0,2),(0,2),(0,0),(0,0),(0,0),(0,0),(0,0),(0,1),(0,0),(2,2),(2,2),(0,0),(3,3),(0,0)] (by decide +kernel) (by decide +kernel) (by decide +kernel) (by decide +kernel) ?_
   simp -dsimp (maxSteps:=4000000) +contextual (disch:=first | omega | decide +kernel) only [↓vsD,vsE,↓Nat.reduceLT,simprocAttr,nx_next,exNextO_codes,vdA,↓vd_end,↓vdm_go,↓vd_op,↓guard_none,↓guard_some,hl,e2,← hg,hRl,q1,q2,vcel,vgap,hn2,g1,g2,el,bytesC,lenC,List.length_append,List.length_singleton,List.append_assoc]
   refine ⟨(j,_,R.set f [.msl (o + 2) (v + 1)],Z.set o _,upG G f (G f ++ [g])),(by (try dsimp only); omega),(by simp [weaker,Go.PV.look]),rfl,by omega,e3,hG.ext (by omega) q1 q2 g,upG_len hlen f g⟩
theorem calls_on (l:List Int) (hl:okInts .u8 l) (hl2:l.length < 2 ^ 40) (k0:Nat) (hk0:k0 ≤ l.length) (o:Nat) (σ:Store) (ho:σ[o]? = some (codes l k0)):PCall Try.prog 18 [.ptr o 0 0 0] σ
  (fun q τ=>∃ C:List (List Int),q = .sl (intss C) ∧ 1 ≤ C.length ∧ C.length ≤ 7 ∧ (∀ c ∈ C,c.length ≤ 1000) ∧ ∃ k,k ≤ l.length ∧ τ = σ.set o (codes l k)) :=
 codes_onC o l k0 [] (calls_w l hl hl2 k0 hk0) (fun p hp=>by simp at hp) (fun p ⟨C,h,_⟩=>by rw [h]; exact bel_intss _ _) ho
  (fun p k ⟨C,h1,h2,h3,h4⟩ hk=>⟨C,h1,h2,h3,h4,k,hk,rfl⟩)
end Go.Proofs.Ythginmfobikdgaa
