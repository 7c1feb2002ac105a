import Derived.Test.YthjoehaglonjaaaSuA
set_option maxRecDepth 8000
set_option linter.unusedSimpArgs false
set_option linter.unusedVariables false
namespace Go.Proofs.Ythjoehaglonjaaa
open Go.PV
theorem SmC.fit {x:FC} (h:SmC x):FitC x:=⟨by have:=h.1; omega,by have:=h.2.1; omega,by have:=h.2.2.1; omega,fun s hs=>by have:=h.2.2.2 s hs; omega⟩
theorem unionOk12:UnionOk 12:=fun a b h σ=>union_on a b h σ
theorem ins_ex (x:Idn):∀ r:List Idn,r.Pairwise idlt → ∃ r2:List Idn,r2.Pairwise idlt ∧ ∀ y,y ∈ r2 ↔ y = x ∨ y ∈ r
 | [],_=>⟨[x],List.pairwise_singleton _ _,fun y=>by simp⟩
 | a :: r,h=>by
  have h2:=List.pairwise_cons.1 h
  rcases idlt_tri x a with h3 | rfl | h3
  ·exact ⟨x :: a :: r,List.pairwise_cons.2 ⟨fun y hy=>by
    rcases List.mem_cons.1 hy with rfl | hy
    ·exact h3
    ·exact idlt_trans h3 (h2.1 y hy),h⟩,fun y=>by simp⟩
  ·exact ⟨x :: r,h,fun y=>by simp⟩
  ·obtain ⟨r2,h4,h5⟩:=ins_ex x r h2.2
   refine ⟨a :: r2,List.pairwise_cons.2 ⟨fun y hy=>?_,h4⟩,fun y=>?_⟩
   ·rcases (h5 y).1 hy with rfl | hy
    ·exact h3
    ·exact h2.1 y hy
   ·rw [List.mem_cons,List.mem_cons,h5]
    exact ⟨fun h=>h.elim (fun h=>.inr (.inl h)) (fun h=>h.elim .inl (fun h=>.inr (.inr h))),fun h=>h.elim (fun h=>.inr (.inl h)) (fun h=>h.elim .inl (fun h=>.inr (.inr h)))⟩
theorem sort_ex:∀ l:List Idn,∃ r:List Idn,r.Pairwise idlt ∧ ∀ y,y ∈ r ↔ y ∈ l
 | []=>⟨[],.nil,fun y=>by simp⟩
 | x :: l=>by
  obtain ⟨r,h1,h2⟩:=sort_ex l
  obtain ⟨r2,h3,h4⟩:=ins_ex x r h1
  exact ⟨r2,h3,fun y=>by rw [h4,h2,List.mem_cons]⟩
theorem sf_ex {a b:StS} (ha:OkS a) (hb:OkS b):∃ m,Sf m [a,b]:=by
 obtain ⟨r,h1,h2⟩:=sort_ex (idl a ++ idl b)
 exact ⟨_,out_sf ha hb h1 h2⟩
def pc1 (n c:Int):Pc:=⟨(0,0,n),0,[⟨c,[c],[(0,0)],[]⟩]⟩
theorem numd0:numd 0:=by unfold numd; omega
theorem cntd0:cntd 0:=by unfold cntd; omega
theorem pc1_ok {n c:Int} (hn:numd n) (hc:cntd c):OkPc (pc1 n c):=⟨⟨numd0,numd0,hn⟩,by simp [pc1],fun i hi=>by
 have:i = 0:=by simp [pc1] at hi; exact hi
 subst this
 refine ⟨by simp [pc1],by simp [pc1],hc,fun b hb=>?_,fun j hj=>by simp [pc1] at hj⟩
 have:b = 0:=by simp [pc1] at hb; exact hb
 subst this
 exact ⟨hc,cntd0,cntd0⟩⟩
theorem pc1_sm (n c:Int):∀ x ∈ (pc1 n c).fs,SmC x:=fun x hx=>by
 simp [pc1] at hx
 subst hx
 exact ⟨by simp,by simp,by simp,fun s hs=>by simp at hs⟩
theorem pc1_fit (n c:Int):FitP (pc1 n c):=⟨by simp [pc1],fun x hx=>(pc1_sm n c x hx).fit⟩
theorem piece1_w (n c:Int):PCall Try.prog 26 [.int .i64 n,.int .i64 c] [] (fun q _=>q = .agg (pc1 n c).row):=by
 refine PCall.vfrz [] 31 15 [.cell 4 32] (noE_ok _) mix Try.func26 rfl (by decide) rfl rfl (by simp) ?_
 simp -dsimp only [initFr,List.zipIdx_cons,List.zipIdx_nil,List.map_cons,List.map_nil,Nat.zero_add,Nat.reduceAdd]
 simp -dsimp (maxSteps:=4000000) +contextual (disch:=first | omega | decide +kernel) only [↓vsD,vsE,↓Nat.reduceLT,simprocAttr,vcel]
 refine fin0 (frz_pc (a:=0) (b:=0) (c:=n) (d:=0) (fs:=(pc1 n c).fs) (.sl _ _ rfl (fun i row hi=>?_) (fun i row j p hi hj=>?_))) rfl
 ·match i,hi with
  | 0,hi=>simp at hi; subst hi; rfl
  | i + 1,hi=>simp at hi
 ·match i,hi with
  | 0,hi =>
   simp at hi; subst hi
   match j,hj with
   | 0,hj=>simp at hj; subst hj; exact .keep _ (bel_int _ _ _)
   | 1,hj=>simp at hj; subst hj; exact .keep _ (bel_ints 0 [c])
   | 2,hj=>simp at hj; subst hj; exact .keep _ (bel_pairs 0 [(0,0)])
   | 3,hj=>simp at hj; subst hj; exact .nils
   | j + 4,hj=>simp at hj
  | i + 1,hi=>simp at hi
theorem piece1_on (n c:Int) (σ:Store):PCall Try.prog 26 [.int .i64 n,.int .i64 c] σ (fun q τ=>q = .agg (pc1 n c).row ∧ τ = σ) :=
 PCall.lift (piece1_w n c) (bel2 (bel_int _ _ _) (bel_int _ _ _)) (fun q h=>⟨by rw [h]; exact bel_pc _ _,h,rfl⟩)
theorem Sf.skip {m:StS} {U:List StS} (h:Sf m (⟨[],[]⟩ :: U)):Sf m U:=by
 have hc:∀ x,Cf (⟨[],[]⟩ :: U) x ↔ Cf U x:=fun x=>by
  refine ⟨fun hx=>?_,fun hx=>hx.mono (fun s hs=>List.mem_cons_of_mem _ hs)⟩
  rcases hx with ⟨s,hs,h1⟩ | ⟨s,hs,t,ht,p,hp,q,hq,h1⟩
  ·rcases List.mem_cons.1 hs with rfl | hs
   ·simp at h1
   ·exact .inl ⟨s,hs,h1⟩
  ·rcases List.mem_cons.1 hs with rfl | hs
   ·simp at hp
   ·rcases List.mem_cons.1 ht with rfl | ht
    ·simp at hq
    ·exact .inr ⟨s,hs,t,ht,p,hp,q,hq,h1⟩
 refine ⟨h.ok,fun x=>by rw [h.c,hc],fun p=>?_⟩
 rw [h.p,hc]
 refine ⟨fun ⟨⟨s,hs,hp⟩,h2⟩=>⟨?_,h2⟩,fun ⟨⟨s,hs,hp⟩,h2⟩=>⟨⟨s,List.mem_cons_of_mem _ hs,hp⟩,h2⟩⟩
 rcases List.mem_cons.1 hs with rfl | hs
 ·simp at hp
 ·exact ⟨s,hs,hp⟩
theorem emp_ok:OkSt ⟨[],[]⟩:=⟨by simp,⟨.nil,.nil,fun p h=>by simp at h⟩,fun i h=>by simp at h⟩
theorem emp_fit:FitS ⟨[],[]⟩:=⟨by simp,by simp,fun p h=>by simp at h⟩
theorem one_first {p m:StS} (hp:OkS p) (h:Sf m [⟨[],[]⟩,p]):m = p:=h.skip.uniq (Sf.self hp)
theorem one_again {p m:StS} (hp:OkS p) (h:Sf m [p,p]):m = p:=(h.congr (V:=[p]) (fun s=>by simp)).uniq (Sf.self hp)
theorem one_odd {p q:Pc} (he:p.id = q.id) (hne:p ≠ q) {m:StS} (h:Sf m [oneS p,oneS q]):m = ⟨[],[p.id]⟩:=by
 have hc:∀ x,Cf [oneS p,oneS q] x ↔ x = p.id:=fun x=>by
  constructor
  ·rintro (⟨s,hs,h1⟩ | ⟨s,hs,t,ht,a,ha,b,hb,e1,e2,_⟩)
   ·simp only [List.mem_cons,List.not_mem_nil,or_false] at hs
    rcases hs with rfl | rfl <;> simp [oneS] at h1
   ·simp only [List.mem_cons,List.not_mem_nil,or_false] at hs
    rcases hs with rfl | rfl
    ·simp [oneS] at ha; rw [← e1,ha]
    ·simp [oneS] at ha; rw [← e1,ha,he]
  ·rintro rfl
   exact .inr ⟨oneS p,by simp,oneS q,by simp,p,by simp [oneS],q,by simp [oneS],rfl,he.symm,hne⟩
 refine h.uniq ⟨⟨.nil,List.pairwise_singleton _ _,fun a ha=>by simp at ha⟩,fun x=>by rw [hc]; simp,fun a=>?_⟩
 refine ⟨fun ha=>by simp at ha,fun ⟨⟨s,hs,ha⟩,hn⟩=>?_⟩
 rw [hc] at hn
 simp only [List.mem_cons,List.not_mem_nil,or_false] at hs
 rcases hs with rfl | rfl
 ·simp [oneS] at ha; rw [ha] at hn; exact absurd rfl hn
 ·simp [oneS] at ha; rw [ha] at hn; exact absurd he.symm hn
theorem aw_add (s m0:StS) (p:Pc) (hs:OkSt s) (hf:FitS s) (hx:∀ p ∈ s.ps,∀ x ∈ p.fs,SmC x) (hp:OkPc p) (hpf:FitP p) (hps:∀ x ∈ p.fs,SmC x) (hN:s.cs.length + 2 ≤ 12) (hm:∀ m,Sf m [s,oneS p] → m = m0) (hz:sizeS m0 ≤ 256) (σ:Store) :
  PCall Try.prog 17 [stV s,.agg p.row] σ (fun q τ=>q = .tup [stV m0,.int .i64 0] ∧ τ = σ):=by
 refine PCall.mono (add_on s p hf hpf hx hps 12 unionOk12 hN σ) ?_
 rintro q τ ⟨hq,rfl⟩
 rcases hq with ⟨hno,_⟩ | ⟨_,hno,_⟩ | ⟨_,_,m,hsf,rfl⟩
 ·exact absurd hs hno
 ·exact absurd hp hno
 ·rw [hm m hsf,leastS_small m0 hz]
  exact ⟨rfl,rfl⟩
theorem frzn_emp (zs:List Nat) (σ:Store):Frzn zs σ (.agg [.nils,.nils]) (stV ⟨[],[]⟩):=by
 refine .agg _ _ rfl (fun i c hc=>?_)
 match i,hc with
 | 0,hc=>simp at hc; subst hc; exact .nils
 | 1,hc=>simp at hc; subst hc; exact .nils
 | i + 2,hc=>simp at hc
theorem awake_w:PCall Try.prog 10 [] [] (fun q _=>q = .bool true):=by
 have n0:∀ args σ,noE.f 26 args σ = none:=fun _ _=>rfl
 have n1:∀ args σ,noE.f 17 args σ = none:=fun _ _=>rfl
 have o5:OkPc (pc1 1 5):=pc1_ok (by unfold numd; omega) (by unfold cntd; omega)
 have o6:OkPc (pc1 1 6):=pc1_ok (by unfold numd; omega) (by unfold cntd; omega)
 have hne:pc1 1 5 ≠ pc1 1 6:=fun h=>by simp [pc1] at h
 have sm1:∀ p ∈ (oneS (pc1 1 5)).ps,∀ x ∈ p.fs,SmC x:=fun p hp=>by simp [oneS] at hp; rw [hp]; exact pc1_sm _ _
 have h1:∀ σ,PCall Try.prog 17 [.agg [.nils,.nils],.agg (pc1 1 5).row] σ (fun q τ=>q = .tup [stV (oneS (pc1 1 5)),.int .i64 0] ∧ τ = σ):=fun σ =>
  PCall.frz [] (args2:=[stV ⟨[],[]⟩,.agg (pc1 1 5).row]) (aw_add ⟨[],[]⟩ (oneS (pc1 1 5)) (pc1 1 5) emp_ok emp_fit (fun p h=>by simp at h) o5 (pc1_fit _ _) (pc1_sm _ _) (by simp) (fun m h=>one_first (oneS_ok o5).o h) (by simp [sizeS,oneS]) _) rfl (fun j a b h1 h2=>by
   match j,h1,h2 with
   | 0,h1,h2=>simp at h1 h2; subst h1 h2; exact frzn_emp _ _
   | 1,h1,h2=>simp at h1 h2; subst h1 h2; exact .keep _
   | j + 2,h1,h2=>simp at h1)
 have h2:=aw_add (oneS (pc1 1 5)) (oneS (pc1 1 5)) (pc1 1 5) (oneS_ok o5) (oneS_fit (pc1_fit _ _)) sm1 o5 (pc1_fit _ _) (pc1_sm _ _) (by simp [oneS]) (fun m h=>one_again (oneS_ok o5).o h) (by simp [sizeS,oneS])
 have h3:=aw_add (oneS (pc1 1 5)) ⟨[],[(0,0,1)]⟩ (pc1 1 6) (oneS_ok o5) (oneS_fit (pc1_fit _ _)) sm1 o6 (pc1_fit _ _) (pc1_sm _ _) (by simp [oneS]) (fun m h=>one_odd (p:=pc1 1 5) (q:=pc1 1 6) rfl hne h) (by simp [sizeS])
 have l1:(encP (oneS (pc1 1 5)).ps).length = 1:=rfl
 unfold stV at h1 h2 h3
 refine PCall.vfrz [] 127 59 [.tmp 0] (noE_ok _) mix Try.func10 rfl (by decide) rfl rfl (by simp) ?_
 simp -dsimp only [initFr,List.zipIdx_cons,List.zipIdx_nil,List.map_cons,List.map_nil,Nat.zero_add,Nat.reduceAdd]
 simp -dsimp (maxSteps:=4000000) +contextual (disch:=first | omega | decide +kernel) only [↓vsD,vsE,↓Nat.reduceLT,simprocAttr,n0]
 refine PCall.mono (piece1_on 1 5 _) ?_
 rintro q τ ⟨rfl,rfl⟩
 simp -dsimp (maxSteps:=4000000) +contextual (disch:=first | omega | decide +kernel) only [↓vsD,vsE,↓Nat.reduceLT,simprocAttr,n1]
 refine PCall.mono (h1 _) ?_
 rintro q τ ⟨rfl,rfl⟩
 simp -dsimp (maxSteps:=4000000) +contextual (disch:=first | omega | decide +kernel) only [↓vsD,vsE,↓Nat.reduceLT,simprocAttr,vcel,n0,vgap]
 refine v_draws _ _ _ _ _ _ [1,2,7] [6] [(0,1),(0,0),(0,0),(2,2),(2,2),(2,3),(0,2),(1,0),(3,3)] (by decide +kernel) (by decide +kernel) (by decide +kernel) (by decide +kernel) ?_
 simp -dsimp (maxSteps:=4000000) +contextual (disch:=first | omega | decide +kernel) only [↓vsD,vsE,↓Nat.reduceLT,simprocAttr,vdA,↓vd_end,↓vdm_go,↓vd_op,↓guard_none,↓guard_some,vcel,n0,n1,vgap]
 refine ⟨_,_,piece1_on 1 5 _,by simp [outR,rowsAt],?_⟩
 simp -dsimp (maxSteps:=4000000) +contextual (disch:=first | omega | decide +kernel) only [↓vsD,vsE,↓Nat.reduceLT,simprocAttr,vdA,↓vd_end,↓vdm_go,↓vd_op,↓guard_none,↓guard_some,vcel,n0,n1,vgap]
 refine ⟨_,_,h2 _,by simp [outR,rowsAt],?_⟩
 simp -dsimp (maxSteps:=4000000) +contextual (disch:=first | omega | decide +kernel) only [↓vsD,vsE,↓Nat.reduceLT,simprocAttr,vdA,↓vd_end,↓vdm_go,↓vd_op,↓guard_none,↓guard_some,vcel,n0,n1,vgap,List.append_assoc,List.length_append,Nat.add_zero,Nat.add_assoc]
 refine v_draws _ _ _ _ _ _ [1,2,7] [6] [(0,1),(0,0),(0,0),(2,2),(2,2),(2,3),(0,2),(1,0),(3,3)] (by decide +kernel) (by decide +kernel) (by decide +kernel) (by decide +kernel) ?_
 simp -dsimp (maxSteps:=4000000) +contextual (disch:=first | omega | decide +kernel) only [↓vsD,vsE,↓Nat.reduceLT,simprocAttr,vdA,↓vd_end,↓vdm_go,↓vd_op,↓guard_none,↓guard_some,vcel,n0,n1,vgap,List.append_assoc,List.length_append,Nat.add_zero,Nat.add_assoc]
 refine ⟨_,_,piece1_on 1 6 _,by simp [outR,rowsAt],?_⟩
 simp -dsimp (maxSteps:=4000000) +contextual (disch:=first | omega | decide +kernel) only [↓vsD,vsE,↓Nat.reduceLT,simprocAttr,vdA,↓vd_end,↓vdm_go,↓vd_op,↓guard_none,↓guard_some,vcel,n0,n1,vgap,List.append_assoc,List.length_append,Nat.add_zero,Nat.add_assoc]
 refine ⟨_,_,h3 _,by simp [outR,rowsAt],?_⟩
 simp -dsimp (maxSteps:=4000000) +contextual (disch:=first | omega | decide +kernel) only [↓vsD,vsE,↓Nat.reduceLT,simprocAttr,vdA,↓vd_end,↓vdm_go,↓vd_op,↓guard_none,↓guard_some,vcel,n0,n1,vgap,List.append_assoc,List.length_append,Nat.add_zero,Nat.add_assoc]
 exact fin0 (.keep _ (bel_bool _ _)) rfl
theorem awake_on (σ:Store):PCall Try.prog 10 [] σ (fun q τ=>q = .bool true ∧ τ = σ) :=
 PCall.lift awake_w (fun p hp=>by simp at hp) (fun q h=>⟨by rw [h]; exact bel_bool _ _,h,rfl⟩)
noncomputable def mg (a b:StS):StS:=@dite _ (∃ m,Sf m [a,b]) (Classical.propDecidable _) (fun h=>Classical.choose h) (fun _=>default)
theorem mg_sf {a b:StS} (ha:OkS a) (hb:OkS b):Sf (mg a b) [a,b]:=by
 have he:=sf_ex ha hb
 unfold mg
 rw [dif_pos he]
 exact Classical.choose_spec he
theorem mg_of {a b m:StS} (ha:OkS a) (hb:OkS b) (h:Sf m [a,b]):m = mg a b:=h.uniq (mg_sf ha hb)
end Go.Proofs.Ythjoehaglonjaaa
