import Derived.Test.YthjoehaglonjaaaStW
set_option maxRecDepth 8000
set_option linter.unusedSimpArgs false
set_option linter.unusedVariables false
namespace Go.Proofs.Ythjoehaglonjaaa
open Go.PV
def idl (s:StS):List Idn:=s.ps.map (·.id) ++ s.cs
def lsV (n o v:Nat):PV:=match n with | 0=>.nils | _ + 1=>.msl (o + 2) v
structure LsI (L:List Idn) (n o v:Nat) (Y:Store):Prop where
 hn:n = L.length
 y:∀ j,n = j + 1 → Y[o]? = some (.rows 58 3 (encD L) v)
def stI (a b:StS) (Y:Store):Store:=.rows 26 2 [[.sl (encP a.ps),.sl (encD a.cs)]] 0 :: .rows 26 2 [[.sl (encP b.ps),.sl (encD b.cs)]] 0 :: Y
def allL (a b:StS):Nat → List Idn
 | 0=>[]
 | 1=>idl a
 | _=>idl a ++ idl b
def aft (R:List Idn) (x:Idn):Prop:=∀ y ∈ R,idlt y x
structure SelI (L R:List Idn):Prop where
 p:R.Pairwise idlt
 s:∀ x ∈ R,x ∈ L
 c:∀ x ∈ L,x ∈ R ∨ aft R x
theorem aft_last {R:List Idn} (h:R.Pairwise idlt) {n:Nat} (hn:R.length = n + 1) (x:Idn):aft R x ↔ idlt (R.getD n default) x:=by
 have hm:R.getD n default ∈ R:=gtD (by omega)
 refine ⟨fun h=>h _ hm,fun hx y hy=>?_⟩
 obtain ⟨j,hj,rfl⟩:=List.mem_iff_getElem.1 hy
 by_cases hjn:j = n
 ·subst hjn
  rw [List.getD_eq_getElem?_getD,List.getElem?_eq_getElem hj] at hx
  exact hx
 ·have h2:=List.pairwise_iff_getElem.1 h j n hj (by omega) (by omega)
  rw [List.getD_eq_getElem?_getD,List.getElem?_eq_getElem (by omega)] at hx
  exact idlt_trans h2 hx
structure BstI (L R:List Idn) (i bst:Nat):Prop where
 hi:i ≤ L.length
 z:bst = 0 → ∀ j,j < i → ¬ aft R (L.getD j default)
 b:∀ k,bst = k + 1 → k < L.length ∧ aft R (L.getD k default) ∧ ∀ j,j < i → aft R (L.getD j default) → ¬ idlt (L.getD j default) (L.getD k default)
theorem SelI.step {L R:List Idn} (h:SelI L R) {k:Nat} (hb:BstI L R L.length (k + 1)):SelI L (R ++ [L.getD k default]):=by
 obtain ⟨hk,ha,hm⟩:=hb.b k rfl
 refine ⟨List.pairwise_append.2 ⟨h.p,List.pairwise_singleton _ _,fun x hx y hy=>by rw [List.mem_singleton] at hy; rw [hy]; exact ha x hx⟩,fun x hx=>?_,fun x hx=>?_⟩
 ·rcases List.mem_append.1 hx with hx | hx
  ·exact h.s x hx
  ·rw [List.mem_singleton] at hx
   rw [hx]; exact gtD hk
 ·rcases h.c x hx with h1 | h1
  ·exact .inl (List.mem_append_left _ h1)
  ·obtain ⟨j,hj,rfl⟩:=List.mem_iff_getElem.1 hx
   have h2:=hm j hj (by rw [List.getD_eq_getElem?_getD,List.getElem?_eq_getElem hj]; exact h1)
   have e:L.getD j default = L[j]:=by rw [List.getD_eq_getElem?_getD,List.getElem?_eq_getElem hj]; rfl
   rw [e] at h2
   rcases idlt_tri (L.getD k default) L[j] with h3 | h3 | h3
   ·refine .inr (fun y hy=>?_)
    rcases List.mem_append.1 hy with hy | hy
    ·exact h1 y hy
    ·rw [List.mem_singleton] at hy
     rw [hy]; exact h3
   ·exact .inl (by rw [← h3]; simp)
   ·exact absurd h3 h2
theorem SelI.done {L R:List Idn} (h:SelI L R) (hb:BstI L R L.length 0):∀ x,x ∈ R ↔ x ∈ L:=fun x=>by
 refine ⟨h.s x,fun hx=>(h.c x hx).elim id (fun h1=>?_)⟩
 obtain ⟨j,hj,rfl⟩:=List.mem_iff_getElem.1 hx
 have:=hb.z rfl j hj
 rw [List.getD_eq_getElem?_getD,List.getElem?_eq_getElem hj] at this
 exact absurd h1 this
theorem SelI.len {L R:List Idn} (h:SelI L R):R.length ≤ L.length:=nodup_le _ _ (idlt_nodup h.p) h.s
theorem idl_mem (s:StS) (x:Idn):x ∈ idl s ↔ (∃ p ∈ s.ps,p.id = x) ∨ x ∈ s.cs:=by simp [idl]
set_option maxHeartbeats 16000000 in
theorem ids31_w (a b:StS) (ha1:a.ps.length ≤ 1000) (ha2:a.cs.length ≤ 1000) (hb1:b.ps.length ≤ 1000) (hb2:b.cs.length ≤ 1000) :
  PCall Try.prog 56 [stV a,stV b] [] (fun q _=>∃ r:List Idn,q = .sl (encD r) ∧ r.Pairwise idlt ∧ ∀ x,x ∈ r ↔ x ∈ idl a ++ idl b):=by
 have hla:(idl a).length = a.ps.length + a.cs.length:=by simp [idl]
 have hlb:(idl b).length = b.ps.length + b.cs.length:=by simp [idl]
 unfold stV
 refine PCall.vfrz [] 1360050770456086879391743 89 [.tmp 4] cl1_ok mix Try.func56 rfl (by decide) rfl rfl (by simp) ?_
 simp -dsimp only [initFr,List.zipIdx_cons,List.zipIdx_nil,List.map_cons,List.map_nil,Nat.zero_add,Nat.reduceAdd]
 simp -dsimp (maxSteps:=4000000) +contextual (disch:=first | omega | decide +kernel) only [↓vsD,vsE,↓Nat.reduceLT,simprocAttr,cl1_in,cl1_p2,cl1_tg,cl1_cid,cl1_comp,cl1_rcomp,cl1_ident,cl1_rid,vcel]
 refine v_loopS (fun s:Nat × Nat × Nat × Nat × Store=>[(2,.ptr 0 0 0 0),(3,.ptr 1 0 0 0),(5,lsV s.2.1 s.2.2.1 s.2.2.2.1),(14,.sl [[.sl (encP a.ps),.sl (encD a.cs)],[.sl (encP b.ps),.sl (encD b.cs)]]),(15,.int .i64 2),(16,.int .i64 s.1)])
  (fun s=>stI a b s.2.2.2.2) (fun s=>s.1 ≤ 2 ∧ LsI (allL a b s.1) s.2.1 s.2.2.1 s.2.2.2.1 s.2.2.2.2) (fun s=>2 - s.1) (0,0,0,0,[]) (by simp [weaker,Go.PV.look,lsV]) rfl ⟨by omega,rfl,fun j h=>by simp at h⟩ ?_
 rintro ⟨k,n,o,v,Y⟩ ⟨hk,hI⟩
 dsimp only at hk hI ⊢
 by_cases hk2:k < 2
 ·obtain ⟨s,L0,hS,hsl,hscl,hrow,hL0,hL1⟩:∃ (s:StS) (L0:List Idn),s = (if k = 0 then a else b) ∧ s.ps.length ≤ 1000 ∧ s.cs.length ≤ 1000 ∧ ([[PV.sl (encP a.ps),PV.sl (encD a.cs)],[PV.sl (encP b.ps),PV.sl (encD b.cs)]].getD k [] = [.sl (encP s.ps),.sl (encD s.cs)]) ∧ L0 = allL a b k ∧ L0.length ≤ 2000 ∧ allL a b (k + 1) = L0 ++ s.ps.map (·.id) ++ s.cs:=by
   rcases (show k = 0 ∨ k = 1 by omega) with rfl | rfl
   ·exact ⟨a,[],rfl,ha1,ha2,rfl,rfl,by simp,by simp [allL,idl]⟩
   ·exact ⟨b,idl a,rfl,hb1,hb2,rfl,rfl,by omega,by simp [allL,idl]⟩
  rw [← hL0] at hI
  clear hL0 hS
  obtain ⟨hL1,hL2⟩:=hL1
  simp -dsimp only [stI]
  simp -dsimp (maxSteps:=4000000) +contextual (disch:=first | omega | decide +kernel) only [↓vsD,vsE,↓Nat.reduceLT,simprocAttr,cl1_in,cl1_p2,cl1_tg,cl1_cid,cl1_comp,cl1_rcomp,cl1_ident,cl1_rid,vcel,hrow]
  obtain ⟨c,hc⟩:∃ c,c = Y.length:=⟨_,rfl⟩
  refine v_loopS (fun t:Nat × Nat × Nat × Nat × Store=>[(2,.ptr 0 0 0 0),(3,.ptr 1 0 0 0),(5,lsV t.2.1 t.2.2.1 t.2.2.2.1),(7,.ptr (c + 1 + 1) 0 0 0),(8,.int .i64 t.1),(14,.sl [[.sl (encP a.ps),.sl (encD a.cs)],[.sl (encP b.ps),.sl (encD b.cs)]]),(15,.int .i64 2),(16,.int .i64 k)])
   (fun t=>stI a b t.2.2.2.2) (fun t=>t.1 ≤ s.ps.length ∧ LsI (L0 ++ (s.ps.take t.1).map (·.id)) t.2.1 t.2.2.1 t.2.2.2.1 t.2.2.2.2 ∧ t.2.2.2.2[c]? = some (.rows 26 2 [[.sl (encP s.ps),.sl (encD s.cs)]] 0)) (fun t=>s.ps.length - t.1) (0,n,o,v,Y ++ [.rows 26 2 [[.sl (encP s.ps),.sl (encD s.cs)]] 0])
   (by simp [weaker,Go.PV.look,hc]) rfl ⟨Nat.zero_le _,⟨by simpa using hI.hn,fun j hj=>by have:=hI.y j hj; rw [List.getElem?_append_left (List.getElem?_eq_some_iff.1 this).1]; simpa using this⟩,by dsimp only; rw [hc]; simp⟩ ?_
  clear hI hc
  rintro ⟨i,n,o,v,Y⟩ ⟨hi,hI,hY⟩
  dsimp only at hi hI hY ⊢
  simp -dsimp only [stI]
  have hyl:=(List.getElem?_eq_some_iff.1 hY).1
  have hne:∀ j,n = j + 1 → o ≠ c:=fun j hj e=>by have:=hI.y j hj; rw [e,hY] at this; simp at this
  have hIn:=hI.hn
  by_cases hil:i < s.ps.length
  ·have hrow:=encP_getD s.ps i hil
   have e1:=take_succD s.ps i hil
   obtain ⟨p,hpe⟩:∃ p,p = s.ps.getD i default:=⟨_,rfl⟩
   rw [← hpe] at hrow e1
   have hnl:n ≤ 3000:=by rw [hIn]; simp only [List.length_append,List.length_map,List.length_take]; omega
   have hn1:=newsD [p.id]
   simp only [encD,List.map_cons,List.map_nil,idRow] at hn1
   have hcast:encD (L0 ++ (s.ps.take (i + 1)).map (·.id)) = encD (L0 ++ (s.ps.take i).map (·.id)) ++ [idRow p.id]:=by rw [e1]; simp [encD]
   cases n with
   | zero =>
    have hL:L0 ++ (s.ps.take i).map (·.id) = []:=List.eq_nil_of_length_eq_zero hIn.symm
    simp -dsimp only [lsV]
    simp -dsimp (maxSteps:=4000000) +contextual (disch:=first | omega | decide +kernel) only [↓vsD,vsE,↓Nat.reduceLT,simprocAttr,cl1_in,cl1_p2,cl1_tg,cl1_cid,cl1_comp,cl1_rcomp,cl1_ident,cl1_rid,vcel,encP_length,hY,hrow,hn1,bytesK,lenK]
    refine ⟨(i + 1,1,Y.length,0,_),(by (try dsimp only); omega),by simp [weaker,Go.PV.look,lsV],rfl,hil,⟨?_,fun j hj=>?_⟩,?_⟩
    ·rw [e1,List.map_append,← List.append_assoc,hL]; rfl
    ·dsimp only
     rw [hcast,hL]; simp [encD,idRow]
    ·dsimp only
     rw [List.getElem?_append_left hyl,hY]
   | succ j =>
    have hy:=hI.y j rfl
    have hol:=(List.getElem?_eq_some_iff.1 hy).1
    have hlk:(encD (L0 ++ (s.ps.take i).map (·.id))).length = j + 1:=by rw [encD_length,← hIn]
    simp -dsimp only [lsV]
    simp -dsimp (maxSteps:=4000000) +contextual (disch:=first | omega | decide +kernel) only [↓vsD,vsE,↓Nat.reduceLT,simprocAttr,cl1_in,cl1_p2,cl1_tg,cl1_cid,cl1_comp,cl1_rcomp,cl1_ident,cl1_rid,vcel,encP_length,hY,hrow,hn1,bytesK,lenK,hy,hlk]
    refine ⟨(i + 1,j + 2,o,v + 1,_),(by (try dsimp only); omega),by simp [weaker,Go.PV.look,lsV],rfl,hil,⟨?_,fun j2 hj=>?_⟩,?_⟩
    ·rw [e1,List.map_append,← List.append_assoc,List.length_append,← hIn]; rfl
    ·dsimp only
     rw [List.getElem?_set_self hol,hcast]; rfl
    ·dsimp only
     rw [List.getElem?_set_ne (hne j rfl),hY]
  ·have hie:i = s.ps.length:=by omega
   have hcl:(encD s.cs).length = s.cs.length:=encD_length _
   have hnD:=newsD s.cs
   rw [hie,List.take_length] at hI hIn
   have hcast:encD (L0 ++ s.ps.map (·.id) ++ s.cs) = encD (L0 ++ s.ps.map (·.id)) ++ encD s.cs:=by simp [encD]
   have hnl:n ≤ 3000:=by rw [hIn]; simp only [List.length_append,List.length_map]; omega
   cases n with
   | zero =>
    have hL:L0 ++ s.ps.map (·.id) = []:=List.eq_nil_of_length_eq_zero hIn.symm
    simp -dsimp only [lsV]
    by_cases hc0:s.cs = []
    ·have e0:encD s.cs = []:=by rw [hc0]; rfl
     simp -dsimp (maxSteps:=4000000) +contextual (disch:=first | omega | decide +kernel) only [↓vsD,vsE,↓Nat.reduceLT,simprocAttr,cl1_in,cl1_p2,cl1_tg,cl1_cid,cl1_comp,cl1_rcomp,cl1_ident,cl1_rid,vcel,encP_length,hY,e0]
     exact ⟨(k + 1,0,0,0,Y),(by (try dsimp only); omega),by simp [weaker,Go.PV.look,lsV],rfl,by dsimp only; omega,by dsimp only; rw [hL2,hL,hc0]; rfl,fun j hj=>by simp at hj⟩
    ·obtain ⟨x,l,hxl⟩:=List.exists_cons_of_ne_nil hc0
     have e0:encD s.cs = idRow x :: encD l:=by rw [hxl]; rfl
     rw [e0] at hnD hcl
     rw [List.length_cons] at hcl
     simp -dsimp (maxSteps:=4000000) +contextual (disch:=first | omega | decide +kernel) only [↓vsD,vsE,↓Nat.reduceLT,simprocAttr,cl1_in,cl1_p2,cl1_tg,cl1_cid,cl1_comp,cl1_rcomp,cl1_ident,cl1_rid,vcel,encP_length,hY,e0,hnD,bytesK,lenK,hcl]
     exact ⟨(k + 1,l.length + 1,Y.length,0,_),(by (try dsimp only); omega),by simp [weaker,Go.PV.look,lsV],rfl,by dsimp only; omega,by dsimp only; rw [hL2,hL,hxl]; rfl,fun j hj=>by dsimp only; rw [hL2,hL,List.nil_append,e0]; simp⟩
   | succ j =>
    have hy:=hI.y j rfl
    have hol:=(List.getElem?_eq_some_iff.1 hy).1
    have hlk:(encD (L0 ++ s.ps.map (·.id))).length = j + 1:=by rw [encD_length,← hIn]
    simp -dsimp only [lsV]
    simp -dsimp (maxSteps:=4000000) +contextual (disch:=first | omega | decide +kernel) only [↓vsD,vsE,↓Nat.reduceLT,simprocAttr,cl1_in,cl1_p2,cl1_tg,cl1_cid,cl1_comp,cl1_rcomp,cl1_ident,cl1_rid,vcel,encP_length,hY,hnD,bytesK,lenK,hy,hlk,hcl]
    exact ⟨(k + 1,j + 1 + s.cs.length,o,v + 1,_),(by (try dsimp only); omega),by (have:∃ m,j + 1 + s.cs.length = m + 1:=⟨j + s.cs.length,by omega⟩); obtain ⟨m,hm⟩:=this; simp [weaker,Go.PV.look,hm,lsV],rfl,by dsimp only; omega,by dsimp only; rw [hL2,List.length_append,← hIn],fun j2 hj=>by dsimp only; rw [List.getElem?_set_self hol,hL2,hcast]⟩
 ·obtain rfl:k = 2:=by omega
  have hL:allL a b 2 = idl a ++ idl b:=rfl
  rw [hL] at hI
  clear hL
  have hLl:(idl a ++ idl b).length ≤ 4000:=by rw [List.length_append]; omega
  generalize idl a ++ idl b = L at hI hLl ⊢
  have hIn:=hI.hn
  simp -dsimp only [stI]
  cases n with
  | zero =>
   have hL0:L = []:=List.eq_nil_of_length_eq_zero hIn.symm
   simp -dsimp only [lsV]
   simp -dsimp (maxSteps:=4000000) +contextual (disch:=first | omega | decide +kernel) only [↓vsD,vsE,↓Nat.reduceLT,simprocAttr,cl1_in,cl1_p2,cl1_tg,cl1_cid,cl1_comp,cl1_rcomp,cl1_ident,cl1_rid]
   refine v_loopS (fun _:Unit=>[(5,.nils),(9,.nils)]) (fun _=>stI a b Y) (fun _=>True) (fun _=>0) () (by simp [weaker,Go.PV.look]) rfl trivial ?_
   intro _ _
   simp -dsimp (maxSteps:=4000000) +contextual (disch:=first | omega | decide +kernel) only [↓vsD,vsE,↓Nat.reduceLT,simprocAttr,cl1_in,cl1_p2,cl1_tg,cl1_cid,cl1_comp,cl1_rcomp,cl1_ident,cl1_rid]
   refine v_loopS (fun _:Unit=>[(5,.nils),(9,.nils),(10,.int .i64 (-1)),(11,.int .i64 0)]) (fun _=>stI a b Y) (fun _=>True) (fun _=>0) () (by simp [weaker,Go.PV.look]) rfl trivial ?_
   intro _ _
   simp -dsimp (maxSteps:=4000000) +contextual (disch:=first | omega | decide +kernel) only [↓vsD,vsE,↓Nat.reduceLT,simprocAttr,cl1_in,cl1_p2,cl1_tg,cl1_cid,cl1_comp,cl1_rcomp,cl1_ident,cl1_rid]
   exact fin0 .nils ⟨[],rfl,.nil,fun x=>by rw [hL0]⟩
  | succ n =>
   have hol:=(List.getElem?_eq_some_iff.1 (hI.y n rfl)).1
   have hEl:(encD L).length = n + 1:=by rw [encD_length,← hIn]
   simp -dsimp only [lsV]
   simp -dsimp (maxSteps:=4000000) +contextual (disch:=first | omega | decide +kernel) only [↓vsD,vsE,↓Nat.reduceLT,simprocAttr,cl1_in,cl1_p2,cl1_tg,cl1_cid,cl1_comp,cl1_rcomp,cl1_ident,cl1_rid]
   refine v_loopS (fun s:List Idn × Nat × Nat × Nat × Store=>[(5,.msl (o + 2) v),(9,lsV s.2.1 s.2.2.1 s.2.2.2.1)]) (fun s=>stI a b s.2.2.2.2)
    (fun s=>SelI L s.1 ∧ LsI s.1 s.2.1 s.2.2.1 s.2.2.2.1 s.2.2.2.2 ∧ s.2.2.2.2[o]? = some (.rows 58 3 (encD L) v) ∧ ∀ j,s.2.1 = j + 1 → s.2.2.1 ≠ o) (fun s=>L.length - s.1.length) ([],0,0,0,Y) (by simp [weaker,Go.PV.look,lsV]) rfl
    ⟨⟨.nil,fun x h=>by simp at h,fun x _=>.inr (fun y h=>by simp at h)⟩,⟨rfl,fun j h=>by simp at h⟩,hI.y n rfl,fun j h=>by simp at h⟩ ?_
   rintro ⟨R,n2,o2,v2,Z⟩ ⟨hS,hR,hZ,hoo⟩
   dsimp only at hS hR hZ hoo ⊢
   have hRn:=hR.hn
   have hRl:=hS.len
   have hzl:=(List.getElem?_eq_some_iff.1 hZ).1
   simp -dsimp (maxSteps:=4000000) +contextual (disch:=first | omega | decide +kernel) only [↓vsD,vsE,↓Nat.reduceLT,simprocAttr,cl1_in,cl1_p2,cl1_tg,cl1_cid,cl1_comp,cl1_rcomp,cl1_ident,cl1_rid]
   refine v_loopS (fun s:Nat × Nat=>[(5,.msl (o + 2) v),(9,lsV n2 o2 v2),(10,.int .i64 (match s.2 with | 0=>-1 | b + 1=>(b:Int))),(11,.int .i64 s.1)]) (fun _=>stI a b Z)
    (fun s=>BstI L R s.1 s.2) (fun s=>L.length - s.1) (0,0) (by simp [weaker,Go.PV.look]) rfl ⟨Nat.zero_le _,fun _ j h=>absurd h (Nat.not_lt_zero _),fun k h=>by simp at h⟩ ?_
   rintro ⟨i,bst⟩ hB
   dsimp only at hB ⊢
   have hil0:=hB.hi
   simp -dsimp only [stI]
   by_cases hil:i < L.length
   ·have hrow:=encD_getD L i hil
    obtain ⟨x,hx⟩:∃ x,x = L.getD i default:=⟨_,rfl⟩
    rw [← hx] at hrow
    have hskip:¬ aft R x → BstI L R (i + 1) bst:=fun h=>⟨hil,fun h0 j hj=>by
      rcases Nat.lt_succ_iff_lt_or_eq.1 hj with hj | rfl
      ·exact hB.z h0 j hj
      ·rw [← hx]; exact h,fun k hk=>⟨(hB.b k hk).1,(hB.b k hk).2.1,fun j hj ha=>by
      rcases Nat.lt_succ_iff_lt_or_eq.1 hj with hj | rfl
      ·exact (hB.b k hk).2.2 j hj ha
      ·rw [← hx] at ha; exact absurd ha h⟩⟩
    have hkeep:∀ c,bst = c + 1 → ¬ idlt x (L.getD c default) → BstI L R (i + 1) bst:=fun c hc h=>⟨hil,fun h0=>by omega,fun k hk=>⟨(hB.b k hk).1,(hB.b k hk).2.1,fun j hj ha=>by
      rcases Nat.lt_succ_iff_lt_or_eq.1 hj with hj | rfl
      ·exact (hB.b k hk).2.2 j hj ha
      ·rw [← hx]
       obtain rfl:k = c:=by omega
       exact h⟩⟩
    have htake:aft R x → (∀ c,bst = c + 1 → idlt x (L.getD c default)) → BstI L R (i + 1) (i + 1):=fun ha hc=>⟨hil,fun h0=>by omega,fun k hk=>by
      obtain rfl:k = i:=by omega
      refine ⟨hil,by rw [← hx]; exact ha,fun j hj haj=>?_⟩
      rcases Nat.lt_succ_iff_lt_or_eq.1 hj with hj | rfl
      ·cases hb0:bst with
       | zero=>exact absurd haj (hB.z hb0 j hj)
       | succ c =>
        have h1:=(hB.b c hb0).2.2 j hj haj
        have h2:=hc c hb0
        rw [← hx]
        exact fun h3=>h1 (idlt_trans h3 h2)
      ·exact idlt_irrefl _⟩
    cases n2 with
    | zero =>
     have hR0:R = []:=List.eq_nil_of_length_eq_zero hRn.symm
     have ha:aft R x:=fun y hy=>by rw [hR0] at hy; simp at hy
     simp -dsimp only [lsV]
     cases bst with
     | zero =>
      simp -dsimp (maxSteps:=4000000) +contextual (disch:=first | omega | decide +kernel) only [↓vsD,vsE,↓Nat.reduceLT,simprocAttr,cl1_in,cl1_p2,cl1_tg,cl1_cid,cl1_comp,cl1_rcomp,cl1_ident,cl1_rid,vcel,hZ,hEl,hrow]
      exact ⟨(i + 1,i + 1),(by (try dsimp only); omega),by simp [weaker,Go.PV.look,lsV],rfl,htake ha (fun c h=>by simp at h)⟩
     | succ c =>
      have hcl:=(hB.b c rfl).1
      have hrow2:=encD_getD L c hcl
      have hcm:=cmp3_lt x (L.getD c default)
      simp -dsimp (maxSteps:=4000000) +contextual (disch:=first | omega | decide +kernel) only [↓vsD,vsE,↓Nat.reduceLT,simprocAttr,cl1_in,cl1_p2,cl1_tg,cl1_cid,cl1_comp,cl1_rcomp,cl1_ident,cl1_rid,vcel,hZ,hEl,hrow,hrow2]
      refine ⟨fun h=>⟨(i + 1,i + 1),(by (try dsimp only); omega),by simp [weaker,Go.PV.look,lsV],rfl,htake ha (fun c' h'=>by obtain rfl:c = c':=(by omega); exact hcm.1 h)⟩,fun h=>⟨(i + 1,c + 1),(by (try dsimp only); omega),by simp [weaker,Go.PV.look,lsV],rfl,hkeep c rfl (fun h'=>h (hcm.2 h'))⟩⟩
    | succ m =>
     have hy:=hR.y m rfl
     have hm:m < R.length:=by omega
     have hrl:=encD_getD R m hm
     have hRe:(encD R).length = m + 1:=by rw [encD_length,← hRn]
     have hal:=aft_last hS.p hRn.symm x
     have hcg:=cmp3_gt x (R.getD m default)
     have e9:(((m + 1:Nat):Int) - 1) = (m:Int):=by omega
     simp -dsimp only [lsV]
     by_cases hafx:idlt (R.getD m default) x
     ·have hpos:=hcg.2 hafx
      have ha:=hal.2 hafx
      cases bst with
      | zero =>
       simp -dsimp (maxSteps:=4000000) +contextual (disch:=first | omega | decide +kernel) only [↓vsD,vsE,↓Nat.reduceLT,simprocAttr,cl1_in,cl1_p2,cl1_tg,cl1_cid,cl1_comp,cl1_rcomp,cl1_ident,cl1_rid,vcel,hZ,hEl,hrow,hy,hRe,hrl,e9]
       exact ⟨(i + 1,i + 1),(by (try dsimp only); omega),by simp [weaker,Go.PV.look,lsV],rfl,htake ha (fun c h=>by simp at h)⟩
      | succ c =>
       have hcl:=(hB.b c rfl).1
       have hrow2:=encD_getD L c hcl
       have hcm:=cmp3_lt x (L.getD c default)
       simp -dsimp (maxSteps:=4000000) +contextual (disch:=first | omega | decide +kernel) only [↓vsD,vsE,↓Nat.reduceLT,simprocAttr,cl1_in,cl1_p2,cl1_tg,cl1_cid,cl1_comp,cl1_rcomp,cl1_ident,cl1_rid,vcel,hZ,hEl,hrow,hrow2,hy,hRe,hrl,e9]
       refine ⟨fun h=>⟨(i + 1,i + 1),(by (try dsimp only); omega),by simp [weaker,Go.PV.look,lsV],rfl,htake ha (fun c' h'=>by obtain rfl:c = c':=(by omega); exact hcm.1 h)⟩,fun h=>⟨(i + 1,c + 1),(by (try dsimp only); omega),by simp [weaker,Go.PV.look,lsV],rfl,hkeep c rfl (fun h'=>h (hcm.2 h'))⟩⟩
     ·have hpos:cmp3 x (R.getD m default) ≤ 0:=by have:¬ 0 < cmp3 x (R.getD m default):=fun h=>hafx (hcg.1 h); omega
      simp -dsimp (maxSteps:=4000000) +contextual (disch:=first | omega | decide +kernel) only [↓vsD,vsE,↓Nat.reduceLT,simprocAttr,cl1_in,cl1_p2,cl1_tg,cl1_cid,cl1_comp,cl1_rcomp,cl1_ident,cl1_rid,vcel,hZ,hEl,hrow,hy,hRe,hrl,e9]
      exact ⟨(i + 1,bst),(by (try dsimp only); omega),by simp [weaker,Go.PV.look,lsV],rfl,hskip (fun h=>hafx (hal.1 h))⟩
   ·have hie:i = L.length:=by omega
    rw [hie] at hB
    cases bst with
    | zero =>
     cases n2 with
     | zero =>
      have hR0:R = []:=List.eq_nil_of_length_eq_zero hRn.symm
      simp -dsimp only [lsV]
      simp -dsimp (maxSteps:=4000000) +contextual (disch:=first | omega | decide +kernel) only [↓vsD,vsE,↓Nat.reduceLT,simprocAttr,cl1_in,cl1_p2,cl1_tg,cl1_cid,cl1_comp,cl1_rcomp,cl1_ident,cl1_rid,vcel,hZ,hEl]
      exact fin0 .nils ⟨[],rfl,.nil,fun x=>by rw [← hS.done hB,hR0]⟩
     | succ m =>
      have hy:=hR.y m rfl
      simp -dsimp only [lsV]
      simp -dsimp (maxSteps:=4000000) +contextual (disch:=first | omega | decide +kernel) only [↓vsD,vsE,↓Nat.reduceLT,simprocAttr,cl1_in,cl1_p2,cl1_tg,cl1_cid,cl1_comp,cl1_rcomp,cl1_ident,cl1_rid,vcel,hZ,hEl]
      exact fin0 (Frz.msl0 (elem:=58) (sz:=3) (Nat.zero_le _) (by simpa using hy) (encD_bel _ _)) ⟨R,rfl,hS.p,hS.done hB⟩
    | succ c =>
     have hcl:=(hB.b c rfl).1
     have hrow2:=encD_getD L c hcl
     have hS2:=hS.step hB
     have hS2l:=hS2.len
     rw [List.length_append] at hS2l
     obtain ⟨y,hye⟩:∃ y,y = L.getD c default:=⟨_,rfl⟩
     rw [← hye] at hrow2 hS2
     have hn1:=newsD [y]
     simp only [encD,List.map_cons,List.map_nil,idRow] at hn1
     simp only [List.length_cons,List.length_nil] at hS2l
     cases n2 with
     | zero =>
      have hR0:R = []:=List.eq_nil_of_length_eq_zero hRn.symm
      simp -dsimp only [lsV]
      simp -dsimp (maxSteps:=4000000) +contextual (disch:=first | omega | decide +kernel) only [↓vsD,vsE,↓Nat.reduceLT,simprocAttr,cl1_in,cl1_p2,cl1_tg,cl1_cid,cl1_comp,cl1_rcomp,cl1_ident,cl1_rid,vcel,hZ,hEl,hrow2,hn1,bytesK,lenK]
      refine ⟨(R ++ [y],1,Z.length,0,_),by dsimp only; rw [List.length_append]; simp only [List.length_cons,List.length_nil]; omega,by simp [weaker,Go.PV.look,lsV],rfl,hS2,⟨by rw [hR0]; rfl,fun j hj=>by dsimp only; rw [hR0]; simp [encD,idRow]⟩,by dsimp only; rw [List.getElem?_append_left hzl,hZ],fun j hj=>by dsimp only; omega⟩
     | succ m =>
      have hy:=hR.y m rfl
      have hyl:=(List.getElem?_eq_some_iff.1 hy).1
      have hRe:(encD R).length = m + 1:=by rw [encD_length,← hRn]
      have hoo2:=hoo m rfl
      simp -dsimp only [lsV]
      simp -dsimp (maxSteps:=4000000) +contextual (disch:=first | omega | decide +kernel) only [↓vsD,vsE,↓Nat.reduceLT,simprocAttr,cl1_in,cl1_p2,cl1_tg,cl1_cid,cl1_comp,cl1_rcomp,cl1_ident,cl1_rid,vcel,hZ,hEl,hrow2,hn1,bytesK,lenK,hy,hRe]
      refine ⟨(R ++ [y],m + 2,o2,v2 + 1,_),by dsimp only; rw [List.length_append]; simp only [List.length_cons,List.length_nil]; omega,by simp [weaker,Go.PV.look,lsV],rfl,hS2,⟨by rw [List.length_append,← hRn]; rfl,fun j hj=>by dsimp only; rw [List.getElem?_set_self hyl]; simp [encD,idRow]⟩,by dsimp only; rw [List.getElem?_set_ne hoo2,hZ],fun j hj=>hoo2⟩
theorem pcHas_iff (s:StS) (x:Idn):pcHas s x = true ↔ ∃ p ∈ s.ps,p.id = x:=by simp [pcHas]
theorem pcF_of {s:StS} (h:OkS s) {p:Pc} (hp:p ∈ s.ps):pcF s p.id = p:=by
 have:(s.ps.find? fun q=>decide (q.id = p.id)).isSome = true:=by rw [List.find?_isSome]; exact ⟨p,hp,by simp⟩
 obtain ⟨q,hq⟩:=Option.isSome_iff_exists.1 this
 have h1:=List.find?_some hq
 have h2:=List.mem_of_find?_eq_some hq
 rw [pcF,hq,Option.getD_some]
 exact h.one h2 hp (by simpa using h1)
theorem pcF_mem {s:StS} (h:OkS s) {x:Idn} (hx:pcHas s x = true):pcF s x ∈ s.ps ∧ (pcF s x).id = x:=by
 obtain ⟨p,hp,rfl⟩:=(pcHas_iff s x).1 hx
 rw [pcF_of h hp]
 exact ⟨hp,rfl⟩
def cP (a b:StS) (x:Idn):Prop:=x ∈ a.cs ∨ x ∈ b.cs ∨ (pcHas a x = true ∧ pcHas b x = true ∧ pcF a x ≠ pcF b x)
noncomputable def cB (a b:StS) (x:Idn):Bool:=@decide (cP a b x) (Classical.propDecidable _)
theorem cB_t {a b:StS} {x:Idn} (h:cP a b x):cB a b x = true:=@decide_eq_true _ (Classical.propDecidable _) h
theorem cB_f {a b:StS} {x:Idn} (h:¬ cP a b x):cB a b x = false:=@decide_eq_false _ (Classical.propDecidable _) h
theorem cB_iff (a b:StS) (x:Idn):cB a b x = true ↔ cP a b x:=⟨fun h=>Classical.byContradiction (fun hn=>by rw [cB_f hn] at h; exact absurd h (by simp)),cB_t⟩
theorem cP_iff {a b:StS} (ha:OkS a) (hb:OkS b) (x:Idn):cP a b x ↔ Cf [a,b] x:=by
 constructor
 ·rintro (h | h | ⟨h1,h2,h3⟩)
  ·exact .inl ⟨a,by simp,h⟩
  ·exact .inl ⟨b,by simp,h⟩
  ·have e1:=pcF_mem ha h1
   have e2:=pcF_mem hb h2
   exact .inr ⟨a,by simp,b,by simp,_,e1.1,_,e2.1,e1.2,e2.2,h3⟩
 ·rintro (⟨s,hs,h⟩ | ⟨s,hs,t,ht,p,hp,q,hq,e1,e2,hne⟩)
  ·rcases List.mem_cons.1 hs with rfl | hs
   ·exact .inl h
   ·rw [List.mem_singleton] at hs
    subst hs
    exact .inr (.inl h)
  ·rcases List.mem_cons.1 hs with rfl | hs
   ·rcases List.mem_cons.1 ht with rfl | ht
    ·exact absurd (ha.one hp hq (e1.trans e2.symm)) hne
    ·rw [List.mem_singleton] at ht
     subst ht
     refine .inr (.inr ⟨(pcHas_iff _ _).2 ⟨p,hp,e1⟩,(pcHas_iff _ _).2 ⟨q,hq,e2⟩,?_⟩)
     have h1:=pcF_of ha hp
     have h2:=pcF_of hb hq
     rw [e1] at h1
     rw [e2] at h2
     rw [h1,h2]; exact hne
   ·rw [List.mem_singleton] at hs
    subst hs
    rcases List.mem_cons.1 ht with rfl | ht
    ·refine .inr (.inr ⟨(pcHas_iff _ _).2 ⟨q,hq,e2⟩,(pcHas_iff _ _).2 ⟨p,hp,e1⟩,?_⟩)
     have h1:=pcF_of ha hq
     have h2:=pcF_of hb hp
     rw [e2] at h1
     rw [e1] at h2
     rw [h1,h2]; exact fun e=>hne e.symm
    ·rw [List.mem_singleton] at ht
     subst ht
     exact absurd (hb.one hp hq (e1.trans e2.symm)) hne
noncomputable def pickP (a b:StS) (x:Idn):Pc:=if pcHas a x = true then pcF a x else pcF b x
noncomputable def outC (a b:StS) (l:List Idn):List Idn:=l.filter (cB a b)
noncomputable def outP (a b:StS) (l:List Idn):List Pc:=(l.filter (fun x=>!cB a b x)).map (pickP a b)
theorem outC_snoc (a b:StS) (l:List Idn) (x:Idn):outC a b (l ++ [x]) = if cB a b x = true then outC a b l ++ [x] else outC a b l:=by
 rw [outC,List.filter_append]
 cases h:cB a b x <;> simp [outC,h]
theorem outP_snoc (a b:StS) (l:List Idn) (x:Idn):outP a b (l ++ [x]) = if cB a b x = true then outP a b l else outP a b l ++ [pickP a b x]:=by
 rw [outP,List.filter_append]
 cases h:cB a b x <;> simp [outP,h]
theorem pick_ok {a b:StS} (ha:OkS a) (hb:OkS b) {x:Idn} (hx:x ∈ idl a ++ idl b) (hc:¬ cP a b x):(pickP a b x).id = x ∧ (pickP a b x ∈ a.ps ∨ pickP a b x ∈ b.ps) ∧ (pcHas a x = false → pcHas b x = true):=by
 have hn:pcHas a x = true ∨ pcHas b x = true:=by
  rw [List.mem_append,idl_mem,idl_mem] at hx
  rcases hx with (h | h) | (h | h)
  ·exact .inl ((pcHas_iff _ _).2 h)
  ·exact absurd (.inl h) hc
  ·exact .inr ((pcHas_iff _ _).2 h)
  ·exact absurd (.inr (.inl h)) hc
 unfold pickP
 by_cases h:pcHas a x = true
 ·rw [if_pos h]
  exact ⟨(pcF_mem ha h).2,.inl (pcF_mem ha h).1,fun h2=>by rw [h] at h2; cases h2⟩
 ·rw [if_neg h]
  have h2:=hn.resolve_left h
  exact ⟨(pcF_mem hb h2).2,.inr (pcF_mem hb h2).1,fun _=>h2⟩
theorem out_sf {a b:StS} (ha:OkS a) (hb:OkS b) {r:List Idn} (hr:r.Pairwise idlt) (hm:∀ x,x ∈ r ↔ x ∈ idl a ++ idl b):Sf ⟨outP a b r,outC a b r⟩ [a,b]:=by
 have hcs:∀ x,x ∈ outC a b r ↔ Cf [a,b] x:=fun x=>by
  rw [outC,List.mem_filter,cB_iff,cP_iff ha hb]
  refine ⟨fun h=>h.2,fun h=>⟨?_,h⟩⟩
  rw [hm,List.mem_append,idl_mem,idl_mem]
  rcases (cP_iff ha hb x).2 h with h1 | h1 | ⟨h1,_,_⟩
  ·exact .inl (.inr h1)
  ·exact .inr (.inr h1)
  ·exact .inl (.inl ((pcHas_iff _ _).1 h1))
 have hps:∀ p,p ∈ outP a b r ↔ (∃ s ∈ [a,b],p ∈ s.ps) ∧ ¬ Cf [a,b] p.id:=fun p=>by
  rw [outP,List.mem_map]
  constructor
  ·rintro ⟨x,hx,rfl⟩
   rw [List.mem_filter] at hx
   have hc:¬ cP a b x:=fun h=>by rw [cB_t h] at hx; simp at hx
   obtain ⟨h1,h2,_⟩:=pick_ok ha hb ((hm x).1 hx.1) hc
   rw [h1,← cP_iff ha hb]
   exact ⟨h2.elim (fun h=>⟨a,by simp,h⟩) (fun h=>⟨b,by simp,h⟩),hc⟩
  ·rintro ⟨⟨s,hs,hp⟩,hc⟩
   rw [← cP_iff ha hb] at hc
   refine ⟨p.id,?_,?_⟩
   ·rw [List.mem_filter,cB_f hc]
    refine ⟨?_,rfl⟩
    rw [hm,List.mem_append,idl_mem,idl_mem]
    rcases List.mem_cons.1 hs with rfl | hs
    ·exact .inl (.inl ⟨p,hp,rfl⟩)
    ·rw [List.mem_singleton] at hs
     subst hs
     exact .inr (.inl ⟨p,hp,rfl⟩)
   ·rcases List.mem_cons.1 hs with rfl | hs
    ·rw [pickP,if_pos ((pcHas_iff _ _).2 ⟨p,hp,rfl⟩),pcF_of ha hp]
    ·rw [List.mem_singleton] at hs
     subst hs
     unfold pickP
     split
     ·rename_i h
      have h1:=pcF_mem ha h
      have h2:=pcF_of hb hp
      refine Classical.byContradiction fun hne=>hc (.inr (.inr ⟨h,(pcHas_iff _ _).2 ⟨p,hp,rfl⟩,?_⟩))
      rw [h2]; exact hne
     ·exact pcF_of hb hp
 refine ⟨⟨?_,hr.sublist List.filter_sublist,fun p hp h=>((hps p).1 hp).2 ((hcs _).1 h)⟩,hcs,hps⟩
 rw [outP,List.pairwise_map]
 have h1:(r.filter (fun x=>!cB a b x)).Pairwise idlt:=hr.sublist List.filter_sublist
 refine h1.imp_of_mem (fun {x y} hx hy hlt=>?_)
 rw [List.mem_filter] at hx hy
 have hc:∀ z,(!cB a b z) = true → ¬ cP a b z:=fun z hz h=>by rw [cB_t h] at hz; simp at hz
 rw [(pick_ok ha hb ((hm x).1 hx.1) (hc x hx.2)).1,(pick_ok ha hb ((hm y).1 hy.1) (hc y hy.2)).1]
 exact hlt
theorem idl_length (s:StS):(idl s).length = sizeS s:=by simp [idl,sizeS]
def stO (a b:StS) (n1 o1 n2 o2:Nat) (Y:Store):Store :=
 .rows 26 2 [[.sl (encP a.ps),.sl (encD a.cs)]] 0 :: .rows 26 2 [[.sl (encP b.ps),.sl (encD b.cs)]] 0 :: .rows 26 2 [[.nils,.nils]] 0 ::
  .rows 26 2 [[match n1 with | 0=>.nils | j + 1=>.msl (o1 + 4) j,match n2 with | 0=>.nils | j + 1=>.msl (o2 + 4) j]] 0 :: Y
structure OuI (a b:StS) (l:List Idn) (n1 o1 n2 o2:Nat) (Y:Store):Prop where
 h1:n1 = (outP a b l).length
 h2:n2 = (outC a b l).length
 y1:∀ j,n1 = j + 1 → Y[o1]? = some (.rows 32 5 (encP (outP a b l)) j)
 y2:∀ j,n2 = j + 1 → Y[o2]? = some (.rows 58 3 (encD (outC a b l)) j)
def RgRes (a b:StS) (q:PV):Prop:=(¬ (OkSt a ∧ OkSt b) ∧ q = .tup [stV ⟨[],[]⟩,.int .i64 20]) ∨ (OkSt a ∧ OkSt b ∧ ∃ m,Sf m [a,b] ∧ q = .tup [stV m,.int .i64 0])
theorem yap {Y:Store} {o:Nat} {x:Go.PV.Obj} (h:Y[o]? = some x) (X:Store):(Y ++ X)[o]? = some x:=by rw [List.getElem?_append_left (List.getElem?_eq_some_iff.1 h).1,h]
theorem okp (s:StS) (h:OkSt s):∀ p ∈ s.ps,OkPc p:=fun p hp=>by
 obtain ⟨i,hi,rfl⟩:=List.mem_iff_getElem.1 hp
 have h1:=h.p i hi
 rw [List.getD_eq_getElem?_getD,List.getElem?_eq_getElem hi,Option.getD_some] at h1
 exact h1
set_option maxHeartbeats 16000000 in
theorem rmerge_w (a b:StS) (ha:FitS a) (hb:FitS b) (hxa:∀ p ∈ a.ps,∀ x ∈ p.fs,SmC x) (hxb:∀ p ∈ b.ps,∀ x ∈ p.fs,SmC x) (hsz:sizeS a + sizeS b ≤ 256) :
  PCall Try.prog 23 [stV a,stV b] [] (fun q _=>RgRes a b q):=by
 have k0:∀ args σ,cl1.f 16 args σ = none:=fun _ _=>rfl
 have k1:∀ args σ,cl1.f 56 args σ = none:=fun _ _=>rfl
 have k2:∀ args σ,cl1.f 57 args σ = none:=fun _ _=>rfl
 have k3:∀ args σ,cl1.f 48 args σ = none:=fun _ _=>rfl
 have k4:∀ args σ,cl1.f 21 args σ = none:=fun _ _=>rfl
 have k5:∀ args σ,cl1.f 58 args σ = none:=fun _ _=>rfl
 have fno:¬ (OkSt a ∧ OkSt b) → ∀ σ',Go.PV.Fin [] (fun q _=>RgRes a b q) (.tup [.agg [.nils,.nils],.int .i64 20]) σ':=fun h σ' =>
  fin0 (.tup _ [stV ⟨[],[]⟩,.int .i64 20] rfl (fun j p hj=>by
   match j,hj with
   | 0,hj=>simp at hj; subst hj; exact frz_st (s:=⟨[],[]⟩) .nils .nils
   | 1,hj=>simp at hj; subst hj; exact .keep _ (bel_int _ _ _)
   | j + 2,hj=>simp at hj)) (.inl ⟨h,rfl⟩)
 have hva:=rsval_on a ha
 have hvb:=rsval_on b hb
 have hpa:=fun x=>piece_on a x (by have:=ha.1; omega)
 have hpb:=fun x=>piece_on b x (by have:=hb.1; omega)
 have hca:=fun x=>confl_on a x (by have:=ha.2.1; omega)
 have hcb:=fun x=>confl_on b x (by have:=hb.2.1; omega)
 have hid:∀ σ,PCall Try.prog 56 [stV a,stV b] σ (fun q τ=>(∃ r:List Idn,q = .sl (encD r) ∧ r.Pairwise idlt ∧ ∀ x,x ∈ r ↔ x ∈ idl a ++ idl b) ∧ τ = σ):=fun σ =>
  PCall.lift (ids31_w a b ha.1 ha.2.1 hb.1 hb.2.1) (bel2 (bel_st _ _) (bel_st _ _)) (fun q h=>by obtain ⟨r,rfl,h⟩:=h; exact ⟨bel_ids _ _,⟨r,rfl,h⟩,rfl⟩)
 unfold stV at hva hvb hpa hpb hca hcb hid
 unfold stV
 refine PCall.vfrz [] 604462914310918762405887 90 [.cell 4 26,.tmp 5] cl1_ok mix Try.func23 rfl (by decide) rfl rfl (by simp) ?_
 simp -dsimp only [initFr,List.zipIdx_cons,List.zipIdx_nil,List.map_cons,List.map_nil,Nat.zero_add,Nat.reduceAdd]
 simp -dsimp (maxSteps:=4000000) +contextual (disch:=first | omega | decide +kernel) only [↓vsD,vsE,↓Nat.reduceLT,simprocAttr,cl1_in,cl1_p2,cl1_tg,cl1_cid,cl1_comp,cl1_rcomp,cl1_ident,cl1_rid,k0,vcel]
 refine PCall.mono (hva _) ?_
 rintro q τ ⟨rfl,rfl⟩
 by_cases hoa:OkSt a
 ·rw [stB_t hoa]
  simp -dsimp (maxSteps:=4000000) +contextual (disch:=first | omega | decide +kernel) only [↓vsD,vsE,↓Nat.reduceLT,simprocAttr,cl1_in,cl1_p2,cl1_tg,cl1_cid,cl1_comp,cl1_rcomp,cl1_ident,cl1_rid,k0,vcel]
  refine PCall.mono (hvb _) ?_
  rintro q τ ⟨rfl,rfl⟩
  by_cases hob:OkSt b
  ·rw [stB_t hob]
   simp -dsimp (maxSteps:=4000000) +contextual (disch:=first | omega | decide +kernel) only [↓vsD,vsE,↓Nat.reduceLT,simprocAttr,cl1_in,cl1_p2,cl1_tg,cl1_cid,cl1_comp,cl1_rcomp,cl1_ident,cl1_rid,k1,vcel]
   refine PCall.mono (hid _) ?_
   rintro q τ ⟨⟨r,rfl,hr,hrm⟩,rfl⟩
   have hrl:r.length ≤ 256:=by
    have:=nodup_le r (idl a ++ idl b) (idlt_nodup hr) (fun x hx=>(hrm x).1 hx)
    rw [List.length_append,idl_length,idl_length] at this
    omega
   simp -dsimp (maxSteps:=4000000) +contextual (disch:=first | omega | decide +kernel) only [↓vsD,vsE,↓Nat.reduceLT,simprocAttr,cl1_in,cl1_p2,cl1_tg,cl1_cid,cl1_comp,cl1_rcomp,cl1_ident,cl1_rid,vcel,encD_length]
   refine v_loopS (fun s:Nat × Nat × Nat × Nat × Nat × Store=>[(2,.ptr 0 0 0 0),(3,.ptr 1 0 0 0),(4,.ptr 2 0 0 0),(5,.int .i64 0),(6,.ptr 3 0 0 0),(24,.sl (encD r)),(25,.int .i64 r.length),(26,.int .i64 s.1)])
    (fun s=>stO a b s.2.1 s.2.2.1 s.2.2.2.1 s.2.2.2.2.1 s.2.2.2.2.2) (fun s=>s.1 ≤ r.length ∧ OuI a b (r.take s.1) s.2.1 s.2.2.1 s.2.2.2.1 s.2.2.2.2.1 s.2.2.2.2.2) (fun s=>r.length - s.1) (0,0,0,0,0,[]) (by simp [weaker,Go.PV.look]) rfl
    ⟨Nat.zero_le _,rfl,rfl,fun j h=>by simp at h,fun j h=>by simp at h⟩ ?_
   rintro ⟨i,n1,o1,n2,o2,Y⟩ ⟨hi,hI⟩
   dsimp only at hi hI ⊢
   simp -dsimp only [stO]
   by_cases hil:i < r.length
   ·have hrow:=encD_getD r i hil
    have e1:=take_succD r i hil
    have hxr:r.getD i default ∈ r:=gtD hil
    obtain ⟨x,hx⟩:∃ x,x = r.getD i default:=⟨_,rfl⟩
    rw [← hx] at hrow e1 hxr
    have hpa:=hpa x
    have hpb:=hpb x
    have hca:=hca x
    have hcb:=hcb x
    unfold idRow at hpa hpb hca hcb
    unfold Pc.row at hpa hpb
    simp -dsimp (maxSteps:=4000000) +contextual (disch:=first | omega | decide +kernel) only [↓vsD,vsE,↓Nat.reduceLT,simprocAttr,cl1_in,cl1_p2,cl1_tg,cl1_cid,cl1_comp,cl1_rcomp,cl1_ident,cl1_rid,vcel,encD_length,hrow,k2]
    refine PCall.mono (hpa _) ?_
    rintro q τ ⟨rfl,rfl⟩
    simp -dsimp (maxSteps:=4000000) +contextual (disch:=first | omega | decide +kernel) only [↓vsD,vsE,↓Nat.reduceLT,simprocAttr,cl1_in,cl1_p2,cl1_tg,cl1_cid,cl1_comp,cl1_rcomp,cl1_ident,cl1_rid,vcel,vgap,k2]
    refine PCall.mono (hpb _) ?_
    rintro q τ ⟨rfl,rfl⟩
    have hn1:=newsD [x]
    simp only [encD,List.map_cons,List.map_nil,idRow] at hn1
    have hn1l:∀ m,n1 = m + 1 → m ≤ 256:=fun m hm=>by
     have h1:=hI.h1
     have h2:(outP a b (r.take i)).length ≤ (r.take i).length:=by rw [outP,List.length_map]; exact List.length_filter_le _ _
     rw [List.length_take] at h2
     omega
    have hn2l:∀ m,n2 = m + 1 → m ≤ 256:=fun m hm=>by
     have h1:=hI.h2
     have h2:(outC a b (r.take i)).length ≤ (r.take i).length:=by rw [outC]; exact List.length_filter_le _ _
     rw [List.length_take] at h2
     omega
    simp -dsimp (maxSteps:=4000000) +contextual (disch:=first | omega | decide +kernel) only [↓vsD,vsE,↓Nat.reduceLT,simprocAttr,cl1_in,cl1_p2,cl1_tg,cl1_cid,cl1_comp,cl1_rcomp,cl1_ident,cl1_rid,vcel,vgap,List.append_assoc,List.length_append,k3]
    refine PCall.mono (hca _) ?_
    rintro q τ ⟨rfl,rfl⟩
    by_cases hxa':x ∈ a.cs
    ·rw [decide_eq_true hxa']
     have hcp:cP a b x:=.inl hxa'
     have hcb:=cB_t hcp
     have hoc:outC a b (r.take (i + 1)) = outC a b (r.take i) ++ [x]:=by rw [e1,outC_snoc,if_pos hcb]
     have hop:outP a b (r.take (i + 1)) = outP a b (r.take i):=by rw [e1,outP_snoc,if_pos hcb]
     cases n2 with
     | zero =>
      have hz:outC a b (r.take i) = []:=List.eq_nil_of_length_eq_zero hI.h2.symm
      simp -dsimp (maxSteps:=4000000) +contextual (disch:=first | omega | decide +kernel) only [↓vsD,vsE,↓Nat.reduceLT,simprocAttr,cl1_in,cl1_p2,cl1_tg,cl1_cid,cl1_comp,cl1_rcomp,cl1_ident,cl1_rid,vcel,vgap,List.append_assoc,List.length_append,hn1,bytesK,lenK]
      refine ⟨(i + 1,n1,o1,1,Y.length + 3,_),(by (try dsimp only); omega),by simp [weaker,Go.PV.look],rfl,hil,by dsimp only; rw [hop]; exact hI.h1,by dsimp only; rw [hoc,hz]; rfl,fun j hj=>?_,fun j hj=>?_⟩
      ·dsimp only; rw [hop]; exact yap (hI.y1 j hj) _
      ·obtain rfl:j = 0:=by dsimp only at hj; omega
       dsimp only
       rw [hoc,hz]; simp [encD,idRow]
     | succ m =>
      have hy:=hI.y2 m rfl
      have hyl:=(List.getElem?_eq_some_iff.1 hy).1
      have g1:∀ X,(Y ++ X)[o2]? = _:=fun X=>yap hy X
      have g2:∀ X y,(Y ++ X).set o2 y = Y.set o2 y ++ X:=fun X y=>by rw [List.set_append_left _ _ hyl]
      have hlk:(encD (outC a b (r.take i))).length = m + 1:=by rw [encD_length,← hI.h2]
      have hml:=hn2l m rfl
      simp -dsimp (maxSteps:=4000000) +contextual (disch:=first | omega | decide +kernel) only [↓vsD,vsE,↓Nat.reduceLT,simprocAttr,cl1_in,cl1_p2,cl1_tg,cl1_cid,cl1_comp,cl1_rcomp,cl1_ident,cl1_rid,vcel,vgap,List.append_assoc,List.length_append,hn1,bytesK,lenK,g1,g2,hlk]
      refine ⟨(i + 1,n1,o1,m + 2,o2,_),(by (try dsimp only); omega),by simp [weaker,Go.PV.look],rfl,hil,by dsimp only; rw [hop]; exact hI.h1,by dsimp only; rw [hoc,List.length_append,← hI.h2]; rfl,fun j hj=>?_,fun j hj=>?_⟩
      ·dsimp only; rw [hop]
       have h1:=hI.y1 j hj
       exact yap (by rw [List.getElem?_set_ne (fun e=>by rw [e,h1] at hy; simp at hy)]; exact h1) _
      ·obtain rfl:j = m + 1:=by dsimp only at hj; omega
       dsimp only
       rw [hoc]
       refine yap ?_ _
       rw [List.getElem?_set_self hyl]; simp [encD,idRow]
    ·rw [decide_eq_false hxa']
     simp -dsimp (maxSteps:=4000000) +contextual (disch:=first | omega | decide +kernel) only [↓vsD,vsE,↓Nat.reduceLT,simprocAttr,cl1_in,cl1_p2,cl1_tg,cl1_cid,cl1_comp,cl1_rcomp,cl1_ident,cl1_rid,vcel,vgap,List.append_assoc,List.length_append,k3]
     refine PCall.mono (hcb _) ?_
     rintro q τ ⟨rfl,rfl⟩
     by_cases hxb':x ∈ b.cs
     ·rw [decide_eq_true hxb']
      have hcp:cP a b x:=.inr (.inl hxb')
      have hcb:=cB_t hcp
      have hoc:outC a b (r.take (i + 1)) = outC a b (r.take i) ++ [x]:=by rw [e1,outC_snoc,if_pos hcb]
      have hop:outP a b (r.take (i + 1)) = outP a b (r.take i):=by rw [e1,outP_snoc,if_pos hcb]
      cases n2 with
      | zero =>
       have hz:outC a b (r.take i) = []:=List.eq_nil_of_length_eq_zero hI.h2.symm
       simp -dsimp (maxSteps:=4000000) +contextual (disch:=first | omega | decide +kernel) only [↓vsD,vsE,↓Nat.reduceLT,simprocAttr,cl1_in,cl1_p2,cl1_tg,cl1_cid,cl1_comp,cl1_rcomp,cl1_ident,cl1_rid,vcel,vgap,List.append_assoc,List.length_append,hn1,bytesK,lenK]
       refine ⟨(i + 1,n1,o1,1,Y.length + 3,_),(by (try dsimp only); omega),by simp [weaker,Go.PV.look],rfl,hil,by dsimp only; rw [hop]; exact hI.h1,by dsimp only; rw [hoc,hz]; rfl,fun j hj=>?_,fun j hj=>?_⟩
       ·dsimp only; rw [hop]; exact yap (hI.y1 j hj) _
       ·obtain rfl:j = 0:=by dsimp only at hj; omega
        dsimp only
        rw [hoc,hz]; simp [encD,idRow]
      | succ m =>
       have hy:=hI.y2 m rfl
       have hyl:=(List.getElem?_eq_some_iff.1 hy).1
       have g1:∀ X,(Y ++ X)[o2]? = _:=fun X=>yap hy X
       have g2:∀ X y,(Y ++ X).set o2 y = Y.set o2 y ++ X:=fun X y=>by rw [List.set_append_left _ _ hyl]
       have hlk:(encD (outC a b (r.take i))).length = m + 1:=by rw [encD_length,← hI.h2]
       have hml:=hn2l m rfl
       simp -dsimp (maxSteps:=4000000) +contextual (disch:=first | omega | decide +kernel) only [↓vsD,vsE,↓Nat.reduceLT,simprocAttr,cl1_in,cl1_p2,cl1_tg,cl1_cid,cl1_comp,cl1_rcomp,cl1_ident,cl1_rid,vcel,vgap,List.append_assoc,List.length_append,hn1,bytesK,lenK,g1,g2,hlk]
       refine ⟨(i + 1,n1,o1,m + 2,o2,_),(by (try dsimp only); omega),by simp [weaker,Go.PV.look],rfl,hil,by dsimp only; rw [hop]; exact hI.h1,by dsimp only; rw [hoc,List.length_append,← hI.h2]; rfl,fun j hj=>?_,fun j hj=>?_⟩
       ·dsimp only; rw [hop]
        have h1:=hI.y1 j hj
        exact yap (by rw [List.getElem?_set_ne (fun e=>by rw [e,h1] at hy; simp at hy)]; exact h1) _
       ·obtain rfl:j = m + 1:=by dsimp only at hj; omega
        dsimp only
        rw [hoc]
        refine yap ?_ _
        rw [List.getElem?_set_self hyl]; simp [encD,idRow]
     ·rw [decide_eq_false hxb']
      cases hA:pcHas a x with
      | true =>
       cases hB:pcHas b x with
       | true =>
        have heq:=rEq_on (pcF a x) (pcF b x) (ha.2.2 _ (pcF_mem hoa.o hA).1)
        rw [Pc.row,Pc.row] at heq
        simp -dsimp (maxSteps:=4000000) +contextual (disch:=first | omega | decide +kernel) only [↓vsD,vsE,↓Nat.reduceLT,simprocAttr,cl1_in,cl1_p2,cl1_tg,cl1_cid,cl1_comp,cl1_rcomp,cl1_ident,cl1_rid,vcel,vgap,List.append_assoc,List.length_append,k4]
        refine PCall.mono (heq _) ?_
        rintro q τ ⟨rfl,rfl⟩
        by_cases hpq:pcF a x = pcF b x
        ·rw [eqB_t hpq]
         have hcp:¬ cP a b x:=fun h=>by rcases h with h | h | h; exact hxa' h; exact hxb' h; exact h.2.2 hpq
         have hcb:=cB_f hcp
         have hoc:outC a b (r.take (i + 1)) = outC a b (r.take i):=by rw [e1,outC_snoc,hcb]; rfl
         have hop:outP a b (r.take (i + 1)) = outP a b (r.take i) ++ [pickP a b x]:=by rw [e1,outP_snoc,hcb]; rfl
         have hpk:=pick_ok hoa.o hob.o ((hrm x).1 hxr) hcp
         have hpv:pickP a b x = pcF a x:=by rw [pickP,if_pos hA]
         have hpm:pcF a x ∈ a.ps:=(pcF_mem hoa.o hA).1
         have hcop:=copied31_on (pcF a x) (by have:=hoa.p; have h3:=okp a hoa _ hpm; have:=h3.n; omega) (hxa _ hpm)
         have hnp:=newsPc (pcF a x)
         rw [Pc.row] at hcop hnp
         rw [hpv] at hop
         cases n1 with
         | zero =>
          have hz:outP a b (r.take i) = []:=List.eq_nil_of_length_eq_zero hI.h1.symm
          simp -dsimp (maxSteps:=4000000) +contextual (disch:=first | omega | decide +kernel) only [↓vsD,vsE,↓Nat.reduceLT,simprocAttr,cl1_in,cl1_p2,cl1_tg,cl1_cid,cl1_comp,cl1_rcomp,cl1_ident,cl1_rid,vcel,vgap,List.append_assoc,List.length_append,k5]
          refine v_draws _ _ _ _ _ _ [3,5,7] [] [(0,1),(0,1),(0,0),(0,0),(1,1),(0,0),(2,2),(0,0)] (by decide +kernel) (by decide +kernel) (by decide +kernel) (by decide +kernel) ?_
          simp -dsimp (maxSteps:=4000000) +contextual (disch:=first | omega | decide +kernel) only [↓vsD,vsE,↓Nat.reduceLT,simprocAttr,cl1_in,cl1_p2,cl1_tg,cl1_cid,cl1_comp,cl1_rcomp,cl1_ident,cl1_rid,vdA,↓vd_end,↓vdm_go,↓vd_op,↓guard_none,↓guard_some,vcel,vgap,List.append_assoc,List.length_append,k5]
          refine ⟨_,_,hcop _,by simp [rowsAt,outR],?_⟩
          simp -dsimp (maxSteps:=4000000) +contextual (disch:=first | omega | decide +kernel) only [↓vsD,vsE,↓Nat.reduceLT,simprocAttr,cl1_in,cl1_p2,cl1_tg,cl1_cid,cl1_comp,cl1_rcomp,cl1_ident,cl1_rid,vdA,↓vd_end,↓vdm_go,↓vd_op,↓guard_none,↓guard_some,vcel,vgap,List.append_assoc,List.length_append,hnp,bytesK,lenK]
          refine ⟨(i + 1,1,Y.length + 3,n2,o2,_),(by (try dsimp only); omega),by simp [weaker,Go.PV.look],rfl,hil,by dsimp only; rw [hop,hz]; rfl,by dsimp only; rw [hoc]; exact hI.h2,fun j hj=>?_,fun j hj=>?_⟩
          ·obtain rfl:j = 0:=by dsimp only at hj; omega
           dsimp only
           rw [hop,hz]; simp [encP,Pc.row]
          ·dsimp only; rw [hoc]; exact yap (hI.y2 j hj) _
         | succ m =>
          have hy:=hI.y1 m rfl
          have hyl:=(List.getElem?_eq_some_iff.1 hy).1
          have g1:∀ X,(Y ++ X)[o1]? = _:=fun X=>yap hy X
          have g2:∀ X y,(Y ++ X).set o1 y = Y.set o1 y ++ X:=fun X y=>by rw [List.set_append_left _ _ hyl]
          have hlk:(encP (outP a b (r.take i))).length = m + 1:=by rw [encP_length,← hI.h1]
          have hml:=hn1l m rfl
          simp -dsimp (maxSteps:=4000000) +contextual (disch:=first | omega | decide +kernel) only [↓vsD,vsE,↓Nat.reduceLT,simprocAttr,cl1_in,cl1_p2,cl1_tg,cl1_cid,cl1_comp,cl1_rcomp,cl1_ident,cl1_rid,vcel,vgap,List.append_assoc,List.length_append,k5]
          refine v_draws _ _ _ _ _ _ [3,5,7] [] [(0,1),(0,1),(0,0),(0,0),(1,1),(0,0),(2,2),(0,0)] (by decide +kernel) (by decide +kernel) (by decide +kernel) (by decide +kernel) ?_
          simp -dsimp (maxSteps:=4000000) +contextual (disch:=first | omega | decide +kernel) only [↓vsD,vsE,↓Nat.reduceLT,simprocAttr,cl1_in,cl1_p2,cl1_tg,cl1_cid,cl1_comp,cl1_rcomp,cl1_ident,cl1_rid,vdA,↓vd_end,↓vdm_go,↓vd_op,↓guard_none,↓guard_some,vcel,vgap,List.append_assoc,List.length_append,k5]
          refine ⟨_,_,hcop _,by simp [rowsAt,outR],?_⟩
          simp -dsimp (maxSteps:=4000000) +contextual (disch:=first | omega | decide +kernel) only [↓vsD,vsE,↓Nat.reduceLT,simprocAttr,cl1_in,cl1_p2,cl1_tg,cl1_cid,cl1_comp,cl1_rcomp,cl1_ident,cl1_rid,vdA,↓vd_end,↓vdm_go,↓vd_op,↓guard_none,↓guard_some,vcel,vgap,List.append_assoc,List.length_append,hnp,bytesK,lenK,g1,g2,hlk]
          refine ⟨(i + 1,m + 2,o1,n2,o2,_),(by (try dsimp only); omega),by simp [weaker,Go.PV.look],rfl,hil,by dsimp only; rw [hop,List.length_append,← hI.h1]; rfl,by dsimp only; rw [hoc]; exact hI.h2,fun j hj=>?_,fun j hj=>?_⟩
          ·obtain rfl:j = m + 1:=by dsimp only at hj; omega
           dsimp only
           rw [hop]
           refine yap ?_ _
           rw [List.getElem?_set_self hyl]; simp [encP,Pc.row]
          ·dsimp only; rw [hoc]
           have h1:=hI.y2 j hj
           exact yap (by rw [List.getElem?_set_ne (fun e=>by rw [e,h1] at hy; simp at hy)]; exact h1) _
        ·rw [eqB_f hpq]
         have hcp:cP a b x:=.inr (.inr ⟨hA,hB,hpq⟩)
         have hcb:=cB_t hcp
         have hoc:outC a b (r.take (i + 1)) = outC a b (r.take i) ++ [x]:=by rw [e1,outC_snoc,if_pos hcb]
         have hop:outP a b (r.take (i + 1)) = outP a b (r.take i):=by rw [e1,outP_snoc,if_pos hcb]
         cases n2 with
         | zero =>
          have hz:outC a b (r.take i) = []:=List.eq_nil_of_length_eq_zero hI.h2.symm
          simp -dsimp (maxSteps:=4000000) +contextual (disch:=first | omega | decide +kernel) only [↓vsD,vsE,↓Nat.reduceLT,simprocAttr,cl1_in,cl1_p2,cl1_tg,cl1_cid,cl1_comp,cl1_rcomp,cl1_ident,cl1_rid,vcel,vgap,List.append_assoc,List.length_append,hn1,bytesK,lenK]
          refine ⟨(i + 1,n1,o1,1,Y.length + 3,_),(by (try dsimp only); omega),by simp [weaker,Go.PV.look],rfl,hil,by dsimp only; rw [hop]; exact hI.h1,by dsimp only; rw [hoc,hz]; rfl,fun j hj=>?_,fun j hj=>?_⟩
          ·dsimp only; rw [hop]; exact yap (hI.y1 j hj) _
          ·obtain rfl:j = 0:=by dsimp only at hj; omega
           dsimp only
           rw [hoc,hz]; simp [encD,idRow]
         | succ m =>
          have hy:=hI.y2 m rfl
          have hyl:=(List.getElem?_eq_some_iff.1 hy).1
          have g1:∀ X,(Y ++ X)[o2]? = _:=fun X=>yap hy X
          have g2:∀ X y,(Y ++ X).set o2 y = Y.set o2 y ++ X:=fun X y=>by rw [List.set_append_left _ _ hyl]
          have hlk:(encD (outC a b (r.take i))).length = m + 1:=by rw [encD_length,← hI.h2]
          have hml:=hn2l m rfl
          simp -dsimp (maxSteps:=4000000) +contextual (disch:=first | omega | decide +kernel) only [↓vsD,vsE,↓Nat.reduceLT,simprocAttr,cl1_in,cl1_p2,cl1_tg,cl1_cid,cl1_comp,cl1_rcomp,cl1_ident,cl1_rid,vcel,vgap,List.append_assoc,List.length_append,hn1,bytesK,lenK,g1,g2,hlk]
          refine ⟨(i + 1,n1,o1,m + 2,o2,_),(by (try dsimp only); omega),by simp [weaker,Go.PV.look],rfl,hil,by dsimp only; rw [hop]; exact hI.h1,by dsimp only; rw [hoc,List.length_append,← hI.h2]; rfl,fun j hj=>?_,fun j hj=>?_⟩
          ·dsimp only; rw [hop]
           have h1:=hI.y1 j hj
           exact yap (by rw [List.getElem?_set_ne (fun e=>by rw [e,h1] at hy; simp at hy)]; exact h1) _
          ·obtain rfl:j = m + 1:=by dsimp only at hj; omega
           dsimp only
           rw [hoc]
           refine yap ?_ _
           rw [List.getElem?_set_self hyl]; simp [encD,idRow]
       | false =>
        have hcp:¬ cP a b x:=fun h=>by rcases h with h | h | h; exact hxa' h; exact hxb' h; exact absurd h.2.1 (by rw [hB]; simp)
        have hcb:=cB_f hcp
        have hoc:outC a b (r.take (i + 1)) = outC a b (r.take i):=by rw [e1,outC_snoc,hcb]; rfl
        have hop:outP a b (r.take (i + 1)) = outP a b (r.take i) ++ [pickP a b x]:=by rw [e1,outP_snoc,hcb]; rfl
        have hpk:=pick_ok hoa.o hob.o ((hrm x).1 hxr) hcp
        have hpv:pickP a b x = pcF a x:=by rw [pickP,if_pos hA]
        have hpm:pcF a x ∈ a.ps:=(pcF_mem hoa.o hA).1
        have hcop:=copied31_on (pcF a x) (by have:=hoa.p; have h3:=okp a hoa _ hpm; have:=h3.n; omega) (hxa _ hpm)
        have hnp:=newsPc (pcF a x)
        rw [Pc.row] at hcop hnp
        rw [hpv] at hop
        cases n1 with
        | zero =>
         have hz:outP a b (r.take i) = []:=List.eq_nil_of_length_eq_zero hI.h1.symm
         simp -dsimp (maxSteps:=4000000) +contextual (disch:=first | omega | decide +kernel) only [↓vsD,vsE,↓Nat.reduceLT,simprocAttr,cl1_in,cl1_p2,cl1_tg,cl1_cid,cl1_comp,cl1_rcomp,cl1_ident,cl1_rid,vcel,vgap,List.append_assoc,List.length_append,k5]
         refine v_draws _ _ _ _ _ _ [3,5,7] [] [(0,1),(0,1),(0,0),(0,0),(1,1),(0,0),(2,2),(0,0)] (by decide +kernel) (by decide +kernel) (by decide +kernel) (by decide +kernel) ?_
         simp -dsimp (maxSteps:=4000000) +contextual (disch:=first | omega | decide +kernel) only [↓vsD,vsE,↓Nat.reduceLT,simprocAttr,cl1_in,cl1_p2,cl1_tg,cl1_cid,cl1_comp,cl1_rcomp,cl1_ident,cl1_rid,vdA,↓vd_end,↓vdm_go,↓vd_op,↓guard_none,↓guard_some,vcel,vgap,List.append_assoc,List.length_append,k5]
         refine ⟨_,_,hcop _,by simp [rowsAt,outR],?_⟩
         simp -dsimp (maxSteps:=4000000) +contextual (disch:=first | omega | decide +kernel) only [↓vsD,vsE,↓Nat.reduceLT,simprocAttr,cl1_in,cl1_p2,cl1_tg,cl1_cid,cl1_comp,cl1_rcomp,cl1_ident,cl1_rid,vdA,↓vd_end,↓vdm_go,↓vd_op,↓guard_none,↓guard_some,vcel,vgap,List.append_assoc,List.length_append,hnp,bytesK,lenK]
         refine ⟨(i + 1,1,Y.length + 3,n2,o2,_),(by (try dsimp only); omega),by simp [weaker,Go.PV.look],rfl,hil,by dsimp only; rw [hop,hz]; rfl,by dsimp only; rw [hoc]; exact hI.h2,fun j hj=>?_,fun j hj=>?_⟩
         ·obtain rfl:j = 0:=by dsimp only at hj; omega
          dsimp only
          rw [hop,hz]; simp [encP,Pc.row]
         ·dsimp only; rw [hoc]; exact yap (hI.y2 j hj) _
        | succ m =>
         have hy:=hI.y1 m rfl
         have hyl:=(List.getElem?_eq_some_iff.1 hy).1
         have g1:∀ X,(Y ++ X)[o1]? = _:=fun X=>yap hy X
         have g2:∀ X y,(Y ++ X).set o1 y = Y.set o1 y ++ X:=fun X y=>by rw [List.set_append_left _ _ hyl]
         have hlk:(encP (outP a b (r.take i))).length = m + 1:=by rw [encP_length,← hI.h1]
         have hml:=hn1l m rfl
         simp -dsimp (maxSteps:=4000000) +contextual (disch:=first | omega | decide +kernel) only [↓vsD,vsE,↓Nat.reduceLT,simprocAttr,cl1_in,cl1_p2,cl1_tg,cl1_cid,cl1_comp,cl1_rcomp,cl1_ident,cl1_rid,vcel,vgap,List.append_assoc,List.length_append,k5]
         refine v_draws _ _ _ _ _ _ [3,5,7] [] [(0,1),(0,1),(0,0),(0,0),(1,1),(0,0),(2,2),(0,0)] (by decide +kernel) (by decide +kernel) (by decide +kernel) (by decide +kernel) ?_
         simp -dsimp (maxSteps:=4000000) +contextual (disch:=first | omega | decide +kernel) only [↓vsD,vsE,↓Nat.reduceLT,simprocAttr,cl1_in,cl1_p2,cl1_tg,cl1_cid,cl1_comp,cl1_rcomp,cl1_ident,cl1_rid,vdA,↓vd_end,↓vdm_go,↓vd_op,↓guard_none,↓guard_some,vcel,vgap,List.append_assoc,List.length_append,k5]
         refine ⟨_,_,hcop _,by simp [rowsAt,outR],?_⟩
         simp -dsimp (maxSteps:=4000000) +contextual (disch:=first | omega | decide +kernel) only [↓vsD,vsE,↓Nat.reduceLT,simprocAttr,cl1_in,cl1_p2,cl1_tg,cl1_cid,cl1_comp,cl1_rcomp,cl1_ident,cl1_rid,vdA,↓vd_end,↓vdm_go,↓vd_op,↓guard_none,↓guard_some,vcel,vgap,List.append_assoc,List.length_append,hnp,bytesK,lenK,g1,g2,hlk]
         refine ⟨(i + 1,m + 2,o1,n2,o2,_),(by (try dsimp only); omega),by simp [weaker,Go.PV.look],rfl,hil,by dsimp only; rw [hop,List.length_append,← hI.h1]; rfl,by dsimp only; rw [hoc]; exact hI.h2,fun j hj=>?_,fun j hj=>?_⟩
         ·obtain rfl:j = m + 1:=by dsimp only at hj; omega
          dsimp only
          rw [hop]
          refine yap ?_ _
          rw [List.getElem?_set_self hyl]; simp [encP,Pc.row]
         ·dsimp only; rw [hoc]
          have h1:=hI.y2 j hj
          exact yap (by rw [List.getElem?_set_ne (fun e=>by rw [e,h1] at hy; simp at hy)]; exact h1) _
      | false =>
       have hcp:¬ cP a b x:=fun h=>by rcases h with h | h | h; exact hxa' h; exact hxb' h; exact absurd h.1 (by rw [hA]; simp)
       have hcb:=cB_f hcp
       have hoc:outC a b (r.take (i + 1)) = outC a b (r.take i):=by rw [e1,outC_snoc,hcb]; rfl
       have hop:outP a b (r.take (i + 1)) = outP a b (r.take i) ++ [pickP a b x]:=by rw [e1,outP_snoc,hcb]; rfl
       have hpk:=pick_ok hoa.o hob.o ((hrm x).1 hxr) hcp
       have hpv:pickP a b x = pcF b x:=by rw [pickP,if_neg (by rw [hA]; simp)]
       have hpm:pcF b x ∈ b.ps:=(pcF_mem hob.o (hpk.2.2 hA)).1
       have hcop:=copied31_on (pcF b x) (by have:=hob.p; have h3:=okp b hob _ hpm; have:=h3.n; omega) (hxb _ hpm)
       have hnp:=newsPc (pcF b x)
       rw [Pc.row] at hcop hnp
       rw [hpv] at hop
       cases n1 with
       | zero =>
        have hz:outP a b (r.take i) = []:=List.eq_nil_of_length_eq_zero hI.h1.symm
        simp -dsimp (maxSteps:=4000000) +contextual (disch:=first | omega | decide +kernel) only [↓vsD,vsE,↓Nat.reduceLT,simprocAttr,cl1_in,cl1_p2,cl1_tg,cl1_cid,cl1_comp,cl1_rcomp,cl1_ident,cl1_rid,vcel,vgap,List.append_assoc,List.length_append,k5]
        refine v_draws _ _ _ _ _ _ [3,5,7] [] [(0,1),(0,1),(0,0),(0,0),(1,1),(0,0),(2,2),(0,0)] (by decide +kernel) (by decide +kernel) (by decide +kernel) (by decide +kernel) ?_
        simp -dsimp (maxSteps:=4000000) +contextual (disch:=first | omega | decide +kernel) only [↓vsD,vsE,↓Nat.reduceLT,simprocAttr,cl1_in,cl1_p2,cl1_tg,cl1_cid,cl1_comp,cl1_rcomp,cl1_ident,cl1_rid,vdA,↓vd_end,↓vdm_go,↓vd_op,↓guard_none,↓guard_some,vcel,vgap,List.append_assoc,List.length_append,k5]
        refine ⟨_,_,hcop _,by simp [rowsAt,outR],?_⟩
        simp -dsimp (maxSteps:=4000000) +contextual (disch:=first | omega | decide +kernel) only [↓vsD,vsE,↓Nat.reduceLT,simprocAttr,cl1_in,cl1_p2,cl1_tg,cl1_cid,cl1_comp,cl1_rcomp,cl1_ident,cl1_rid,vdA,↓vd_end,↓vdm_go,↓vd_op,↓guard_none,↓guard_some,vcel,vgap,List.append_assoc,List.length_append,hnp,bytesK,lenK]
        refine ⟨(i + 1,1,Y.length + 3,n2,o2,_),(by (try dsimp only); omega),by simp [weaker,Go.PV.look],rfl,hil,by dsimp only; rw [hop,hz]; rfl,by dsimp only; rw [hoc]; exact hI.h2,fun j hj=>?_,fun j hj=>?_⟩
        ·obtain rfl:j = 0:=by dsimp only at hj; omega
         dsimp only
         rw [hop,hz]; simp [encP,Pc.row]
        ·dsimp only; rw [hoc]; exact yap (hI.y2 j hj) _
       | succ m =>
        have hy:=hI.y1 m rfl
        have hyl:=(List.getElem?_eq_some_iff.1 hy).1
        have g1:∀ X,(Y ++ X)[o1]? = _:=fun X=>yap hy X
        have g2:∀ X y,(Y ++ X).set o1 y = Y.set o1 y ++ X:=fun X y=>by rw [List.set_append_left _ _ hyl]
        have hlk:(encP (outP a b (r.take i))).length = m + 1:=by rw [encP_length,← hI.h1]
        have hml:=hn1l m rfl
        simp -dsimp (maxSteps:=4000000) +contextual (disch:=first | omega | decide +kernel) only [↓vsD,vsE,↓Nat.reduceLT,simprocAttr,cl1_in,cl1_p2,cl1_tg,cl1_cid,cl1_comp,cl1_rcomp,cl1_ident,cl1_rid,vcel,vgap,List.append_assoc,List.length_append,k5]
        refine v_draws _ _ _ _ _ _ [3,5,7] [] [(0,1),(0,1),(0,0),(0,0),(1,1),(0,0),(2,2),(0,0)] (by decide +kernel) (by decide +kernel) (by decide +kernel) (by decide +kernel) ?_
        simp -dsimp (maxSteps:=4000000) +contextual (disch:=first | omega | decide +kernel) only [↓vsD,vsE,↓Nat.reduceLT,simprocAttr,cl1_in,cl1_p2,cl1_tg,cl1_cid,cl1_comp,cl1_rcomp,cl1_ident,cl1_rid,vdA,↓vd_end,↓vdm_go,↓vd_op,↓guard_none,↓guard_some,vcel,vgap,List.append_assoc,List.length_append,k5]
        refine ⟨_,_,hcop _,by simp [rowsAt,outR],?_⟩
        simp -dsimp (maxSteps:=4000000) +contextual (disch:=first | omega | decide +kernel) only [↓vsD,vsE,↓Nat.reduceLT,simprocAttr,cl1_in,cl1_p2,cl1_tg,cl1_cid,cl1_comp,cl1_rcomp,cl1_ident,cl1_rid,vdA,↓vd_end,↓vdm_go,↓vd_op,↓guard_none,↓guard_some,vcel,vgap,List.append_assoc,List.length_append,hnp,bytesK,lenK,g1,g2,hlk]
        refine ⟨(i + 1,m + 2,o1,n2,o2,_),(by (try dsimp only); omega),by simp [weaker,Go.PV.look],rfl,hil,by dsimp only; rw [hop,List.length_append,← hI.h1]; rfl,by dsimp only; rw [hoc]; exact hI.h2,fun j hj=>?_,fun j hj=>?_⟩
        ·obtain rfl:j = m + 1:=by dsimp only at hj; omega
         dsimp only
         rw [hop]
         refine yap ?_ _
         rw [List.getElem?_set_self hyl]; simp [encP,Pc.row]
        ·dsimp only; rw [hoc]
         have h1:=hI.y2 j hj
         exact yap (by rw [List.getElem?_set_ne (fun e=>by rw [e,h1] at hy; simp at hy)]; exact h1) _
   ·have hie:i = r.length:=by omega
    rw [hie,List.take_length] at hI
    have hsf:=out_sf hoa.o hob.o hr hrm
    have hfin:∀ Q A B,Frz 0 Q A (.sl (encP (outP a b r))) → Frz 0 Q B (.sl (encD (outC a b r))) → Go.PV.Fin [] (fun q _=>RgRes a b q) (.tup [.agg [A,B],.int .i64 0]) Q:=fun Q A B hA hB =>
     fin0 (.tup _ [stV ⟨outP a b r,outC a b r⟩,.int .i64 0] rfl (fun j p hj=>by
      match j,hj with
      | 0,hj=>simp at hj; subst hj; exact frz_st (s:=⟨outP a b r,outC a b r⟩) hA hB
      | 1,hj=>simp at hj; subst hj; exact .keep _ (bel_int _ _ _)
      | j + 2,hj=>simp at hj)) (.inr ⟨hoa,hob,_,hsf,rfl⟩)
    cases n1 with
    | zero =>
     have hz:outP a b r = []:=List.eq_nil_of_length_eq_zero hI.h1.symm
     cases n2 with
     | zero =>
      have hz2:outC a b r = []:=List.eq_nil_of_length_eq_zero hI.h2.symm
      simp -dsimp (maxSteps:=4000000) +contextual (disch:=first | omega | decide +kernel) only [↓vsD,vsE,↓Nat.reduceLT,simprocAttr,cl1_in,cl1_p2,cl1_tg,cl1_cid,cl1_comp,cl1_rcomp,cl1_ident,cl1_rid,vcel,encD_length]
      exact hfin _ _ _ (by rw [hz]; exact .nils) (by rw [hz2]; exact .nils)
     | succ m =>
      simp -dsimp (maxSteps:=4000000) +contextual (disch:=first | omega | decide +kernel) only [↓vsD,vsE,↓Nat.reduceLT,simprocAttr,cl1_in,cl1_p2,cl1_tg,cl1_cid,cl1_comp,cl1_rcomp,cl1_ident,cl1_rid,vcel,encD_length]
      exact hfin _ _ _ (by rw [hz]; exact .nils) (Frz.msl0 (elem:=58) (sz:=3) (Nat.zero_le _) (by simpa using hI.y2 m rfl) (encD_bel _ _))
    | succ m1 =>
     have hA:=hI.y1 m1 rfl
     cases n2 with
     | zero =>
      have hz2:outC a b r = []:=List.eq_nil_of_length_eq_zero hI.h2.symm
      simp -dsimp (maxSteps:=4000000) +contextual (disch:=first | omega | decide +kernel) only [↓vsD,vsE,↓Nat.reduceLT,simprocAttr,cl1_in,cl1_p2,cl1_tg,cl1_cid,cl1_comp,cl1_rcomp,cl1_ident,cl1_rid,vcel,encD_length]
      exact hfin _ _ _ (Frz.msl0 (elem:=32) (sz:=5) (Nat.zero_le _) (by simpa using hA) (encP_bel _ _)) (by rw [hz2]; exact .nils)
     | succ m =>
      simp -dsimp (maxSteps:=4000000) +contextual (disch:=first | omega | decide +kernel) only [↓vsD,vsE,↓Nat.reduceLT,simprocAttr,cl1_in,cl1_p2,cl1_tg,cl1_cid,cl1_comp,cl1_rcomp,cl1_ident,cl1_rid,vcel,encD_length]
      exact hfin _ _ _ (Frz.msl0 (elem:=32) (sz:=5) (Nat.zero_le _) (by simpa using hA) (encP_bel _ _)) (Frz.msl0 (elem:=58) (sz:=3) (Nat.zero_le _) (by simpa using hI.y2 m rfl) (encD_bel _ _))
  ·rw [stB_f hob]
   simp -dsimp (maxSteps:=4000000) +contextual (disch:=first | omega | decide +kernel) only [↓vsD,vsE,↓Nat.reduceLT,simprocAttr,cl1_in,cl1_p2,cl1_tg,cl1_cid,cl1_comp,cl1_rcomp,cl1_ident,cl1_rid,k0,vcel]
   exact fno (fun h=>hob h.2) _
 ·rw [stB_f hoa]
  simp -dsimp (maxSteps:=4000000) +contextual (disch:=first | omega | decide +kernel) only [↓vsD,vsE,↓Nat.reduceLT,simprocAttr,cl1_in,cl1_p2,cl1_tg,cl1_cid,cl1_comp,cl1_rcomp,cl1_ident,cl1_rid,k0,vcel]
  exact fno (fun h=>hoa h.1) _
theorem bel_rg {a b:StS} {q:PV} (h:RgRes a b q):Bel 0 q:=by
 rcases h with ⟨_,rfl⟩ | ⟨_,_,m,_,rfl⟩
 ·exact bel_tup2 (bel_st _ _) (bel_int _ _ _)
 ·exact bel_tup2 (bel_st _ _) (bel_int _ _ _)
theorem rmerge_on (a b:StS) (ha:FitS a) (hb:FitS b) (hxa:∀ p ∈ a.ps,∀ x ∈ p.fs,SmC x) (hxb:∀ p ∈ b.ps,∀ x ∈ p.fs,SmC x) (hsz:sizeS a + sizeS b ≤ 256) (σ:Store) :
  PCall Try.prog 23 [stV a,stV b] σ (fun q τ=>RgRes a b q ∧ τ = σ) :=
 PCall.lift (rmerge_w a b ha hb hxa hxb hsz) (bel2 (bel_st _ _) (bel_st _ _)) (fun q h=>⟨bel_rg h,h,rfl⟩)
def oneS (p:Pc):StS:=⟨[p],[]⟩
theorem oneS_ok {p:Pc} (h:OkPc p):OkSt (oneS p):=⟨by simp [oneS],⟨List.pairwise_singleton _ _,.nil,fun q _=>by simp [oneS]⟩,fun i hi=>by
 have:i = 0:=by simp [oneS] at hi; exact hi
 subst this
 exact h⟩
theorem oneS_fit {p:Pc} (h:FitP p):FitS (oneS p):=⟨by simp [oneS],by simp [oneS],fun q hq=>by simp [oneS] at hq; rw [hq]; exact h⟩
def AdRes (f:StS → StS) (s:StS) (p:Pc) (q:PV):Prop :=
 (¬ OkSt s ∧ q = .tup [stV ⟨[],[]⟩,.int .i64 20]) ∨ (OkSt s ∧ ¬ OkPc p ∧ q = .tup [stV ⟨[],[]⟩,.int .i64 21]) ∨ (OkSt s ∧ OkPc p ∧ ∃ m,Sf m [s,oneS p] ∧ q = .tup [stV (f m),.int .i64 0])
theorem bel_ad {f:StS → StS} {s:StS} {p:Pc} {q:PV} (h:AdRes f s p q):Bel 0 q:=by
 rcases h with ⟨_,rfl⟩ | ⟨_,_,rfl⟩ | ⟨_,_,m,_,rfl⟩ <;> exact bel_tup2 (bel_st _ _) (bel_int _ _ _)
theorem fin_err {f:StS → StS} {s:StS} {p:Pc} {e:Int} (h:AdRes f s p (.tup [stV ⟨[],[]⟩,.int .i64 e])) (σ':Store):Go.PV.Fin [] (fun q _=>AdRes f s p q) (.tup [.agg [.nils,.nils],.int .i64 e]) σ' :=
 fin0 (.tup _ [stV ⟨[],[]⟩,.int .i64 e] rfl (fun j q hj=>by
  match j,hj with
  | 0,hj=>simp at hj; subst hj; exact frz_st (s:=⟨[],[]⟩) .nils .nils
  | 1,hj=>simp at hj; subst hj; exact .keep _ (bel_int _ _ _)
  | j + 2,hj=>simp at hj)) h
set_option maxHeartbeats 4000000 in
theorem radd_w (s:StS) (p:Pc) (hs:FitS s) (hp:FitP p) (hxs:∀ p ∈ s.ps,∀ x ∈ p.fs,SmC x) (hxp:∀ x ∈ p.fs,SmC x) (hsz:sizeS s + 1 ≤ 256) :
  PCall Try.prog 18 [stV s,.agg p.row] [] (fun q _=>AdRes (fun m=>m) s p q):=by
 have k0:∀ args σ,cl1.f 16 args σ = none:=fun _ _=>rfl
 have k1:∀ args σ,cl1.f 45 args σ = none:=fun _ _=>rfl
 have k2:∀ args σ,cl1.f 23 args σ = none:=fun _ _=>rfl
 have hv:=rsval_on s hs
 have hpv:=rpval_on p hp
 have hm:=rmerge_on s (oneS p) hs (oneS_fit hp) hxs (fun q hq=>by simp [oneS] at hq; rw [hq]; exact hxp) (by simpa [sizeS,oneS] using hsz)
 unfold stV at hv hm
 unfold Pc.row at hpv
 unfold stV Pc.row
 refine PCall.vfrz [] 4415 21 [.cell 4 26,.tmp 5] cl1_ok mix Try.func18 rfl (by decide) rfl rfl (by simp) ?_
 simp -dsimp only [initFr,List.zipIdx_cons,List.zipIdx_nil,List.map_cons,List.map_nil,Nat.zero_add,Nat.reduceAdd]
 simp -dsimp (maxSteps:=4000000) +contextual (disch:=first | omega | decide +kernel) only [↓vsD,vsE,↓Nat.reduceLT,simprocAttr,cl1_in,cl1_p2,cl1_tg,cl1_cid,cl1_comp,cl1_rcomp,cl1_ident,cl1_rid,k0,vcel]
 refine PCall.mono (hv _) ?_
 rintro q τ ⟨rfl,rfl⟩
 by_cases hos:OkSt s
 ·rw [stB_t hos]
  simp -dsimp (maxSteps:=4000000) +contextual (disch:=first | omega | decide +kernel) only [↓vsD,vsE,↓Nat.reduceLT,simprocAttr,cl1_in,cl1_p2,cl1_tg,cl1_cid,cl1_comp,cl1_rcomp,cl1_ident,cl1_rid,k1,vcel]
  refine PCall.mono (hpv _) ?_
  rintro q τ ⟨rfl,rfl⟩
  by_cases hop:OkPc p
  ·rw [pcB_t hop]
   simp -dsimp (maxSteps:=4000000) +contextual (disch:=first | omega | decide +kernel) only [↓vsD,vsE,↓Nat.reduceLT,simprocAttr,cl1_in,cl1_p2,cl1_tg,cl1_cid,cl1_comp,cl1_rcomp,cl1_ident,cl1_rid,k2,vcel]
   refine PCall.frz [] (args2:=[.agg [.sl (encP s.ps),.sl (encD s.cs)],.agg [.sl (encP (oneS p).ps),.sl (encD (oneS p).cs)]]) (PCall.mono (hm _) ?_) rfl (fun j a b h1 h2=>?_)
   ·rintro q τ ⟨hq,rfl⟩
    rcases hq with ⟨h,_⟩ | ⟨_,_,m,hsf,rfl⟩
    ·exact absurd ⟨hos,oneS_ok hop⟩ h
    ·unfold stV
     simp -dsimp only [killZ]
     simp -dsimp (maxSteps:=4000000) +contextual (disch:=first | omega | decide +kernel) only [↓vsD,vsE,↓Nat.reduceLT,simprocAttr,cl1_in,cl1_p2,cl1_tg,cl1_cid,cl1_comp,cl1_rcomp,cl1_ident,cl1_rid,vcel]
     exact fin0 (.keep _ (bel_tup2 (bel_st 0 ((fun m=>m) m)) (bel_int _ _ _))) (.inr (.inr ⟨hos,hop,m,hsf,rfl⟩))
   ·match j,h1,h2 with
    | 0,h1,h2=>simp at h1 h2; subst h1 h2; exact .keep _
    | 1,h1,h2 =>
     simp at h1 h2
     subst h1 h2
     refine .agg _ _ rfl (fun i c hc=>?_)
     match i,hc with
     | 0,hc=>simp at hc; subst hc; exact .keep _
     | 1,hc=>simp at hc; subst hc; exact .nils
     | i + 2,hc=>simp at hc
    | j + 2,h1,h2=>simp at h1
  ·rw [pcB_f hop]
   simp -dsimp (maxSteps:=4000000) +contextual (disch:=first | omega | decide +kernel) only [↓vsD,vsE,↓Nat.reduceLT,simprocAttr,cl1_in,cl1_p2,cl1_tg,cl1_cid,cl1_comp,cl1_rcomp,cl1_ident,cl1_rid,k1,vcel]
   exact fin_err (.inr (.inl ⟨hos,hop,rfl⟩)) _
 ·rw [stB_f hos]
  simp -dsimp (maxSteps:=4000000) +contextual (disch:=first | omega | decide +kernel) only [↓vsD,vsE,↓Nat.reduceLT,simprocAttr,cl1_in,cl1_p2,cl1_tg,cl1_cid,cl1_comp,cl1_rcomp,cl1_ident,cl1_rid,k0,vcel]
  exact fin_err (.inl ⟨hos,rfl⟩) _
theorem radd_on (s:StS) (p:Pc) (hs:FitS s) (hp:FitP p) (hxs:∀ p ∈ s.ps,∀ x ∈ p.fs,SmC x) (hxp:∀ x ∈ p.fs,SmC x) (hsz:sizeS s + 1 ≤ 256) (σ:Store) :
  PCall Try.prog 18 [stV s,.agg p.row] σ (fun q τ=>AdRes (fun m=>m) s p q ∧ τ = σ) :=
 PCall.lift (radd_w s p hs hp hxs hxp hsz) (bel2 (bel_st _ _) (bel_pc _ _)) (fun q h=>⟨bel_ad h,h,rfl⟩)
set_option maxHeartbeats 4000000 in
theorem add_w (s:StS) (p:Pc) (hs:FitS s) (hp:FitP p) (hxs:∀ p ∈ s.ps,∀ x ∈ p.fs,SmC x) (hxp:∀ x ∈ p.fs,SmC x) (N:Nat) (hU:UnionOk N) (hN:s.cs.length + 2 ≤ N) :
  PCall Try.prog 17 [stV s,.agg p.row] [] (fun q _=>AdRes leastS s p q):=by
 have k0:∀ args σ,cl1.f 15 args σ = none:=fun _ _=>rfl
 have k1:∀ args σ,cl1.f 41 args σ = none:=fun _ _=>rfl
 have k2:∀ args σ,cl1.f 22 args σ = none:=fun _ _=>rfl
 have hv:=sval_on s hs
 have hpv:=pval_on p hp
 have hm:=merge_on N hU s (oneS p) hs (oneS_fit hp) hxs (fun q hq=>by simp [oneS] at hq; rw [hq]; exact hxp) (by simp only [oneS,List.length_nil,List.length_cons]; omega)
 unfold stV at hv hm
 unfold Pc.row at hpv
 unfold stV Pc.row
 refine PCall.vfrz [] 2175 23 [.cell 4 26,.tmp 5] cl1_ok mix Try.func17 rfl (by decide) rfl rfl (by simp) ?_
 simp -dsimp only [initFr,List.zipIdx_cons,List.zipIdx_nil,List.map_cons,List.map_nil,Nat.zero_add,Nat.reduceAdd]
 simp -dsimp (maxSteps:=4000000) +contextual (disch:=first | omega | decide +kernel) only [↓vsD,vsE,↓Nat.reduceLT,simprocAttr,cl1_in,cl1_p2,cl1_tg,cl1_cid,cl1_comp,cl1_rcomp,cl1_ident,cl1_rid,k0,vcel]
 refine PCall.mono (hv _) ?_
 rintro q τ ⟨rfl,rfl⟩
 by_cases hos:OkSt s
 ·rw [stB_t hos]
  simp -dsimp (maxSteps:=4000000) +contextual (disch:=first | omega | decide +kernel) only [↓vsD,vsE,↓Nat.reduceLT,simprocAttr,cl1_in,cl1_p2,cl1_tg,cl1_cid,cl1_comp,cl1_rcomp,cl1_ident,cl1_rid,k1,vcel]
  refine PCall.mono (hpv _) ?_
  rintro q τ ⟨rfl,rfl⟩
  by_cases hop:OkPc p
  ·rw [pcB_t hop]
   simp -dsimp (maxSteps:=4000000) +contextual (disch:=first | omega | decide +kernel) only [↓vsD,vsE,↓Nat.reduceLT,simprocAttr,cl1_in,cl1_p2,cl1_tg,cl1_cid,cl1_comp,cl1_rcomp,cl1_ident,cl1_rid,k2,vcel]
   refine PCall.frz [] (args2:=[.agg [.sl (encP s.ps),.sl (encD s.cs)],.agg [.sl (encP (oneS p).ps),.sl (encD (oneS p).cs)]]) (PCall.mono (hm _) ?_) rfl (fun j a b h1 h2=>?_)
   ·rintro q τ ⟨hq,rfl⟩
    rcases hq with ⟨h,_⟩ | ⟨_,_,m,hsf,rfl⟩
    ·exact absurd ⟨hos,oneS_ok hop⟩ h
    ·unfold stV
     simp -dsimp only [killZ]
     simp -dsimp (maxSteps:=4000000) +contextual (disch:=first | omega | decide +kernel) only [↓vsD,vsE,↓Nat.reduceLT,simprocAttr,cl1_in,cl1_p2,cl1_tg,cl1_cid,cl1_comp,cl1_rcomp,cl1_ident,cl1_rid,vcel]
     exact fin0 (.keep _ (bel_tup2 (bel_st 0 (leastS m)) (bel_int _ _ _))) (.inr (.inr ⟨hos,hop,m,hsf,rfl⟩))
   ·match j,h1,h2 with
    | 0,h1,h2=>simp at h1 h2; subst h1 h2; exact .keep _
    | 1,h1,h2 =>
     simp at h1 h2
     subst h1 h2
     refine .agg _ _ rfl (fun i c hc=>?_)
     match i,hc with
     | 0,hc=>simp at hc; subst hc; exact .keep _
     | 1,hc=>simp at hc; subst hc; exact .nils
     | i + 2,hc=>simp at hc
    | j + 2,h1,h2=>simp at h1
  ·rw [pcB_f hop]
   simp -dsimp (maxSteps:=4000000) +contextual (disch:=first | omega | decide +kernel) only [↓vsD,vsE,↓Nat.reduceLT,simprocAttr,cl1_in,cl1_p2,cl1_tg,cl1_cid,cl1_comp,cl1_rcomp,cl1_ident,cl1_rid,k1,vcel]
   exact fin_err (.inr (.inl ⟨hos,hop,rfl⟩)) _
 ·rw [stB_f hos]
  simp -dsimp (maxSteps:=4000000) +contextual (disch:=first | omega | decide +kernel) only [↓vsD,vsE,↓Nat.reduceLT,simprocAttr,cl1_in,cl1_p2,cl1_tg,cl1_cid,cl1_comp,cl1_rcomp,cl1_ident,cl1_rid,k0,vcel]
  exact fin_err (.inl ⟨hos,rfl⟩) _
theorem add_on (s:StS) (p:Pc) (hs:FitS s) (hp:FitP p) (hxs:∀ p ∈ s.ps,∀ x ∈ p.fs,SmC x) (hxp:∀ x ∈ p.fs,SmC x) (N:Nat) (hU:UnionOk N) (hN:s.cs.length + 2 ≤ N) (σ:Store) :
  PCall Try.prog 17 [stV s,.agg p.row] σ (fun q τ=>AdRes leastS s p q ∧ τ = σ) :=
 PCall.lift (add_w s p hs hp hxs hxp N hU hN) (bel2 (bel_st _ _) (bel_pc _ _)) (fun q h=>⟨bel_ad h,h,rfl⟩)
theorem st_eq {a b:StS}:a = b ↔ a.ps = b.ps ∧ a.cs = b.cs:=by
 cases a; cases b; simp
end Go.Proofs.Ythjoehaglonjaaa
