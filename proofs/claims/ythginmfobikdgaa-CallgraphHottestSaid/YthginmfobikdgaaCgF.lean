import Derived.Test.YthginmfobikdgaaCgE
set_option maxRecDepth 8000
set_option linter.unusedSimpArgs false
set_option linter.unusedVariables false
namespace Go.Proofs.Ythginmfobikdgaa
open Go.PV Tj
theorem anyNone {p:Int → Bool} {l:List Int} (h:∀ j,j < l.length → p (l.getD j 0) = false):l.any p = false:=by
 rw [Bool.eq_false_iff]
 intro h2
 obtain ⟨x,hx,hp⟩:=List.any_eq_true.1 h2
 obtain ⟨i,hi,rfl⟩:=List.mem_iff_getElem.1 hx
 have:=h i hi
 rw [List.getD_eq_getElem?_getD,List.getElem?_eq_getElem hi,Option.getD_some] at this
 rw [this] at hp
 cases hp
theorem anySome {p:Int → Bool} {l:List Int} {j:Nat} (hj:j < l.length) (h:p (l.getD j 0) = true):l.any p = true:=List.any_eq_true.2 ⟨_,Tj.getD_mem _ hj,h⟩
theorem indexI (l:List Int) (hl:l.length < 2 ^ 63) (F:FuncId) (cap:List PV) (p:Int → Bool) (σ:Store) (hFn:∀ args σ,noE.f F args σ = none) (hF:∀ x ∈ l,PCall Try.prog F (.int .i64 x :: cap) σ (fun q τ=>q = .bool (p x) ∧ τ = σ)) :
  PCall Try.prog 83 [.sl (ints l),.func (.func F) [] cap] σ (fun q τ=>(∃ r:Int,q = .int .i64 r ∧ (0 ≤ r ↔ l.any p = true)) ∧ τ = σ):=by
 have el:(ints l).length = l.length:=enc_length _ _
 refine PCall.vraw [] 66495 19 [.tmp 4] (noE_ok _) mix Try.func83 rfl (by decide) rfl rfl (by simp) ?_
 simp -dsimp only [initFr,List.zipIdx_cons,List.zipIdx_nil,List.map_cons,List.map_nil,Nat.zero_add,Nat.reduceAdd]
 simp -dsimp (maxSteps:=4000000) +contextual (disch:=first | omega | decide +kernel) only [↓vsD,vsE,↓Nat.reduceLT,simprocAttr,el]
 refine v_loopS (fun k:Nat=>[(0,.sl (ints l)),(1,.func (.func F) [] cap),(7,.int .i64 l.length),(8,.int .i64 (k:Int))]) (fun _=>σ) (fun k=>k ≤ l.length ∧ ∀ j,j < k → p (l.getD j 0) = false) (fun k=>l.length - k) 0 (by simp [weaker,Go.PV.look]) rfl ⟨Nat.zero_le _,fun j h=>absurd h (Nat.not_lt_zero _)⟩ ?_
 rintro k ⟨hk,hp⟩
 by_cases hkl:k < l.length
 ·have hc:=hF _ (Tj.getD_mem l hkl)
  have hg:=ints_gD l k hkl
  simp -dsimp (maxSteps:=4000000) +contextual (disch:=first | omega | decide +kernel) only [↓vsD,vsE,↓Nat.reduceLT,simprocAttr,el,hg,hFn]
  refine PCall.mono hc ?_
  rintro q τ ⟨rfl,rfl⟩
  obtain ⟨b,hb⟩:∃ b,b = p (l.getD k 0):=⟨_,rfl⟩
  rw [← hb]
  cases b with
  | true =>
   simp -dsimp (maxSteps:=4000000) +contextual (disch:=first | omega | decide +kernel) only [↓vsD,vsE,↓Nat.reduceLT,simprocAttr]
   exact ⟨_,rfl,fun _=>anySome hkl hb.symm,fun _=>by omega⟩
  | false =>
   have hk1:k + 1 ≤ l.length:=hkl
   simp -dsimp (maxSteps:=4000000) +contextual (disch:=first | omega | decide +kernel) only [↓vsD,vsE,↓Nat.reduceLT,simprocAttr]
   exact ⟨k + 1,(by (try dsimp only); omega),by simp [weaker,Go.PV.look],rfl,hk1,fun j hj=>by
    rcases Nat.lt_succ_iff_lt_or_eq.1 hj with h | rfl
    ·exact hp j h
    ·exact hb.symm⟩
 ·have:=anyNone (l:=l) (p:=p) (fun j hj=>hp j (by omega))
  simp -dsimp (maxSteps:=4000000) +contextual (disch:=first | omega | decide +kernel) only [↓vsD,vsE,↓Nat.reduceLT,simprocAttr,el]
  exact ⟨_,rfl,fun h=>absurd h (by omega),fun h=>by rw [this] at h; cases h⟩
theorem contI (l:List Int) (hl:l.length < 2 ^ 63) (F:FuncId) (cap:List PV) (p:Int → Bool) (σ:Store) (hFn:∀ args σ,noE.f F args σ = none) (hF:∀ x ∈ l,PCall Try.prog F (.int .i64 x :: cap) σ (fun q τ=>q = .bool (p x) ∧ τ = σ)) :
  PCall Try.prog 51 [.sl (ints l),.func (.func F) [] cap] σ (fun q τ=>q = .bool (l.any p) ∧ τ = σ):=by
 refine PCall.vraw [] 31 9 [.tmp 4] (noE_ok _) mix Try.func51 rfl (by decide) rfl rfl (by simp) ?_
 simp -dsimp only [initFr,List.zipIdx_cons,List.zipIdx_nil,List.map_cons,List.map_nil,Nat.zero_add,Nat.reduceAdd]
 simp -dsimp (maxSteps:=4000000) +contextual (disch:=first | omega | decide +kernel) only [↓vsD,vsE,↓Nat.reduceLT,simprocAttr]
 refine PCall.mono (indexI l hl F cap p σ hFn hF) ?_
 rintro q τ ⟨⟨r,rfl,hr⟩,rfl⟩
 simp -dsimp (maxSteps:=4000000) +contextual (disch:=first | omega | decide +kernel) only [↓vsD,vsE,↓Nat.reduceLT,simprocAttr]
 exact ⟨fun h=>(hr.1 h).symm,fun h=>by
  cases hb:l.any p with
  | false=>rfl
  | true=>exact absurd (hr.2 hb) h⟩
theorem idx_ok (l:List Int) (hl:l.length < 2 ^ 63) (x:Int) (σ:Store) :
  PCall Try.prog 84 [.sl (ints l),.int .i64 x] σ (fun q τ=>(∃ r:Int,q = .int .i64 r ∧ (0 ≤ r ↔ l.any (fun y=>decide (x = y)) = true)) ∧ τ = σ):=by
 have el:(ints l).length = l.length:=enc_length _ _
 refine PCall.vraw [] 66495 19 [.tmp 4] (noE_ok _) mix Try.func84 rfl (by decide) rfl rfl (by simp) ?_
 simp -dsimp only [initFr,List.zipIdx_cons,List.zipIdx_nil,List.map_cons,List.map_nil,Nat.zero_add,Nat.reduceAdd]
 simp -dsimp (maxSteps:=4000000) +contextual (disch:=first | omega | decide +kernel) only [↓vsD,vsE,↓Nat.reduceLT,simprocAttr,el]
 refine v_loopS (fun k:Nat=>[(0,.sl (ints l)),(1,.int .i64 x),(7,.int .i64 l.length),(8,.int .i64 (k:Int))]) (fun _=>σ) (fun k=>k ≤ l.length ∧ ∀ j,j < k → (fun y=>decide (x = y)) (l.getD j 0) = false) (fun k=>l.length - k) 0 (by simp [weaker,Go.PV.look]) rfl ⟨Nat.zero_le _,fun j h=>absurd h (Nat.not_lt_zero _)⟩ ?_
 rintro k ⟨hk,hp⟩
 by_cases hkl:k < l.length
 ·have hg:=ints_gD l k hkl
  simp -dsimp (maxSteps:=4000000) +contextual (disch:=first | omega | decide +kernel) only [↓vsD,vsE,↓Nat.reduceLT,simprocAttr,el,hg]
  refine ⟨fun h=>⟨_,rfl,fun _=>anySome hkl (by simp [h]),fun _=>by omega⟩,fun h=>⟨k + 1,(by (try dsimp only); omega),by simp [weaker,Go.PV.look],rfl,hkl,fun j hj=>?_⟩⟩
  rcases Nat.lt_succ_iff_lt_or_eq.1 hj with h2 | rfl
  ·exact hp j h2
  ·simpa using h
 ·have:=anyNone (l:=l) (p:=fun y=>decide (x = y)) (fun j hj=>hp j (by omega))
  simp -dsimp (maxSteps:=4000000) +contextual (disch:=first | omega | decide +kernel) only [↓vsD,vsE,↓Nat.reduceLT,simprocAttr,el]
  exact ⟨_,rfl,fun h=>absurd h (by omega),fun h=>by rw [this] at h; cases h⟩
theorem cont_ok (l:List Int) (hl:l.length < 2 ^ 63) (x:Int) (σ:Store) :
  PCall Try.prog 53 [.sl (ints l),.int .i64 x] σ (fun q τ=>q = .bool (l.any fun y=>decide (x = y)) ∧ τ = σ):=by
 refine PCall.vraw [] 31 9 [.tmp 4] (noE_ok _) mix Try.func53 rfl (by decide) rfl rfl (by simp) ?_
 simp -dsimp only [initFr,List.zipIdx_cons,List.zipIdx_nil,List.map_cons,List.map_nil,Nat.zero_add,Nat.reduceAdd]
 simp -dsimp (maxSteps:=4000000) +contextual (disch:=first | omega | decide +kernel) only [↓vsD,vsE,↓Nat.reduceLT,simprocAttr]
 refine PCall.mono (idx_ok l hl x σ) ?_
 rintro q τ ⟨⟨r,rfl,hr⟩,rfl⟩
 simp -dsimp (maxSteps:=4000000) +contextual (disch:=first | omega | decide +kernel) only [↓vsD,vsE,↓Nat.reduceLT,simprocAttr]
 exact ⟨fun h=>(hr.1 h).symm,fun h=>by
  cases hb:l.any (fun y=>decide (x = y)) with
  | false=>rfl
  | true=>exact absurd (hr.2 hb) h⟩
def boolsR (l:List Bool):List (List PV):=l.map fun b=>[.bool b]
theorem boolsR_len (l:List Bool):(boolsR l).length = l.length:=by simp [boolsR]
theorem boolsR_at (l:List Bool) (k:Nat) (hk:k < l.length):(boolsR l).getD k [] = [.bool (l.getD k false)]:=by simp [boolsR,List.getD_eq_getElem?_getD,hk]
theorem bad_ok {n:Nat} {C:List (List Int)} {S:TJ} {K:PV} (hF:FinJ n C S n) (dn:List Bool) (hdn:dn.length = S.sets.length) (s:Nat) (a b c o v:Nat) (g:Int) (hg:nd n g) (σ:Store)
  (ha:σ[a]? = some (.rows 114 1 [[findV C S K]] 0)) (hb:σ[b]? = some (.rows 3 1 [[.int .i64 s]] 0)) (hc:σ[c]? = some (.rows 38 1 [[.msl o v]] 0)) (ho:σ[o]? = some (.rows 4 1 (boolsR dn) v)) :
  PCall Try.prog 52 [.int .i64 g,.ptr a 0 0 0,.ptr b 0 0 0,.ptr c 0 0 0] σ (fun q τ=>q = .bool (decide (S.st g ≠ s) && !(dn.getD (S.st g).toNat false)) ∧ τ = σ):=by
 have hgt:g.toNat < n:=by have:=hg.1; have:=hg.2; omega
 have hg0:=hg.1
 have b3:=ints_gD S.set g.toNat (by rw [hF.wf.ls]; exact hgt)
 have l3:(ints S.set).length = n:=by rw [show (ints S.set).length = S.set.length from enc_length _ _,hF.wf.ls]
 have hst:=hF.all g hg
 have hrg:=(hF.wf.rng g hg).2
 have bl:=boolsR_len dn
 have bt:=boolsR_at dn (S.st g).toNat (by omega)
 obtain ⟨t,ht⟩:∃ t,t = S.st g:=⟨_,rfl⟩
 have ht2:S.set.getD g.toNat 0 = t:=ht.symm
 rw [← ht] at hst hrg bt ⊢
 rw [ht2] at b3
 unfold findV at ha
 refine PCall.vraw [] 63 28 [.tmp 5] (noE_ok _) mix Try.func52 rfl (by decide) rfl rfl (by simp) ?_
 simp -dsimp only [initFr,List.zipIdx_cons,List.zipIdx_nil,List.map_cons,List.map_nil,Nat.zero_add,Nat.reduceAdd]
 cases hd:dn.getD t.toNat false with
 | false =>
  rw [hd] at bt
  simp -dsimp (maxSteps:=4000000) +contextual (disch:=first | omega | decide +kernel) only [↓vsD,vsE,↓Nat.reduceLT,simprocAttr,vcel,ha,hb,hc,ho,b3,l3,bl,bt]
  exact ⟨fun _=>trivial,fun _=>trivial⟩
 | true =>
  rw [hd] at bt
  simp -dsimp (maxSteps:=4000000) +contextual (disch:=first | omega | decide +kernel) only [↓vsD,vsE,↓Nat.reduceLT,simprocAttr,vcel,ha,hb,hc,ho,b3,l3,bl,bt]
  exact ⟨fun _=>trivial,fun _=>trivial⟩
noncomputable def rdyB (C:List (List Int)) (S:TJ) (dn:List Bool) (s:Nat):Bool:=@decide (rdy C S dn s) (Classical.propDecidable _)
theorem rdyB_t {C:List (List Int)} {S:TJ} {dn:List Bool} {s:Nat} (h:rdy C S dn s):rdyB C S dn s = true:=by unfold rdyB; simpa using h
theorem rdyB_f {C:List (List Int)} {S:TJ} {dn:List Bool} {s:Nat} (h:¬ rdy C S dn s):rdyB C S dn s = false:=by unfold rdyB; simpa using h
theorem nd_len {n:Nat} {l:List Int} (hn:l.Nodup) (h:∀ g ∈ l,nd n g):l.length ≤ n:=by
 have h1:(l.map Int.toNat).Nodup:=List.pairwise_map.2 (List.Pairwise.imp_of_mem (fun {a b} ha hb hab e=>hab (by have:=(h a ha).1; have:=(h b hb).1; omega)) hn)
 have:=nodup_le_len h1 (m:=List.range n) (fun x hx=>by
  obtain ⟨g,hg,rfl⟩:=List.mem_map.1 hx
  have:=(h g hg).1
  have:=(h g hg).2
  exact List.mem_range.2 (by omega))
 simpa using this
theorem sets_le {n:Nat} {C:List (List Int)} {S:TJ} (h:FinJ n C S n) (s:Nat) (hs:s < S.sets.length):(S.sets.getD s []).length ≤ n :=
 nd_len (h.wf.nod s hs) (fun g hg=>((h.wf.mem s g hs).1 hg).1)
set_option maxHeartbeats 8000000 in
theorem ready_ok {n:Nat} (hn1:n ≤ 1000) {C:List (List Int)} {S:TJ} {K:PV} (hC:OkC n C) (hCl:C.length = n) (hCb:∀ l ∈ C,l.length ≤ 1000) (hF:FinJ n C S n) (dn:List Bool) (hdn:dn.length = S.sets.length) (s:Nat) (hs:s < S.sets.length) (hsz:(S.sets.getD s []).length ≤ 1000) (a c o v:Nat) (σ:Store)
  (ha:σ[a]? = some (.rows 114 1 [[findV C S K]] 0)) (hc:σ[c]? = some (.rows 38 1 [[.msl o v]] 0)) (ho:σ[o]? = some (.rows 4 1 (boolsR dn) v)) :
  PCall Try.prog 50 [.int .i64 s,.ptr a 0 0 0,.ptr c 0 0 0] σ (fun q τ=>q = .bool (rdyB C S dn s) ∧ τ = σ ++ [.rows 3 1 [[.int .i64 s]] 0]):=by
 have k0:∀ args σ,noE.f 51 args σ = none:=fun _ _=>rfl
 have k1:∀ args σ,noE.f 52 args σ = none:=fun _ _=>rfl
 have hal:=(List.getElem?_eq_some_iff.1 ha).1
 have hcl:=(List.getElem?_eq_some_iff.1 hc).1
 have hol:=(List.getElem?_eq_some_iff.1 ho).1
 have ga:∀ X,(σ ++ X)[a]? = some (.rows 114 1 [[findV C S K]] 0):=fun X=>by rw [List.getElem?_append_left hal,ha]
 have gc:∀ X,(σ ++ X)[c]? = some (.rows 38 1 [[.msl o v]] 0):=fun X=>by rw [List.getElem?_append_left hcl,hc]
 have go:∀ X,(σ ++ X)[o]? = some (.rows 4 1 (boolsR dn) v):=fun X=>by rw [List.getElem?_append_left hol,ho]
 have eS:(intss S.sets).length = S.sets.length:=encs_length _ _
 have aS:=intss_at S.sets s hs
 have eC:(intss C).length = n:=by rw [show (intss C).length = C.length from encs_length _ _,hCl]
 have bl:=boolsR_len dn
 have bs:=boolsR_at dn s (by omega)
 obtain ⟨fs,hfs⟩:∃ fs,fs = S.sets.getD s []:=⟨_,rfl⟩
 rw [← hfs] at aS hsz
 have ef:(ints fs).length = fs.length:=enc_length _ _
 have ga2:=ga
 unfold findV at ga2
 refine PCall.vraw [] 134340735 34 [.tmp 4] (noE_ok _) mix Try.func50 rfl (by decide) rfl rfl (by simp) ?_
 simp -dsimp only [initFr,List.zipIdx_cons,List.zipIdx_nil,List.map_cons,List.map_nil,Nat.zero_add,Nat.reduceAdd]
 simp -dsimp (maxSteps:=4000000) +contextual (disch:=first | omega | decide +kernel) only [↓vsD,vsE,↓Nat.reduceLT,simprocAttr,vcel,vgap,ga2,eS,aS,ef]
 have hbad:=fun (X:Store) (b:Nat) (g:Int) (hg:nd n g) (hb:(σ ++ X)[b]? = some (.rows 3 1 [[.int .i64 s]] 0))=>bad_ok hF dn hdn s a b c o v g hg (σ ++ X) (ga X) hb (gc X) (go X)
 refine v_loopS (fun i:Nat=>[(1,.ptr a 0 0 0),(2,.ptr c 0 0 0),(3,.ptr σ.length 0 0 0),(13,.sl (ints fs)),(14,.int .i64 fs.length),(15,.int .i64 (i:Int))]) (fun _=>σ ++ [.rows 3 1 [[.int .i64 s]] 0])
  (fun i=>i ≤ fs.length ∧ ∀ j,j < i → ∀ g ∈ C.getD (fs.getD j 0).toNat [],S.st g = s ∨ dn.getD (S.st g).toNat false = true) (fun i=>fs.length - i) 0 (by simp [weaker,Go.PV.look]) rfl ⟨Nat.zero_le _,fun j h=>by omega⟩ ?_
 rintro i ⟨hi,hI⟩
 by_cases hil:i < fs.length
 ·have hg:=ints_gD fs i hil
  obtain ⟨f,hfe⟩:∃ f,f = fs.getD i 0:=⟨_,rfl⟩
  rw [← hfe] at hg
  have hfm:f ∈ S.sets.getD s []:=by rw [← hfs,hfe]; exact Tj.getD_mem _ hil
  have hfn:=((hF.wf.mem s f hs).1 hfm).1
  have hf0:=hfn.1
  have hf1:=hfn.2
  have aC:=intss_at C f.toNat (by omega)
  obtain ⟨Cf,hCf⟩:∃ Cf,Cf = C.getD f.toNat []:=⟨_,rfl⟩
  rw [← hCf] at aC
  have hCfl:Cf.length ≤ 1000:=hCb _ (by rw [hCf,List.getD_eq_getElem?_getD,List.getElem?_eq_getElem (by omega)]; exact List.getElem_mem _)
  have hcon:=contI Cf (by omega) 52 [.ptr a 0 0 0,.ptr σ.length 0 0 0,.ptr c 0 0 0] (fun g=>decide (S.st g ≠ s) && !(dn.getD (S.st g).toNat false)) (σ ++ [.rows 3 1 [[.int .i64 s]] 0]) k1 (fun g hgm=>hbad _ σ.length g (hC f hfn g (by rw [← hCf]; exact hgm)) (by rw [gapp0]; rfl))
  obtain ⟨bb,hbb⟩:∃ bb,bb = Cf.any (fun g=>decide (S.st g ≠ s) && !(dn.getD (S.st g).toNat false)):=⟨_,rfl⟩
  rw [← hbb] at hcon
  simp -dsimp (maxSteps:=4000000) +contextual (disch:=first | omega | decide +kernel) only [↓vsD,vsE,↓Nat.reduceLT,simprocAttr,vcel,vgap,ga2,hg,ef,eC,aC,k0]
  refine PCall.mono hcon ?_
  rintro q τ ⟨rfl,rfl⟩
  cases bb with
  | true =>
   simp -dsimp (maxSteps:=4000000) +contextual (disch:=first | omega | decide +kernel) only [↓vsD,vsE,↓Nat.reduceLT,simprocAttr,vcel]
   rw [rdyB_f]
   rintro ⟨_,h2⟩
   obtain ⟨g,hgm,hgp⟩:=List.any_eq_true.1 hbb.symm
   have:=h2 f hfm g (by rw [← hCf]; exact hgm)
   simp only [Bool.and_eq_true,decide_eq_true_eq,Bool.not_eq_true'] at hgp
   rcases this with q | q
   ·exact hgp.1 q
   ·rw [hgp.2] at q; cases q
  | false =>
   simp -dsimp (maxSteps:=4000000) +contextual (disch:=first | omega | decide +kernel) only [↓vsD,vsE,↓Nat.reduceLT,simprocAttr,vcel]
   refine ⟨i + 1,(by (try dsimp only); omega),(by simp [weaker,Go.PV.look]),rfl,hil,fun j hj g hgm=>?_⟩
   by_cases e:j = i
   ·subst e
    rw [← hfe,← hCf] at hgm
    have:=List.any_eq_false.1 hbb.symm g hgm
    simp only [Bool.and_eq_true,decide_eq_true_eq,Bool.not_eq_true',not_and,Bool.not_eq_false] at this
    by_cases e2:S.st g = s
    ·exact .inl e2
    ·exact .inr (this e2)
   ·exact hI j (by omega) g hgm
 ·obtain rfl:i = fs.length:=by omega
  cases hd:dn.getD s false with
  | true =>
   rw [hd] at bs
   simp -dsimp (maxSteps:=4000000) +contextual (disch:=first | omega | decide +kernel) only [↓vsD,vsE,↓Nat.reduceLT,simprocAttr,vcel,vgap,gc,go,bl,bs,ef]
   rw [rdyB_f]
   rintro ⟨h1,_⟩
   rw [hd] at h1; cases h1
  | false =>
   rw [hd] at bs
   simp -dsimp (maxSteps:=4000000) +contextual (disch:=first | omega | decide +kernel) only [↓vsD,vsE,↓Nat.reduceLT,simprocAttr,vcel,vgap,gc,go,bl,bs,ef]
   rw [rdyB_t]
   refine ⟨hd,fun f hf g hgm=>?_⟩
   rw [← hfs] at hf
   obtain ⟨j,hj,rfl⟩:=List.mem_iff_getElem.1 hf
   have e:fs.getD j 0 = fs[j]:=by rw [List.getD_eq_getElem?_getD,List.getElem?_eq_getElem hj]; rfl
   exact hI j hj g (by rw [e]; exact hgm)
def outF (S:TJ) (ord:List Nat):List (List Int):=ord.map fun s=>S.sets.getD s []
def OutZ (O:List (List Int)) (o:Nat) (Z:Store):Prop:=∀ j,O.length = j + 1 → Z[o]? = some (.rows 40 1 (intss O) j)
theorem OutZ.app {O:List (List Int)} {o:Nat} {Z:Store} (h:OutZ O o Z) (X:Store):OutZ O o (Z ++ X):=fun j hj=>by
 have:=h j hj
 rw [List.getElem?_append_left (List.getElem?_eq_some_iff.1 this).1,this]
set_option maxHeartbeats 16000000 in
theorem comps_w (L:List (List Int)) (hL:L.length ≤ 1000) (hl:∀ l ∈ L,l.length ≤ 1000):PCall Try.prog 21 [progV L] [] (fun q _=>∃ S out,FinJ L.length (calL L) S L.length ∧ OutR L.length (calL L) S out ∧ q = .sl (intss out)):=by
 have eL:(fnsL L).length = L.length:=fnsL_length _
 have k0:∀ args σ,noE.f 49 args σ = none:=fun _ _=>rfl
 have k1:∀ args σ,noE.f 50 args σ = none:=fun _ _=>rfl
 have hfind:=find_on L hL hl
 unfold progV at hfind ⊢
 refine PCall.vfrz [] 144115196187640831 75 [.tmp 2] (noE_ok _) mix Try.func21 rfl (by decide) rfl rfl (by simp) ?_
 simp -dsimp only [initFr,List.zipIdx_cons,List.zipIdx_nil,List.map_cons,List.map_nil,Nat.zero_add,Nat.reduceAdd]
 simp -dsimp (maxSteps:=4000000) +contextual (disch:=first | omega | decide +kernel) only [↓vsD,vsE,↓Nat.reduceLT,simprocAttr,vcel,k0]
 refine PCall.mono (hfind _) ?_
 rintro p σ' ⟨⟨S,K,hF,hB,hK,rfl⟩,rfl⟩
 obtain ⟨n,hn⟩:∃ n,n = L.length:=⟨_,rfl⟩
 obtain ⟨C,hC⟩:∃ C,C = calL L:=⟨_,rfl⟩
 have hCo:OkC n C:=by rw [hn,hC]; exact calL_ok L
 have hCl:C.length = n:=by rw [hC,hn]; exact calL_length L
 have hCb:∀ l ∈ C,l.length ≤ 1000:=by rw [hC]; exact calL_le L hl
 rw [← hn,← hC] at hF ⊢
 rw [← hn] at hL hB
 have hsl:S.sets.length ≤ 1000:=by have:=hB.f; have:=hB.s; omega
 have eS:(intss S.sets).length = S.sets.length:=encs_length _ _
 unfold findV
 simp -dsimp (maxSteps:=4000000) +contextual (disch:=first | omega | decide +kernel) only [↓vsD,vsE,↓Nat.reduceLT,simprocAttr,vcel,eS,bytesC,lenC]
 obtain ⟨m,hm⟩:∃ m,m = S.sets.length:=⟨_,rfl⟩
 rw [← hm] at hsl eS ⊢
 obtain ⟨X0,hX0⟩:∃ X0:Go.PV.Obj,X0 = .rows 35 4 [[.nils,.sl (fnsL L),.int .i64 0,.int .i64 0]] 0:=⟨_,rfl⟩
 rw [← hX0]
 refine v_loopS (fun s:Nat × List Bool × List Nat × Nat × Store=>[(3,.ptr 1 0 0 0),(4,.ptr 3 0 0 0),(5,.func (.func 50) [] [.ptr 1 0 0 0,.ptr 3 0 0 0]),(6,lastV s.1 (s.2.2.2.1 + 4)),(23,.int .i64 m),(24,.int .i64 (s.1:Int))])
  (fun s=>X0 :: .rows 114 1 [[findV C S K]] 0 :: .rows 4 1 (boolsR s.2.1) 0 :: .rows 38 1 [[.msl 2 0]] 0 :: s.2.2.2.2)
  (fun s=>s.1 ≤ m ∧ ComJ n C S s.2.1 s.2.2.1 ∧ s.2.2.1.length = s.1 ∧ OutZ (outF S s.2.2.1) s.2.2.2.1 s.2.2.2.2) (fun s=>m - s.1) (0,List.replicate m false,[],0,[]) (by simp [weaker,Go.PV.look,lastV]) (by simp [boolsR,findV]) ⟨Nat.zero_le _,by rw [hm]; exact comJ_start,rfl,fun j hj=>by simp [outF] at hj⟩ ?_
 rintro ⟨r,dn,ord,o,Z⟩ ⟨hr,hJ,hol,hO⟩
 dsimp only at hr hJ hol hO ⊢
 have hdl:=hJ.dl
 by_cases hrm:r < m
 ·unfold findV
  simp -dsimp (maxSteps:=4000000) +contextual (disch:=first | omega | decide +kernel) only [↓vsD,vsE,↓Nat.reduceLT,simprocAttr,vcel,eS]
  refine v_loopS (fun s:Nat × Int × Store=>[(3,.ptr 1 0 0 0),(4,.ptr 3 0 0 0),(5,.func (.func 50) [] [.ptr 1 0 0 0,.ptr 3 0 0 0]),(6,lastV r (o + 4)),(7,.int .i64 s.2.1),(23,.int .i64 m),(24,.int .i64 (r:Int)),(29,.sl (intss S.sets)),(30,.int .i64 m),(31,.int .i64 (s.1:Int))])
   (fun s=>X0 :: .rows 114 1 [[findV C S K]] 0 :: .rows 4 1 (boolsR dn) 0 :: .rows 38 1 [[.msl 2 0]] 0 :: s.2.2)
   (fun s=>s.1 ≤ m ∧ ((s.2.1 = -1 ∧ ∀ k,k < s.1 → ¬ rdy C S dn k) ∨ (0 ≤ s.2.1 ∧ s.2.1 < m ∧ rdy C S dn s.2.1.toNat ∧ ∀ k,k < s.1 → rdy C S dn k → (S.sets.getD s.2.1.toNat []).getD 0 0 ≤ (S.sets.getD k []).getD 0 0)) ∧ OutZ (outF S ord) o s.2.2) (fun s=>m - s.1) (0,-1,Z) (by simp [weaker,Go.PV.look]) rfl ⟨Nat.zero_le _,.inl ⟨rfl,fun k h=>by omega⟩,hO⟩ ?_
  rintro ⟨k,nx,Z2⟩ ⟨hk,hnx,hO2⟩
  dsimp only at hk hnx hO2 ⊢
  by_cases hkm:k < m
  ·have aS:=intss_at S.sets k (by omega)
   have hne:=hF.wf.ne k (by omega)
   obtain ⟨ks,hks⟩:∃ ks,ks = S.sets.getD k []:=⟨_,rfl⟩
   rw [← hks] at aS hne
   have hkl:0 < ks.length:=List.length_pos_iff.2 hne
   have ek:(ints ks).length = ks.length:=enc_length _ _
   have ak:=ints_gD ks 0 hkl
   have hrd:=fun σ ha hc ho=>ready_ok hL hCo hCl hCb hF dn hdl k (by omega) (by have:=sets_le hF k (by omega); omega) 1 3 2 0 σ ha hc ho (K:=K)
   obtain ⟨b,hb⟩:∃ b,b = rdyB C S dn k:=⟨_,rfl⟩
   rw [← hb] at hrd
   cases b with
   | false =>
    unfold findV at hrd ⊢
    simp -dsimp (maxSteps:=4000000) +contextual (disch:=first | omega | decide +kernel) only [↓vsD,vsE,↓Nat.reduceLT,simprocAttr,vcel,aS,eS,k1]
    refine v_draws _ _ _ _ _ _ [2] [] [(0,0),(0,0),(0,0),(1,1),(1,1),(1,1),(1,1),(1,1),(1,1),(1,1),(1,1),(1,1),(1,1),(1,1),(1,1),(1,1),(1,1),(1,1),(1,1),(1,1),(1,1),(1,1)] (by decide +kernel) (by decide +kernel) (by decide +kernel) (by decide +kernel) ?_
    simp -dsimp (maxSteps:=4000000) +contextual (disch:=first | omega | decide +kernel) only [↓vsD,vsE,↓Nat.reduceLT,simprocAttr,vdA,↓vd_end,↓vdm_go,↓vd_op,↓guard_none,↓guard_some,vcel,aS,eS,k1]
    refine ⟨_,_,hrd _ rfl rfl rfl,by simp [outR,rowsAt],?_⟩
    simp -dsimp (maxSteps:=4000000) +contextual (disch:=first | omega | decide +kernel) only [↓vsD,vsE,↓Nat.reduceLT,simprocAttr,vdA,↓vd_end,↓vdm_go,↓vd_op,↓guard_none,↓guard_some,vcel,aS,eS,k1]
    refine ⟨(k + 1,nx,Z2 ++ [_]),(by (try dsimp only); omega),(by simp [weaker,Go.PV.look]),rfl,hkm,?_,hO2.app _⟩
    have hnk:¬ rdy C S dn k:=fun h=>by
     rw [rdyB_t h] at hb; cases hb
    refine hnx.imp (fun ⟨h1,h2⟩=>⟨h1,fun j hj=>?_⟩) (fun ⟨h1,h2,h3,h4⟩=>⟨h1,h2,h3,fun j hj hr=>?_⟩)
    ·by_cases e:j = k
     ·rw [e]; exact hnk
     ·exact h2 j (by dsimp only at hj; omega)
    ·by_cases e:j = k
     ·rw [e] at hr; exact absurd hr hnk
     ·exact h4 j (by dsimp only at hj; omega) hr
   | true =>
    have hrk:rdy C S dn k:=by
     false_or_by_contra
     rename_i h
     rw [rdyB_f h] at hb; cases hb
    rcases hnx with ⟨rfl,h2⟩ | ⟨h1,h2,h3,h4⟩
    ·unfold findV at hrd ⊢
     simp -dsimp (maxSteps:=4000000) +contextual (disch:=first | omega | decide +kernel) only [↓vsD,vsE,↓Nat.reduceLT,simprocAttr,vcel,aS,eS,k1]
     refine v_draws _ _ _ _ _ _ [2] [] [(0,0),(0,0),(0,0),(1,1),(1,1),(1,1),(1,1),(1,1),(1,1),(1,1),(1,1),(1,1),(1,1),(1,1),(1,1),(1,1),(1,1),(1,1),(1,1),(1,1),(1,1),(1,1)] (by decide +kernel) (by decide +kernel) (by decide +kernel) (by decide +kernel) ?_
     simp -dsimp (maxSteps:=4000000) +contextual (disch:=first | omega | decide +kernel) only [↓vsD,vsE,↓Nat.reduceLT,simprocAttr,vdA,↓vd_end,↓vdm_go,↓vd_op,↓guard_none,↓guard_some,vcel,aS,eS,k1]
     refine ⟨_,_,hrd _ rfl rfl rfl,by simp [outR,rowsAt],?_⟩
     simp -dsimp (maxSteps:=4000000) +contextual (disch:=first | omega | decide +kernel) only [↓vsD,vsE,↓Nat.reduceLT,simprocAttr,vdA,↓vd_end,↓vdm_go,↓vd_op,↓guard_none,↓guard_some,vcel,aS,eS,k1]
     refine ⟨(k + 1,(k:Int),Z2 ++ [_]),(by (try dsimp only); omega),(by simp [weaker,Go.PV.look]),rfl,hkm,.inr ⟨by dsimp only; omega,by dsimp only; omega,by simpa using hrk,fun j hj hr=>?_⟩,hO2.app _⟩
     dsimp only at hj ⊢
     by_cases e:j = k
     ·rw [e,Int.toNat_natCast]; exact Int.le_refl _
     ·exact absurd hr (h2 j (by omega))
    ·have aN:=intss_at S.sets nx.toNat (by omega)
     have hnN:=hF.wf.ne nx.toNat (by omega)
     obtain ⟨ns,hns⟩:∃ ns,ns = S.sets.getD nx.toNat []:=⟨_,rfl⟩
     rw [← hns] at aN hnN
     have hnl:0 < ns.length:=List.length_pos_iff.2 hnN
     have en:(ints ns).length = ns.length:=enc_length _ _
     have an:=ints_gD ns 0 hnl
     unfold findV at hrd ⊢
     simp -dsimp (maxSteps:=4000000) +contextual (disch:=first | omega | decide +kernel) only [↓vsD,vsE,↓Nat.reduceLT,simprocAttr,vcel,aS,eS,k1]
     refine v_draws _ _ _ _ _ _ [2] [] [(0,0),(0,0),(0,0),(1,1),(1,1),(1,1),(1,1),(1,1),(1,1),(1,1),(1,1),(1,1),(1,1),(1,1),(1,1),(1,1),(1,1),(1,1),(1,1),(1,1),(1,1),(1,1)] (by decide +kernel) (by decide +kernel) (by decide +kernel) (by decide +kernel) ?_
     simp -dsimp (maxSteps:=4000000) +contextual (disch:=first | omega | decide +kernel) only [↓vsD,vsE,↓Nat.reduceLT,simprocAttr,vdA,↓vd_end,↓vdm_go,↓vd_op,↓guard_none,↓guard_some,vcel,aS,eS,k1]
     refine ⟨_,_,hrd _ rfl rfl rfl,by simp [outR,rowsAt],?_⟩
     simp -dsimp (maxSteps:=4000000) +contextual (disch:=first | omega | decide +kernel) only [↓vsD,vsE,↓Nat.reduceLT,simprocAttr,vdA,↓vd_end,↓vdm_go,↓vd_op,↓guard_none,↓guard_some,vcel,aS,eS,k1,ak,ek,aN,en,an]
     refine ⟨fun hc=>⟨(k + 1,(k:Int),Z2 ++ [_]),(by (try dsimp only); omega),(by simp [weaker,Go.PV.look]),rfl,hkm,.inr ⟨by dsimp only; omega,by dsimp only; omega,by simpa using hrk,fun j hj hr=>?_⟩,hO2.app _⟩,
      fun hc=>⟨(k + 1,nx,Z2 ++ [_]),(by (try dsimp only); omega),(by simp [weaker,Go.PV.look]),rfl,hkm,.inr ⟨h1,h2,h3,fun j hj hr=>?_⟩,hO2.app _⟩⟩
     ·dsimp only at hj ⊢
      rw [Int.toNat_natCast,← hks]
      by_cases e:j = k
      ·rw [e,← hks]; exact Int.le_refl _
      ·have:=h4 j (by omega) hr
       rw [← hns] at this
       omega
     ·dsimp only at hj ⊢
      by_cases e:j = k
      ·rw [e,← hks,← hns]; omega
      ·exact h4 j (by omega) hr
  ·obtain rfl:m = k:=by omega
   obtain ⟨h1,h2,h3,h4⟩:0 ≤ nx ∧ nx < m ∧ rdy C S dn nx.toNat ∧ ∀ k,k < m → rdy C S dn k → (S.sets.getD nx.toNat []).getD 0 0 ≤ (S.sets.getD k []).getD 0 0:=by
    rcases hnx with ⟨_,h⟩ | h
    ·obtain ⟨t,ht,hrt⟩:=hJ.has hF hCo (by omega)
     exact absurd hrt (h t (by omega))
    ·exact h
   obtain ⟨t,rfl⟩:∃ t:Nat,nx = t:=⟨nx.toNat,by omega⟩
   rw [Int.toNat_natCast] at h3 h4
   have htm:t < m:=by omega
   have aN:=intss_at S.sets t (by omega)
   have hJ2:=hJ.next hF hCo (by omega) h3 (fun t2 ht2=>h4 t2 (by omega))
   obtain ⟨ns,hns⟩:∃ ns,ns = S.sets.getD t []:=⟨_,rfl⟩
   rw [← hns] at aN
   have bl:=boolsR_len dn
   have bs:=boolsR_at dn t (by omega)
   have bset:∀ x,(boolsR dn).set t [.bool x] = boolsR (dn.set t x):=fun x=>by simp [boolsR,List.map_set]
   have hnew:newsOk Try.prog 40 [[.sl (ints ns)]] = true:=by simp [newsOk,PV.cell,tyC]
   have hout:outF S (ord ++ [t]) = outF S ord ++ [ns]:=by simp [outF,hns]
   have hol2:(outF S ord).length = r:=by simp [outF,hol]
   have eO:intss (outF S ord) ++ [[.sl (ints ns)]] = intss (outF S ord ++ [ns]):=by simp [intss,PV.encII]
   have eOl:(intss (outF S ord)).length = r:=by rw [show (intss (outF S ord)).length = (outF S ord).length from encs_length _ _,hol2]
   cases r with
   | zero =>
    rw [lastV_0]
    unfold findV
    simp -dsimp (maxSteps:=4000000) +contextual (disch:=first | omega | decide +kernel) only [↓vsD,vsE,↓Nat.reduceLT,simprocAttr,vcel,eS,aN,bl,bs,bset,hnew]
    refine ⟨(1,dn.set t true,ord ++ [t],Z2.length,_),(by (try dsimp only); omega),by simp [weaker,Go.PV.look,lastV],rfl,hrm,hJ2,by rw [List.length_append,hol]; rfl,fun j hj=>?_⟩
    dsimp only at hj ⊢
    rw [hout,List.length_append,hol2] at hj
    obtain rfl:j = 0:=by simpa using hj
    have ho0:ord = []:=List.eq_nil_of_length_eq_zero hol
    rw [gapp0,hout,ho0]; rfl
   | succ j =>
    have hz:=hO2 j hol2
    have hzl:=(List.getElem?_eq_some_iff.1 hz).1
    rw [lastV_s]
    unfold findV
    simp -dsimp (maxSteps:=4000000) +contextual (disch:=first | omega | decide +kernel) only [↓vsD,vsE,↓Nat.reduceLT,simprocAttr,vcel,eS,aN,bl,bs,bset,hnew,hz,eOl,bytesC,lenC]
    refine ⟨(j + 1 + 1,dn.set t true,ord ++ [t],o,_),(by (try dsimp only); omega),by simp [weaker,Go.PV.look,lastV] <;> omega,rfl,hrm,hJ2,by rw [List.length_append,hol]; rfl,fun j2 hj=>?_⟩
    dsimp only at hj ⊢
    rw [hout,List.length_append,hol2] at hj
    obtain rfl:j2 = j + 1:=by simp at hj; omega
    rw [List.getElem?_set_self hzl,hout,eO]
 ·obtain rfl:m = r:=by omega
  have hres:=hJ.out hF hCo (by omega)
  cases hm0:m with
  | zero =>
   rw [lastV_0]
   unfold findV
   simp -dsimp (maxSteps:=4000000) +contextual (disch:=first | omega | decide +kernel) only [↓vsD,vsE,↓Nat.reduceLT,simprocAttr,vcel]
   have ho0:ord = []:=List.eq_nil_of_length_eq_zero (by omega)
   exact fin0 .nils ⟨S,_,hF,hres,by rw [ho0]; rfl⟩
  | succ j =>
   have hz:=hO j (by simp [outF]; omega)
   rw [lastV_s]
   unfold findV
   simp -dsimp (maxSteps:=4000000) +contextual (disch:=first | omega | decide +kernel) only [↓vsD,vsE,↓Nat.reduceLT,simprocAttr,vcel]
   exact fin0 (Frz.msl0 (Nat.zero_le _) hz (encs_bel _ _ _)) ⟨S,_,hF,hres,rfl⟩
theorem comps_on (L:List (List Int)) (hL:L.length ≤ 1000) (hl:∀ l ∈ L,l.length ≤ 1000) (σ:Store):PCall Try.prog 21 [progV L] σ (fun q τ=>(∃ S out,FinJ L.length (calL L) S L.length ∧ OutR L.length (calL L) S out ∧ q = .sl (intss out)) ∧ τ = σ) :=
 PCall.lift (comps_w L hL hl) (belA (bel_prog _ L)) (fun q h=>⟨by
  obtain ⟨S,out,_,_,rfl⟩:=h
  exact bel_intss _ _,h,rfl⟩)
end Go.Proofs.Ythginmfobikdgaa
