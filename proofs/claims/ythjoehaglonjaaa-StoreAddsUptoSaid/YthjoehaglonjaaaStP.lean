import Derived.Test.YthjoehaglonjaaaStN
import Derived.Test.YthjoehaglonjaaaSoA
set_option maxRecDepth 8000
set_option linter.unusedSimpArgs false
set_option linter.unusedVariables false
namespace Go.Proofs.Ythjoehaglonjaaa
open Go.PV
def idle (a b:Idn):Prop:=¬ idlt b a
theorem idle_trans {a b c:Idn} (h:idle a b) (h2:idle b c):idle a c:=by unfold idle idlt at *; omega
structure InsI (L0:List Idn) (i j:Nat) (M:List Idn):Prop where
 p:M.Perm L0
 s:∀ u v,u < v → v ≤ i → v ≠ j → u ≠ j → idle (M.getD u default) (M.getD v default)
 g:∀ v,j < v → v ≤ i → idlt (M.getD j default) (M.getD v default)
theorem getD_set2 {α:Type} (l:List α) (i j:Nat) (a d:α) (h:i < l.length):(l.set i a).getD j d = if i = j then a else l.getD j d:=by
 rw [List.getD_eq_getElem?_getD,List.getD_eq_getElem?_getD,List.getElem?_set]
 by_cases hij:i = j
 ·rw [if_pos hij,if_pos hij]; subst hij; rw [if_pos h]; rfl
 ·rw [if_neg hij,if_neg hij]
def swD (M:List Idn) (q:Nat):List Idn:=(M.set (q + 1) (M.getD q default)).set q (M.getD (q + 1) default)
theorem swD_perm (M:List Idn) (q:Nat) (h:q + 1 < M.length):(swD M q).Perm M:=by
 have e1:M.getD q default = M[q]:=by rw [List.getD_eq_getElem?_getD,List.getElem?_eq_getElem (by omega)]; rfl
 have e2:M.getD (q + 1) default = M[q + 1]:=by rw [List.getD_eq_getElem?_getD,List.getElem?_eq_getElem h]; rfl
 rw [swD,e1,e2]
 exact List.set_set_perm h (by omega)
theorem swD_getD (M:List Idn) (q u:Nat) (h:q + 1 < M.length):(swD M q).getD u default = if u = q then M.getD (q + 1) default else if u = q + 1 then M.getD q default else M.getD u default:=by
 rw [swD,getD_set2 _ _ _ _ _ (by rw [List.length_set]; omega),getD_set2 _ _ _ _ _ h]
 by_cases h1:q = u
 ·subst h1
  rw [if_pos rfl,if_pos rfl]
 ·have h1':¬ u = q:=fun e=>h1 e.symm
  rw [if_neg h1,if_neg h1']
  by_cases h2:q + 1 = u
  ·rw [if_pos h2,if_pos h2.symm]
  ·have h2':¬ u = q + 1:=fun e=>h2 e.symm
   rw [if_neg h2,if_neg h2']
theorem InsI.step {L0 M:List Idn} {i q:Nat} (h:InsI L0 i (q + 1) M) (hi:i < M.length) (hq:q + 1 ≤ i) (hlt:idlt (M.getD (q + 1) default) (M.getD q default)):InsI L0 i q (swD M q):=by
 have hl:q + 1 < M.length:=by omega
 refine ⟨(swD_perm M q hl).trans h.p,fun u v huv hv h1 h2=>?_,fun v hv hv2=>?_⟩
 ·rw [swD_getD _ _ _ hl,swD_getD _ _ _ hl,if_neg h2,if_neg h1]
  by_cases e1:u = q + 1
  ·rw [if_pos e1,if_neg (by omega)]
   exact h.s q v (by omega) hv (by omega) (by omega)
  ·rw [if_neg e1]
   by_cases e2:v = q + 1
   ·rw [if_pos e2]
    exact h.s u q (by omega) (by omega) (by omega) e1
   ·rw [if_neg e2]
    exact h.s u v huv hv e2 e1
 ·rw [swD_getD _ _ _ hl,swD_getD _ _ _ hl,if_pos rfl,if_neg (by omega)]
  by_cases e2:v = q + 1
  ·rw [if_pos e2]; exact hlt
  ·rw [if_neg e2]; exact h.g v (by omega) hv2
theorem InsI.stop {L0 M:List Idn} {i j:Nat} (h:InsI L0 i j M) (hj:j ≤ i) (hs:0 < j → idle (M.getD (j - 1) default) (M.getD j default)):∀ u v,u < v → v ≤ i → idle (M.getD u default) (M.getD v default):=by
 intro u v huv hv
 by_cases h1:v = j
 ·subst h1
  have h2:=hs (by omega)
  by_cases h3:u = v - 1
  ·rw [h3]; exact h2
  ·exact idle_trans (h.s u (v - 1) (by omega) (by omega) (by omega) (by omega)) h2
 ·by_cases h2:u = j
  ·subst h2
   exact fun h3=>idlt_asymm (h.g v huv hv) h3
  ·exact h.s u v huv hv h1 h2
theorem InsI.start {L0 M:List Idn} {i:Nat} (hp:M.Perm L0) (hs:∀ u v,u < v → v < i → idle (M.getD u default) (M.getD v default)):InsI L0 i i M :=
 ⟨hp,fun u v h1 h2 h3 h4=>hs u v h1 (by omega),fun v h1 h2=>by omega⟩
theorem encD_set (l:List Idn) (i:Nat) (x:Idn):(encD l).set i [.int .i64 x.1,.int .i64 x.2.1,.int .i64 x.2.2] = encD (l.set i x):=by simp [encD,List.map_set,idRow]
set_option maxRecDepth 8000 in
set_option maxHeartbeats 16000000 in
theorem insD_ok (o v:Nat) (L0:List Idn) (σ:Store) (ho:σ[o]? = some (.rows 58 3 (encD L0) v)) (hl:L0.length ≤ 1000) :
  PCall Try.prog 122 [.msl o v,.int .i64 0,.int .i64 L0.length,.func (.func 54) [] []] σ (fun p σ'=>p = .tup [] ∧ ∃ L,L.Perm L0 ∧ (∀ u w,u < w → w < L.length → idle (L.getD u default) (L.getD w default)) ∧ σ' = σ.set o (.rows 58 3 (encD L) v)):=by
 have hol:=(List.getElem?_eq_some_iff.1 ho).1
 have hs:∀ X,(σ.set o X)[o]? = some X:=fun X=>List.getElem?_set_self hol
 have hset:σ = σ.set o (.rows 58 3 (encD L0) v):=by
  obtain ⟨h1,h2⟩:=List.getElem?_eq_some_iff.1 ho
  rw [← h2]; exact List.set_getElem_self h1 |>.symm
 refine PCall.vraw [] 17179886591 53 [] sc2_ok mix Try.func122 rfl (by decide) rfl rfl (by simp) ?_
 simp -dsimp only [initFr,List.zipIdx_cons,List.zipIdx_nil,List.map_cons,List.map_nil,Nat.zero_add,Nat.reduceAdd]
 simp -dsimp (maxSteps:=4000000) +contextual (disch:=first | omega | decide +kernel) only [↓vsD,vsE,↓Nat.reduceLT,simprocAttr,sc2_cmp,sc2_cntd,sc2_numd,sc2_known,sc2_number,sc2_comp,sc2_rcomp,sc2_ord,sc2_id,sc2_rid]
 refine v_loopS (fun s:Nat × List Idn=>[(0,.msl o v),(1,.int .i64 0),(2,.int .i64 L0.length),(3,.func (.func 54) [] []),(8,.int .i64 s.1)]) (fun s=>σ.set o (.rows 58 3 (encD s.2) v)) (fun s=>1 ≤ s.1 ∧ (s.1 ≤ L0.length ∨ s.1 = 1) ∧ s.2.Perm L0 ∧ ∀ u w,u < w → w < s.1 → idle (s.2.getD u default) (s.2.getD w default)) (fun s=>L0.length - s.1) (1,L0) (by simp [weaker,Go.PV.look]) hset ⟨by simp,.inr rfl,.refl _,fun u w h1 h2=>by dsimp only at h2; omega⟩ ?_
 rintro ⟨i,L⟩ ⟨hi,hi2,hperm,hso⟩
 dsimp only at hi hi2 hperm hso ⊢
 have hlen:=hperm.length_eq
 by_cases hil:i < L0.length
 ·simp -dsimp (maxSteps:=4000000) +contextual (disch:=first | omega | decide +kernel) only [↓vsD,vsE,↓Nat.reduceLT,simprocAttr,sc2_cmp,sc2_cntd,sc2_numd,sc2_known,sc2_number,sc2_comp,sc2_rcomp,sc2_ord,sc2_id,sc2_rid]
  refine v_loopS (fun s:Nat × List Idn=>[(0,.msl o v),(1,.int .i64 0),(2,.int .i64 L0.length),(3,.func (.func 54) [] []),(8,.int .i64 i),(9,.int .i64 s.1)]) (fun s=>σ.set o (.rows 58 3 (encD s.2) v)) (fun s=>s.1 ≤ i ∧ InsI L0 i s.1 s.2) (fun s=>s.1) (i,L) (by simp [weaker,Go.PV.look]) rfl ⟨Nat.le_refl _,InsI.start hperm hso⟩ ?_
  rintro ⟨j,M⟩ ⟨hj,hI⟩
  dsimp only at hj hI ⊢
  have hlen2:=hI.p.length_eq
  have hi1:i + 1 ≤ L0.length:=hil
  by_cases hj0:0 < j
  ·obtain ⟨q,rfl⟩:∃ q,j = q + 1:=⟨j - 1,by omega⟩
   have e1:(((q + 1:Nat):Int) - 1).toNat = q:=by omega
   have e2:(((q + 1:Nat):Int) - 1) = q:=by omega
   have hp2:∀ (x:Idn) (i:Nat),i < M.length → (encD (M.set (q + 1) x)).getD i [] = [.int .i64 ((M.set (q + 1) x).getD i default).1,.int .i64 ((M.set (q + 1) x).getD i default).2.1,.int .i64 ((M.set (q + 1) x).getD i default).2.2]:=fun x i h=>encD_getD _ _ (by simpa using h)
   simp -dsimp (maxSteps:=4000000) +contextual (disch:=first | omega | decide +kernel) only [↓vsD,vsE,↓Nat.reduceLT,simprocAttr,sc2_cmp,sc2_cntd,sc2_numd,sc2_known,sc2_number,sc2_comp,sc2_rcomp,sc2_ord,sc2_id,sc2_rid,hs]
   refine v_draws _ _ _ _ _ _ [14] [] [(0,0),(0,0),(0,0),(0,0),(0,0),(0,0),(0,0),(0,0),(0,0),(0,0),(0,0),(0,0),(0,0),(0,0),(0,0),(1,1),(1,1)] (by decide +kernel) (by decide +kernel) (by decide +kernel) (by decide +kernel) ?_
   simp -dsimp (maxSteps:=4000000) +contextual (disch:=first | omega | decide +kernel) only [↓vsD,vsE,↓Nat.reduceLT,simprocAttr,sc2_cmp,sc2_cntd,sc2_numd,sc2_known,sc2_number,sc2_comp,sc2_rcomp,sc2_ord,sc2_id,sc2_rid,vdA,↓vdD,hs,encD_length,encD_getD,e1,e2]
   refine ⟨fun hc=>?_,fun hc=>?_⟩
   ·refine v_draws _ _ _ _ _ _ [15,17] [] [(0,0),(0,0),(0,1),(0,1),(0,1),(0,0),(0,0),(0,0),(0,0),(0,0),(0,0),(0,0),(0,0),(0,0),(0,0),(0,0),(1,1),(0,0)] (by decide +kernel) (by decide +kernel) (by decide +kernel) (by decide +kernel) ?_
    simp -dsimp (maxSteps:=4000000) +contextual (disch:=first | omega | decide +kernel) only [↓vsD,vsE,↓Nat.reduceLT,simprocAttr,sc2_cmp,sc2_cntd,sc2_numd,sc2_known,sc2_number,sc2_comp,sc2_rcomp,sc2_ord,sc2_id,sc2_rid,vdA,↓vdD,hs,encD_length,encD_getD,e1,e2,encD_set,List.set_set,List.length_set,hp2]
    exact ⟨(q,swD M q),(by (try dsimp only); omega),(by simp [weaker,Go.PV.look]),rfl,by dsimp only; omega,hI.step (by omega) hj ((cmp3_lt _ _).1 hc)⟩
   ·have hst:=hI.stop hj (fun _=>fun h=>hc ((cmp3_lt _ _).2 h))
    exact ⟨(i + 1,M),(by (try dsimp only); omega),(by simp [weaker,Go.PV.look]),rfl,by dsimp only; omega,.inl hil,hI.p,fun u w h1 h2=>hst u w h1 (by dsimp only at h2; omega)⟩
  ·obtain rfl:j = 0:=by omega
   simp -dsimp (maxSteps:=4000000) +contextual (disch:=first | omega | decide +kernel) only [↓vsD,vsE,↓Nat.reduceLT,simprocAttr,sc2_cmp,sc2_cntd,sc2_numd,sc2_known,sc2_number,sc2_comp,sc2_rcomp,sc2_ord,sc2_id,sc2_rid,hs,encD_length,encD_getD]
   refine v_draws _ _ _ _ _ _ [14] [] [(0,0),(0,0),(0,0),(0,0),(0,0),(0,0),(0,0),(0,0),(0,0),(0,0),(0,0),(0,0),(0,0),(0,0),(0,0),(1,1),(1,1)] (by decide +kernel) (by decide +kernel) (by decide +kernel) (by decide +kernel) ?_
   simp -dsimp (maxSteps:=4000000) +contextual (disch:=first | omega | decide +kernel) only [↓vsD,vsE,↓Nat.reduceLT,simprocAttr,sc2_cmp,sc2_cntd,sc2_numd,sc2_known,sc2_number,sc2_comp,sc2_rcomp,sc2_ord,sc2_id,sc2_rid,vdA,↓vdD,hs,encD_length,encD_getD]
   have hst:=hI.stop hj (fun h=>absurd h (Nat.lt_irrefl _))
   exact ⟨(i + 1,M),(by (try dsimp only); omega),(by simp [weaker,Go.PV.look]),rfl,by dsimp only; omega,.inl hil,hI.p,fun u w h1 h2=>hst u w h1 (by dsimp only at h2; omega)⟩
 ·simp -dsimp (maxSteps:=4000000) +contextual (disch:=first | omega | decide +kernel) only [↓vsD,vsE,↓Nat.reduceLT,simprocAttr,sc2_cmp,sc2_cntd,sc2_numd,sc2_known,sc2_number,sc2_comp,sc2_rcomp,sc2_ord,sc2_id,sc2_rid]
  refine ⟨L,hperm,fun u w h1 h2=>hso u w h1 (by omega),rfl⟩
theorem pdqD_ok (o v:Nat) (L0:List Idn) (r:Int) (σ:Store) (ho:σ[o]? = some (.rows 58 3 (encD L0) v)) (hl:L0.length ≤ 12) :
  PCall Try.prog 109 [.msl o v,.int .i64 0,.int .i64 L0.length,.int .i64 r,.func (.func 54) [] []] σ (fun p σ'=>p = .tup [] ∧ ∃ L,L.Perm L0 ∧ (∀ u w,u < w → w < L.length → idle (L.getD u default) (L.getD w default)) ∧ σ' = σ.set o (.rows 58 3 (encD L) v)):=by
 refine PCall.vraw [] 42535296023574879666274036850519703551 148 [] (noE_ok _) mix Try.func109 rfl (by decide) rfl rfl (by simp) ?_
 simp -dsimp only [initFr,List.zipIdx_cons,List.zipIdx_nil,List.map_cons,List.map_nil,Nat.zero_add,Nat.reduceAdd]
 simp -dsimp (maxSteps:=4000000) +contextual (disch:=first | omega | decide +kernel) only [↓vsD,vsE,↓Nat.reduceLT,simprocAttr]
 refine v_loopS (fun _:Unit=>[(0,.msl o v),(1,.int .i64 0),(2,.int .i64 L0.length),(4,.func (.func 54) [] [])]) (fun _=>σ) (fun _=>True) (fun _=>0) () (by simp [weaker,Go.PV.look]) rfl trivial ?_
 intro _ _
 simp -dsimp (maxSteps:=4000000) +contextual (disch:=first | omega | decide +kernel) only [↓vsD,vsE,↓Nat.reduceLT,simprocAttr]
 refine PCall.mono (insD_ok o v L0 σ ho (by omega)) ?_
 rintro p σ' ⟨rfl,L,h1,h2,rfl⟩
 simp -dsimp (maxSteps:=4000000) +contextual (disch:=first | omega | decide +kernel) only [↓vsD,vsE,↓Nat.reduceLT,simprocAttr]
 exact ⟨L,h1,h2,rfl⟩
theorem sortD_ok (o v:Nat) (L0:List Idn) (σ:Store) (ho:σ[o]? = some (.rows 58 3 (encD L0) v)) (hl:L0.length ≤ 12) :
  PCall Try.prog 82 [.msl o v,.func (.func 54) [] []] σ (fun p σ'=>p = .tup [] ∧ ∃ L,L.Perm L0 ∧ (∀ u w,u < w → w < L.length → idle (L.getD u default) (L.getD w default)) ∧ σ' = σ.set o (.rows 58 3 (encD L) v)):=by
 refine PCall.vraw [] 31 14 [] (noE_ok _) mix Try.func82 rfl (by decide) rfl rfl (by simp) ?_
 simp -dsimp only [initFr,List.zipIdx_cons,List.zipIdx_nil,List.map_cons,List.map_nil,Nat.zero_add,Nat.reduceAdd]
 simp -dsimp (maxSteps:=4000000) +contextual (disch:=first | omega | decide +kernel) only [↓vsD,vsE,↓Nat.reduceLT,simprocAttr,ho,encD_length,Go.IntWalk.u64_in]
 refine PCall.mono (blen_ok L0.length (by omega) σ) ?_
 rintro p σ' ⟨⟨r,rfl⟩,rfl⟩
 simp -dsimp (maxSteps:=4000000) +contextual (disch:=first | omega | decide +kernel) only [↓vsD,vsE,↓Nat.reduceLT,simprocAttr]
 refine PCall.mono (pdqD_ok o v L0 r σ' ho hl) ?_
 rintro p σ'' ⟨rfl,L,h1,h2,rfl⟩
 simp -dsimp (maxSteps:=4000000) +contextual (disch:=first | omega | decide +kernel) only [↓vsD,vsE,↓Nat.reduceLT,simprocAttr]
 exact ⟨L,h1,h2,rfl⟩
theorem idle_cases {a b:Idn} (h:idle a b):a = b ∨ idlt a b:=by
 rcases idlt_tri a b with h1 | h1 | h1
 ·exact .inr h1
 ·exact .inl h1
 ·exact absurd h1 h
theorem encD_take (l:List Idn) (n:Nat):(encD l).take n = encD (l.take n):=by simp [encD,List.map_take]
structure CpI (l:List Idn) (k n:Nat) (M:List Idn):Prop where
 len:M.length = l.length
 s:(M.take k).Pairwise idlt
 m:∀ x,x ∈ M.take k ↔ x ∈ l.take n
theorem CpI.same {l M:List Idn} {k n:Nat} (h:CpI l k n M) (h0:0 < n) (hn:n < l.length) (he:l.getD n default = l.getD (n - 1) default):CpI l k (n + 1) M:=by
 refine ⟨h.len,h.s,fun x=>?_⟩
 rw [h.m,take_succD l n hn,List.mem_append,List.mem_singleton]
 refine ⟨.inl,fun h2=>h2.elim id (fun e=>?_)⟩
 rw [e,he]
 have:l.getD (n - 1) default = (l.take n).getD (n - 1) default:=by
  rw [List.getD_eq_getElem?_getD,List.getD_eq_getElem?_getD,List.getElem?_take_of_lt (by omega)]
 rw [this]
 exact gtD (by rw [List.length_take]; omega)
theorem CpI.next {l M:List Idn} {k n:Nat} (h:CpI l k n M) (hs:∀ u w,u < w → w < l.length → idle (l.getD u default) (l.getD w default)) (h0:0 < n) (hn:n < l.length) (hk:k < n) (hne:¬ l.getD n default = l.getD (n - 1) default):CpI l (k + 1) (n + 1) (M.set k (l.getD n default)):=by
 have ht:(M.set k (l.getD n default)).take (k + 1) = M.take k ++ [l.getD n default]:=by
  rw [List.take_add_one,List.getElem?_set_self (by rw [h.len]; omega),List.take_set_of_le (Nat.le_refl _)]
  rfl
 have hlt:∀ x ∈ l.take n,idlt x (l.getD n default):=fun x hx=>by
  obtain ⟨j,hj,rfl⟩:=List.mem_iff_getElem.1 hx
  rw [List.length_take] at hj
  have e:(l.take n)[j] = l.getD j default:=by
   rw [List.getElem_take,List.getD_eq_getElem?_getD,List.getElem?_eq_getElem (by omega)]; rfl
  rw [e]
  have h1:idlt (l.getD (n - 1) default) (l.getD n default):=(idle_cases (hs (n - 1) n (by omega) hn)).resolve_left (fun e=>hne e.symm)
  by_cases hj2:j = n - 1
  ·rw [hj2]; exact h1
  ·rcases idle_cases (hs j (n - 1) (by omega) (by omega)) with h2 | h2
   ·rw [h2]; exact h1
   ·exact idlt_trans h2 h1
 refine ⟨by rw [List.length_set]; exact h.len,?_,fun x=>?_⟩
 ·rw [ht]
  refine List.pairwise_append.2 ⟨h.s,List.pairwise_singleton _ _,fun a ha b hb=>?_⟩
  rw [List.mem_singleton] at hb
  rw [hb]
  exact hlt a ((h.m a).1 ha)
 ·rw [ht,take_succD l n hn,List.mem_append,List.mem_append,h.m]
set_option maxRecDepth 8000 in
set_option maxHeartbeats 8000000 in
theorem compact_ok (o v:Nat) (l:List Idn) (hll:l.length < 2 ^ 40) (hso:∀ u w,u < w → w < l.length → idle (l.getD u default) (l.getD w default)) (σ:Store) (ho:σ[o]? = some (.rows 58 3 (encD l) v)) :
  PCall Try.prog 83 [.msl o v] σ (fun q τ=>∃ v' r,q = .msl o v' ∧ r.Pairwise idlt ∧ (∀ x,x ∈ r ↔ x ∈ l) ∧ τ = σ.set o (.rows 58 3 (encD r) v')):=by
 have hol:=(List.getElem?_eq_some_iff.1 ho).1
 have hs:∀ X,(σ.set o X)[o]? = some X:=fun X=>List.getElem?_set_self hol
 have hset:σ = σ.set o (.rows 58 3 (encD l) v):=by
  obtain ⟨h1,h2⟩:=List.getElem?_eq_some_iff.1 ho
  rw [← h2]; exact List.set_getElem_self h1 |>.symm
 refine PCall.vraw [28,56] 17596514574655 61 [.tmp 2] (noE_ok _) mix Try.func83 rfl (by decide) rfl rfl (by simp) ?_
 simp -dsimp only [initFr,List.zipIdx_cons,List.zipIdx_nil,List.map_cons,List.map_nil,Nat.zero_add,Nat.reduceAdd]
 by_cases h2:l.length < 2
 ·simp -dsimp (maxSteps:=4000000) +contextual (disch:=first | omega | decide +kernel) only [↓vsD,vsE,↓Nat.reduceLT,simprocAttr,ho,encD_length]
  refine ⟨v,l,rfl,?_,fun x=>Iff.rfl,hset⟩
  exact adj_pw (l:=l) (R:=idlt) (fun a b c=>idlt_trans) (d:=default) (fun j hj=>absurd hj (by omega))
 ·simp -dsimp (maxSteps:=4000000) +contextual (disch:=first | omega | decide +kernel) only [↓vsD,vsE,↓Nat.reduceLT,simprocAttr,ho,encD_length]
  refine v_loopS (fun k:Nat=>[(0,.msl o v),(3,.int .i64 ((k + 1:Nat):Int))]) (fun _=>σ) (fun k=>k + 1 ≤ l.length ∧ ∀ j,j < k → idlt (l.getD j default) (l.getD (j + 1) default)) (fun k=>l.length - k) 0 (by simp [weaker,Go.PV.look]) rfl ⟨by omega,fun j h=>by omega⟩ ?_
  rintro k ⟨hk,hkj⟩
  by_cases hkl:k + 1 < l.length
  ·have e1:(((k + 1:Nat):Int) - 1).toNat = k:=by omega
   have e2:((k + 1:Nat):Int) - 1 = k:=by omega
   simp -dsimp (maxSteps:=4000000) +contextual (disch:=first | omega | decide +kernel) only [↓vsD,vsE,↓Nat.reduceLT,simprocAttr,ho,encD_length,encD_getD,e1,e2,eqD]
   refine ⟨fun hd=>?_,fun hd=>?_⟩
   ·have hc0:CpI l (k + 1) (k + 2) l:=by
     refine ⟨rfl,?_,fun x=>?_⟩
     ·refine adj_pw (R:=idlt) (fun a b c=>idlt_trans) (d:=default) (fun j hj=>?_)
      rw [List.length_take] at hj
      have e3:∀ i,i < k + 1 → (l.take (k + 1)).getD i default = l.getD i default:=fun i hi=>by
       rw [List.getD_eq_getElem?_getD,List.getD_eq_getElem?_getD,List.getElem?_take_of_lt hi]
      rw [e3 j (by omega),e3 (j + 1) (by omega)]
      exact hkj j (by omega)
     ·rw [take_succD l (k + 1) hkl,List.mem_append,List.mem_singleton]
      refine ⟨.inl,fun h=>h.elim id (fun e=>?_)⟩
      rw [e,hd,take_succD l k (by omega)]
      simp
    refine v_loopS (fun s:Nat × Nat × List Idn=>[(0,.msl o v),(3,.int .i64 s.1),(4,.msuf o v (k + 1)),(5,.int .i64 ((s.2.1 + 1:Nat):Int))]) (fun s=>σ.set o (.rows 58 3 (encD s.2.2) v))
     (fun s=>s.1 ≤ k + 1 + s.2.1 ∧ k + 1 + s.2.1 + 1 ≤ l.length ∧ CpI l s.1 (k + 1 + s.2.1 + 1) s.2.2 ∧ (∀ j,k + 1 + s.2.1 ≤ j → s.2.2.getD j default = l.getD j default)) (fun s=>l.length - s.2.1) (k + 1,0,l) (by simp [weaker,Go.PV.look]) hset ⟨by simp,by dsimp only; omega,hc0,fun j _=>rfl⟩ ?_
    rintro ⟨i,m,M⟩ ⟨hi,hm,hC,hD⟩
    dsimp only at hi hm hC hD ⊢
    have hML:=hC.len
    by_cases hml:k + 1 + (m + 1) < l.length
    ·have f1:(((m + 1:Nat):Int) - 1).toNat = m:=by omega
     have f2:((m + 1:Nat):Int) - 1 = m:=by omega
     simp -dsimp (maxSteps:=4000000) +contextual (disch:=first | omega | decide +kernel) only [↓vsD,vsE,↓Nat.reduceLT,simprocAttr,hs,encD_length,encD_getD,f1,f2,neD]
     have g1:M.getD (k + 1 + (m + 1)) default = l.getD (k + 1 + (m + 1)) default:=hD _ (by omega)
     have g2:M.getD (k + 1 + m) default = l.getD (k + 1 + m) default:=hD _ (by omega)
     rw [g1,g2]
     refine ⟨fun he=>?_,fun he=>?_⟩
     ·exact ⟨(i,m + 1,M),(by (try dsimp only); omega),by simp [weaker,Go.PV.look],rfl,by dsimp only; omega,by dsimp only; omega,hC.same (by omega) (by omega) he,fun j hj=>hD j (by dsimp only at hj; omega)⟩
     ·refine ⟨(i + 1,m + 1,M.set i (l.getD (k + 1 + (m + 1)) default)),(by (try dsimp only); omega),by simp [weaker,Go.PV.look],by rw [List.set_set,encD_set],by dsimp only; omega,by dsimp only; omega,hC.next hso (by omega) (by omega) (by omega) he,fun j hj=>?_⟩
      dsimp only at hj ⊢
      rw [List.getD_eq_getElem?_getD,List.getElem?_set_ne (by omega),← List.getD_eq_getElem?_getD]
      exact hD j (by omega)
    ·have hall:List.all [PV.int IntKind.i64 0,PV.int IntKind.i64 0,PV.int IntKind.i64 0] PV.cell = true:=rfl
     have hiM:i ≤ M.length:=by omega
     simp -dsimp (maxSteps:=4000000) +contextual (disch:=first | omega | decide +kernel) only [↓vsD,vsE,↓Nat.reduceLT,simprocAttr,hs,encD_length,hall,Bool.or_false,Bool.true_or,Bool.or_true,Bool.false_or,List.set_set,List.length_append,List.length_take,List.length_replicate]
     refine ⟨v + 1,M.take i,rfl,hC.s,fun x=>?_,?_⟩
     ·rw [hC.m,show k + 1 + m + 1 = l.length by omega,List.take_length]
     ·rw [List.take_append_of_le_length (by rw [List.length_take,encD_length]; omega),List.take_take,Nat.min_self,encD_take]
   ·exact ⟨k + 1,(by (try dsimp only); omega),by simp [weaker,Go.PV.look],rfl,by omega,nextJ hkj ((idle_cases (hso k (k + 1) (by omega) hkl)).resolve_left (fun e=>hd e.symm))⟩
  ·simp -dsimp (maxSteps:=4000000) +contextual (disch:=first | omega | decide +kernel) only [↓vsD,vsE,↓Nat.reduceLT,simprocAttr,ho,encD_length]
   refine ⟨v,l,rfl,?_,fun x=>Iff.rfl,hset⟩
   exact adj_pw (l:=l) (R:=idlt) (fun a b c=>idlt_trans) (d:=default) (fun j hj=>hkj j (by omega))
theorem ins0_ok (σ:Store) :
  PCall Try.prog 122 [.nils,.int .i64 0,.int .i64 0,.func (.func 54) [] []] σ (fun p σ'=>p = .tup [] ∧ σ' = σ):=by
 refine PCall.vraw [] 17179886591 53 [] (noE_ok _) mix Try.func122 rfl (by decide) rfl rfl (by simp) ?_
 simp -dsimp only [initFr,List.zipIdx_cons,List.zipIdx_nil,List.map_cons,List.map_nil,Nat.zero_add,Nat.reduceAdd]
 simp -dsimp (maxSteps:=4000000) +contextual (disch:=first | omega | decide +kernel) only [↓vsD,vsE,↓Nat.reduceLT,simprocAttr]
 refine v_loopS (fun _:Unit=>[(0,.nils),(1,.int .i64 0),(2,.int .i64 0),(3,.func (.func 54) [] []),(8,.int .i64 1)]) (fun _=>σ) (fun _=>True) (fun _=>0) () (by simp [weaker,Go.PV.look]) rfl trivial ?_
 intro _ _
 simp -dsimp (maxSteps:=4000000) +contextual (disch:=first | omega | decide +kernel) only [↓vsD,vsE,↓Nat.reduceLT,simprocAttr]
theorem pdq0_ok (r:Int) (σ:Store) :
  PCall Try.prog 109 [.nils,.int .i64 0,.int .i64 0,.int .i64 r,.func (.func 54) [] []] σ (fun p σ'=>p = .tup [] ∧ σ' = σ):=by
 refine PCall.vraw [] 42535296023574879666274036850519703551 148 [] (noE_ok _) mix Try.func109 rfl (by decide) rfl rfl (by simp) ?_
 simp -dsimp only [initFr,List.zipIdx_cons,List.zipIdx_nil,List.map_cons,List.map_nil,Nat.zero_add,Nat.reduceAdd]
 simp -dsimp (maxSteps:=4000000) +contextual (disch:=first | omega | decide +kernel) only [↓vsD,vsE,↓Nat.reduceLT,simprocAttr]
 refine v_loopS (fun _:Unit=>[(0,.nils),(1,.int .i64 0),(2,.int .i64 0),(4,.func (.func 54) [] [])]) (fun _=>σ) (fun _=>True) (fun _=>0) () (by simp [weaker,Go.PV.look]) rfl trivial ?_
 intro _ _
 simp -dsimp (maxSteps:=4000000) +contextual (disch:=first | omega | decide +kernel) only [↓vsD,vsE,↓Nat.reduceLT,simprocAttr]
 refine PCall.mono (ins0_ok σ) ?_
 rintro p σ' ⟨rfl,rfl⟩
 simp -dsimp (maxSteps:=4000000) +contextual (disch:=first | omega | decide +kernel) only [↓vsD,vsE,↓Nat.reduceLT,simprocAttr]
theorem sort0_ok (σ:Store) :
  PCall Try.prog 82 [.nils,.func (.func 54) [] []] σ (fun p σ'=>p = .tup [] ∧ σ' = σ):=by
 refine PCall.vraw [] 31 14 [] (noE_ok _) mix Try.func82 rfl (by decide) rfl rfl (by simp) ?_
 simp -dsimp only [initFr,List.zipIdx_cons,List.zipIdx_nil,List.map_cons,List.map_nil,Nat.zero_add,Nat.reduceAdd]
 simp -dsimp (maxSteps:=4000000) +contextual (disch:=first | omega | decide +kernel) only [↓vsD,vsE,↓Nat.reduceLT,simprocAttr,Go.IntWalk.u64_in]
 refine PCall.mono (blen_ok 0 (by omega) σ) ?_
 rintro p σ' ⟨⟨r,rfl⟩,rfl⟩
 simp -dsimp (maxSteps:=4000000) +contextual (disch:=first | omega | decide +kernel) only [↓vsD,vsE,↓Nat.reduceLT,simprocAttr]
 refine PCall.mono (pdq0_ok r σ') ?_
 rintro p σ'' ⟨rfl,rfl⟩
 simp -dsimp (maxSteps:=4000000) +contextual (disch:=first | omega | decide +kernel) only [↓vsD,vsE,↓Nat.reduceLT,simprocAttr]
theorem compact0_ok (σ:Store) :
  PCall Try.prog 83 [.nils] σ (fun q τ=>q = .nils ∧ τ = σ):=by
 refine PCall.vraw [] 17596514574655 61 [.tmp 2] (noE_ok _) mix Try.func83 rfl (by decide) rfl rfl (by simp) ?_
 simp -dsimp only [initFr,List.zipIdx_cons,List.zipIdx_nil,List.map_cons,List.map_nil,Nat.zero_add,Nat.reduceAdd]
 simp -dsimp (maxSteps:=4000000) +contextual (disch:=first | omega | decide +kernel) only [↓vsD,vsE,↓Nat.reduceLT,simprocAttr]
def UnD (a b r:List Idn):Prop:=r.Pairwise idlt ∧ ∀ x,x ∈ r ↔ x ∈ a ∨ x ∈ b
theorem union_w (a b:List Idn) (hl:a.length + b.length ≤ 12) :
  PCall Try.prog 53 [.sl (encD a),.sl (encD b)] [] (fun q _=>∃ r,q = .sl (encD r) ∧ UnD a b r):=by
 refine PCall.vfrz [] 63 14 [.tmp 4] (noE_ok _) mix Try.func53 rfl (by decide) rfl rfl (by simp) ?_
 simp -dsimp only [initFr,List.zipIdx_cons,List.zipIdx_nil,List.map_cons,List.map_nil,Nat.zero_add,Nat.reduceAdd]
 simp -dsimp (maxSteps:=4000000) +contextual (disch:=first | omega | decide +kernel) only [↓vsD,vsE,↓Nat.reduceLT,simprocAttr]
 refine PCall.mono (concat_ok a b (by omega) (by omega) []) ?_
 rintro p σ' (⟨rfl,rfl,rfl,rfl⟩ | ⟨hpos,v,rfl,rfl⟩)
 ·simp -dsimp (maxSteps:=4000000) +contextual (disch:=first | omega | decide +kernel) only [↓vsD,vsE,↓Nat.reduceLT,simprocAttr]
  refine PCall.mono (sort0_ok []) ?_
  rintro p σ' ⟨rfl,rfl⟩
  simp -dsimp (maxSteps:=4000000) +contextual (disch:=first | omega | decide +kernel) only [↓vsD,vsE,↓Nat.reduceLT,simprocAttr]
  refine PCall.mono (compact0_ok []) ?_
  rintro p σ' ⟨rfl,rfl⟩
  simp -dsimp (maxSteps:=4000000) +contextual (disch:=first | omega | decide +kernel) only [↓vsD,vsE,↓Nat.reduceLT,simprocAttr]
  exact fin0 .nils ⟨[],rfl,List.Pairwise.nil,fun x=>by simp⟩
 ·simp -dsimp (maxSteps:=4000000) +contextual (disch:=first | omega | decide +kernel) only [↓vsD,vsE,↓Nat.reduceLT,simprocAttr]
  refine PCall.mono (sortD_ok 0 v (a ++ b) _ (by simp) (by simp; omega)) ?_
  rintro p σ' ⟨rfl,L,hp,hso,rfl⟩
  simp -dsimp (maxSteps:=4000000) +contextual (disch:=first | omega | decide +kernel) only [↓vsD,vsE,↓Nat.reduceLT,simprocAttr]
  refine PCall.mono (compact_ok 0 v L (by have:=hp.length_eq; simp at this; omega) hso _ (by simp)) ?_
  rintro p σ' ⟨v',r,rfl,hr,hm,rfl⟩
  simp -dsimp (maxSteps:=4000000) +contextual (disch:=first | omega | decide +kernel) only [↓vsD,vsE,↓Nat.reduceLT,simprocAttr]
  refine fin0 (Frz.msl0 (Nat.zero_le _) rfl (encD_bel _ _)) ⟨r,rfl,hr,fun x=>?_⟩
  rw [hm,hp.mem_iff,List.mem_append]
theorem union_on (a b:List Idn) (hl:a.length + b.length ≤ 12) (σ:Store) :
  PCall Try.prog 53 [.sl (encD a),.sl (encD b)] σ (fun q τ=>(∃ r,q = .sl (encD r) ∧ UnD a b r) ∧ τ = σ) :=
 PCall.lift (union_w a b hl) (bel2 (bel_ids _ _) (bel_ids _ _)) (fun q h=>by obtain ⟨r,rfl,h⟩:=h; exact ⟨bel_ids _ _,⟨r,rfl,h⟩,rfl⟩)
end Go.Proofs.Ythjoehaglonjaaa
