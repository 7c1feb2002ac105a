import Derived.Test.YtangodmcbmeeaaaPvT
set_option maxRecDepth 8000
set_option linter.unusedSimpArgs false
set_option linter.unusedVariables false
namespace Go.PV
theorem place_other:∀ (acc:List Obj) (σ:Store) (N o:Nat),¬ (N ≤ o ∧ o < N + acc.length) → (place σ N acc)[o]? = σ[o]?
 | [],_,_,_,_=>rfl
 | X :: acc,σ,N,o,h=>by
  simp only [List.length_cons] at h
  rw [place,place_other acc _ _ _ (by omega),List.getElem?_set_ne (by omega)]
theorem place_in:∀ (acc:List Obj) (σ:Store) (N m:Nat),m < acc.length → N + m < σ.length → (place σ N acc)[N + m]? = acc[m]?
 | [],_,_,_,h,_=>by simp at h
 | X :: acc,σ,N,0,_,h=>by
  rw [place,place_other acc _ _ _ (by omega),Nat.add_zero,List.getElem?_set_self (by omega)]; rfl
 | X :: acc,σ,N,m + 1,h,h2=>by
  rw [place,show N + (m + 1) = N + 1 + m from by omega,place_in acc _ _ m (by simpa using h) (by simp; omega)]; rfl
def preOk (N:Nat) (fls:List Nat) (S:Nat → Nat) (fobj:Nat → Obj) (σ σp:Store) (k:Nat):Prop :=
 σp.length = σ.length ∧ (∀ o:Nat,(∀ j ∈ fls,S k ≤ idxF fls j → idxF fls j < S (k + 1) → slotF N fls j ≠ o) → σp[o]? = σ[o]?) ∧
  ∀ j ∈ fls,S k ≤ idxF fls j → idxF fls j < S (k + 1) → slotF N fls j < σ.length → σp[slotF N fls j]? = some (fobj j)
def pdrA (P:Program) (M:List Nat) (n:Nat) (ops:Array Oper) (effs fls:List Nat) (Q:Fr → Store → Prop):Nat → List (Oper × Nat × Nat) → List (Nat × (Store → Prop)) → List Store → Nat → List Obj → Fr → Prop
 | _,[],_,past,N,acc,fr=>∃ σ,past.getLast? = some σ ∧ Q fr (place σ N acc)
 | i,(o,lo,hi) :: rest,pend,past,N,acc,fr=>fits n o.dst ∧ (match guardP ops fr o with
  | some true=>if effs.contains i then ∃ σ p σ',past.getLast? = some σ ∧ lo ≤ acc.length ∧ Out P M ops (place σ N (acc.take lo)) fr o p σ' ∧ (∀ c ∈ pend,past.length ≤ c.1 → c.2 σ') ∧ pdrA P M n ops effs fls Q (i + 1) rest pend (past ++ [σ']) (N + lo) (acc.drop lo) (putF fr o.dst p)
    else if fls.contains i then ∃ mk obj,isMk mk ∧ ObjBel 0 obj ∧ (∀ σ,stepC P (mutOf M o.dst) σ (evR (o.looksAt ops) fr) (fun q σ''=>q = mk σ.length ∧ σ'' = σ ++ [obj]) o.op) ∧
     pdrA P M n ops effs fls Q (i + 1) rest pend past N (acc ++ [obj]) (putF fr o.dst (mk (N + acc.length)))
    else ∃ p,(∀ σ ∈ past.drop lo,Out P M ops σ fr o p σ) ∧ pdrA P M n ops effs fls Q (i + 1) rest (pend ++ [(hi,fun σ=>Out P M ops σ fr o p σ)]) past N acc (putF fr o.dst p)
  | some false=>if effs.contains i then ∃ σ,past.getLast? = some σ ∧ lo ≤ acc.length ∧ (∀ c ∈ pend,past.length ≤ c.1 → c.2 (place σ N (acc.take lo))) ∧ pdrA P M n ops effs fls Q (i + 1) rest pend (past ++ [place σ N (acc.take lo)]) (N + lo) (acc.drop lo) (putF fr o.dst .undef)
    else if fls.contains i then pdrA P M n ops effs fls Q (i + 1) rest pend past N (acc ++ [.dead]) (putF fr o.dst .undef)
    else pdrA P M n ops effs fls Q (i + 1) rest pend past N acc (putF fr o.dst .undef)
  | none=>False)
section
variable {P:Program} {M:List Nat} {n:Nat} {ops:Array Oper} {effs fls:List Nat} {N0:Nat} {S:Nat → Nat}
theorem OpOkA.pre {vals:Nat → PV} {sts pre pre':Nat → Store} {fobj:Nat → Obj} {fr:Fr} {i:Nat} {o:Oper} (h:OpOkA P M n ops effs fls N0 vals sts pre fobj fr i o) (he:∀ k,effs[k]? = some i → pre' k = pre k):OpOkA P M n ops effs fls N0 vals sts pre' fobj fr i o:=by
 obtain ⟨h1,h2⟩:=h
 refine ⟨h1,?_⟩
 rcases h2 with ⟨a,b,c,d⟩ | ⟨a,b⟩
 ·exact .inl ⟨a,b,fun k hk=>by rw [he k hk]; exact c k hk,d⟩
 ·refine .inr ⟨a,?_⟩
  rcases b with b | ⟨b1,k,b2,b3⟩ | b
  ·exact .inl b
  ·exact .inr (.inl ⟨b1,k,b2,by rw [he k b2]; exact b3⟩)
  ·exact .inr (.inr b)
theorem pdrA_spec (hS0:S 0 = 0) (hsort:effs.Pairwise (· < ·)) (hin:∀ i ∈ effs,i < ops.size) (hsortf:fls.Pairwise (· < ·)) (hinf:∀ i ∈ fls,i < ops.size) (hdis:∀ i ∈ fls,i ∉ effs) {Q:Fr → Store → Prop} {fr0:Fr} :
  ∀ (l:List (Oper × Nat × Nat)) (i:Nat) (pend:List (Nat × (Store → Prop))) (past:List Store) (acc:List Obj) (vals:Nat → PV) (sts:Nat → Store) (fobj:Nat → Obj) (c N:Nat),
  i + l.length = ops.size → (∀ (m:Nat) (q:Oper × Nat × Nat),l[m]? = some q → ops[i + m]? = some q.1 ∧ ((i + m) ∉ effs → q.2 = (loE ops effs (i + m),hiE ops effs (i + m))) ∧ ∀ k,effs[k]? = some (i + m) → S (k + 1) = S k + q.2.1) →
  (effs.filter (fun e=>decide (e < i))).length = c → past.length = 1 + c → N = N0 + S c → (∀ k σ,past[k]? = some σ → sts k = σ) →
  S c + acc.length = (fls.filter (fun e=>decide (e < i))).length → (∀ (m j:Nat),fls[S c + m]? = some j → m < acc.length → acc[m]? = some (fobj j)) →
  pdrA P M n ops effs fls Q i l pend past N acc (frT ops vals fr0 i) →
  ∃ vals' sts' pre' fobj' acc',(∀ j,j < i → vals' j = vals j) ∧ (∀ k,k < past.length → sts' k = sts k) ∧ (∀ j,j < i → fobj' j = fobj j) ∧ S effs.length + acc'.length = fls.length ∧ (∀ (m j:Nat),fls[S effs.length + m]? = some j → acc'[m]? = some (fobj' j)) ∧ Q (frT ops vals' fr0 ops.size) (place (sts' effs.length) (N0 + S effs.length) acc') ∧
   (∀ (j:Nat) (o:Oper),i ≤ j → ops[j]? = some o → OpOkA P M n ops effs fls N0 vals' sts' pre' fobj' fr0 j o) ∧ (∀ k,c ≤ k → k < effs.length → preOk N0 fls S fobj' (sts' k) (pre' k) k) ∧ (∀ c ∈ pend,∀ k,past.length ≤ k → k ≤ c.1 → k ≤ effs.length → c.2 (sts' k))
 | [],i,pend,past,acc,vals,sts,fobj,c,N,hl,_,hc,hp,hN,hs,hal,hao,h=>by
  obtain ⟨σ,h1,h2⟩:=h
  simp at hl
  have hall:effs.filter (fun e=>decide (e < i)) = effs:=List.filter_eq_self.2 (fun e he=>by have:=hin e he; simp; omega)
  have hallf:fls.filter (fun e=>decide (e < i)) = fls:=List.filter_eq_self.2 (fun e he=>by have:=hinf e he; simp; omega)
  rw [hall] at hc
  rw [hallf] at hal
  subst hc
  have hσ:sts effs.length = σ:=hs _ _ (by rw [List.getLast?_eq_getElem?,hp] at h1; simpa using h1)
  refine ⟨vals,sts,sts,fobj,acc,fun _ _=>rfl,fun _ _=>rfl,fun _ _=>rfl,hal,fun m j hj=>hao m j hj (by have:=(List.getElem?_eq_some_iff.1 hj).1; omega),by rw [hσ,← hl,← hN]; exact h2,fun j o hj ho=>?_,fun k hk hk2=>by omega,fun c _ k hk _ hk'=>by omega⟩
  have:=(Array.getElem?_eq_some_iff.1 ho).1
  omega
 | (o,lo,hi) :: rest,i,pend,past,acc,vals,sts,fobj,c,N,hl,hlist,hc,hp,hN,hs,hal,hao,h=>by
  obtain ⟨ho,hlh,hlS⟩:=hlist 0 _ rfl
  simp only [Nat.add_zero,Prod.mk.injEq] at ho hlh hlS
  have hrest:∀ (m:Nat) (q:Oper × Nat × Nat),rest[m]? = some q → ops[i + 1 + m]? = some q.1 ∧ ((i + 1 + m) ∉ effs → q.2 = (loE ops effs (i + 1 + m),hiE ops effs (i + 1 + m))) ∧ ∀ k,effs[k]? = some (i + 1 + m) → S (k + 1) = S k + q.2.1:=fun m q hq=>by
   have:=hlist (m + 1) q (by simpa using hq)
   rwa [show i + (m + 1) = i + 1 + m from by omega] at this
  simp only [List.length_cons] at hl
  obtain ⟨hfit,h⟩:=h
  have hne:0 < past.length:=by omega
  have hcount:∀ hm:i ∈ effs,effs[c]? = some i ∧ (effs.filter (fun e=>decide (e < i + 1))).length = c + 1:=fun hm=>by
   obtain ⟨k,hk⟩:=List.mem_iff_getElem?.1 hm
   have h1:=filter_lt_len hsort k i hk
   have h2:=filter_step hsort hk
   rw [hc] at h1
   exact ⟨by rw [h1]; exact hk,by omega⟩
  have hcount':i ∉ effs → effs.filter (fun e=>decide (e < i + 1)) = effs.filter (fun e=>decide (e < i)):=filter_skip
  have hfloat:∀ (hm:i ∈ fls) (obj:Obj),S c + (acc ++ [obj]).length = (fls.filter (fun e=>decide (e < i + 1))).length ∧
    (∀ (m j:Nat),fls[S c + m]? = some j → m < (acc ++ [obj]).length → (acc ++ [obj])[m]? = some (if j = i then obj else fobj j)):=fun hm obj=>by
   obtain ⟨k,hk⟩:=List.mem_iff_getElem?.1 hm
   have h1:=filter_lt_len hsortf k i hk
   have h2:=filter_step hsortf hk
   have hak:S c + acc.length = k:=by omega
   refine ⟨by simp; omega,fun m j hj hm=>?_⟩
   simp at hm
   by_cases hmk:S c + m = k
   ·rw [hmk] at hj
    cases hj.symm.trans hk
    rw [if_pos rfl,show m = acc.length from by omega,List.getElem?_concat_length]
   ·have hmlt:m < acc.length:=by omega
    rw [List.getElem?_append_left hmlt,hao m j hj hmlt]
    have hne:j ≠ i:=fun e=>by
     subst e
     have hmf:=(List.getElem?_eq_some_iff.1 hj)
     have hkf:=(List.getElem?_eq_some_iff.1 hk)
     obtain ⟨a1,a2⟩:=hmf
     obtain ⟨b1,b2⟩:=hkf
     have:=List.pairwise_iff_getElem.1 hsortf (S c + m) k a1 b1 (by omega)
     omega
    rw [if_neg hne]
  have hal':i ∉ fls → S c + acc.length = (fls.filter (fun e=>decide (e < i + 1))).length:=fun hm=>by rw [filter_skip hm]; exact hal
  have hslot:∀ hm:i ∈ fls,slotF N0 fls i = N + acc.length:=fun hm=>by
   unfold slotF
   omega
  have htake:∀ {lo:Nat},i ∈ effs → lo ≤ acc.length → S (c + 1) = S c + lo → S (c + 1) + (acc.drop lo).length = (fls.filter (fun e=>decide (e < i + 1))).length ∧ (∀ (m j:Nat),fls[S (c + 1) + m]? = some j → m < (acc.drop lo).length → (acc.drop lo)[m]? = some (fobj j)) ∧
    (∀ (σ:Store) (fobj':Nat → Obj),(∀ j,j < i → fobj' j = fobj j) → preOk N0 fls S fobj' σ (place σ N (acc.take lo)) c):=fun {lo} hm hlo hSc=>by
   have hnf:i ∉ fls:=fun h=>hdis i h hm
   rw [filter_skip hnf,← hal,List.length_drop]
   refine ⟨by omega,fun m j hj hml=>?_,fun σ fobj' hf=>⟨place_len _ _ _,fun o ho=>?_,fun j hj h1 h2 hlt=>?_⟩⟩
   ·rw [List.getElem?_drop]
    exact hao _ j (by rw [← hj]; congr 1; omega) (by omega)
   ·refine place_other _ _ _ _ ?_
    rw [List.length_take,Nat.min_eq_left hlo]
    apply Classical.byContradiction
    intro hno
    have hlt:o - N0 < fls.length:=by
     have:=List.length_filter_le (fun e=>decide (e < i)) fls
     omega
    have hj:=List.getElem?_eq_getElem hlt
    have hidx:=filter_lt_len hsortf _ _ hj
    exact ho _ (List.mem_of_getElem? hj) (by unfold idxF; omega) (by unfold idxF; omega) (by unfold slotF; omega)
   ·obtain ⟨q,hq⟩:=List.mem_iff_getElem?.1 hj
    have hidx:=filter_lt_len hsortf _ _ hq
    unfold idxF at h1 h2
    have e1:slotF N0 fls j = N + (q - S c):=by unfold slotF; omega
    have hji:j < i:=by
     have h3:q < (fls.filter (fun e=>decide (e < i))).length:=by omega
     apply Classical.byContradiction
     intro hge
     have h4:(fls.filter (fun e=>decide (e < i))).length ≤ (fls.filter (fun e=>decide (e < j))).length:=by
      rw [← List.countP_eq_length_filter,← List.countP_eq_length_filter]
      exact List.countP_mono_left (fun e _ he=>by simp at he ⊢; omega)
     omega
    rw [e1,place_in _ _ _ _ (by rw [List.length_take]; omega) (by rw [← e1]; exact hlt),List.getElem?_take,if_pos (by omega),hf j hji]
    exact hao _ j (by rw [← hq]; congr 1; omega) (by omega)
  have hfr:∀ p,putF (frT ops vals fr0 i) o.dst p = frT ops (fun j=>if j = i then p else vals j) fr0 (i + 1):=fun p=>by
   simp only [frT,ho,Option.bind_some,if_true]
   rw [frT_congr i (fun j hj=>(if_neg (show ¬ j = i by omega)).symm)]
  have hlast:∀ σ,past.getLast? = some σ → sts c = σ:=fun σ h1=>hs _ _ (by rw [List.getLast?_eq_getElem?,hp] at h1; rw [← h1]; congr 1; omega)
  have hpast:∀ σ',∀ (k:Nat) (τ:Store),(past ++ [σ'])[k]? = some τ → (if k = past.length then σ' else sts k) = τ:=fun σ' k τ hk=>by
   rw [List.getElem?_append] at hk
   by_cases hkl:k < past.length
   ·rw [if_pos hkl] at hk
    rw [if_neg (by omega)]
    exact hs k τ hk
   ·rw [if_neg hkl] at hk
    have hk0:k - past.length = 0:=by
     have:=(List.getElem?_eq_some_iff.1 hk).1
     simp at this; omega
    rw [hk0] at hk
    simp at hk
    rw [if_pos (by omega)]
    exact hk
  have hpos:i ∈ effs → c < effs.length:=fun hm=>(List.getElem?_eq_some_iff.1 (hcount hm).1).1
  split at h
  ·rename_i hg
   split at h
   ·
    rename_i hc2
    have hm:i ∈ effs:=by simpa using hc2
    obtain ⟨σ,p,σ',h1,hlo,h2,h3,h4⟩:=h
    obtain ⟨hek,hck⟩:=hcount hm
    have hSc:=hlS c hek
    obtain ⟨t1,t2,t3⟩:=htake hm hlo hSc
    rw [hfr] at h4
    have hnf:i ∉ fls:=fun h=>hdis i h hm
    obtain ⟨vals',sts',pre',fobj',acc',g1,g2,gf,ga,gb,g3,g4,gp,g5⟩:=pdrA_spec hS0 hsort hin hsortf hinf hdis rest (i + 1) pend (past ++ [σ']) (acc.drop lo) (fun j=>if j = i then p else vals j) (fun k=>if k = past.length then σ' else sts k) fobj (c + 1) (N + lo) (by omega) hrest
     hck (by rw [List.length_append,List.length_singleton]; omega) (by omega) (hpast σ') t1 t2 h4
    have hstl:sts' past.length = σ':=by rw [g2 _ (by simp),if_pos rfl]
    have hst0:∀ k,k < past.length → sts' k = sts k:=fun k hk=>by rw [g2 k (by simp; omega),if_neg (by omega)]
    have hpl:past.length = c + 1:=by omega
    refine ⟨vals',sts',fun k=>if k = c then place σ N (acc.take lo) else pre' k,fobj',acc',fun j hj=>by rw [g1 j (by omega),if_neg (by omega)],hst0,fun j hj=>gf j (by omega),ga,gb,g3,fun j oj hj hoj=>?_,fun k hk hkl=>?_,fun q hcm k hk hk1 hk2=>?_⟩
    ·rcases Nat.eq_or_lt_of_le hj with rfl | hj
     ·cases ho.symm.trans hoj
      have hfe:frT ops vals' fr0 i = frT ops vals fr0 i:=frT_congr i (fun j hj=>by rw [g1 j (by omega),if_neg (by omega)])
      refine ⟨hfit,.inr ⟨by rw [hfe]; exact hg,.inr (.inl ⟨hnf,c,hek,?_⟩)⟩⟩
      dsimp only
      rw [hfe,if_pos rfl,← hpl,hstl,g1 i (by omega),if_pos rfl]
      exact h2
     ·exact (g4 j oj hj hoj).pre (fun k hk=>if_neg (fun e=>by
       subst e
       have a1:=filter_lt_len hsort _ _ hek
       have a2:=filter_lt_len hsort _ _ hk
       have:i = j:=Option.some.inj (hek.symm.trans hk)
       omega))
    ·by_cases hkc:k = c
     ·subst hkc
      dsimp only
      rw [if_pos rfl,hst0 _ (by omega),hlast σ h1]
      exact t3 σ fobj' (fun j hj=>gf j (by omega))
     ·dsimp only; rw [if_neg hkc]; exact gp k (by omega) hkl
    ·rcases Nat.eq_or_lt_of_le hk with rfl | hk
     ·rw [hstl]; exact h3 q hcm hk1
     ·exact g5 q hcm k (by simp; omega) hk1 hk2
   ·rename_i hc2
    have hm:i ∉ effs:=by simpa using hc2
    have hlh2:=hlh hm
    have hcc:=hcount' hm
    split at h
    ·
     rename_i hcf
     have hmf:i ∈ fls:=by simpa using hcf
     obtain ⟨mk,obj,hmk,hob,h2,h4⟩:=h
     obtain ⟨b2,b3⟩:=hfloat hmf obj
     rw [hfr] at h4
     obtain ⟨vals',sts',pre',fobj',acc',g1,g2,gf,ga,gb,g3,g4,gp,g5⟩:=pdrA_spec hS0 hsort hin hsortf hinf hdis rest (i + 1) pend past (acc ++ [obj]) (fun j=>if j = i then mk (N + acc.length) else vals j) sts (fun j=>if j = i then obj else fobj j) c N (by omega) hrest
      (by rw [hcc]; exact hc) hp hN hs b2 b3 h4
     have hfi:fobj' i = obj:=by rw [gf i (by omega),if_pos rfl]
     refine ⟨vals',sts',pre',fobj',acc',fun j hj=>by rw [g1 j (by omega),if_neg (by omega)],g2,fun j hj=>by rw [gf j (by omega),if_neg (by omega)],ga,gb,g3,fun j oj hj hoj=>?_,gp,g5⟩
     rcases Nat.eq_or_lt_of_le hj with rfl | hj
     ·cases ho.symm.trans hoj
      have hfe:frT ops vals' fr0 i = frT ops vals fr0 i:=frT_congr i (fun j hj=>by rw [g1 j (by omega),if_neg (by omega)])
      refine ⟨hfit,.inr ⟨by rw [hfe]; exact hg,.inr (.inr ⟨hm,hmf,by rw [hfi]; exact hob,mk,hmk,?_,fun σ=>?_⟩)⟩⟩
      ·rw [g1 i (by omega),if_pos rfl,hslot hmf]
      ·rw [hfe,hfi]; exact h2 σ
     ·exact g4 j oj hj hoj
    rename_i hcf
    have hmf:i ∉ fls:=by simpa using hcf
    obtain ⟨p,h2,h4⟩:=h
    rw [hfr] at h4
    obtain ⟨vals',sts',pre',fobj',acc',g1,g2,gf,ga,gb,g3,g4,gp,g5⟩:=pdrA_spec hS0 hsort hin hsortf hinf hdis rest (i + 1) _ past acc (fun j=>if j = i then p else vals j) sts fobj c N (by omega) hrest (by rw [hcc]; exact hc) hp hN hs (hal' hmf) hao h4
    refine ⟨vals',sts',pre',fobj',acc',fun j hj=>by rw [g1 j (by omega),if_neg (by omega)],g2,fun j hj=>gf j (by omega),ga,gb,g3,fun j oj hj hoj=>?_,gp,fun q hcm k hk hk1 hk2=>g5 q (by simp [hcm]) k hk hk1 hk2⟩
    rcases Nat.eq_or_lt_of_le hj with rfl | hj
    ·cases ho.symm.trans hoj
     have hfe:frT ops vals' fr0 i = frT ops vals fr0 i:=frT_congr i (fun j hj=>by rw [g1 j (by omega),if_neg (by omega)])
     refine ⟨hfit,.inr ⟨by rw [hfe]; exact hg,.inl ⟨hm,hmf,fun k hk1 hk2=>?_⟩⟩⟩
     rw [hfe,g1 i (by omega),if_pos rfl]
     by_cases hkl:k < past.length
     ·rw [g2 k hkl]
      obtain ⟨τ,hτ⟩:∃ τ,past[k]? = some τ:=⟨past[k],List.getElem?_eq_getElem hkl⟩
      rw [hs k τ hτ]
      refine h2 τ (List.mem_of_getElem? (i:=k - loE ops effs i) ?_)
      rw [hlh2.1,List.getElem?_drop,show loE ops effs i + (k - loE ops effs i) = k from by omega]
      exact hτ
     ·refine g5 (hi,fun σ=>Out P M ops σ (frT ops vals fr0 i) o p σ) (by simp) k (by omega) (by rw [hlh2.2]; exact hk2) ?_
      have:hiE ops effs i ≤ effs.length:=List.length_filter_le _ _
      omega
    ·exact g4 j oj hj hoj
  ·rename_i hg
   split at h
   ·rename_i hc2
    have hm:i ∈ effs:=by simpa using hc2
    obtain ⟨σ,h1,hlo,h3,h4⟩:=h
    obtain ⟨hek,hck⟩:=hcount hm
    have hSc:=hlS c hek
    obtain ⟨t1,t2,t3⟩:=htake hm hlo hSc
    rw [hfr] at h4
    have hnf:i ∉ fls:=fun h=>hdis i h hm
    obtain ⟨vals',sts',pre',fobj',acc',g1,g2,gf,ga,gb,g3,g4,gp,g5⟩:=pdrA_spec hS0 hsort hin hsortf hinf hdis rest (i + 1) pend (past ++ [place σ N (acc.take lo)]) (acc.drop lo) (fun j=>if j = i then .undef else vals j) (fun k=>if k = past.length then place σ N (acc.take lo) else sts k) fobj (c + 1) (N + lo) (by omega) hrest
     hck (by rw [List.length_append,List.length_singleton]; omega) (by omega) (hpast _) t1 t2 h4
    have hstl:sts' past.length = place σ N (acc.take lo):=by rw [g2 _ (by simp),if_pos rfl]
    have hst0:∀ k,k < past.length → sts' k = sts k:=fun k hk=>by rw [g2 k (by simp; omega),if_neg (by omega)]
    have hpl:past.length = c + 1:=by omega
    refine ⟨vals',sts',fun k=>if k = c then place σ N (acc.take lo) else pre' k,fobj',acc',fun j hj=>by rw [g1 j (by omega),if_neg (by omega)],hst0,fun j hj=>gf j (by omega),ga,gb,g3,fun j oj hj hoj=>?_,fun k hk hkl=>?_,fun q hcm k hk hk1 hk2=>?_⟩
    ·rcases Nat.eq_or_lt_of_le hj with rfl | hj
     ·cases ho.symm.trans hoj
      have hfe:frT ops vals' fr0 i = frT ops vals fr0 i:=frT_congr i (fun j hj=>by rw [g1 j (by omega),if_neg (by omega)])
      refine ⟨hfit,.inl ⟨by rw [hfe]; exact hg,by rw [g1 i (by omega),if_pos rfl],fun k hk=>?_,fun h=>absurd h hnf⟩⟩
      have hkk:k = c:=by
       have a1:=filter_lt_len hsort k i hk
       have a2:=filter_lt_len hsort _ i hek
       omega
      subst hkk
      dsimp only
      rw [if_pos rfl,← hpl,hstl]
     ·exact (g4 j oj hj hoj).pre (fun k hk=>if_neg (fun e=>by
       subst e
       have:i = j:=Option.some.inj (hek.symm.trans hk)
       omega))
    ·by_cases hkc:k = c
     ·subst hkc
      dsimp only
      rw [if_pos rfl,hst0 _ (by omega),hlast σ h1]
      exact t3 σ fobj' (fun j hj=>gf j (by omega))
     ·dsimp only; rw [if_neg hkc]; exact gp k (by omega) hkl
    ·rcases Nat.eq_or_lt_of_le hk with rfl | hk
     ·rw [hstl]; exact h3 q hcm hk1
     ·exact g5 q hcm k (by simp; omega) hk1 hk2
   ·rename_i hc2
    have hm:i ∉ effs:=by simpa using hc2
    have hcc:=hcount' hm
    split at h
    ·rename_i hcf
     have hmf:i ∈ fls:=by simpa using hcf
     obtain ⟨b2,b3⟩:=hfloat hmf .dead
     rw [hfr] at h
     obtain ⟨vals',sts',pre',fobj',acc',g1,g2,gf,ga,gb,g3,g4,gp,g5⟩:=pdrA_spec hS0 hsort hin hsortf hinf hdis rest (i + 1) pend past (acc ++ [.dead]) (fun j=>if j = i then .undef else vals j) sts (fun j=>if j = i then .dead else fobj j) c N (by omega) hrest
      (by rw [hcc]; exact hc) hp hN hs b2 b3 h
     refine ⟨vals',sts',pre',fobj',acc',fun j hj=>by rw [g1 j (by omega),if_neg (by omega)],g2,fun j hj=>by rw [gf j (by omega),if_neg (by omega)],ga,gb,g3,fun j oj hj hoj=>?_,gp,g5⟩
     rcases Nat.eq_or_lt_of_le hj with rfl | hj
     ·cases ho.symm.trans hoj
      have hfe:frT ops vals' fr0 i = frT ops vals fr0 i:=frT_congr i (fun j hj=>by rw [g1 j (by omega),if_neg (by omega)])
      exact ⟨hfit,.inl ⟨by rw [hfe]; exact hg,by rw [g1 i (by omega),if_pos rfl],fun k hk=>absurd (List.mem_of_getElem? hk) hm,fun _=>by rw [gf i (by omega),if_pos rfl]⟩⟩
     ·exact g4 j oj hj hoj
    rename_i hcf
    have hmf:i ∉ fls:=by simpa using hcf
    rw [hfr] at h
    obtain ⟨vals',sts',pre',fobj',acc',g1,g2,gf,ga,gb,g3,g4,gp,g5⟩:=pdrA_spec hS0 hsort hin hsortf hinf hdis rest (i + 1) pend past acc (fun j=>if j = i then .undef else vals j) sts fobj c N (by omega) hrest (by rw [hcc]; exact hc) hp hN hs (hal' hmf) hao h
    refine ⟨vals',sts',pre',fobj',acc',fun j hj=>by rw [g1 j (by omega),if_neg (by omega)],g2,fun j hj=>gf j (by omega),ga,gb,g3,fun j oj hj hoj=>?_,gp,g5⟩
    rcases Nat.eq_or_lt_of_le hj with rfl | hj
    ·cases ho.symm.trans hoj
     have hfe:frT ops vals' fr0 i = frT ops vals fr0 i:=frT_congr i (fun j hj=>by rw [g1 j (by omega),if_neg (by omega)])
     exact ⟨hfit,.inl ⟨by rw [hfe]; exact hg,by rw [g1 i (by omega),if_pos rfl],fun k hk=>absurd (List.mem_of_getElem? hk) hm,fun h=>absurd h hmf⟩⟩
    ·exact g4 j oj hj hoj
  ·exact h.elim
end
def sumA (lh:List (Nat × Nat)) (effs:List Nat):Nat → Nat
 | 0=>0
 | k + 1=>sumA lh effs k + (lh.getD (effs.getD k 0) (0,0)).1
def adB (ops:Array Oper) (effs fls:List Nat) (lh:List (Nat × Nat)):Bool :=
 decide (lh.length = ops.size) && ((List.range ops.size).all fun i=>effs.contains i || decide (lh.getD i (0,0) = (loE ops effs i,hiE ops effs i))) &&
 ((List.range effs.length).all fun k=>fls.all fun j=>!(decide (sumA lh effs k ≤ idxF fls j) && decide (idxF fls j < sumA lh effs (k + 1))) || ((beforeL ops).getD (effs.getD k 0) 0).testBit j)
section
variable {P:Program} {M:List Nat} {n:Nat}
theorem pdrawA_sound (hmix:P.follows .mixedOrders = true) {id:Nat} {ops:Array Oper} {effs fls:List Nat} {lh:List (Nat × Nat)} {Q:Exit → Fr → Store → Prop} {fr:Fr} {σ:Store} (hd:drawB ops effs = true) (hfb:floatB ops effs fls = true) (hab:adB ops effs fls lh = true)
  (h:pdrA P M n ops effs fls (Q .normal) 0 (ops.toList.zip lh) [] [σ ++ List.replicate fls.length .dead] σ.length [] fr) {I:Imm} {ρ:Rho} {a:Act} {w:World} (hinv:Inv I ρ σ w) (hf:Frel I ρ n fr a.tmps):(Code.region id ops true).wp P (Lift n Q I ρ σ w a.defers) a w:=by
 have hok:=DrawOk.of hd
 simp only [floatB,Bool.and_eq_true,List.all_eq_true,decide_eq_true_eq,Bool.not_eq_true'] at hfb
 obtain ⟨hfs,hfa⟩:=hfb
 have hpf:=sorted_pairwise hfs
 have hfi:∀ i ∈ fls,i < ops.size:=fun i hi=>(hfa i hi).1
 have hfd:∀ i ∈ fls,i ∉ effs:=fun i hi=>by simpa using (hfa i hi).2
 simp only [adB,Bool.and_eq_true,List.all_eq_true,decide_eq_true_eq,List.mem_range] at hab
 obtain ⟨⟨hlen,hlo⟩,had⟩:=hab
 obtain ⟨vals,sts,pre,fobj,acc,_,g2,_,ga,gb,g3,g4,gp,_⟩:=pdrA_spec (M:=M) (n:=n) (fr0:=fr) (N0:=σ.length) (S:=sumA lh effs) rfl (sorted_pairwise hok.sorted) hok.inside hpf hfi hfd (ops.toList.zip lh) 0 [] [σ ++ List.replicate fls.length .dead] [] (fun _=>.unk) (fun _=>σ ++ List.replicate fls.length .dead) (fun _=>.dead) 0 σ.length (by simp [hlen])
  (fun m q hq=>by
   rw [List.zip,List.getElem?_zipWith] at hq
   rw [Nat.zero_add]
   cases ho:ops.toList[m]? with
   | none=>simp [ho] at hq
   | some o =>
    cases hl:lh[m]? with
    | none=>simp [ho,hl] at hq
    | some x =>
     simp [ho,hl] at hq
     subst hq
     have hms:m < ops.size:=by simpa using (List.getElem?_eq_some_iff.1 ho).1
     refine ⟨by simpa using ho,fun hm=>?_,fun k hk=>?_⟩
     ·have:=hlo m hms
      rw [List.getD_eq_getElem?_getD,hl] at this
      simpa [hm] using this
     ·simp only [sumA]
      rw [List.getD_eq_getElem?_getD (l:=effs),hk,Option.getD_some,List.getD_eq_getElem?_getD,hl]
      rfl) (by rw [List.filter_eq_nil_iff.2 (fun e _=>by simp)]; rfl) (by simp) (by simp [sumA]) (fun k τ hk=>by
   cases k with
   | zero=>simpa using hk
   | succ k=>simp at hk) (by rw [List.filter_eq_nil_iff.2 (fun e _=>by simp)]; rfl) (fun m j _ hm=>by simp at hm) h
 have hs0:sts 0 = σ ++ List.replicate fls.length .dead:=g2 0 (by simp)
 refine wp_region_any hmix ?_
 have hcnt:cnt effs (Array.replicate ops.size false) = 0:=by
  unfold cnt
  rw [List.filter_eq_nil_iff.2 (fun e _=>by simp [Array.getD_eq_getD_getElem?,Array.getElem?_replicate]; split <;> rfl)]
  rfl
 have hnone:∀ i,¬ isIn (Array.replicate ops.size false) i:=fun i=>by
  simp [isIn,Array.getD_eq_getD_getElem?,Array.getElem?_replicate]; split <;> rfl
 have hg:∀ t m,gT ops vals fr (Array.replicate ops.size false) t m = look fr t:=fun t m=>by
  induction m with
  | zero=>rfl
  | succ m ih=>simp only [gT,ih]; rw [if_neg (fun h=>hnone m h.1)]
 obtain ⟨i1,i2⟩:=inv_dead hinv fls.length
 have hslot:∀ i ∈ fls,∃ k,fls[k]? = some i ∧ slotF σ.length fls i = σ.length + k:=fun i hi=>by
  obtain ⟨k,hk⟩:=List.mem_iff_getElem?.1 hi
  exact ⟨k,hk,by unfold slotF; rw [filter_lt_len hpf k i hk]⟩
 refine draw_anyA (S:=sumA lh effs) hok hfs hfi (fun i hi h=>hfd i h hi) (fun i o ho=>g4 i o (Nat.zero_le _) ho) (fun k=>Nat.le_add_right _ _) (fun k i hk=>?_) (I0:=I) (ρ0:=ρ) (σ0:=σ) (w0:=w) (ds:=a.defers) (Nat.le_refl _) ?_ ops.size _ a _ I ρ (σ ++ List.replicate fls.length .dead) (by simp) (fun i o hi=>absurd hi (hnone i)) (by
   rw [Array.toList_replicate,List.countP_replicate]; split <;> omega) ?_ (fun j _ h=>by rw [hcnt] at h; exact absurd h (Nat.not_lt_zero _)) (i1.of_heap (w':=w.drew) rfl) hf.1 (fun t=>by rw [hg]; exact hf.2 t) (i2.trans (Grow.of_heap I ρ _ (w:=w) (w':=w.drew) rfl rfl rfl rfl)) rfl
 ·obtain ⟨p1,p2,p3⟩:=gp k (Nat.zero_le _) (List.getElem?_eq_some_iff.1 hk).1
  refine ⟨p1,p2,fun j hj h1 h2=>⟨p3 j hj h1 h2,?_⟩⟩
  have:=had k (List.getElem?_eq_some_iff.1 hk).1 j hj
  rw [List.getD_eq_getElem?_getD (l:=effs),hk,Option.getD_some] at this
  simpa [h1,h2] using this
 ·intro a' w' I' ρ' σr hreal h2 h3 h4 h5
  have hσr:σr = place (sts effs.length) (σ.length + sumA lh effs effs.length) acc:=by
   apply List.ext_getElem?
   intro o
   by_cases hc:σ.length + sumA lh effs effs.length ≤ o ∧ o < σ.length + sumA lh effs effs.length + acc.length
   ·have hlt:o - σ.length < fls.length:=by omega
    have hj:=List.getElem?_eq_getElem hlt
    have hmem:=List.mem_of_getElem? hj
    have hidx:=filter_lt_len hpf _ _ hj
    have hso:slotF σ.length fls fls[o - σ.length] = o:=by
     unfold slotF
     rw [hidx]; omega
    have hact:sumA lh effs effs.length ≤ idxF fls fls[o - σ.length]:=by unfold idxF; omega
    have h6:=hreal.inn _ hmem hact trivial
    have h7:=(List.getElem?_eq_some_iff.1 (hreal.dead _ hmem hact)).1
    rw [hso] at h6 h7
    obtain ⟨q,rfl⟩:∃ q,o = σ.length + sumA lh effs effs.length + q:=⟨o - (σ.length + sumA lh effs effs.length),by omega⟩
    rw [h6,place_in _ _ _ _ (by omega) h7]
    refine (gb q _ ?_).symm
    rw [← hj]
    congr 1
    omega
   ·rw [place_other _ _ _ _ hc]
    refine hreal.out o (fun i hi hact he=>hc ?_)
    obtain ⟨k,hk,hks⟩:=hslot i hi
    have h8:=(List.getElem?_eq_some_iff.1 hk).1
    have h9:=filter_lt_len hpf _ _ hk
    unfold idxF at hact
    omega
  subst hσr
  exact ⟨I',ρ',_,_,g3,h2,h3,h4,h5⟩
 ·rw [hcnt,hs0]
  have hdead:∀ i ∈ fls,(σ ++ List.replicate fls.length Obj.dead)[slotF σ.length fls i]? = some .dead:=fun i hi=>by
   obtain ⟨k,hk,hks⟩:=hslot i hi
   have:=(List.getElem?_eq_some_iff.1 hk).1
   rw [hks,List.getElem?_append_right (by omega),List.getElem?_replicate,if_pos (by omega)]
  exact ⟨rfl,fun _ _=>rfl,fun i hi _=>hdead i hi,fun i _ _ hc=>absurd hc (hnone i),fun i hi _ _=>⟨hdead i hi,fun ver=>by
   obtain ⟨k,hk,hks⟩:=hslot i hi
   exact hinv.free _ ver (by omega)⟩⟩
end
end Go.PV
