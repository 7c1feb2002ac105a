import Derived.Test.YtangodmcbmeeaaaSmQ
set_option maxRecDepth 8000
set_option linter.unusedSimpArgs false
set_option linter.unusedVariables false
namespace Go.Proofs.Ytangodmcbmeeaaa
theorem getD_setB {α:Type} (l:List α) (i j:Nat) (a d:α) (h:i < l.length):(l.set i a).getD j d = if i = j then a else l.getD j d:=by
 rw [List.getD_eq_getElem?_getD,List.getD_eq_getElem?_getD,List.getElem?_set]
 by_cases hij:i = j
 ·rw [if_pos hij,if_pos hij]; subst hij; rw [if_pos h]; rfl
 ·rw [if_neg hij,if_neg hij]
theorem getDB {α:Type} {l:List α} {k:Nat} {d:α} (h:k < l.length):l.getD k d = l[k]:=by
 rw [List.getD_eq_getElem?_getD,List.getElem?_eq_getElem h,Option.getD_some]
structure Way where
 fr:Nat
 to:Nat
 cnt:Int
instance:Inhabited Way:=⟨⟨0,0,0⟩⟩
structure TermI where
 kind:Int
 to:Nat
 els:Nat
instance:Inhabited TermI:=⟨⟨0,0,0⟩⟩
def posI (x:Int):Int:=if 0 < x then x else 0
def wayK (t:TermI) (e:Int × Int) (k:Nat):List Way :=
 (if t.kind = 1 ∨ t.kind = 2 then [⟨k,t.to,posI e.1⟩] else []) ++ if t.kind = 2 then [⟨k,t.els,posI e.2⟩] else []
def waysF (T:List TermI) (E:List (Int × Int)):Nat → List Way
 | 0=>[]
 | k + 1=>waysF T E k ++ wayK (T.getD k default) (E.getD k default) k
theorem posI_nn (x:Int):0 ≤ posI x:=by unfold posI; split <;> omega
theorem wayK_mem {t:TermI} {e:Int × Int} {k:Nat} {w:Way} (h:w ∈ wayK t e k):w.fr = k ∧ (w.to = t.to ∨ w.to = t.els) ∧ 0 ≤ w.cnt:=by
 unfold wayK at h
 rcases List.mem_append.1 h with h | h
 ·split at h
  ·rw [List.mem_singleton] at h; subst h; exact ⟨rfl,.inl rfl,posI_nn _⟩
  ·cases h
 ·split at h
  ·rw [List.mem_singleton] at h; subst h; exact ⟨rfl,.inr rfl,posI_nn _⟩
  ·cases h
theorem waysF_mem {T:List TermI} {E:List (Int × Int)}:∀ {k:Nat} {w:Way},w ∈ waysF T E k → ∃ j,j < k ∧ w ∈ wayK (T.getD j default) (E.getD j default) j
 | 0,_,h=>by cases h
 | k + 1,w,h=>by
  rcases List.mem_append.1 h with h | h
  ·obtain ⟨j,hj,hw⟩:=waysF_mem h
   exact ⟨j,by omega,hw⟩
  ·exact ⟨k,by omega,h⟩
theorem waysF_len (T:List TermI) (E:List (Int × Int)):∀ k,(waysF T E k).length ≤ 2 * k
 | 0=>Nat.le_refl _
 | k + 1=>by
  have h:=waysF_len T E k
  have:(wayK (T.getD k default) (E.getD k default) k).length ≤ 2:=by
   unfold wayK
   split <;> split <;> simp
  rw [waysF,List.length_append]; omega
abbrev ChG:=List Int × Nat
structure CS where
 gs:List ChG
 of:List Int
def natB (n:Nat):List Int:=(List.range n).map fun x:Nat=>(x:Int)
theorem natB_length (n:Nat):(natB n).length = n:=by simp [natB]
theorem natB_getD {n j:Nat} (h:j < n) (d:Int):(natB n).getD j d = j:=by
 simp [natB,List.getD_eq_getElem?_getD,h]
def mov (of:List Int) (x:Int) (l:List Int):List Int:=l.foldl (fun of f=>of.set f.toNat x) of
theorem mov_length (x:Int):∀ (l of:List Int),(mov of x l).length = of.length
 | [],_=>rfl
 | f :: l,of=>by rw [mov,List.foldl_cons]; exact (mov_length x l _).trans (List.length_set ..)
theorem mov_getD (x:Int):∀ (l of:List Int),(∀ f ∈ l,0 ≤ f ∧ f < of.length) → ∀ j:Nat,(mov of x l).getD j 0 = if (j:Int) ∈ l then x else of.getD j 0
 | [],_,_,_=>rfl
 | f :: l,of,h,j=>by
  have hf:=h f (by simp)
  have ih:=mov_getD x l (of.set f.toNat x) (fun g hg=>by rw [List.length_set]; exact h g (by simp [hg])) j
  rw [mov,List.foldl_cons]
  rw [mov] at ih
  rw [ih,getD_setB _ _ _ _ _ (by omega)]
  by_cases h1:(j:Int) ∈ l
  ·rw [if_pos h1,if_pos (by simp [h1])]
  ·rw [if_neg h1]
   by_cases h2:f.toNat = j
   ·rw [if_pos h2,if_pos (by rw [List.mem_cons]; left; omega)]
   ·rw [if_neg h2,if_neg (by rw [List.mem_cons,not_or]; exact ⟨by omega,h1⟩)]
def chain (s:CS) (x:Nat):List Int:=(s.gs.getD x default).1
def chOf (s:CS) (b:Nat):Nat:=(s.of.getD b 0).toNat
def joinC (s:CS) (x y:Nat):CS:=⟨(s.gs.set x (chain s x ++ chain s y,(s.gs.getD x default).2 + 1)).set y ([],0),mov s.of x (chain s y)⟩
def skipC (s:CS) (w:Way):Prop:=w.cnt = 0 ∨ chOf s w.fr = chOf s w.to ∨ w.to = 0 ∨ (chain s (chOf s w.fr)).getD ((chain s (chOf s w.fr)).length - 1) 0 ≠ w.fr ∨ (chain s (chOf s w.to)).getD 0 0 ≠ w.to
instance (s:CS) (w:Way):Decidable (skipC s w):=by unfold skipC; infer_instance
def stepC (s:CS) (w:Way):CS:=if skipC s w then s else joinC s (chOf s w.fr) (chOf s w.to)
def initC (n:Nat):CS:=⟨(List.range n).map fun x:Nat=>([(x:Int)],0),natB n⟩
def runC (l:List Way) (s:CS):CS:=l.foldl stepC s
structure CI (n:Nat) (s:CS):Prop where
 gl:s.gs.length = n
 ol:s.of.length = n
 ofr:∀ b,b < n → ∃ x:Nat,x < n ∧ s.of.getD b 0 = x ∧ (b:Int) ∈ chain s x
 own:∀ x,x < n → ∀ v ∈ chain s x,∃ b:Nat,v = b ∧ b < n ∧ s.of.getD b 0 = x
 nd:∀ x,x < n → (chain s x).Nodup
 hd:∃ t,chain s 0 = 0 :: t
theorem initC_chain {n x:Nat} (h:x < n):chain (initC n) x = [(x:Int)]:=by
 simp [chain,initC,List.getD_eq_getElem?_getD,h]
theorem CI.init {n:Nat} (hn:0 < n):CI n (initC n):=by
 refine ⟨by simp [initC],by simp [initC,natB_length],fun b hb=>⟨b,hb,natB_getD hb 0,by rw [initC_chain hb]; simp⟩,fun x hx v hv=>?_,fun x hx=>by rw [initC_chain hx]; simp,⟨[],initC_chain hn⟩⟩
 rw [initC_chain hx,List.mem_singleton] at hv
 exact ⟨x,hv,hx,natB_getD hx 0⟩
theorem chain_join {n:Nat} {s:CS} (h:s.gs.length = n) {x y:Nat} (hx:x < n) (hy:y < n) (z:Nat):chain (joinC s x y) z = if y = z then [] else if x = z then chain s x ++ chain s y else chain s z:=by
 show (((s.gs.set x _).set y _).getD z default).1 = _
 rw [getD_setB _ _ _ _ _ (by rw [List.length_set]; omega),getD_setB _ _ _ _ _ (by omega)]
 by_cases h1:y = z
 ·rw [if_pos h1,if_pos h1]
 ·rw [if_neg h1,if_neg h1]
  by_cases h2:x = z
  ·rw [if_pos h2,if_pos h2]
  ·rw [if_neg h2,if_neg h2]; rfl
theorem CI.join {n:Nat} {s:CS} (h:CI n s) {x y:Nat} (hx:x < n) (hy:y < n) (hxy:x ≠ y) (hy0:y ≠ 0):CI n (joinC s x y):=by
 have hc:=chain_join h.gl hx hy
 have hm:∀ b:Nat,(joinC s x y).of.getD b 0 = if (b:Int) ∈ chain s y then (x:Int) else s.of.getD b 0:=fun b =>
  mov_getD x (chain s y) s.of (fun f hf=>by
   obtain ⟨c,rfl,hc,_⟩:=h.own y hy f hf
   rw [h.ol]; omega) b
 refine ⟨by simp [joinC,h.gl],(mov_length _ _ _).trans h.ol,fun b hb=>?_,fun z hz v hv=>?_,fun z hz=>?_,?_⟩
 ·rw [hm]
  by_cases hby:(b:Int) ∈ chain s y
  ·rw [if_pos hby]
   exact ⟨x,hx,rfl,by rw [hc,if_neg (fun e=>hxy e.symm),if_pos rfl]; exact List.mem_append_right _ hby⟩
  ·rw [if_neg hby]
   obtain ⟨z,hz,e,hbz⟩:=h.ofr b hb
   refine ⟨z,hz,e,?_⟩
   rw [hc]
   by_cases h1:y = z
   ·subst h1; exact absurd hbz hby
   ·rw [if_neg h1]
    by_cases h2:x = z
    ·subst h2; rw [if_pos rfl]; exact List.mem_append_left _ hbz
    ·rw [if_neg h2]; exact hbz
 ·rw [hc] at hv
  by_cases h1:y = z
  ·rw [if_pos h1] at hv; cases hv
  ·rw [if_neg h1] at hv
   by_cases h2:x = z
   ·subst h2
    rw [if_pos rfl] at hv
    rcases List.mem_append.1 hv with hv | hv
    ·obtain ⟨b,rfl,hb,e⟩:=h.own x hx v hv
     refine ⟨b,rfl,hb,?_⟩
     rw [hm]
     split
     ·rfl
     ·exact e
    ·obtain ⟨b,rfl,hb,e⟩:=h.own y hy v hv
     exact ⟨b,rfl,hb,by rw [hm,if_pos hv]⟩
   ·rw [if_neg h2] at hv
    obtain ⟨b,rfl,hb,e⟩:=h.own z hz v hv
    refine ⟨b,rfl,hb,?_⟩
    rw [hm,if_neg (fun hby=>?_)]
    ·exact e
    ·obtain ⟨c,hc1,_,e2⟩:=h.own y hy _ hby
     have:c = b:=by omega
     subst this
     omega
 ·rw [hc]
  split
  ·exact List.nodup_nil
  ·split
   ·refine List.nodup_append.2 ⟨h.nd x hx,h.nd y hy,fun a ha b hb e=>?_⟩
    subst e
    obtain ⟨c,rfl,_,e1⟩:=h.own x hx a ha
    obtain ⟨d,e3,_,e2⟩:=h.own y hy _ hb
    have:c = d:=by omega
    subst this
    omega
   ·exact h.nd z hz
 ·obtain ⟨t,ht⟩:=h.hd
  rw [hc,if_neg hy0]
  by_cases h2:x = 0
  ·subst h2; rw [if_pos rfl,ht]; exact ⟨_,rfl⟩
  ·rw [if_neg h2]; exact ⟨t,ht⟩
theorem CI.at {n:Nat} {s:CS} (h:CI n s) {b:Nat} (hb:b < n):chOf s b < n ∧ s.of.getD b 0 = (chOf s b:Int) ∧ (b:Int) ∈ chain s (chOf s b):=by
 obtain ⟨x,hx,e,hm⟩:=h.ofr b hb
 have:chOf s b = x:=by unfold chOf; rw [e]; rfl
 rw [this]; exact ⟨hx,e,hm⟩
theorem CI.sane {n:Nat} {s:CS} (h:CI n s) {w:Way} (hf:w.fr < n) (ht:w.to < n) (hs:¬ skipC s w):chOf s w.fr ≠ chOf s w.to ∧ chOf s w.to ≠ 0:=by
 unfold skipC at hs
 refine ⟨fun e=>hs (.inr (.inl e)),fun e=>?_⟩
 obtain ⟨t,h0⟩:=h.hd
 have h1:(chain s (chOf s w.to)).getD 0 0 = w.to:=Decidable.byContradiction fun hne=>hs (.inr (.inr (.inr (.inr hne))))
 rw [e,h0] at h1
 have h2:w.to = 0:=by
  have:(0:Int) = (w.to:Int):=h1
  omega
 exact hs (.inr (.inr (.inl h2)))
theorem CI.step {n:Nat} {s:CS} (h:CI n s) {w:Way} (hf:w.fr < n) (ht:w.to < n):CI n (stepC s w):=by
 unfold stepC
 split
 ·exact h
 ·rename_i hs
  have h1:=h.sane hf ht hs
  exact h.join (h.at hf).1 (h.at ht).1 h1.1 h1.2
theorem CI.run {n:Nat}:∀ (l:List Way) {s:CS},CI n s → (∀ w ∈ l,w.fr < n ∧ w.to < n) → CI n (runC l s)
 | [],_,h,_=>h
 | w :: l,s,h,hw=>by
  rw [runC,List.foldl_cons]
  exact CI.run l (h.step (hw w (by simp)).1 (hw w (by simp)).2) (fun v hv=>hw v (by simp [hv]))
def Adj (l:List Int) (a b:Int):Prop:=∃ p q,l = p ++ a :: b :: q
theorem Adj.left {l m:List Int} {a b:Int} (h:Adj l a b):Adj (l ++ m) a b:=by
 obtain ⟨p,q,rfl⟩:=h
 exact ⟨p,q ++ m,by simp⟩
theorem Adj.right {l m:List Int} {a b:Int} (h:Adj m a b):Adj (l ++ m) a b:=by
 obtain ⟨p,q,rfl⟩:=h
 exact ⟨l ++ p,q,by simp⟩
def AdjS (n:Nat) (s:CS) (a b:Int):Prop:=∃ x,x < n ∧ Adj (chain s x) a b
theorem AdjS.step {n:Nat} {s:CS} {a b:Int} (hC:CI n s) (h:AdjS n s a b) {w:Way} (hf:w.fr < n) (ht:w.to < n):AdjS n (stepC s w) a b:=by
 unfold stepC
 split
 ·exact h
 ·rename_i hs
  have h1:=hC.sane hf ht hs
  have hc:=chain_join hC.gl (hC.at hf).1 (hC.at ht).1
  obtain ⟨x,hx,hA⟩:=h
  by_cases e1:chOf s w.to = x
  ·refine ⟨chOf s w.fr,(hC.at hf).1,?_⟩
   rw [hc,if_neg (fun e=>h1.1 e.symm),if_pos rfl,e1]
   exact hA.right
  ·refine ⟨x,hx,?_⟩
   rw [hc,if_neg e1]
   split
   ·rename_i e2; rw [e2]; exact hA.left
   ·exact hA
theorem AdjS.run {n:Nat} {a b:Int}:∀ (l:List Way) {s:CS},CI n s → AdjS n s a b → (∀ w ∈ l,w.fr < n ∧ w.to < n) → AdjS n (runC l s) a b
 | [],_,_,h,_=>h
 | w :: l,s,hC,h,hw=>by
  rw [runC,List.foldl_cons]
  have h0:=hw w (by simp)
  exact AdjS.run l (hC.step h0.1 h0.2) (h.step hC h0.1 h0.2) (fun v hv=>hw v (by simp [hv]))
def wayLt (a b:Way):Bool:=decide (b.cnt < a.cnt)
theorem way_weak:Weak wayLt where
 irr a:=by simp [wayLt]
 tr a b c h1 h2:=by simp [wayLt] at h1 h2 ⊢; omega
 nt a b c h1 h2:=by simp [wayLt] at h1 h2 ⊢; omega
theorem run_skip {n:Nat}:∀ (l:List Way),(∀ w ∈ l,w.fr < n ∧ w.to < n ∧ (w.to = 0 ∨ w.to = w.fr)) → runC l (initC n) = initC n
 | [],_=>rfl
 | w :: l,h=>by
  obtain ⟨h1,h2,h3⟩:=h w (by simp)
  have:stepC (initC n) w = initC n:=by
   unfold stepC
   rw [if_pos]
   rcases h3 with h3 | h3
   ·exact .inr (.inr (.inl h3))
   ·exact .inr (.inl (by rw [h3]))
  rw [runC,List.foldl_cons,this]
  exact run_skip l (fun v hv=>h v (by simp [hv]))
theorem first_join {n:Nat} {l:List Way} {m:Int} (hs:SortedL wayLt l) (hw:∀ w ∈ l,w.fr < n ∧ w.to < n) (hm:0 < m) (hmax:∀ w ∈ l,w.to ≠ 0 → w.to ≠ w.fr → w.cnt ≤ m) (hex:∃ w ∈ l,w.to ≠ 0 ∧ w.to ≠ w.fr ∧ w.cnt = m) :
  ∃ w ∈ l,w.cnt = m ∧ AdjS n (runC l (initC n)) w.fr w.to:=by
 obtain ⟨w0,hw0,h0⟩:=hex
 obtain ⟨w,pre,post,rfl,hwp,hpre⟩:∃ w pre post,l = pre ++ w :: post ∧ (w.to ≠ 0 ∧ w.to ≠ w.fr ∧ w.cnt = m) ∧ ∀ v ∈ pre,¬ (v.to ≠ 0 ∧ v.to ≠ v.fr ∧ v.cnt = m):=by
  clear hs hw hmax
  induction l with
  | nil=>cases hw0
  | cons v l ih =>
   by_cases hv:v.to ≠ 0 ∧ v.to ≠ v.fr ∧ v.cnt = m
   ·exact ⟨v,[],l,rfl,hv,fun _ h=>by cases h⟩
   ·rcases List.mem_cons.1 hw0 with rfl | h1
    ·exact absurd h0 hv
    ·obtain ⟨w,pre,post,rfl,e1,e2⟩:=ih h1
     exact ⟨w,v :: pre,post,rfl,e1,fun u hu=>by
      rcases List.mem_cons.1 hu with rfl | hu
      ·exact hv
      ·exact e2 u hu⟩
 have hwn:=hw w (by simp)
 have hsk:runC pre (initC n) = initC n:=run_skip pre (fun v hv=>by
  have h1:=hw v (by simp [hv])
  refine ⟨h1.1,h1.2,Decidable.byContradiction fun hne=>?_⟩
  rw [not_or] at hne
  have h2:=hmax v (by simp [hv]) hne.1 hne.2
  have h3:=(List.pairwise_append.1 hs).2.2 v hv w (by simp)
  have h4:¬ v.cnt < w.cnt:=by simpa [wayLt] using h3
  exact hpre v hv ⟨hne.1,hne.2,by omega⟩)
 refine ⟨w,by simp,hwp.2.2,?_⟩
 have e:runC (pre ++ w :: post) (initC n) = runC post (stepC (initC n) w):=by
  rw [runC,List.foldl_append,List.foldl_cons]
  show runC post (stepC (runC pre (initC n)) w) = _
  rw [hsk]
 rw [e]
 have hn:0 < n:=by omega
 have hCI:=CI.init hn
 have e1:∀ b,b < n → chOf (initC n) b = b:=fun b hb=>by
  show ((natB n).getD b 0).toNat = b
  rw [natB_getD hb]; rfl
 refine AdjS.run post (hCI.step hwn.1 hwn.2) ⟨w.fr,hwn.1,?_⟩ (fun v hv=>hw v (by simp [hv]))
 unfold stepC
 rw [if_neg]
 ·rw [e1 _ hwn.1,e1 _ hwn.2,chain_join hCI.gl hwn.1 hwn.2,if_neg hwp.2.1,if_pos rfl,initC_chain hwn.1,initC_chain hwn.2]
  exact ⟨[],[],rfl⟩
 ·unfold skipC
  rw [e1 _ hwn.1,e1 _ hwn.2,initC_chain hwn.1,initC_chain hwn.2]
  rintro (h | h | h | h | h)
  ·omega
  ·exact hwp.2.1 h.symm
  ·exact hwp.1 h
  ·exact h rfl
  ·exact h rfl
def restC (s:CS):List (List Int):=((s.gs.drop 1).map (·.1)).filter fun l=>decide (l ≠ [])
theorem flat_filter:∀ (L:List (List Int)),(L.filter fun l=>decide (l ≠ [])).flatten = L.flatten
 | []=>rfl
 | l :: L=>by
  rw [List.filter_cons]
  by_cases h:l = []
  ·rw [if_neg (by simpa using h),flat_filter L,h]; rfl
  ·rw [if_pos (by simpa using h),List.flatten_cons,List.flatten_cons,flat_filter L]
theorem CI.all {n:Nat} {s:CS} (h:CI n s):((s.gs.map (·.1)).flatten).Perm (natB n):=by
 refine (List.perm_ext_iff_of_nodup ?_ ?_).2 fun v=>?_
 ·refine List.pairwise_flatten.2 ⟨fun l hl=>?_,?_⟩
  ·obtain ⟨i,hi,rfl⟩:=List.mem_iff_getElem.1 hl
   rw [List.length_map,h.gl] at hi
   have:=h.nd i hi
   unfold chain at this
   rw [getDB (by rw [h.gl]; exact hi)] at this
   rw [List.getElem_map]; exact this
  ·refine List.pairwise_iff_getElem.2 fun i j hi hj hij a ha b hb e=>?_
   rw [List.length_map,h.gl] at hi hj
   rw [List.getElem_map,← getDB (d:=default) (by rw [h.gl]; exact hi)] at ha
   rw [List.getElem_map,← getDB (d:=default) (by rw [h.gl]; exact hj)] at hb
   subst e
   obtain ⟨c,rfl,_,e1⟩:=h.own i hi a ha
   obtain ⟨d,e3,_,e2⟩:=h.own j hj _ hb
   have:c = d:=by omega
   subst this
   omega
 ·exact List.pairwise_map.2 (List.nodup_range.imp fun hne e=>hne (by omega))
 ·rw [List.mem_flatten,natB,List.mem_map]
  constructor
  ·rintro ⟨l,hl,hv⟩
   obtain ⟨i,hi,rfl⟩:=List.mem_iff_getElem.1 hl
   rw [List.length_map,h.gl] at hi
   rw [List.getElem_map,← getDB (d:=default) (by rw [h.gl]; exact hi)] at hv
   obtain ⟨b,rfl,hb,_⟩:=h.own i hi v hv
   exact ⟨b,List.mem_range.2 hb,rfl⟩
  ·rintro ⟨b,hb,rfl⟩
   obtain ⟨x,hx,_,hm⟩:=h.ofr b (List.mem_range.1 hb)
   refine ⟨chain s x,List.mem_map.2 ⟨s.gs.getD x default,?_,rfl⟩,hm⟩
   rw [getDB (by rw [h.gl]; exact hx)]
   exact List.getElem_mem _
theorem CI.out {n:Nat} {s:CS} (h:CI n s) (hn:0 < n) {R:List (List Int)} (hR:R.Perm (restC s)):(chain s 0 ++ R.flatten).Perm (natB n):=by
 refine List.Perm.trans ?_ h.all
 have e:s.gs = s.gs.getD 0 default :: s.gs.drop 1:=by
  have h0:=h.gl
  cases hg:s.gs with
  | nil=>rw [hg] at h0; simp at h0; omega
  | cons a t=>rfl
 have h2:R.flatten.Perm ((s.gs.drop 1).map (·.1)).flatten:=by
  have:=hR.flatten
  rwa [restC,flat_filter] at this
 conv=>rhs; rw [e]
 rw [List.map_cons,List.flatten_cons]
 exact List.Perm.append_left _ h2
theorem CI.adj {n:Nat} {s:CS} (h:CI n s) {R:List (List Int)} (hR:R.Perm (restC s)) {a b:Int} (hA:AdjS n s a b):Adj (chain s 0 ++ R.flatten) a b:=by
 obtain ⟨x,hx,hA⟩:=hA
 by_cases h0:x = 0
 ·subst h0; exact hA.left
 ·have hm:chain s x ∈ R:=by
   refine hR.mem_iff.2 (List.mem_filter.2 ⟨List.mem_map.2 ⟨s.gs.getD x default,?_,rfl⟩,?_⟩)
   ·rw [getDB (by rw [h.gl]; exact hx)]
    refine List.mem_iff_getElem.2 ⟨x - 1,by rw [List.length_drop,h.gl]; omega,?_⟩
    rw [List.getElem_drop]
    congr 1
    omega
   ·obtain ⟨p,q,e⟩:=hA
    simp [e]
  obtain ⟨R1,R2,rfl⟩:=List.append_of_mem hm
  rw [List.flatten_append,List.flatten_cons]
  exact (hA.left.right).right
def nextOf:List Int → Int → Int
 | [],_=>-1
 | [_],_=>-1
 | a :: c :: t,b=>if a = b then c else nextOf (c :: t) b
def wsum (ws:List Way) (order:List Int):Int:=(ws.map fun w=>if nextOf order w.fr = w.to then w.cnt else 0).sum
theorem nextOf_no:∀ (l:List Int) (b:Int),b ∉ l → nextOf l b = -1
 | [],_,_=>rfl
 | [_],_,_=>rfl
 | a :: c :: t,b,h=>by
  rw [nextOf,if_neg (fun e=>h (by simp [e]))]
  exact nextOf_no (c :: t) b (fun hm=>h (List.mem_cons_of_mem _ hm))
theorem nextOf_adj:∀ {l:List Int} {a b:Int},l.Nodup → Adj l a b → nextOf l a = b
 | l,a,b,hn,⟨[],q,e⟩=>by rw [e]; simp [nextOf]
 | l,a,b,hn,⟨[x],q,e⟩=>by
  subst e
  have h1:x ≠ a:=fun e=>by subst e; simp at hn
  show nextOf (x :: a :: b :: q) a = b
  rw [nextOf,if_neg h1,nextOf,if_pos rfl]
 | l,a,b,hn,⟨x :: y :: p,q,e⟩=>by
  subst e
  have h1:x ≠ a:=fun e=>by subst e; simp at hn
  show nextOf (x :: y :: (p ++ a :: b :: q)) a = b
  rw [nextOf,if_neg h1]
  exact nextOf_adj (List.nodup_cons.1 hn).2 ⟨y :: p,q,rfl⟩
theorem sum_nn:∀ {l:List Int},(∀ x ∈ l,0 ≤ x) → 0 ≤ l.sum
 | [],_=>by simp
 | x :: l,h=>by
  rw [List.sum_cons]
  have:=h x (by simp)
  have:=sum_nn (l:=l) (fun y hy=>h y (by simp [hy]))
  omega
theorem sum_ge:∀ {l:List Int} {x:Int},(∀ x ∈ l,0 ≤ x) → x ∈ l → x ≤ l.sum
 | y :: l,x,h,hx=>by
  rw [List.sum_cons]
  have h1:=h y (by simp)
  have h2:=sum_nn (l:=l) (fun z hz=>h z (by simp [hz]))
  rcases List.mem_cons.1 hx with rfl | hx
  ·omega
  ·have:=sum_ge (l:=l) (fun z hz=>h z (by simp [hz])) hx
   omega
theorem wsum_nn {ws:List Way} (h:∀ w ∈ ws,0 ≤ w.cnt) (o:List Int):0 ≤ wsum ws o:=sum_nn fun x hx=>by
 obtain ⟨w,hw,rfl⟩:=List.mem_map.1 hx
 have:=h w hw
 split <;> omega
theorem wsum_ge {ws:List Way} (h:∀ w ∈ ws,0 ≤ w.cnt) {o:List Int} {w:Way} (hw:w ∈ ws) (hn:o.Nodup) (hA:Adj o w.fr w.to):w.cnt ≤ wsum ws o:=by
 refine sum_ge (fun x hx=>?_) (List.mem_map.2 ⟨w,hw,?_⟩)
 ·obtain ⟨v,hv,rfl⟩:=List.mem_map.1 hx
  have:=h v hv
  split <;> omega
 ·rw [if_pos (nextOf_adj hn hA)]
end Go.Proofs.Ytangodmcbmeeaaa
