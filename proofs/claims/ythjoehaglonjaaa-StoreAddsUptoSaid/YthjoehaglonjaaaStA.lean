import Derived.Test.YthjoehaglonjaaaWtA
set_option maxRecDepth 8000
set_option linter.unusedSimpArgs false
set_option linter.unusedVariables false
namespace Go.Proofs.Ythjoehaglonjaaa
open Go.PV
abbrev Idn:=Int × Int × Int
def idlt (a b:Idn):Prop:=a.1 < b.1 ∨ (a.1 = b.1 ∧ (a.2.1 < b.2.1 ∨ (a.2.1 = b.2.1 ∧ a.2.2 < b.2.2)))
instance (a b:Idn):Decidable (idlt a b):=by unfold idlt; infer_instance
theorem idlt_irrefl (a:Idn):¬ idlt a a:=by unfold idlt; omega
theorem idlt_trans {a b c:Idn} (h:idlt a b) (h2:idlt b c):idlt a c:=by unfold idlt at *; omega
theorem idlt_asymm {a b:Idn} (h:idlt a b):¬ idlt b a:=fun h2=>idlt_irrefl _ (idlt_trans h h2)
theorem id_ext {a b:Idn} (h1:a.1 = b.1) (h2:a.2.1 = b.2.1) (h3:a.2.2 = b.2.2):a = b:=by
 obtain ⟨a1,a2,a3⟩:=a
 obtain ⟨b1,b2,b3⟩:=b
 simp at h1 h2 h3
 rw [h1,h2,h3]
theorem idlt_tri (a b:Idn):idlt a b ∨ a = b ∨ idlt b a:=by
 by_cases h:a = b
 ·exact .inr (.inl h)
 ·have:¬ (a.1 = b.1 ∧ a.2.1 = b.2.1 ∧ a.2.2 = b.2.2):=fun ⟨h1,h2,h3⟩=>h (id_ext h1 h2 h3)
  unfold idlt
  omega
structure Pc where
 id:Idn
 dig:Int
 fs:List FC
instance:Inhabited Pc:=⟨⟨default,0,[]⟩⟩
structure StS where
 ps:List Pc
 cs:List Idn
instance:Inhabited StS:=⟨⟨[],[]⟩⟩
structure OkS (s:StS):Prop where
 p:s.ps.Pairwise (fun p q=>idlt p.id q.id)
 c:s.cs.Pairwise idlt
 d:∀ p ∈ s.ps,p.id ∉ s.cs
def Cf (U:List StS) (x:Idn):Prop:=(∃ s ∈ U,x ∈ s.cs) ∨ ∃ s ∈ U,∃ t ∈ U,∃ p ∈ s.ps,∃ q ∈ t.ps,p.id = x ∧ q.id = x ∧ p ≠ q
structure Sf (m:StS) (U:List StS):Prop where
 ok:OkS m
 c:∀ x,x ∈ m.cs ↔ Cf U x
 p:∀ p,p ∈ m.ps ↔ (∃ s ∈ U,p ∈ s.ps) ∧ ¬ Cf U p.id
theorem sorted_ext {α:Type} {R:α → α → Prop} (hi:∀ a,¬ R a a) (ht:∀ a b c,R a b → R b c → R a c):∀ {l m:List α},l.Pairwise R → m.Pairwise R → (∀ x,x ∈ l ↔ x ∈ m) → l = m
 | [],[],_,_,_=>rfl
 | [],b :: m,_,_,h=>absurd ((h b).2 (by simp)) (by simp)
 | a :: l,[],_,_,h=>absurd ((h a).1 (by simp)) (by simp)
 | a :: l,b :: m,hl,hm,h=>by
  have hl2:=List.pairwise_cons.1 hl
  have hm2:=List.pairwise_cons.1 hm
  have hab:a = b:=by
   rcases List.mem_cons.1 ((h a).1 (by simp)) with e | ha
   ·exact e
   ·rcases List.mem_cons.1 ((h b).2 (by simp)) with e | hb
    ·exact e.symm
    ·exact absurd (ht _ _ _ (hm2.1 a ha) (hl2.1 b hb)) (hi b)
  subst hab
  congr 1
  refine sorted_ext hi ht hl2.2 hm2.2 (fun x=>⟨fun hx=>?_,fun hx=>?_⟩)
  ·rcases List.mem_cons.1 ((h x).1 (by simp [hx])) with e | hx2
   ·subst e; exact absurd (hl2.1 _ hx) (hi _)
   ·exact hx2
  ·rcases List.mem_cons.1 ((h x).2 (by simp [hx])) with e | hx2
   ·subst e; exact absurd (hm2.1 _ hx) (hi _)
   ·exact hx2
theorem Sf.uniq {m n:StS} {U:List StS} (h:Sf m U) (h2:Sf n U):m = n:=by
 have e1:m.ps = n.ps:=sorted_ext (R:=fun p q:Pc=>idlt p.id q.id) (fun a=>idlt_irrefl _) (fun a b c=>idlt_trans) h.ok.p h2.ok.p (fun x=>by rw [h.p,h2.p])
 have e2:m.cs = n.cs:=sorted_ext idlt_irrefl (fun a b c=>idlt_trans) h.ok.c h2.ok.c (fun x=>by rw [h.c,h2.c])
 obtain ⟨a,b⟩:=m
 obtain ⟨c,d⟩:=n
 simp at e1 e2
 rw [e1,e2]
theorem OkS.one {s:StS} (h:OkS s) {p q:Pc} (hp:p ∈ s.ps) (hq:q ∈ s.ps) (e:p.id = q.id):p = q:=by
 obtain ⟨i,hi,rfl⟩:=List.mem_iff_getElem.1 hp
 obtain ⟨j,hj,rfl⟩:=List.mem_iff_getElem.1 hq
 have hpw:=List.pairwise_iff_getElem.1 h.p
 rcases Nat.lt_trichotomy i j with hij | rfl | hij
 ·have:=hpw i j hi hj hij
  rw [e] at this
  exact absurd this (idlt_irrefl _)
 ·rfl
 ·have:=hpw j i hj hi hij
  rw [e] at this
  exact absurd this (idlt_irrefl _)
theorem Sf.self {s:StS} (h:OkS s):Sf s [s]:=by
 have hc:∀ x,Cf [s] x ↔ x ∈ s.cs:=fun x=>by
  refine ⟨fun hx=>?_,fun hx=>.inl ⟨s,by simp,hx⟩⟩
  rcases hx with ⟨t,ht,hx⟩ | ⟨t,ht,u,hu,p,hp,q,hq,e1,e2,hne⟩
  ·rw [List.mem_singleton] at ht
   rw [ht] at hx; exact hx
  ·rw [List.mem_singleton] at ht hu
   subst ht hu
   exact absurd (h.one hp hq (e1.trans e2.symm)) hne
 refine ⟨h,fun x=>(hc x).symm,fun p=>?_⟩
 rw [hc]
 refine ⟨fun hp=>⟨⟨s,by simp,hp⟩,h.d p hp⟩,fun ⟨⟨t,ht,hp⟩,_⟩=>?_⟩
 rw [List.mem_singleton] at ht
 rw [ht] at hp; exact hp
theorem Cf.congr {U V:List StS} (h:∀ s,s ∈ U ↔ s ∈ V) (x:Idn):Cf U x ↔ Cf V x:=by
 unfold Cf
 simp only [h]
theorem Sf.congr {m:StS} {U V:List StS} (hm:Sf m U) (h:∀ s,s ∈ U ↔ s ∈ V):Sf m V :=
 ⟨hm.ok,fun x=>by rw [hm.c,Cf.congr h],fun p=>by rw [hm.p,Cf.congr h]; simp only [h]⟩
theorem Cf.mono {U V:List StS} (h:∀ s,s ∈ U → s ∈ V) {x:Idn} (hx:Cf U x):Cf V x:=by
 rcases hx with ⟨s,hs,h1⟩ | ⟨s,hs,t,ht,p,hp,q,hq,h1⟩
 ·exact .inl ⟨s,h s hs,h1⟩
 ·exact .inr ⟨s,h s hs,t,h t ht,p,hp,q,hq,h1⟩
theorem Sf.src {m:StS} {U:List StS} (h:Sf m U) {p:Pc} (hp:p ∈ m.ps):∃ s ∈ U,p ∈ s.ps:=((h.p p).1 hp).1
theorem Sf.merge {m a b:StS} {U V:List StS} (hm:Sf m [a,b]) (ha:Sf a U) (hb:Sf b V):Sf m (U ++ V):=by
 have hl:∀ s,s ∈ U → s ∈ U ++ V:=fun s hs=>List.mem_append_left _ hs
 have hr:∀ s,s ∈ V → s ∈ U ++ V:=fun s hs=>List.mem_append_right _ hs
 have src:∀ t ∈ [a,b],∀ p ∈ t.ps,∃ s ∈ U ++ V,p ∈ s.ps:=fun t ht p hp=>by
  rcases List.mem_cons.1 ht with rfl | ht
  ·obtain ⟨s,hs,h⟩:=ha.src hp; exact ⟨s,hl s hs,h⟩
  ·rw [List.mem_singleton] at ht
   subst ht
   obtain ⟨s,hs,h⟩:=hb.src hp; exact ⟨s,hr s hs,h⟩
 have back:∀ s ∈ U ++ V,∀ p ∈ s.ps,¬ Cf (U ++ V) p.id → p ∈ a.ps ∨ p ∈ b.ps:=fun s hs p hp hn=>by
  rcases List.mem_append.1 hs with hs | hs
  ·exact .inl ((ha.p p).2 ⟨⟨s,hs,hp⟩,fun h=>hn (h.mono hl)⟩)
  ·exact .inr ((hb.p p).2 ⟨⟨s,hs,hp⟩,fun h=>hn (h.mono hr)⟩)
 have hc:∀ x,Cf [a,b] x ↔ Cf (U ++ V) x:=fun x=>by
  refine ⟨fun hx=>?_,fun hx=>?_⟩
  ·rcases hx with ⟨s,hs,h1⟩ | ⟨s,hs,t,ht,p,hp,q,hq,h1⟩
   ·rcases List.mem_cons.1 hs with rfl | hs
    ·exact ((ha.c x).1 h1).mono hl
    ·rw [List.mem_singleton] at hs
     subst hs
     exact ((hb.c x).1 h1).mono hr
   ·obtain ⟨s',hs',hp'⟩:=src s hs p hp
    obtain ⟨t',ht',hq'⟩:=src t ht q hq
    exact .inr ⟨s',hs',t',ht',p,hp',q,hq',h1⟩
  ·by_cases hU:Cf U x
   ·exact .inl ⟨a,by simp,(ha.c x).2 hU⟩
   by_cases hV:Cf V x
   ·exact .inl ⟨b,by simp,(hb.c x).2 hV⟩
   have mem:∀ s ∈ U ++ V,∀ p ∈ s.ps,p.id = x → ∃ t ∈ [a,b],p ∈ t.ps:=fun s hs p hp e=>by
    rcases List.mem_append.1 hs with hs | hs
    ·exact ⟨a,by simp,(ha.p p).2 ⟨⟨s,hs,hp⟩,by rw [e]; exact hU⟩⟩
    ·exact ⟨b,by simp,(hb.p p).2 ⟨⟨s,hs,hp⟩,by rw [e]; exact hV⟩⟩
   rcases hx with ⟨s,hs,h1⟩ | ⟨s,hs,t,ht,p,hp,q,hq,h1,h2,h3⟩
   ·rcases List.mem_append.1 hs with hs | hs
    ·exact absurd (.inl ⟨s,hs,h1⟩) hU
    ·exact absurd (.inl ⟨s,hs,h1⟩) hV
   ·obtain ⟨s',hs',hp'⟩:=mem s hs p hp h1
    obtain ⟨t',ht',hq'⟩:=mem t ht q hq h2
    exact .inr ⟨s',hs',t',ht',p,hp',q,hq',h1,h2,h3⟩
 refine ⟨hm.ok,fun x=>by rw [hm.c,hc],fun p=>?_⟩
 rw [hm.p,hc]
 refine ⟨fun ⟨⟨t,ht,hp⟩,hn⟩=>⟨src t ht p hp,hn⟩,fun ⟨⟨s,hs,hp⟩,hn⟩=>⟨?_,hn⟩⟩
 rcases back s hs p hp hn with h | h
 ·exact ⟨a,by simp,h⟩
 ·exact ⟨b,by simp,h⟩
def idRow (a:Idn):List PV:=[.int .i64 a.1,.int .i64 a.2.1,.int .i64 a.2.2]
theorem idRow_bel (a:Idn) (n:Nat):∀ p ∈ idRow a,Bel n p:=fun p hp=>by
 simp only [idRow,List.mem_cons,List.not_mem_nil,or_false] at hp
 rcases hp with rfl | rfl | rfl <;> exact bel_int _ _ _
def encD (l:List Idn):List (List PV):=l.map idRow
theorem encD_length (l:List Idn):(encD l).length = l.length:=by simp [encD]
theorem encD_getD (l:List Idn) (i:Nat) (h:i < l.length):(encD l).getD i [] = [.int .i64 (l.getD i default).1,.int .i64 (l.getD i default).2.1,.int .i64 (l.getD i default).2.2]:=by simp [encD,idRow,List.getD_eq_getElem?_getD,h]
theorem encD_bel (n:Nat) (l:List Idn):∀ row ∈ encD l,∀ p ∈ row,Bel n p:=fun row hr p hp=>by
 simp only [encD,List.mem_map] at hr
 obtain ⟨s,_,rfl⟩:=hr
 exact idRow_bel s n p hp
theorem bel_ids (k:Nat) (l:List Idn):Bel k (.sl (encD l)):=bel_sl (encD_bel _ _)
theorem bel_fcs (k:Nat) (l:List FC):Bel k (.sl (encF l)):=bel_sl (encF_bel _ _)
def Pc.row (p:Pc):List PV:=[.int .i64 p.id.1,.int .i64 p.id.2.1,.int .i64 p.id.2.2,.int .u64 p.dig,.sl (encF p.fs)]
theorem Pc.row_bel (x:Pc) (n:Nat):∀ p ∈ x.row,Bel n p:=fun p hp=>by
 simp only [Pc.row,List.mem_cons,List.not_mem_nil,or_false] at hp
 rcases hp with rfl | rfl | rfl | rfl | rfl
 ·exact bel_int _ _ _
 ·exact bel_int _ _ _
 ·exact bel_int _ _ _
 ·exact bel_int _ _ _
 ·exact bel_fcs _ _
def encP (l:List Pc):List (List PV):=l.map Pc.row
theorem encP_length (l:List Pc):(encP l).length = l.length:=by simp [encP]
theorem encP_getD (l:List Pc) (i:Nat) (h:i < l.length):(encP l).getD i [] = [.int .i64 (l.getD i default).id.1,.int .i64 (l.getD i default).id.2.1,.int .i64 (l.getD i default).id.2.2,.int .u64 (l.getD i default).dig,.sl (encF (l.getD i default).fs)]:=by simp [encP,Pc.row,List.getD_eq_getElem?_getD,h]
theorem encP_bel (n:Nat) (l:List Pc):∀ row ∈ encP l,∀ p ∈ row,Bel n p:=fun row hr p hp=>by
 simp only [encP,List.mem_map] at hr
 obtain ⟨s,_,rfl⟩:=hr
 exact s.row_bel n p hp
theorem bel_pcs (k:Nat) (l:List Pc):Bel k (.sl (encP l)):=bel_sl (encP_bel _ _)
def stV (s:StS):PV:=.agg [.sl (encP s.ps),.sl (encD s.cs)]
theorem bel_st (k:Nat) (s:StS):Bel k (stV s):=by
 refine bel_agg (fun p hp=>?_)
 simp only [List.mem_cons,List.not_mem_nil,or_false] at hp
 rcases hp with rfl | rfl
 ·exact bel_pcs _ _
 ·exact bel_ids _ _
def cntd (n:Int):Prop:=-1 ≤ n ∧ n ≤ 1099511627776
def okT (n:Int) (tg:List (Int × Int)) (k:Nat):Prop:=(0 ≤ (tg.getD k (0,0)).1 ∧ (tg.getD k (0,0)).1 < n) ∧ (0 ≤ (tg.getD k (0,0)).2 ∧ (tg.getD k (0,0)).2 ≤ 1099511627776) ∧ (0 < k → (tg.getD (k - 1) (0,0)).1 < (tg.getD k (0,0)).1)
def okTs (n:Int) (tg:List (Int × Int)):Prop:=∀ k,k < tg.length → okT n tg k
def siteLt (a b:Site):Prop:=a.blk < b.blk ∨ (a.blk = b.blk ∧ a.ins < b.ins)
def okSi (nb n:Int) (l:List Site) (i:Nat):Prop:=(0 ≤ (l.getD i default).blk ∧ (l.getD i default).blk < nb) ∧ 0 ≤ (l.getD i default).ins ∧ (0 < i → siteLt (l.getD (i - 1) default) (l.getD i default)) ∧ okTs n (l.getD i default).tg
def okSs (nb n:Int) (l:List Site):Prop:=∀ i,i < l.length → okSi nb n l i
def okBl (x:FC) (b:Nat):Prop:=cntd (x.blocks.getD b 0) ∧ cntd (x.edges.getD b (0,0)).1 ∧ cntd (x.edges.getD b (0,0)).2
structure OkFC (n:Int) (x:FC):Prop where
 l:1 ≤ x.blocks.length ∧ x.blocks.length ≤ 256
 e:x.edges.length = x.blocks.length
 c:cntd x.ent
 b:∀ b,b < x.blocks.length → okBl x b
 s:okSs x.blocks.length n x.sites
def numd (n:Int):Prop:=0 ≤ n ∧ n ≤ 1073741824
structure OkPc (p:Pc):Prop where
 r:numd p.id.1 ∧ numd p.id.2.1 ∧ numd p.id.2.2
 n:1 ≤ p.fs.length ∧ p.fs.length ≤ 64
 f:∀ i,i < p.fs.length → OkFC p.fs.length (p.fs.getD i default)
structure OkSt (s:StS):Prop where
 n:s.ps.length + s.cs.length ≤ 256
 o:OkS s
 p:∀ i,i < s.ps.length → OkPc (s.ps.getD i default)
noncomputable def pcB (p:Pc):Bool:=@decide (OkPc p) (Classical.propDecidable _)
noncomputable def stB (s:StS):Bool:=@decide (OkSt s) (Classical.propDecidable _)
noncomputable def fcB (n:Int) (x:FC):Bool:=@decide (OkFC n x) (Classical.propDecidable _)
theorem pcB_t {p:Pc} (h:OkPc p):pcB p = true:=@decide_eq_true _ (Classical.propDecidable _) h
theorem pcB_f {p:Pc} (h:¬ OkPc p):pcB p = false:=@decide_eq_false _ (Classical.propDecidable _) h
theorem stB_t {p:StS} (h:OkSt p):stB p = true:=@decide_eq_true _ (Classical.propDecidable _) h
theorem stB_f {p:StS} (h:¬ OkSt p):stB p = false:=@decide_eq_false _ (Classical.propDecidable _) h
theorem fcB_t {n:Int} {p:FC} (h:OkFC n p):fcB n p = true:=@decide_eq_true _ (Classical.propDecidable _) h
theorem fcB_f {n:Int} {p:FC} (h:¬ OkFC n p):fcB n p = false:=@decide_eq_false _ (Classical.propDecidable _) h
theorem take_succD {α:Type} [Inhabited α] (l:List α) (i:Nat) (h:i < l.length):l.take (i + 1) = l.take i ++ [l.getD i default]:=by
 rw [List.take_add_one,List.getElem?_eq_getElem h,List.getD_eq_getElem?_getD,List.getElem?_eq_getElem h]; rfl
theorem drop_consD {α:Type} [Inhabited α] (l:List α) (i:Nat) (h:i < l.length):l.drop i = l.getD i default :: l.drop (i + 1):=by
 rw [List.drop_eq_getElem_cons h,List.getD_eq_getElem?_getD,List.getElem?_eq_getElem h]; rfl
structure MI (a b:StS) (i k:Nat) (cs:List Idn) (ps:List Pc):Prop where
 hi:i ≤ a.ps.length
 hk:k ≤ b.ps.length
 c:cs.Pairwise idlt
 cm:∀ x,x ∈ cs ↔ x ∈ a.cs ∨ x ∈ b.cs ∨ ∃ p ∈ a.ps.take i,∃ q ∈ b.ps.take k,p.id = x ∧ q.id = x ∧ p ≠ q
 s:ps.Pairwise (fun p q=>idlt p.id q.id)
 pm:∀ p,p ∈ ps ↔ (p ∈ a.ps.take i ∨ p ∈ b.ps.take k) ∧ p.id ∉ cs
 f:∀ p,(p ∈ a.ps.take i ∨ p ∈ b.ps.take k) → ∀ q,(q ∈ a.ps.drop i ∨ q ∈ b.ps.drop k) → idlt p.id q.id
theorem MI.swap {a b:StS} {i k:Nat} {cs:List Idn} {ps:List Pc} (h:MI a b i k cs ps):MI b a k i cs ps :=
 ⟨h.hk,h.hi,h.c,fun x=>by
  rw [h.cm]
  constructor
  ·rintro (h | h | ⟨p,hp,q,hq,e1,e2,hne⟩)
   ·exact .inr (.inl h)
   ·exact .inl h
   ·exact .inr (.inr ⟨q,hq,p,hp,e2,e1,fun e=>hne e.symm⟩)
  ·rintro (h | h | ⟨p,hp,q,hq,e1,e2,hne⟩)
   ·exact .inr (.inl h)
   ·exact .inl h
   ·exact .inr (.inr ⟨q,hq,p,hp,e2,e1,fun e=>hne e.symm⟩),h.s,fun p=>by rw [h.pm,Or.comm],fun p hp q hq=>h.f p hp.symm q hq.symm⟩
theorem MI.start {a b:StS} {cs:List Idn} (hc:cs.Pairwise idlt) (hm:∀ x,x ∈ cs ↔ x ∈ a.cs ∨ x ∈ b.cs):MI a b 0 0 cs [] :=
 ⟨Nat.zero_le _,Nat.zero_le _,hc,fun x=>by rw [hm]; simp,.nil,fun p=>by simp,fun p hp=>by simp at hp⟩
theorem MI.stepA {a b:StS} {i k:Nat} {cs:List Idn} {ps:List Pc} (h:MI a b i k cs ps) (ha:OkS a) (hil:i < a.ps.length) (hlt:∀ q ∈ b.ps.drop k,idlt (a.ps.getD i default).id q.id) :
  MI a b (i + 1) k cs (if (a.ps.getD i default).id ∈ cs then ps else ps ++ [a.ps.getD i default]):=by
 have et:=take_succD a.ps i hil
 have ed:=drop_consD a.ps i hil
 have hpw:=ha.p
 rw [← List.take_append_drop i a.ps,ed] at hpw
 have hpw2:=(List.pairwise_cons.1 (List.pairwise_append.1 hpw).2.1).1
 have hf0:∀ p,(p ∈ a.ps.take i ∨ p ∈ b.ps.take k) → idlt p.id (a.ps.getD i default).id:=fun p hp=>h.f p hp _ (.inl (by rw [ed]; simp))
 generalize a.ps.getD i default = x at *
 have hps:∀ p ∈ ps,idlt p.id x.id:=fun p hp=>hf0 p ((h.pm p).1 hp).1
 refine ⟨hil,h.hk,h.c,fun y=>?_,?_,fun p=>?_,fun p hp q hq=>?_⟩
 ·rw [h.cm,et]
  constructor
  ·rintro (h1 | h1 | ⟨p,hp,q,hq,h1⟩)
   ·exact .inl h1
   ·exact .inr (.inl h1)
   ·exact .inr (.inr ⟨p,List.mem_append_left _ hp,q,hq,h1⟩)
  ·rintro (h1 | h1 | ⟨p,hp,q,hq,e1,e2,hne⟩)
   ·exact .inl h1
   ·exact .inr (.inl h1)
   ·rcases List.mem_append.1 hp with hp | hp
    ·exact .inr (.inr ⟨p,hp,q,hq,e1,e2,hne⟩)
    ·rw [List.mem_singleton] at hp
     subst hp
     have:=hf0 q (.inr hq)
     rw [e1,e2] at this
     exact absurd this (idlt_irrefl _)
 ·split
  ·exact h.s
  ·exact List.pairwise_append.2 ⟨h.s,List.pairwise_singleton _ _,fun p hp q hq=>by rw [List.mem_singleton] at hq; rw [hq]; exact hps p hp⟩
 ·rw [et]
  split
  ·rename_i hx
   rw [h.pm]
   constructor
   ·rintro ⟨h1 | h1,h2⟩
    ·exact ⟨.inl (List.mem_append_left _ h1),h2⟩
    ·exact ⟨.inr h1,h2⟩
   ·rintro ⟨h1 | h1,h2⟩
    ·rcases List.mem_append.1 h1 with h1 | h1
     ·exact ⟨.inl h1,h2⟩
     ·rw [List.mem_singleton] at h1
      rw [h1] at h2
      exact absurd hx h2
    ·exact ⟨.inr h1,h2⟩
  ·rename_i hx
   rw [List.mem_append,h.pm]
   constructor
   ·rintro (⟨h1 | h1,h2⟩ | h1)
    ·exact ⟨.inl (List.mem_append_left _ h1),h2⟩
    ·exact ⟨.inr h1,h2⟩
    ·rw [List.mem_singleton] at h1
     rw [h1]
     exact ⟨.inl (by simp),hx⟩
   ·rintro ⟨h1 | h1,h2⟩
    ·rcases List.mem_append.1 h1 with h1 | h1
     ·exact .inl ⟨.inl h1,h2⟩
     ·exact .inr h1
    ·exact .inl ⟨.inr h1,h2⟩
 ·rw [et] at hp
  have hq':q ∈ a.ps.drop i ∨ q ∈ b.ps.drop k:=hq.imp (fun h=>by rw [ed]; exact List.mem_cons_of_mem _ h) id
  rcases hp with hp | hp
  ·rcases List.mem_append.1 hp with hp | hp
   ·exact h.f p (.inl hp) q hq'
   ·rw [List.mem_singleton] at hp
    subst hp
    rcases hq with hq | hq
    ·exact hpw2 q hq
    ·exact hlt q hq
  ·exact h.f p (.inr hp) q hq'
theorem MI.stepB {a b:StS} {i k:Nat} {cs:List Idn} {ps:List Pc} (h:MI a b i k cs ps) (hb:OkS b) (hkl:k < b.ps.length) (hlt:∀ q ∈ a.ps.drop i,idlt (b.ps.getD k default).id q.id) :
  MI a b i (k + 1) cs (if (b.ps.getD k default).id ∈ cs then ps else ps ++ [b.ps.getD k default]):=(h.swap.stepA hb hkl hlt).swap
theorem MI.both {a b:StS} {i k:Nat} {cs cs2:List Idn} {ps:List Pc} (h:MI a b i k cs ps) (ha:OkS a) (hb:OkS b) (hil:i < a.ps.length) (hkl:k < b.ps.length) (he:(a.ps.getD i default).id = (b.ps.getD k default).id)
  (hc2:cs2.Pairwise idlt) (hcm:∀ x,x ∈ cs2 ↔ x ∈ cs ∨ (a.ps.getD i default ≠ b.ps.getD k default ∧ x = (a.ps.getD i default).id)) :
  MI a b (i + 1) (k + 1) cs2 (if (a.ps.getD i default).id ∈ cs2 then ps else ps ++ [a.ps.getD i default]):=by
 have et:=take_succD a.ps i hil
 have ed:=drop_consD a.ps i hil
 have et2:=take_succD b.ps k hkl
 have ed2:=drop_consD b.ps k hkl
 have hpw:=ha.p
 rw [← List.take_append_drop i a.ps,ed] at hpw
 have hpwa:=(List.pairwise_cons.1 (List.pairwise_append.1 hpw).2.1).1
 have hpw:=hb.p
 rw [← List.take_append_drop k b.ps,ed2] at hpw
 have hpwb:=(List.pairwise_cons.1 (List.pairwise_append.1 hpw).2.1).1
 have hf0:∀ p,(p ∈ a.ps.take i ∨ p ∈ b.ps.take k) → idlt p.id (a.ps.getD i default).id:=fun p hp=>h.f p hp _ (.inl (by rw [ed]; simp))
 generalize a.ps.getD i default = x at *
 generalize b.ps.getD k default = y at *
 have hps:∀ p ∈ ps,idlt p.id x.id:=fun p hp=>hf0 p ((h.pm p).1 hp).1
 have hne:∀ p,(p ∈ a.ps.take i ∨ p ∈ b.ps.take k) → p.id ≠ x.id:=fun p hp e=>by
  have:=hf0 p hp
  rw [e] at this
  exact idlt_irrefl _ this
 have hpc:∀ p,(p ∈ a.ps.take i ∨ p ∈ b.ps.take k) → (p.id ∈ cs2 ↔ p.id ∈ cs):=fun p hp=>by
  rw [hcm]
  exact ⟨fun h=>h.elim id (fun h2=>absurd h2.2 (hne p hp)),.inl⟩
 refine ⟨hil,hkl,hc2,fun z=>?_,?_,fun p=>?_,fun p hp q hq=>?_⟩
 ·rw [hcm,h.cm,et,et2]
  constructor
  ·rintro ((h1 | h1 | ⟨p,hp,q,hq,h1⟩) | ⟨h1,h2⟩)
   ·exact .inl h1
   ·exact .inr (.inl h1)
   ·exact .inr (.inr ⟨p,List.mem_append_left _ hp,q,List.mem_append_left _ hq,h1⟩)
   ·exact .inr (.inr ⟨x,by simp,y,by simp,h2.symm,by rw [← he,h2],h1⟩)
  ·rintro (h1 | h1 | ⟨p,hp,q,hq,e1,e2,hd⟩)
   ·exact .inl (.inl h1)
   ·exact .inl (.inr (.inl h1))
   ·rcases List.mem_append.1 hp with hp | hp
    ·rcases List.mem_append.1 hq with hq | hq
     ·exact .inl (.inr (.inr ⟨p,hp,q,hq,e1,e2,hd⟩))
     ·rw [List.mem_singleton] at hq
      subst hq
      exact absurd (e1.trans (e2.symm.trans he.symm)) (hne p (.inl hp))
    ·rw [List.mem_singleton] at hp
     subst hp
     rcases List.mem_append.1 hq with hq | hq
     ·exact absurd (e2.trans e1.symm) (hne q (.inr hq))
     ·rw [List.mem_singleton] at hq
      subst hq
      exact .inr ⟨hd,e1.symm⟩
 ·split
  ·exact h.s
  ·exact List.pairwise_append.2 ⟨h.s,List.pairwise_singleton _ _,fun p hp q hq=>by rw [List.mem_singleton] at hq; rw [hq]; exact hps p hp⟩
 ·have hmem:(p ∈ a.ps.take (i + 1) ∨ p ∈ b.ps.take (k + 1)) ↔ (p ∈ a.ps.take i ∨ p ∈ b.ps.take k) ∨ p = x ∨ p = y:=by
   rw [et,et2,List.mem_append,List.mem_append,List.mem_singleton,List.mem_singleton]
   constructor
   ·rintro ((h1 | h1) | (h1 | h1))
    ·exact .inl (.inl h1)
    ·exact .inr (.inl h1)
    ·exact .inl (.inr h1)
    ·exact .inr (.inr h1)
   ·rintro ((h1 | h1) | (h1 | h1))
    ·exact .inl (.inl h1)
    ·exact .inr (.inl h1)
    ·exact .inl (.inr h1)
    ·exact .inr (.inr h1)
  rw [hmem]
  split
  ·rename_i hx
   rw [h.pm]
   constructor
   ·rintro ⟨h1,h2⟩
    exact ⟨.inl h1,fun h3=>h2 ((hpc p h1).1 h3)⟩
   ·rintro ⟨h1 | rfl | rfl,h2⟩
    ·exact ⟨h1,fun h3=>h2 ((hpc p h1).2 h3)⟩
    ·exact absurd hx h2
    ·rw [he] at hx; exact absurd hx h2
  ·rename_i hx
   have hxy:x = y:=Classical.byContradiction fun hxy=>hx ((hcm _).2 (.inr ⟨hxy,rfl⟩))
   rw [List.mem_append,h.pm,List.mem_singleton]
   constructor
   ·rintro (⟨h1,h2⟩ | rfl)
    ·exact ⟨.inl h1,fun h3=>h2 ((hpc p h1).1 h3)⟩
    ·exact ⟨.inr (.inl rfl),hx⟩
   ·rintro ⟨h1 | rfl | rfl,h2⟩
    ·exact .inl ⟨h1,fun h3=>h2 ((hpc p h1).2 h3)⟩
    ·exact .inr rfl
    ·exact .inr hxy.symm
 ·rw [et,et2] at hp
  have hq':q ∈ a.ps.drop i ∨ q ∈ b.ps.drop k:=hq.imp (fun h=>by rw [ed]; exact List.mem_cons_of_mem _ h) (fun h=>by rw [ed2]; exact List.mem_cons_of_mem _ h)
  have hx:idlt x.id q.id:=by
   rcases hq with hq | hq
   ·exact hpwa q hq
   ·rw [he]; exact hpwb q hq
  rcases hp with hp | hp
  ·rcases List.mem_append.1 hp with hp | hp
   ·exact h.f p (.inl hp) q hq'
   ·rw [List.mem_singleton] at hp
    rw [hp]; exact hx
  ·rcases List.mem_append.1 hp with hp | hp
   ·exact h.f p (.inr hp) q hq'
   ·rw [List.mem_singleton] at hp
    rw [hp,← he]; exact hx
theorem MI.done {a b:StS} {cs:List Idn} {ps:List Pc} (h:MI a b a.ps.length b.ps.length cs ps) (ha:OkS a) (hb:OkS b):Sf ⟨ps,cs⟩ [a,b]:=by
 have hcm:=h.cm
 have hpm:=h.pm
 rw [List.take_length,List.take_length] at hcm hpm
 have hc:∀ x,x ∈ cs ↔ Cf [a,b] x:=fun x=>by
  rw [hcm]
  constructor
  ·rintro (h1 | h1 | ⟨p,hp,q,hq,h1⟩)
   ·exact .inl ⟨a,by simp,h1⟩
   ·exact .inl ⟨b,by simp,h1⟩
   ·exact .inr ⟨a,by simp,b,by simp,p,hp,q,hq,h1⟩
  ·rintro (⟨s,hs,h1⟩ | ⟨s,hs,t,ht,p,hp,q,hq,e1,e2,hne⟩)
   ·rcases List.mem_cons.1 hs with rfl | hs
    ·exact .inl h1
    ·rw [List.mem_singleton] at hs
     subst hs
     exact .inr (.inl h1)
   ·rcases List.mem_cons.1 hs with rfl | hs
    ·rcases List.mem_cons.1 ht with rfl | ht
     ·exact absurd (ha.one hp hq (e1.trans e2.symm)) hne
     ·rw [List.mem_singleton] at ht
      subst ht
      exact .inr (.inr ⟨p,hp,q,hq,e1,e2,hne⟩)
    ·rw [List.mem_singleton] at hs
     subst hs
     rcases List.mem_cons.1 ht with rfl | ht
     ·exact .inr (.inr ⟨q,hq,p,hp,e2,e1,fun e=>hne e.symm⟩)
     ·rw [List.mem_singleton] at ht
      subst ht
      exact absurd (hb.one hp hq (e1.trans e2.symm)) hne
 refine ⟨⟨h.s,h.c,fun p hp=>((hpm p).1 hp).2⟩,hc,fun p=>?_⟩
 rw [← hc]
 show p ∈ ps ↔ _
 rw [hpm]
 simp
end Go.Proofs.Ythjoehaglonjaaa
