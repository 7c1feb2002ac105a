import Derived.Test.YthjoehaglonjaaaSuP
import Derived.Test.YthjoehaglonjaaaDrA
set_option maxRecDepth 8000
set_option linter.unusedSimpArgs false
set_option linter.unusedVariables false
namespace Go.Proofs.Ythjoehaglonjaaa
open Go.PV
structure DrF (x:FC):Prop where
 b:x.blocks.length = 2
 e:x.edges.length = 2
 c:cntd x.ent
 bc:∀ n ∈ x.blocks,cntd n
 ec:∀ t ∈ x.edges,cntd t.1 ∧ cntd t.2
 s:x.sites = [] ∨ ∃ b i c:Int,(0 ≤ b ∧ b < 2) ∧ 0 ≤ i ∧ (0 ≤ c ∧ c < 3) ∧ x.sites = [⟨b,i,[(0,c)]⟩]
theorem DrF.ok {x:FC} (h:DrF x) {n:Int} (hn:0 < n):OkFC n x:=by
 refine ⟨by have:=h.b; omega,by rw [h.b,h.e],h.c,fun b hb=>⟨h.bc _ (gtD hb),h.ec _ (gtD (by rw [h.e,← h.b]; exact hb))⟩,?_⟩
 rcases h.s with hs | ⟨b,i,c,hb,hi,hc,hs⟩
 ·rw [hs]; intro i hi; simp at hi
 ·rw [hs]
  intro j hj
  have:j = 0:=by simp at hj; exact hj
  subst this
  refine ⟨?_,hi,fun h=>absurd h (Nat.lt_irrefl _),?_⟩
  ·show 0 ≤ b ∧ b < _
   rw [h.b]; omega
  ·intro k hk
   have:k = 0:=by
    have:k < [((0:Int),c)].length:=hk
    simp at this; exact this
   subst this
   refine ⟨?_,?_,fun h=>absurd h (Nat.lt_irrefl _)⟩
   ·show (0:Int) ≤ 0 ∧ 0 < n
    omega
   ·show 0 ≤ c ∧ c ≤ _
    omega
theorem DrF.sm {x:FC} (h:DrF x):SmC x:=by
 refine ⟨by have:=h.b; omega,by have:=h.e; omega,?_,fun s hs=>?_⟩
 ·rcases h.s with hs | ⟨b,i,c,hb,hi,hc,hs⟩ <;> rw [hs] <;> simp
 ·rcases h.s with h1 | ⟨b,i,c,hb,hi,hc,h1⟩
  ·rw [h1] at hs; simp at hs
  ·rw [h1,List.mem_singleton] at hs
   rw [hs]; simp
structure DrP (p:Pc):Prop where
 r:numd p.id.1 ∧ numd p.id.2.1 ∧ numd p.id.2.2
 n:1 ≤ p.fs.length ∧ p.fs.length ≤ 2
 f:∀ x ∈ p.fs,DrF x
theorem DrP.ok {p:Pc} (h:DrP p):OkPc p:=⟨h.r,by have:=h.n; omega,fun i hi=>(h.f _ (gtD hi)).ok (by have:=h.n; omega)⟩
theorem DrP.sm {p:Pc} (h:DrP p):∀ x ∈ p.fs,SmC x:=fun x hx=>(h.f x hx).sm
theorem DrP.fit {p:Pc} (h:DrP p):FitP p:=⟨by have:=h.n; omega,fun x hx=>(h.f x hx).sm.fit⟩
def OwnR (el sz:Nat) (Y:Store) (A:PV) (rows:List (List PV)):Prop:=∃ o v:Nat,A = .msl (o + 3) v ∧ Y[o]? = some (.rows el sz rows v)
theorem OwnR.keep {el sz:Nat} {Y Z:Store} {A:PV} {rows:List (List PV)} (h:OwnR el sz Y A rows) (hk:∀ (o:Nat) (rows:List (List PV)) (v:Nat),Y[o]? = some (.rows el sz rows v) → Z[o]? = some (.rows el sz rows v)):OwnR el sz Z A rows:=by
 obtain ⟨o,v,h1,h2⟩:=h
 exact ⟨o,v,h1,hk _ _ _ h2⟩
structure RowD (Y:Store) (x:FC) (row:List PV):Prop where
 d:DrF x
 r:∃ A B S,row = [.int .i64 x.ent,A,B,S] ∧ OwnR 3 1 Y A (ints x.blocks) ∧ OwnR 80 2 Y B (encT x.edges) ∧ ((S = .nils ∧ x.sites = []) ∨ S = .sl (encS x.sites))
def KpI (Y Z:Store):Prop:=(∀ (o:Nat) (rows:List (List PV)) (v:Nat),Y[o]? = some (.rows 3 1 rows v) → Z[o]? = some (.rows 3 1 rows v)) ∧ ∀ (o:Nat) (rows:List (List PV)) (v:Nat),Y[o]? = some (.rows 80 2 rows v) → Z[o]? = some (.rows 80 2 rows v)
theorem KpI.app (Y X:Store):KpI Y (Y ++ X):=⟨fun o r v h=>by rw [List.getElem?_append_left (List.getElem?_eq_some_iff.1 h).1,h],fun o r v h=>by rw [List.getElem?_append_left (List.getElem?_eq_some_iff.1 h).1,h]⟩
theorem KpI.trans {X Y Z:Store} (h:KpI X Y) (h2:KpI Y Z):KpI X Z:=⟨fun o r v e=>h2.1 o r v (h.1 o r v e),fun o r v e=>h2.2 o r v (h.2 o r v e)⟩
theorem KpI.set {Y:Store} {o:Nat} {rows:List (List PV)} {v:Nat} (h:Y[o]? = some (.rows 66 4 rows v)) (X:Go.PV.Obj):KpI Y (Y.set o X) :=
 ⟨fun o2 r v2 e=>by rw [List.getElem?_set_ne (fun e2=>by rw [← e2,h] at e; simp at e)]; exact e,fun o2 r v2 e=>by rw [List.getElem?_set_ne (fun e2=>by rw [← e2,h] at e; simp at e)]; exact e⟩
theorem RowD.keep {Y Z:Store} {x:FC} {row:List PV} (h:RowD Y x row) (hk:KpI Y Z):RowD Z x row:=by
 obtain ⟨A,B,S,h1,h2,h3,h4⟩:=h.r
 exact ⟨h.d,A,B,S,h1,h2.keep hk.1,h3.keep hk.2,h4⟩
theorem RowD.frz {Y:Store} {x:FC} {row:List PV} (h:RowD Y x row) (a b c:Go.PV.Obj):row.length = 4 ∧ ∀ (j:Nat) (p:PV),row[j]? = some p → Frz 1 (a :: b :: c :: Y) p (x.row.getD j .unk):=by
 obtain ⟨A,B,S,rfl,⟨oa,va,rfl,ha⟩,⟨ob,vb,rfl,hb⟩,hS⟩:=h.r
 refine ⟨rfl,fun j p hj=>?_⟩
 match j,hj with
 | 0,hj=>simp at hj; subst hj; exact .keep _ (bel_int _ _ _)
 | 1,hj=>simp at hj; subst hj; exact Frz.msl0 (by omega) (show (a :: b :: c :: Y)[oa + 3]? = _ from ha) (enc_bel _ _ _)
 | 2,hj=>simp at hj; subst hj; exact Frz.msl0 (by omega) (show (a :: b :: c :: Y)[ob + 3]? = _ from hb) (encT_bel _ _)
 | 3,hj =>
  simp at hj; subst hj
  rcases hS with ⟨rfl,hs⟩ | rfl
  ·show Frz 1 _ _ (.sl (encS x.sites))
   rw [hs]
   exact .nils
  ·exact .keep _ (bel_sites _ _)
 | j + 4,hj=>simp at hj
structure PcI (fs:List FC) (n o:Nat) (Y:Store):Prop where
 hn:n = fs.length
 y:∀ j,n = j + 1 → ∃ R,Y[o]? = some (.rows 66 4 R j) ∧ R.length = n ∧ ∀ i,i < n → RowD Y (fs.getD i default) (R.getD i [])
def fcV (n o:Nat):PV:=match n with | 0=>.nils | j + 1=>.msl (o + 3) j
def stP (l:List Int) (k:Nat) (id:Idn) (d:Int) (n o:Nat) (Y:Store):Store :=
 codes l k :: .rows 32 5 [[.int .i64 0,.int .i64 0,.int .i64 0,.int .u64 0,.nils]] 0 :: .rows 32 5 [[.int .i64 id.1,.int .i64 id.2.1,.int .i64 id.2.2,.int .u64 d,fcV n o]] 0 :: Y
def lsB (b o:Nat):PV:=match b with | 0=>.nils | j + 1=>.msl (o + 3) j
structure BlI (Y Z:Store) (c b oa ob:Nat) (ent:Int) (bl:List Int) (el:List (Int × Int)):Prop where
 hb:b ≤ 2
 l1:bl.length = b
 l2:el.length = b
 r1:∀ n ∈ bl,cntd n
 r2:∀ t ∈ el,cntd t.1 ∧ cntd t.2
 z:Z[c]? = some (.rows 66 4 [[.int .i64 ent,lsB b oa,lsB b ob,.nils]] 0)
 y:∀ j,b = j + 1 → Z[oa]? = some (.rows 3 1 (ints bl) j) ∧ Z[ob]? = some (.rows 80 2 (encT el) j) ∧ c < oa ∧ c < ob ∧ oa ≠ ob
 lo:∀ t,t < c → Z[t]? = Y[t]?
theorem kp_of {Y Z:Store} {c:Nat} (hc:c = Y.length) (lo:∀ t,t < c → Z[t]? = Y[t]?):KpI Y Z :=
 ⟨fun o r v h=>by rw [lo o (by rw [hc]; exact (List.getElem?_eq_some_iff.1 h).1),h],fun o r v h=>by rw [lo o (by rw [hc]; exact (List.getElem?_eq_some_iff.1 h).1),h]⟩
theorem PcI.push0 {fs:List FC} {o:Nat} {Y Z:Store} (h:PcI fs 0 o Y) {x:FC} {row:List PV} (hr:RowD Z x row):PcI (fs ++ [x]) 1 Z.length (Z ++ [.rows 66 4 [row] 0]):=by
 have h0:fs = []:=List.eq_nil_of_length_eq_zero h.hn.symm
 refine ⟨by rw [h0]; rfl,fun j hj=>⟨[row],?_,rfl,fun i hi=>?_⟩⟩
 ·obtain rfl:j = 0:=by omega
  simp
 ·obtain rfl:i = 0:=by omega
  rw [h0]
  exact hr.keep (KpI.app _ _)
theorem PcI.push {fs:List FC} {j o:Nat} {Y Z:Store} (h:PcI fs (j + 1) o Y) (hk:KpI Y Z) {R:List (List PV)} (hR:Y[o]? = some (.rows 66 4 R j)) (hZ:Z[o]? = some (.rows 66 4 R j)) {x:FC} {row:List PV} (hr:RowD Z x row) :
  PcI (fs ++ [x]) (j + 2) o (Z.set o (.rows 66 4 (R ++ [row]) (j + 1))):=by
 obtain ⟨R2,h1,h2,h3⟩:=h.y j rfl
 rw [hR] at h1
 simp only [Option.some.injEq,Go.PV.Obj.rows.injEq,true_and,and_true] at h1
 subst h1
 have hfl:=h.hn
 have hzl:=(List.getElem?_eq_some_iff.1 hZ).1
 have hks:=KpI.set hZ (.rows 66 4 (R ++ [row]) (j + 1))
 refine ⟨by rw [List.length_append,← hfl]; rfl,fun j2 hj=>⟨R ++ [row],?_,by rw [List.length_append,h2]; rfl,fun i hi=>?_⟩⟩
 ·obtain rfl:j2 = j + 1:=by omega
  rw [List.getElem?_set_self hzl]
 ·by_cases hil:i < j + 1
  ·have e1:(fs ++ [x]).getD i default = fs.getD i default:=by simp [List.getD_eq_getElem?_getD,List.getElem?_append_left (show i < fs.length by omega)]
   have e2:(R ++ [row]).getD i [] = R.getD i []:=by simp [List.getD_eq_getElem?_getD,List.getElem?_append_left (show i < R.length by omega)]
   rw [e1,e2]
   exact (h3 i hil).keep (hk.trans hks)
  ·obtain rfl:i = j + 1:=by omega
   have e1:(fs ++ [x]).getD (j + 1) default = x:=by rw [List.getD_eq_getElem?_getD,hfl]; simp
   have e2:(R ++ [row]).getD (j + 1) [] = row:=by rw [List.getD_eq_getElem?_getD,← h2]; simp
   rw [e1,e2]
   exact hr.keep hks
theorem u64_small (n:Int) (h:0 ≤ n ∧ n < 2):IntKind.u64.wrap n = n:=by simp [IntKind.wrap,IntKind.bits,IntKind.signed]; omega
theorem fnum (a b:Int) (ha:0 ≤ a ∧ a < 2) (hb:0 ≤ b ∧ b < 3):∃ N:Nat,IntKind.i64.wrap (1 + IntKind.i64.wrap (a.tdiv (1 + b))) = (N:Int) ∧ 1 ≤ N ∧ N ≤ 2:=by
 rcases (show a = 0 ∨ a = 1 by omega) with rfl | rfl
 ·rcases (show b = 0 ∨ b = 1 ∨ b = 2 by omega) with rfl | rfl | rfl <;> exact ⟨1,by decide,by decide,by decide⟩
 ·rcases (show b = 0 ∨ b = 1 ∨ b = 2 by omega) with rfl | rfl | rfl
  ·exact ⟨2,by decide,by decide,by decide⟩
  ·exact ⟨1,by decide,by decide,by decide⟩
  ·exact ⟨1,by decide,by decide,by decide⟩
def blF (l:List Int) (k:Nat):Nat → List Int × List (Int × Int) × Nat
 | 0=>([],[],(nxt l k 9).2)
 | b + 1=>((blF l k b).1 ++ [(nxt l (blF l k b).2.2 9).1 - 1],(blF l k b).2.1 ++ [((nxt l (nxt l (blF l k b).2.2 9).2 5).1 - 1,(nxt l (nxt l (nxt l (blF l k b).2.2 9).2 5).2 5).1 - 1)],(nxt l (nxt l (nxt l (blF l k b).2.2 9).2 5).2 5).2)
def siF (l:List Int) (k:Nat):List Site × Nat :=
 if (nxt l k 3).1 = 0 then ([⟨(nxt l (nxt l k 3).2 2).1,(nxt l (nxt l (nxt l k 3).2 2).2 2).1,[(0,(nxt l (nxt l (nxt l (nxt l k 3).2 2).2 2).2 3).1)]⟩],(nxt l (nxt l (nxt l (nxt l k 3).2 2).2 2).2 3).2)
 else ([],(nxt l k 3).2)
def fcF (l:List Int) (k:Nat):FC × Nat:=(⟨(nxt l k 9).1 - 1,(blF l k 2).1,(blF l k 2).2.1,(siF l (blF l k 2).2.2).1⟩,(siF l (blF l k 2).2.2).2)
def fcsF (l:List Int):Nat → Nat → List FC × Nat
 | 0,k=>([],k)
 | n + 1,k=>((fcF l k).1 :: (fcsF l n (fcF l k).2).1,(fcsF l n (fcF l k).2).2)
def pnF (l:List Int) (k:Nat):Nat:=(IntKind.i64.wrap (1 + IntKind.i64.wrap ((nxt l k 2).1.tdiv (1 + (nxt l (nxt l k 2).2 3).1)))).toNat
def pieceF (l:List Int) (k:Nat):Pc × Nat :=
 (⟨((nxt l k 3).1,(nxt l (nxt l k 3).2 2).1,(nxt l (nxt l (nxt l k 3).2 2).2 2).1),(nxt l (nxt l (nxt l (nxt l k 3).2 2).2 2).2 2).1,
  (fcsF l (pnF l (nxt l (nxt l (nxt l (nxt l k 3).2 2).2 2).2 2).2) (nxt l (nxt l (nxt l (nxt l (nxt l (nxt l k 3).2 2).2 2).2 2).2 2).2 3).2).1⟩,
  (fcsF l (pnF l (nxt l (nxt l (nxt l (nxt l k 3).2 2).2 2).2 2).2) (nxt l (nxt l (nxt l (nxt l (nxt l (nxt l k 3).2 2).2 2).2 2).2 2).2 3).2).2)
section
variable {l:List Int}
theorem blF_ok (hl:okInts .u8 l) {k:Nat} (hk:k ≤ l.length):∀ b,(blF l k b).1.length = b ∧ (blF l k b).2.1.length = b ∧ (∀ n ∈ (blF l k b).1,cntd n) ∧ (∀ t ∈ (blF l k b).2.1,cntd t.1 ∧ cntd t.2) ∧ (blF l k b).2.2 ≤ l.length
 | 0=>⟨rfl,rfl,fun n h=>by simp [blF] at h,fun t h=>by simp [blF] at h,nxt_le hk 9⟩
 | b + 1=>by
  obtain ⟨h1,h2,h3,h4,h5⟩:=blF_ok hl hk b
  have a0:=nxt_lt hl (blF l k b).2.2 9 (by omega)
  have a1:=nxt_lt hl (nxt l (blF l k b).2.2 9).2 5 (by omega)
  have a2:=nxt_lt hl (nxt l (nxt l (blF l k b).2.2 9).2 5).2 5 (by omega)
  simp only [blF]
  refine ⟨by rw [List.length_append,h1]; rfl,by rw [List.length_append,h2]; rfl,fun n hn=>?_,fun t ht=>?_,nxt_le (nxt_le (nxt_le h5 9) 5) 5⟩
  ·rcases List.mem_append.1 hn with hn | hn
   ·exact h3 n hn
   ·rw [List.mem_singleton] at hn
    subst hn
    unfold cntd; omega
  ·rcases List.mem_append.1 ht with ht | ht
   ·exact h4 t ht
   ·rw [List.mem_singleton] at ht
    subst ht
    unfold cntd; dsimp only; omega
theorem siF_ok (hl:okInts .u8 l) {k:Nat} (hk:k ≤ l.length):((siF l k).1 = [] ∨ ∃ b i c:Int,(0 ≤ b ∧ b < 2) ∧ 0 ≤ i ∧ (0 ≤ c ∧ c < 3) ∧ (siF l k).1 = [⟨b,i,[(0,c)]⟩]) ∧ (siF l k).2 ≤ l.length:=by
 have b0:=nxt_le hk 3
 have a1:=nxt_lt hl (nxt l k 3).2 2 (by omega)
 have b1:=nxt_le b0 2
 have a2:=nxt_lt hl (nxt l (nxt l k 3).2 2).2 2 (by omega)
 have b2:=nxt_le b1 2
 have a3:=nxt_lt hl (nxt l (nxt l (nxt l k 3).2 2).2 2).2 3 (by omega)
 have b3:=nxt_le b2 3
 unfold siF
 split
 ·exact ⟨.inr ⟨_,_,_,a1,a2.1,a3,rfl⟩,b3⟩
 ·exact ⟨.inl rfl,b0⟩
theorem fcF_ok (hl:okInts .u8 l) {k:Nat} (hk:k ≤ l.length):DrF (fcF l k).1 ∧ (fcF l k).2 ≤ l.length:=by
 obtain ⟨h1,h2,h3,h4,h5⟩:=blF_ok hl hk 2
 obtain ⟨h6,h7⟩:=siF_ok hl h5
 have a0:=nxt_lt hl k 9 (by omega)
 exact ⟨⟨h1,h2,by show cntd ((nxt l k 9).1 - 1); unfold cntd; omega,h3,h4,h6⟩,h7⟩
theorem fcsF_ok (hl:okInts .u8 l):∀ (n:Nat) {k:Nat},k ≤ l.length → (fcsF l n k).1.length = n ∧ (∀ x ∈ (fcsF l n k).1,DrF x) ∧ (fcsF l n k).2 ≤ l.length
 | 0,k,hk=>⟨rfl,fun x h=>by simp [fcsF] at h,hk⟩
 | n + 1,k,hk=>by
  obtain ⟨h1,h2⟩:=fcF_ok hl hk
  obtain ⟨h3,h4,h5⟩:=fcsF_ok hl n h2
  exact ⟨by simp [fcsF,h3],fun x hx=>by
   simp only [fcsF,List.mem_cons] at hx
   rcases hx with rfl | hx
   ·exact h1
   ·exact h4 x hx,h5⟩
theorem pieceF_ok (hl:okInts .u8 l) {k:Nat} (hk:k ≤ l.length):DrP (pieceF l k).1 ∧ (pieceF l k).2 ≤ l.length:=by
 have a0:=nxt_lt hl k 3 (by omega)
 have b0:=nxt_le hk 3
 have a1:=nxt_lt hl (nxt l k 3).2 2 (by omega)
 have b1:=nxt_le b0 2
 have a2:=nxt_lt hl (nxt l (nxt l k 3).2 2).2 2 (by omega)
 have b2:=nxt_le b1 2
 have b3:=nxt_le b2 2
 have a4:=nxt_lt hl (nxt l (nxt l (nxt l (nxt l k 3).2 2).2 2).2 2).2 2 (by omega)
 have b4:=nxt_le b3 2
 have a5:=nxt_lt hl (nxt l (nxt l (nxt l (nxt l (nxt l k 3).2 2).2 2).2 2).2 2).2 3 (by omega)
 have b5:=nxt_le b4 3
 obtain ⟨N,hN,hN1,hN2⟩:=fnum _ _ a4 a5
 have hp:pnF l (nxt l (nxt l (nxt l (nxt l k 3).2 2).2 2).2 2).2 = N:=by unfold pnF; rw [hN]; rfl
 obtain ⟨h1,h2,h3⟩:=fcsF_ok hl (pnF l (nxt l (nxt l (nxt l (nxt l k 3).2 2).2 2).2 2).2) b5
 refine ⟨⟨⟨?_,?_,?_⟩,?_,h2⟩,h3⟩
 ·show 0 ≤ (nxt l k 3).1 ∧ (nxt l k 3).1 ≤ _
  omega
 ·show 0 ≤ (nxt l (nxt l k 3).2 2).1 ∧ (nxt l (nxt l k 3).2 2).1 ≤ 1073741824
  omega
 ·show 0 ≤ (nxt l (nxt l (nxt l k 3).2 2).2 2).1 ∧ (nxt l (nxt l (nxt l k 3).2 2).2 2).1 ≤ 1073741824
  omega
 ·show 1 ≤ (fcsF l _ _).1.length ∧ (fcsF l _ _).1.length ≤ 2
  rw [h1,hp]
  exact ⟨hN1,hN2⟩
end
set_option maxHeartbeats 16000000 in
theorem dpieceX_w (l:List Int) (k0:Nat) (hl:okInts .u8 l) (hll:l.length < 2 ^ 40) (hk0:k0 ≤ l.length) :
  PCall Try.prog 14 [.ptr 0 0 0 0] [codes l k0] (fun q τ=>q = .agg (pieceF l k0).1.row ∧ τ = [codes l (pieceF l k0).2]):=by
 have a0:=nxt_lt hl k0 3 (by omega)
 have b0:=nxt_le hk0 3
 obtain ⟨r0,h0⟩:∃ r,r = nxt l k0 3:=⟨_,rfl⟩
 rw [← h0] at a0 b0
 have a1:=nxt_lt hl r0.2 2 (by omega)
 have b1:=nxt_le b0 2
 obtain ⟨r1,h1⟩:∃ r,r = nxt l r0.2 2:=⟨_,rfl⟩
 rw [← h1] at a1 b1
 have a2:=nxt_lt hl r1.2 2 (by omega)
 have b2:=nxt_le b1 2
 obtain ⟨r2,h2⟩:∃ r,r = nxt l r1.2 2:=⟨_,rfl⟩
 rw [← h2] at a2 b2
 have a3:=nxt_lt hl r2.2 2 (by omega)
 have b3:=nxt_le b2 2
 obtain ⟨r3,h3⟩:∃ r,r = nxt l r2.2 2:=⟨_,rfl⟩
 rw [← h3] at a3 b3
 have a4:=nxt_lt hl r3.2 2 (by omega)
 have b4:=nxt_le b3 2
 obtain ⟨r4,h4⟩:∃ r,r = nxt l r3.2 2:=⟨_,rfl⟩
 rw [← h4] at a4 b4
 have a5:=nxt_lt hl r4.2 3 (by omega)
 have b5:=nxt_le b4 3
 obtain ⟨r5,h5⟩:∃ r,r = nxt l r4.2 3:=⟨_,rfl⟩
 rw [← h5] at a5 b5
 refine PCall.vfrz [] 288230384775200895 79 [.cell 2 32] nx_ok mix Try.func14 rfl (by decide) rfl rfl (by simp) ?_
 simp -dsimp only [initFr,List.zipIdx_cons,List.zipIdx_nil,List.map_cons,List.map_nil,Nat.zero_add,Nat.reduceAdd]
 simp -dsimp (maxSteps:=4000000) +contextual (disch:=first | omega | decide +kernel) only [↓vsD,vsE,↓Nat.reduceLT,simprocAttr,nx_next,exNextO_codes,vcel,hl,← h0,← h1,← h2,← h3,← h4,← h5]
 obtain ⟨N,hN,hN1,hN2⟩:=fnum r4.1 r5.1 a4 a5
 have hX:pieceF l k0 = (⟨(r0.1,r1.1,r2.1),r3.1,(fcsF l N r5.2).1⟩,(fcsF l N r5.2).2):=by
  simp only [pieceF,pnF,← h0,← h1,← h2,← h3,← h4,← h5,hN,Int.toNat_natCast]
 obtain ⟨FR,hFR⟩:∃ FR,FR = fcsF l N r5.2:=⟨_,rfl⟩
 rw [← hFR] at hX
 rw [hN,u64_small r3.1 a3]
 refine v_loopS (fun s:Nat × List FC × Nat × Nat × Nat × Store=>[(0,.ptr 0 0 0 0),(2,.ptr 1 0 0 0),(3,.ptr 2 0 0 0),(4,.int .i64 s.1)]) (fun s=>stP l s.2.2.1 (r0.1,r1.1,r2.1) r3.1 s.2.2.2.1 s.2.2.2.2.1 s.2.2.2.2.2)
  (fun s=>s.2.2.1 ≤ l.length ∧ s.1 + s.2.1.length = N ∧ (s.2.1 ++ (fcsF l s.1 s.2.2.1).1 = FR.1 ∧ (fcsF l s.1 s.2.2.1).2 = FR.2) ∧ PcI s.2.1 s.2.2.2.1 s.2.2.2.2.1 s.2.2.2.2.2) (fun s=>s.1) (N,[],r5.2,0,0,[]) (by simp [weaker,Go.PV.look]) rfl ⟨b5,by simp,⟨by rw [hFR]; rfl,by rw [hFR]⟩,rfl,fun j h=>by simp at h⟩ ?_
 clear h0 h1 h2 h3 h4 h5 b0 b1 b2 b3 b4 b5
 rintro ⟨f,fs,k,n,o,Y⟩ ⟨hk,hfN,⟨hf1,hf2⟩,hI⟩
 dsimp only at hk hfN hf1 hf2 hI ⊢
 have hIn:=hI.hn
 simp -dsimp only [stP]
 by_cases hf:0 < f
 ·have a0':=nxt_lt hl k 9 (by omega)
  have b0:=nxt_le hk 9
  obtain ⟨q0,h0⟩:∃ r,r = nxt l k 9:=⟨_,rfl⟩
  rw [← h0] at a0' b0
  have hke:q0.2 = (blF l k 0).2.2:=by rw [h0]; rfl
  have hen0:q0.1 - 1 = (nxt l k 9).1 - 1:=by rw [h0]
  obtain ⟨kf,hkf⟩:∃ kf,kf = k:=⟨_,rfl⟩
  rw [← hkf] at hke hen0 hf1 hf2
  have hkfl:kf ≤ l.length:=by rw [hkf]; exact hk
  have hent:cntd (q0.1 - 1):=by unfold cntd; omega
  simp -dsimp (maxSteps:=4000000) +contextual (disch:=first | omega | decide +kernel) only [↓vsD,vsE,↓Nat.reduceLT,simprocAttr,nx_next,exNextO_codes,vcel,hl,← h0]
  obtain ⟨c,hc⟩:∃ c,c = Y.length:=⟨_,rfl⟩
  generalize hqe:q0.1 - 1 = ent at hent hen0 ⊢
  refine v_loopS (fun s:Nat × List Int × List (Int × Int) × Nat × Nat × Nat × Store=>[(0,.ptr 0 0 0 0),(2,.ptr 1 0 0 0),(3,.ptr 2 0 0 0),(4,.int .i64 f),(5,.ptr (c + 3) 0 0 0),(6,.int .i64 s.1)]) (fun s=>stP l s.2.2.2.1 (r0.1,r1.1,r2.1) r3.1 n o s.2.2.2.2.2.2)
   (fun s=>s.2.2.2.1 ≤ l.length ∧ (s.2.1,s.2.2.1,s.2.2.2.1) = blF l kf s.1 ∧ BlI Y s.2.2.2.2.2.2 c s.1 s.2.2.2.2.1 s.2.2.2.2.2.1 ent s.2.1 s.2.2.1) (fun s=>2 - s.1) (0,[],[],q0.2,0,0,Y ++ [.rows 66 4 [[.int .i64 ent,.nils,.nils,.nils]] 0]) (by simp [weaker,Go.PV.look,hc]) (by simp [stP])
   ⟨b0,by dsimp only; rw [hke]; rfl,by dsimp only; omega,rfl,rfl,fun n h=>by simp at h,fun t h=>by simp at h,by dsimp only; rw [hc]; simp [lsB],fun j h=>by simp at h,fun t ht=>by dsimp only; rw [List.getElem?_append_left (by omega)]⟩ ?_
  clear h0 hk b0 hke
  rintro ⟨b,bl,el,k,oa,ob,Z⟩ ⟨hk,hbF,hB⟩
  dsimp only at hk hbF hB ⊢
  simp -dsimp only [stP]
  have hzl:=(List.getElem?_eq_some_iff.1 hB.z).1
  have hbl1:=hB.l1
  have hbl2:=hB.l2
  by_cases hb2:b < 2
  ·have a0:=nxt_lt hl k 9 (by omega)
   have b0:=nxt_le hk 9
   obtain ⟨q0,h0⟩:∃ r,r = nxt l k 9:=⟨_,rfl⟩
   rw [← h0] at a0 b0
   have a1:=nxt_lt hl q0.2 5 (by omega)
   have b1:=nxt_le b0 5
   obtain ⟨q1,h1⟩:∃ r,r = nxt l q0.2 5:=⟨_,rfl⟩
   rw [← h1] at a1 b1
   have a2:=nxt_lt hl q1.2 5 (by omega)
   have b2:=nxt_le b1 5
   obtain ⟨q2,h2⟩:∃ r,r = nxt l q1.2 5:=⟨_,rfl⟩
   rw [← h2] at a2 b2
   cases b with
   | zero =>
    have hz:Z[c]? = some (.rows 66 4 [[.int .i64 ent,.nils,.nils,.nils]] 0):=hB.z
    have g1:∀ X,(Z ++ X)[c]? = _:=fun X=>yap hz X
    have g2:∀ X y,(Z ++ X).set c y = Z.set c y ++ X:=fun X y=>by rw [List.set_append_left _ _ hzl]
    have g3:∀ X y,(Z.set c y ++ X)[c]? = some y:=fun X y=>yap (List.getElem?_set_self hzl) X
    have g4:∀ X y z,(Z.set c y ++ X).set c z = Z.set c z ++ X:=fun X y z=>by rw [List.set_append_left _ _ (by rw [List.length_set]; exact hzl),List.set_set]
    simp -dsimp (maxSteps:=4000000) +contextual (disch:=first | omega | decide +kernel) only [↓vsD,vsE,↓Nat.reduceLT,simprocAttr,nx_next,exNextO_codes,vcel,hl,← h0,← h1,← h2,hz]
    refine v_draws _ _ _ _ _ _ [3,6,8] [] [(0,1),(0,1),(0,0),(0,0),(1,1),(1,1),(0,0),(2,2),(0,0)] (by decide +kernel) (by decide +kernel) (by decide +kernel) (by decide +kernel) ?_
    simp -dsimp (maxSteps:=4000000) +contextual (disch:=first | omega | decide +kernel) only [↓vsD,vsE,↓Nat.reduceLT,simprocAttr,nx_next,exNextO_codes,vdA,↓vd_end,↓vdm_go,↓vd_op,↓guard_none,↓guard_some,vcel,hl,← h0,← h1,← h2,hz,g1,g2,g3,g4,bytesK,lenK,List.append_assoc,List.length_append,List.length_set,List.length_cons,List.length_nil]
    refine v_draws _ _ _ _ _ _ [3,6,10,12] [] [(0,2),(0,2),(0,0),(0,0),(1,2),(0,1),(0,0),(2,2),(2,2),(2,2),(0,0),(3,3),(0,0)] (by decide +kernel) (by decide +kernel) (by decide +kernel) (by decide +kernel) ?_
    simp -dsimp (maxSteps:=4000000) +contextual (disch:=first | omega | decide +kernel) only [↓vsD,vsE,↓Nat.reduceLT,simprocAttr,nx_next,exNextO_codes,vdA,↓vd_end,↓vdm_go,↓vd_op,↓guard_none,↓guard_some,vcel,hl,← h0,← h1,← h2,hz,g1,g2,g3,g4,bytesK,lenK,List.append_assoc,List.length_append,List.length_set,List.length_cons,List.length_nil]
    have hbn:bl = []:=List.eq_nil_of_length_eq_zero hbl1
    have hen:el = []:=List.eq_nil_of_length_eq_zero hbl2
    refine ⟨(1,[q0.1 - 1],[(q1.1 - 1,q2.1 - 1)],q2.2,Z.length,Z.length + 1,_),(by (try dsimp only); omega),by simp [weaker,Go.PV.look],rfl,b2,by dsimp only; rw [blF,← hbF]; simp only [hbn,hen,← h0,← h1,← h2,List.nil_append],?_⟩
    refine ⟨by omega,rfl,rfl,fun m hm=>?_,fun t ht=>?_,yap (List.getElem?_set_self hzl) _,fun j hj=>?_,fun t ht=>?_⟩
    ·rw [List.mem_singleton] at hm
     subst hm
     unfold cntd; omega
    ·rw [List.mem_singleton] at ht
     subst ht
     unfold cntd; dsimp only; omega
    ·obtain rfl:j = 0:=by dsimp only at hj; omega
     dsimp only
     refine ⟨by simp [ints,encI],by simp [encT],by omega,by omega,by omega⟩
    ·dsimp only
     rw [List.getElem?_append_left (by rw [List.length_set]; omega),List.getElem?_set_ne (by omega)]
     exact hB.lo t ht
   | succ j =>
    have hz:Z[c]? = some (.rows 66 4 [[.int .i64 ent,.msl (oa + 3) j,.msl (ob + 3) j,.nils]] 0):=hB.z
    obtain ⟨ya,yb,ca,cb,hab⟩:=hB.y j rfl
    have hla:=(List.getElem?_eq_some_iff.1 ya).1
    have hlb:=(List.getElem?_eq_some_iff.1 yb).1
    have eA:(ints bl).length = j + 1:=by rw [show (ints bl).length = bl.length from enc_length _ _,hbl1]
    have eB:(encT el).length = j + 1:=by rw [encT_length,hbl2]
    have g1:∀ x,(Z.set oa x)[c]? = _:=fun x=>(List.getElem?_set_ne (by omega)).trans hz
    have g2:∀ x y,((Z.set oa x).set c y)[c]? = some y:=fun x y=>List.getElem?_set_self (by rw [List.length_set]; exact hzl)
    have g3:∀ x y,((Z.set oa x).set c y)[ob]? = _:=fun x y=>(List.getElem?_set_ne (by omega)).trans ((List.getElem?_set_ne hab).trans yb)
    have g4:∀ x y z,(((Z.set oa x).set c y).set ob z)[c]? = some y:=fun x y z=>(List.getElem?_set_ne (by omega)).trans (g2 x y)
    simp -dsimp (maxSteps:=4000000) +contextual (disch:=first | omega | decide +kernel) only [↓vsD,vsE,↓Nat.reduceLT,simprocAttr,nx_next,exNextO_codes,vcel,hl,← h0,← h1,← h2,hz]
    refine v_draws _ _ _ _ _ _ [3,6,8] [] [(0,1),(0,1),(0,0),(0,0),(1,1),(1,1),(0,0),(2,2),(0,0)] (by decide +kernel) (by decide +kernel) (by decide +kernel) (by decide +kernel) ?_
    simp -dsimp (maxSteps:=4000000) +contextual (disch:=first | omega | decide +kernel) only [↓vsD,vsE,↓Nat.reduceLT,simprocAttr,nx_next,exNextO_codes,vdA,↓vd_end,↓vdm_go,↓vd_op,↓guard_none,↓guard_some,vcel,hl,← h0,← h1,← h2,hz,ya,eA,g1,g2,g3,g4,bytesK,lenK]
    refine v_draws _ _ _ _ _ _ [3,6,10,12] [] [(0,2),(0,2),(0,0),(0,0),(1,2),(0,1),(0,0),(2,2),(2,2),(2,2),(0,0),(3,3),(0,0)] (by decide +kernel) (by decide +kernel) (by decide +kernel) (by decide +kernel) ?_
    simp -dsimp (maxSteps:=4000000) +contextual (disch:=first | omega | decide +kernel) only [↓vsD,vsE,↓Nat.reduceLT,simprocAttr,nx_next,exNextO_codes,vdA,↓vd_end,↓vdm_go,↓vd_op,↓guard_none,↓guard_some,vcel,hl,← h0,← h1,← h2,hz,eB,g1,g2,g3,g4,bytesK,lenK]
    refine ⟨(j + 2,bl ++ [q0.1 - 1],el ++ [(q1.1 - 1,q2.1 - 1)],q2.2,oa,ob,_),(by (try dsimp only); omega),by simp [weaker,Go.PV.look]; omega,rfl,b2,by dsimp only; rw [blF,← hbF]; simp only [← h0,← h1,← h2],?_⟩
    refine ⟨by dsimp only; omega,by dsimp only; rw [List.length_append,hbl1]; rfl,by dsimp only; rw [List.length_append,hbl2]; rfl,fun m hm=>?_,fun t ht=>?_,List.getElem?_set_self (by simp only [List.length_set]; exact hzl),fun j2 hj=>?_,fun t ht=>?_⟩
    ·rcases List.mem_append.1 hm with hm | hm
     ·exact hB.r1 m hm
     ·rw [List.mem_singleton] at hm
      subst hm
      unfold cntd; omega
    ·rcases List.mem_append.1 ht with ht | ht
     ·exact hB.r2 t ht
     ·rw [List.mem_singleton] at ht
      subst ht
      unfold cntd; dsimp only; omega
    ·obtain rfl:j2 = j + 1:=by dsimp only at hj; omega
     dsimp only
     refine ⟨?_,?_,ca,cb,hab⟩
     ·rw [List.getElem?_set_ne (by omega),List.getElem?_set_ne (by omega),List.getElem?_set_ne (by omega),List.getElem?_set_self hla]
      simp [ints,encI]
     ·rw [List.getElem?_set_ne (by omega),List.getElem?_set_self (by simp only [List.length_set]; exact hlb)]
      simp [encT]
    ·dsimp only
     rw [List.getElem?_set_ne (by omega),List.getElem?_set_ne (by omega),List.getElem?_set_ne (by omega),List.getElem?_set_ne (by omega)]
     exact hB.lo t ht
  ·obtain rfl:b = 2:=by have:=hB.hb; omega
   obtain ⟨ya,yb,ca,cb,hab⟩:=hB.y 1 rfl
   have hz:Z[c]? = some (.rows 66 4 [[.int .i64 ent,.msl (oa + 3) 1,.msl (ob + 3) 1,.nils]] 0):=hB.z
   have a0:=nxt_lt hl k 3 (by omega)
   have b0:=nxt_le hk 3
   obtain ⟨q0,h0⟩:∃ r,r = nxt l k 3:=⟨_,rfl⟩
   rw [← h0] at a0 b0
   have a1:=nxt_lt hl q0.2 2 (by omega)
   have b1:=nxt_le b0 2
   obtain ⟨q1,h1⟩:∃ r,r = nxt l q0.2 2:=⟨_,rfl⟩
   rw [← h1] at a1 b1
   have a2:=nxt_lt hl q1.2 2 (by omega)
   have b2:=nxt_le b1 2
   obtain ⟨q2,h2⟩:∃ r,r = nxt l q1.2 2:=⟨_,rfl⟩
   rw [← h2] at a2 b2
   have a3:=nxt_lt hl q2.2 3 (by omega)
   have b3:=nxt_le b2 3
   obtain ⟨q3,h3⟩:∃ r,r = nxt l q2.2 3:=⟨_,rfl⟩
   rw [← h3] at a3 b3
   have hkY:KpI Y Z:=kp_of hc hB.lo
   have e1:((f:Int) - 1) = ((f - 1:Nat):Int):=by omega
   have hrow:∀ (Z':Store) (S:PV) (ss:List Site),KpI Z Z' → (ss = [] ∨ ∃ b i c:Int,(0 ≤ b ∧ b < 2) ∧ 0 ≤ i ∧ (0 ≤ c ∧ c < 3) ∧ ss = [⟨b,i,[(0,c)]⟩]) → ((S = .nils ∧ ss = []) ∨ S = .sl (encS ss)) →
     RowD Z' ⟨ent,bl,el,ss⟩ [.int .i64 ent,.msl (oa + 3) 1,.msl (ob + 3) 1,S]:=fun Z' S ss hkk hss hS =>
    ⟨⟨hbl1,hbl2,hent,hB.r1,hB.r2,hss⟩,_,_,_,rfl,⟨oa,1,rfl,hkk.1 _ _ _ ya⟩,⟨ob,1,rfl,hkk.2 _ _ _ yb⟩,hS⟩
   have hst:∃ b i c:Int,(0 ≤ b ∧ b < 2) ∧ 0 ≤ i ∧ (0 ≤ c ∧ c < 3) ∧ [(⟨q1.1,q2.1,[(0,q3.1)]⟩:Site)] = [⟨b,i,[(0,c)]⟩]:=⟨_,_,_,a1,a2.1,a3,rfl⟩
   have hF2:blF l kf 2 = (bl,el,k):=hbF.symm
   have hs1:∀ h:q0.1 = 0,fcF l kf = (⟨ent,bl,el,[⟨q1.1,q2.1,[(0,q3.1)]⟩]⟩,q3.2):=fun h=>by
    simp only [fcF,hF2,siF,← h0,← h1,← h2,← h3,if_pos h,← hen0]
   have hs2:∀ h:¬ q0.1 = 0,fcF l kf = (⟨ent,bl,el,[]⟩,q0.2):=fun h=>by
    simp only [fcF,hF2,siF,← h0,if_neg h,← hen0]
   have hst1:fcsF l f kf = ((fcF l kf).1 :: (fcsF l (f - 1) (fcF l kf).2).1,(fcsF l (f - 1) (fcF l kf).2).2):=by
    obtain ⟨g,rfl⟩:∃ g,f = g + 1:=⟨f - 1,by omega⟩
    rfl
   rw [hst1] at hf1 hf2
   have hz1:∀ h:q0.1 = 0,(fs ++ [⟨ent,bl,el,[⟨q1.1,q2.1,[(0,q3.1)]⟩]⟩]) ++ (fcsF l (f - 1) q3.2).1 = FR.1 ∧ (fcsF l (f - 1) q3.2).2 = FR.2:=fun h=>by
    rw [hs1 h] at hf1 hf2
    exact ⟨by rw [List.append_assoc]; exact hf1,hf2⟩
   have hz2:∀ h:¬ q0.1 = 0,(fs ++ [⟨ent,bl,el,[]⟩]) ++ (fcsF l (f - 1) q0.2).1 = FR.1 ∧ (fcsF l (f - 1) q0.2).2 = FR.2:=fun h=>by
    rw [hs2 h] at hf1 hf2
    exact ⟨by rw [List.append_assoc]; exact hf1,hf2⟩
   cases n with
   | zero =>
    have fv:fcV 0 o = .nils:=rfl
    have g5:∀ y,(Z.set c y)[c]? = some y:=fun y=>List.getElem?_set_self hzl
    simp -dsimp (maxSteps:=4000000) +contextual (disch:=first | omega | decide +kernel) only [↓vsD,vsE,↓Nat.reduceLT,simprocAttr,nx_next,exNextO_codes,vcel,hl,← h0,← h1,← h2,← h3,hz,bytesK,lenK,fv,g5,e1]
    refine ⟨fun h=>⟨(f - 1,fs ++ [⟨ent,bl,el,[⟨q1.1,q2.1,[(0,q3.1)]⟩]⟩],q3.2,1,_,_),by dsimp only; omega,by simp [weaker,Go.PV.look],rfl,b3,by dsimp only; rw [List.length_append]; simp only [List.length_cons,List.length_nil]; omega,hz1 h,hI.push0 (hrow _ _ _ (KpI.set hz _) (.inr hst) (.inr rfl))⟩,
     fun h=>⟨(f - 1,fs ++ [⟨ent,bl,el,[]⟩],q0.2,1,_,_),by dsimp only; omega,by simp [weaker,Go.PV.look],rfl,b0,by dsimp only; rw [List.length_append]; simp only [List.length_cons,List.length_nil]; omega,hz2 h,hI.push0 (hrow Z _ _ ⟨fun _ _ _ h=>h,fun _ _ _ h=>h⟩ (.inl rfl) (.inl ⟨rfl,rfl⟩))⟩⟩
   | succ j =>
    obtain ⟨R,hR,hRl,hRr⟩:=hI.y j rfl
    have hol:=(List.getElem?_eq_some_iff.1 hR).1
    have hZo:Z[o]? = some (.rows 66 4 R j):=by rw [hB.lo o (by omega),hR]
    have fv:fcV (j + 1) o = .msl (o + 3) j:=rfl
    have g5:∀ y,(Z.set c y)[c]? = some y:=fun y=>List.getElem?_set_self hzl
    have g1:∀ x,(Z.set c x)[o]? = some (.rows 66 4 R j):=fun x=>(List.getElem?_set_ne (by omega)).trans hZo
    simp -dsimp (maxSteps:=4000000) +contextual (disch:=first | omega | decide +kernel) only [↓vsD,vsE,↓Nat.reduceLT,simprocAttr,nx_next,exNextO_codes,vcel,hl,← h0,← h1,← h2,← h3,hz,bytesK,lenK,hZo,hRl,g1,fv,g5,e1]
    refine ⟨fun h=>⟨(f - 1,fs ++ [⟨ent,bl,el,[⟨q1.1,q2.1,[(0,q3.1)]⟩]⟩],q3.2,j + 2,o,_),by dsimp only; omega,by simp [weaker,Go.PV.look],rfl,b3,by dsimp only; rw [List.length_append]; simp only [List.length_cons,List.length_nil]; omega,hz1 h,hI.push (hkY.trans (KpI.set hz _)) hR (g1 _) (hrow _ _ _ (KpI.set hz _) (.inr hst) (.inr rfl))⟩,
     fun h=>⟨(f - 1,fs ++ [⟨ent,bl,el,[]⟩],q0.2,j + 2,o,_),by dsimp only; omega,by simp [weaker,Go.PV.look],rfl,b0,by dsimp only; rw [List.length_append]; simp only [List.length_cons,List.length_nil]; omega,hz2 h,hI.push hkY hR hZo (hrow Z _ _ ⟨fun _ _ _ h=>h,fun _ _ _ h=>h⟩ (.inl rfl) (.inl ⟨rfl,rfl⟩))⟩⟩
 ·obtain rfl:f = 0:=by omega
  cases n with
  | zero=>omega
  | succ j =>
   obtain ⟨R,hR,hRl,hRr⟩:=hI.y j rfl
   have fv:fcV (j + 1) o = .msl (o + 3) j:=rfl
   have hfl:fs.length = N:=by omega
   simp -dsimp (maxSteps:=4000000) +contextual (disch:=first | omega | decide +kernel) only [↓vsD,vsE,↓Nat.reduceLT,simprocAttr,nx_next,exNextO_codes,vcel,fv]
   have key:∀ i row,R[i]? = some row → RowD Y (fs.getD i default) row ∧ (encF fs).getD i [] = (fs.getD i default).row:=fun i row hr=>by
    have hi:i < j + 1:=by rw [← hRl]; exact (List.getElem?_eq_some_iff.1 hr).1
    have h1:=hRr i hi
    rw [List.getD_eq_getElem?_getD (l:=R),hr,Option.getD_some] at h1
    exact ⟨h1,encF_getD _ _ (by omega)⟩
   have hE1:fs = FR.1:=by rw [← hf1]; simp [fcsF]
   have hE2:k = FR.2:=by rw [← hf2]; rfl
   refine fin1 (p2:=.agg (Pc.row ⟨(r0.1,r1.1,r2.1),r3.1,fs⟩)) (.agg _ _ rfl (fun i q hi=>?_)) (codes_bel _ _ _) ⟨by rw [hX,hE1],by rw [hX,hE2]⟩
   ·match i,hi with
    | 0,hi=>simp at hi; subst hi; exact .keep _ (bel_int _ _ _)
    | 1,hi=>simp at hi; subst hi; exact .keep _ (bel_int _ _ _)
    | 2,hi=>simp at hi; subst hi; exact .keep _ (bel_int _ _ _)
    | 3,hi=>simp at hi; subst hi; exact .keep _ (bel_int _ _ _)
    | 4,hi =>
     simp at hi; subst hi
     show Frz 1 _ _ (.sl (encF fs))
     refine .msl (o + 3) j _ _ R (encF fs) (by omega) (by simpa using hR) (by rw [encF_length]; omega) (fun i row hr=>?_) (fun i row j2 q hr hj=>?_)
     ·obtain ⟨h1,h2⟩:=key i row hr
      rw [h2,(h1.frz (codes l k) (codes l k) (codes l k)).1]; rfl
     ·obtain ⟨h1,h2⟩:=key i row hr
      rw [h2]
      exact (h1.frz _ _ _).2 j2 q hj
    | i + 5,hi=>simp at hi
theorem dpiece_w (l:List Int) (k0:Nat) (hl:okInts .u8 l) (hll:l.length < 2 ^ 40) (hk0:k0 ≤ l.length) :
  PCall Try.prog 14 [.ptr 0 0 0 0] [codes l k0] (fun q τ=>(∃ p,DrP p ∧ q = .agg p.row) ∧ ∃ k',k' ≤ l.length ∧ τ = [codes l k']):=by
 refine PCall.mono (dpieceX_w l k0 hl hll hk0) ?_
 rintro q τ ⟨rfl,rfl⟩
 obtain ⟨h1,h2⟩:=pieceF_ok hl hk0
 exact ⟨⟨_,h1,rfl⟩,_,h2,rfl⟩
theorem mvl_keep {os:List Nat}:∀ {l:List PV},(∀ p ∈ l,Bel 0 p) → MvL os l l
 | [],_=>MvL.nil _
 | a :: l,h=>MvL.cons (.keep _ (h a (by simp))) (mvl_keep (fun p hp=>h p (by simp [hp])))
theorem codes_onE {F:FuncId} {σ:Store} {K:PV → Store → Prop} (o:Nat) (l:List Int) (k:Nat) (ar:List PV) {Φ:PV → Prop} (h:PCall Try.prog F (.ptr 0 0 0 0 :: ar) [codes l k] (fun p τ=>Φ p ∧ ∃ k',k' ≤ l.length ∧ τ = [codes l k'])) (has:∀ p ∈ ar,Bel 0 p) (hv:∀ p,Φ p → Bel 0 p) (ho:σ[o]? = some (codes l k))
  (hK:∀ p k',Φ p → k' ≤ l.length → K p (σ.set o (codes l k'))):PCall Try.prog F (.ptr o 0 0 0 :: ar) σ K:=by
 refine PCall.use_on [o] h (by simp) rfl (fun j o' hj=>?_) (fun X hX=>?_) (MvL.cons (.ptr 0 o 0 0 0 rfl) (mvl_keep has)) ?_
 ·match j with
  | 0=>simp at hj; rw [← hj]; exact ho
  | j + 1=>simp at hj
 ·rw [List.mem_singleton] at hX
  rw [hX]; exact codes_bel _ _ _
 ·rintro p σ2 ⟨hp,k',hk',rfl⟩
  refine ⟨hv _ hp,rfl,fun X hX=>?_,hK _ _ hp hk'⟩
  rw [List.mem_singleton] at hX
  rw [hX]; exact codes_bel _ _ _
theorem OkS.idn {s:StS} (h:OkS s):(idl s).Nodup:=by
 rw [idl,List.nodup_append]
 refine ⟨?_,idlt_nodup h.c,fun x hx y hy e=>?_⟩
 ·have:(s.ps.map (·.id)).Pairwise idlt:=List.pairwise_map.2 h.p
  exact idlt_nodup this
 ·obtain ⟨p,hp,rfl⟩:=List.mem_map.1 hx
  subst e
  exact h.d p hp hy
theorem Sf.ids {m:StS} {U:List StS} (h:Sf m U) {x:Idn} (hx:x ∈ idl m):∃ s ∈ U,x ∈ idl s:=by
 rw [idl_mem] at hx
 rcases hx with ⟨p,hp,rfl⟩ | hx
 ·obtain ⟨s,hs,h1⟩:=h.src hp
  exact ⟨s,hs,(idl_mem _ _).2 (.inl ⟨p,h1,rfl⟩)⟩
 ·rcases (h.c x).1 hx with ⟨s,hs,h1⟩ | ⟨s,hs,t,ht,p,hp,q,hq,e1,e2,hne⟩
  ·exact ⟨s,hs,(idl_mem _ _).2 (.inr h1)⟩
  ·exact ⟨s,hs,(idl_mem _ _).2 (.inl ⟨p,hp,e1⟩)⟩
theorem Sf.size {m:StS} {U:List StS} (h:Sf m U):sizeS m ≤ (U.flatMap idl).length:=by
 rw [← idl_length]
 refine nodup_le _ _ h.ok.idn (fun x hx=>?_)
 obtain ⟨s,hs,h1⟩:=h.ids hx
 exact List.mem_flatMap.2 ⟨s,hs,h1⟩
theorem ones_len (L:List Pc):((L.map oneS).flatMap idl).length = L.length:=by
 induction L with
 | nil=>rfl
 | cons p L ih=>simp only [List.map_cons,List.flatMap_cons,List.length_append,ih,List.length_cons]; simp [idl,oneS]; omega
theorem Sf.pcs {m:StS} {L:List Pc} (h:Sf m (L.map oneS)):∀ p ∈ m.ps,p ∈ L:=fun p hp=>by
 obtain ⟨s,hs,h1⟩:=h.src hp
 obtain ⟨q,hq,rfl⟩:=List.mem_map.1 hs
 simp [oneS] at h1
 rw [h1]; exact hq
structure FilR (most:Nat) (S:StS) (L:List Pc):Prop where
 l:L.length ≤ most
 s:Sf S (L.map oneS)
 d:∀ p ∈ L,DrP p
theorem FilR.sz {most:Nat} {S:StS} {L:List Pc} (h:FilR most S L):sizeS S ≤ most:=by
 have:=h.s.size
 rw [ones_len] at this
 have:=h.l
 omega
theorem FilR.dr {most:Nat} {S:StS} {L:List Pc} (h:FilR most S L):∀ p ∈ S.ps,DrP p:=fun p hp=>h.d p (h.s.pcs p hp)
theorem FilR.ok {most:Nat} {S:StS} {L:List Pc} (h:FilR most S L) (hm:most ≤ 200):OkSt S:=by
 refine ⟨by have:=h.sz; unfold sizeS at this; omega,h.s.ok,fun i hi=>(h.dr _ (gtD hi)).ok⟩
theorem FilR.fit {most:Nat} {S:StS} {L:List Pc} (h:FilR most S L) (hm:most ≤ 200):FitS S:=by
 have:=h.sz
 unfold sizeS at this
 exact ⟨by omega,by omega,fun p hp=>(h.dr p hp).fit⟩
theorem FilR.sm {most:Nat} {S:StS} {L:List Pc} (h:FilR most S L):∀ p ∈ S.ps,∀ x ∈ p.fs,SmC x:=fun p hp=>(h.dr p hp).sm
def sRow (n:Nat) (S:StS):List PV:=match n with | 0=>[.nils,.nils] | _ + 1=>[.sl (encP S.ps),.sl (encD S.cs)]
def liV (n o:Nat):PV:=match n with | 0=>.nils | j + 1=>.msl (o + 3) j
def stFi (l:List Int) (k:Nat) (S:StS) (n:Nat) (Y:Store):Store:=codes l k :: .rows 26 2 [[.nils,.nils]] 0 :: .rows 26 2 [sRow n S] 0 :: Y
structure FiI (most m:Nat) (S:StS) (L:List Pc) (n o:Nat) (Y:Store):Prop where
 hm:m + L.length ≤ most
 hn:n = L.length
 r:FilR most S L
 y:∀ j,n = j + 1 → Y[o]? = some (.rows 32 5 (encP L) j)
theorem Sf.empty:Sf ⟨[],[]⟩ []:=⟨⟨.nil,.nil,fun p h=>by simp at h⟩,fun x=>⟨fun h=>by simp at h,fun h=>by
 rcases h with ⟨s,hs,_⟩ | ⟨s,hs,_⟩ <;> simp at hs⟩,fun p=>⟨fun h=>by simp at h,fun ⟨⟨s,hs,_⟩,_⟩=>by simp at hs⟩⟩
theorem FilR.push {most:Nat} {S:StS} {L:List Pc} (h:FilR most S L) (hl:L.length + 1 ≤ most) {p:Pc} (hp:DrP p) {m:StS} (hm:Sf m [S,oneS p]):FilR most m (L ++ [p]):=by
 refine ⟨by rw [List.length_append]; exact hl,?_,fun q hq=>?_⟩
 ·rw [List.map_append]
  exact hm.merge h.s (Sf.self (oneS_ok hp.ok).o)
 ·rcases List.mem_append.1 hq with h1 | h1
  ·exact h.d q h1
  ·rw [List.mem_singleton] at h1
   rw [h1]; exact hp
set_option maxHeartbeats 16000000 in
theorem filled_w (l:List Int) (k0:Nat) (most:Nat) (hmo:most ≤ 100) (hl:okInts .u8 l) (hll:l.length < 2 ^ 40) (hk0:k0 ≤ l.length) :
  PCall Try.prog 12 [.ptr 0 0 0 0,.int .i64 most] [codes l k0] (fun q τ=>(∃ S L,FilR most S L ∧ q = .tup [stV S,.sl (encP L)]) ∧ ∃ k',k' ≤ l.length ∧ τ = [codes l k']):=by
 have n0:∀ args σ,nx.f 14 args σ = none:=fun _ _=>rfl
 have n1:∀ args σ,nx.f 18 args σ = none:=fun _ _=>rfl
 have a0:=nxt_lt hl k0 (most + 1) (by omega)
 have b0:=nxt_le hk0 (most + 1)
 obtain ⟨r0,h0⟩:∃ r,r = nxt l k0 (most + 1):=⟨_,rfl⟩
 rw [← h0] at a0 b0
 refine PCall.vfrz [] 33791 32 [.cell 4 26,.tmp 5] nx_ok mix Try.func12 rfl (by decide) rfl rfl (by simp) ?_
 simp -dsimp only [initFr,List.zipIdx_cons,List.zipIdx_nil,List.map_cons,List.map_nil,Nat.zero_add,Nat.reduceAdd]
 simp -dsimp (maxSteps:=4000000) +contextual (disch:=first | omega | decide +kernel) only [↓vsD,vsE,↓Nat.reduceLT,simprocAttr,nx_next,exNextO_codes,vcel,hl,← h0]
 obtain ⟨M,hM⟩:∃ M:Nat,r0.1 = (M:Int):=⟨r0.1.toNat,by omega⟩
 rw [hM]
 refine v_loopS (fun s:Nat × StS × List Pc × Nat × Nat × Nat × Store=>[(0,.ptr 0 0 0 0),(4,.ptr 1 0 0 0),(6,.ptr 2 0 0 0),(7,liV s.2.2.2.1 s.2.2.2.2.1),(8,.int .i64 s.1)]) (fun s=>stFi l s.2.2.2.2.2.1 s.2.1 s.2.2.2.1 s.2.2.2.2.2.2)
  (fun s=>s.2.2.2.2.2.1 ≤ l.length ∧ FiI most s.1 s.2.1 s.2.2.1 s.2.2.2.1 s.2.2.2.2.1 s.2.2.2.2.2.2) (fun s=>s.1) (M,⟨[],[]⟩,[],0,0,r0.2,[]) (by simp [weaker,Go.PV.look,liV]) rfl ⟨b0,by dsimp only [List.length_nil]; omega,rfl,⟨Nat.zero_le _,Sf.empty,fun p h=>by simp at h⟩,fun j h=>by simp at h⟩ ?_
 clear h0 b0
 rintro ⟨m,S,L,n,o,k,Y⟩ ⟨hk,hI⟩
 dsimp only at hk hI ⊢
 have hIn:=hI.hn
 have hIm:=hI.hm
 simp -dsimp only [stFi]
 by_cases hm:0 < m
 ·simp -dsimp (maxSteps:=4000000) +contextual (disch:=first | omega | decide +kernel) only [↓vsD,vsE,↓Nat.reduceLT,simprocAttr,nx_next,exNextO_codes,vcel,hl,n0]
  refine codes_onE 0 l k [] (dpiece_w l k hl hll hk) (by simp) (fun q h=>by obtain ⟨p,_,rfl⟩:=h; exact bel_pc _ _) rfl ?_
  rintro q k2 ⟨p,hp,rfl⟩ hk2
  have hnp:=newsPc p
  rw [Pc.row] at hnp
  have hadd:=radd_on S p (hI.r.fit (by omega)) hp.fit hI.r.sm hp.sm (by have:=hI.r.sz; omega)
  have ha2:∀ σ,PCall Try.prog 18 [.agg (sRow n S),.agg p.row] σ (fun q τ=>(∃ m,Sf m [S,oneS p] ∧ q = .tup [stV m,.int .i64 0]) ∧ τ = σ):=fun σ=>by
   refine PCall.frz [] (args2:=[stV S,.agg p.row]) (PCall.mono (hadd _) ?_) rfl (fun j a b h1 h2=>?_)
   ·rintro q τ ⟨hq,rfl⟩
    rcases hq with ⟨h,_⟩ | ⟨_,h,_⟩ | ⟨_,_,m,hsf,rfl⟩
    ·exact absurd (hI.r.ok (by omega)) h
    ·exact absurd hp.ok h
    ·exact ⟨⟨m,hsf,rfl⟩,rfl⟩
   ·match j,h1,h2 with
    | 0,h1,h2 =>
     simp at h1 h2
     subst h1 h2
     cases n with
     | zero =>
      have hz:L = []:=List.eq_nil_of_length_eq_zero hIn.symm
      have hS:S = ⟨[],[]⟩:=by
       have h1:=hI.r.s
       rw [hz] at h1
       exact h1.uniq Sf.empty
      rw [hS]
      refine .agg _ _ rfl (fun i c hc=>?_)
      match i,hc with
      | 0,hc=>simp [sRow] at hc; subst hc; exact .nils
      | 1,hc=>simp [sRow] at hc; subst hc; exact .nils
      | i + 2,hc=>simp [sRow] at hc
     | succ n=>exact .keep _
    | 1,h1,h2=>simp at h1 h2; subst h1 h2; exact .keep _
    | j + 2,h1,h2=>simp at h1
  rw [Pc.row] at ha2
  simp -dsimp only [Pc.row]
  have e1:((m:Int) - 1) = ((m - 1:Nat):Int):=by omega
  cases n with
  | zero =>
   have hz:L = []:=List.eq_nil_of_length_eq_zero hIn.symm
   have hv:liV 0 o = .nils:=rfl
   have hs:sRow 0 S = [.nils,.nils]:=rfl
   rw [hs] at ha2
   simp -dsimp (maxSteps:=4000000) +contextual (disch:=first | omega | decide +kernel) only [↓vsD,vsE,↓Nat.reduceLT,simprocAttr,nx_next,exNextO_codes,vcel,hl,n1,hv,hs,hnp,bytesK,lenK,vgap,List.append_assoc,List.length_append]
   refine PCall.mono (ha2 _) ?_
   rintro q τ ⟨⟨S2,hS2,rfl⟩,rfl⟩
   unfold stV
   simp -dsimp (maxSteps:=4000000) +contextual (disch:=first | omega | decide +kernel) only [↓vsD,vsE,↓Nat.reduceLT,simprocAttr,nx_next,exNextO_codes,vcel,e1,vgap,List.append_assoc,List.length_append]
   refine ⟨(m - 1,S2,L ++ [p],1,Y.length + 1,k2,_),by dsimp only; omega,by simp [weaker,Go.PV.look,liV],rfl,hk2,?_⟩
   exact ⟨by dsimp only; rw [List.length_append]; simp only [List.length_cons,List.length_nil]; omega,by dsimp only; rw [hz]; rfl,hI.r.push (by omega) hp hS2,fun j hj=>by
    obtain rfl:j = 0:=by dsimp only at hj; omega
    dsimp only; rw [hz]; simp [encP,Pc.row]⟩
  | succ j =>
   have hy:=hI.y j rfl
   have hyl:=(List.getElem?_eq_some_iff.1 hy).1
   have g1:∀ X,(Y ++ X)[o]? = _:=fun X=>yap hy X
   have g2:∀ X y,(Y ++ X).set o y = Y.set o y ++ X:=fun X y=>by rw [List.set_append_left _ _ hyl]
   have g3:∀ x X,(Y.set o x ++ X)[Y.length]? = X[0]?:=fun x X=>by rw [List.getElem?_append_right (by rw [List.length_set]; exact Nat.le_refl _),List.length_set,Nat.sub_self]
   have hlk:(encP L).length = j + 1:=by rw [encP_length,← hIn]
   have hv:liV (j + 1) o = .msl (o + 3) j:=rfl
   have hs:sRow (j + 1) S = [.sl (encP S.ps),.sl (encD S.cs)]:=rfl
   rw [hs] at ha2
   simp -dsimp (maxSteps:=4000000) +contextual (disch:=first | omega | decide +kernel) only [↓vsD,vsE,↓Nat.reduceLT,simprocAttr,nx_next,exNextO_codes,vcel,hl,n1,hv,hs,hnp,bytesK,lenK,vgap,List.append_assoc,List.length_append,g1,g2,g3,hlk]
   refine PCall.mono (ha2 _) ?_
   rintro q τ ⟨⟨S2,hS2,rfl⟩,rfl⟩
   unfold stV
   simp -dsimp (maxSteps:=4000000) +contextual (disch:=first | omega | decide +kernel) only [↓vsD,vsE,↓Nat.reduceLT,simprocAttr,nx_next,exNextO_codes,vcel,e1,vgap,List.append_assoc,List.length_append]
   refine ⟨(m - 1,S2,L ++ [p],j + 2,o,k2,_),by dsimp only; omega,by simp [weaker,Go.PV.look,liV],rfl,hk2,?_⟩
   exact ⟨by dsimp only; rw [List.length_append]; simp only [List.length_cons,List.length_nil]; omega,by dsimp only; rw [List.length_append,← hIn]; rfl,hI.r.push (by omega) hp hS2,fun j2 hj=>by
    obtain rfl:j2 = j + 1:=by dsimp only at hj; omega
    dsimp only
    refine yap ?_ _
    rw [List.getElem?_set_self hyl]; simp [encP,Pc.row]⟩
 ·obtain rfl:m = 0:=by omega
  have hfin:∀ Q A B C,Frz 1 (codes l k :: Q) A (.sl (encP S.ps)) → Frz 1 (codes l k :: Q) B (.sl (encD S.cs)) → Frz 1 (codes l k :: Q) C (.sl (encP L)) → Go.PV.Fin [codes l k0] (fun q τ=>(∃ S L,FilR most S L ∧ q = .tup [stV S,.sl (encP L)]) ∧ ∃ k',k' ≤ l.length ∧ τ = [codes l k']) (.tup [.agg [A,B],C]) (codes l k :: Q):=fun Q A B C hA hB hC =>
   fin1 (p2:=.tup [stV S,.sl (encP L)]) (.tup _ _ rfl (fun i q hi=>by
    match i,hi with
    | 0,hi =>
     simp at hi; subst hi
     refine .agg _ _ rfl (fun i q hi=>?_)
     match i,hi with
     | 0,hi=>simp at hi; subst hi; exact hA
     | 1,hi=>simp at hi; subst hi; exact hB
     | i + 2,hi=>simp at hi
    | 1,hi=>simp at hi; subst hi; exact hC
    | i + 2,hi=>simp at hi)) (codes_bel _ _ _) ⟨⟨S,L,hI.r,rfl⟩,k,hk,rfl⟩
  cases n with
  | zero =>
   have hz:L = []:=List.eq_nil_of_length_eq_zero hIn.symm
   have hS:S = ⟨[],[]⟩:=by
    have h1:=hI.r.s
    rw [hz] at h1
    exact h1.uniq Sf.empty
   have hv:liV 0 o = .nils:=rfl
   have hs:sRow 0 S = [.nils,.nils]:=rfl
   simp -dsimp (maxSteps:=4000000) +contextual (disch:=first | omega | decide +kernel) only [↓vsD,vsE,↓Nat.reduceLT,simprocAttr,nx_next,exNextO_codes,vcel,hs,hv]
   exact hfin _ _ _ _ (by rw [hS]; exact .nils) (by rw [hS]; exact .nils) (by rw [hz]; exact .nils)
  | succ j =>
   have hy:=hI.y j rfl
   have hv:liV (j + 1) o = .msl (o + 3) j:=rfl
   have hs:sRow (j + 1) S = [.sl (encP S.ps),.sl (encD S.cs)]:=rfl
   simp -dsimp (maxSteps:=4000000) +contextual (disch:=first | omega | decide +kernel) only [↓vsD,vsE,↓Nat.reduceLT,simprocAttr,nx_next,exNextO_codes,vcel,hs,hv]
   exact hfin _ _ _ _ (.keep _ (bel_pcs _ _)) (.keep _ (bel_ids _ _)) (Frz.msl0 (elem:=32) (sz:=5) (by omega) (by simpa using hy) (encP_bel _ _))
theorem filled_on (l:List Int) (k0:Nat) (most:Nat) (hmo:most ≤ 100) (hl:okInts .u8 l) (hll:l.length < 2 ^ 40) (hk0:k0 ≤ l.length) {σ:Store} {K:PV → Store → Prop} (o:Nat) (ho:σ[o]? = some (codes l k0))
  (hK:∀ S L k',FilR most S L → k' ≤ l.length → K (.tup [stV S,.sl (encP L)]) (σ.set o (codes l k'))) :
  PCall Try.prog 12 [.ptr o 0 0 0,.int .i64 most] σ K :=
 codes_onE o l k0 [.int .i64 most] (filled_w l k0 most hmo hl hll hk0) (fun p hp=>by simp at hp; rw [hp]; exact bel_int _ _ _) (fun q h=>by obtain ⟨S,L,_,rfl⟩:=h; exact bel_tup2 (bel_st _ _) (bel_pcs _ _)) ho
  (fun p k' h hk=>by obtain ⟨S,L,hF,rfl⟩:=h; exact hK S L k' hF hk)
theorem count_sum:∀ (r L:List Idn),r.Nodup → (r.map (fun x=>L.count x)).sum ≤ L.length
 | [],L,_=>Nat.zero_le _
 | x :: r,L,hn=>by
  have hn2:=List.nodup_cons.1 hn
  have ih:=count_sum r (L.filter (fun y=>decide (y ≠ x))) hn2.2
  have e:r.map (fun y=>(L.filter (fun y=>decide (y ≠ x))).count y) = r.map (fun y=>L.count y):=by
   refine List.map_congr_left (fun y hy=>List.count_filter ?_)
   have:y ≠ x:=fun h=>hn2.1 (h ▸ hy)
   simpa using this
  rw [e] at ih
  have h2:=List.length_eq_countP_add_countP (fun y:Idn=>y == x) (l:=L)
  have h3:L.countP (fun y=>decide ¬(y == x) = true) = (L.filter (fun y=>decide (y ≠ x))).length:=by
   rw [List.countP_eq_length_filter]
   congr 1
   refine List.filter_congr (fun y _=>?_)
   simp
  rw [List.map_cons,List.sum_cons,List.count]
  omega
theorem two_le {L:List Pc} {p q:Pc} (hp:p ∈ L) (hq:q ∈ L) (hne:p ≠ q) (he:p.id = q.id):2 ≤ (L.map (·.id)).count p.id:=by
 have:DecidableEq Pc:=fun a b=>Classical.propDecidable (a = b)
 have h1:(L.map (·.id)).count p.id = (L.filter (fun r=>r.id == p.id)).length:=by
  rw [List.count,List.countP_map,List.countP_eq_length_filter]; rfl
 rw [h1]
 exact nodup_le [p,q] _ (by simp [hne]) (fun r hr=>by
  rw [List.mem_filter]
  simp only [List.mem_cons,List.not_mem_nil,or_false] at hr
  rcases hr with rfl | rfl
  ·exact ⟨hp,by simp⟩
  ·exact ⟨hq,by simp [he]⟩)
theorem sum_ge:∀ (r:List Idn) (f:Idn → Nat) (c:Nat),(∀ x ∈ r,c ≤ f x) → c * r.length ≤ (r.map f).sum
 | [],_,_,_=>by simp
 | x :: r,f,c,h=>by
  have ih:=sum_ge r f c (fun y hy=>h y (by simp [hy]))
  have h1:=h x (by simp)
  rw [List.map_cons,List.sum_cons,List.length_cons,Nat.mul_add]
  omega
theorem Sf.two {m:StS} {L:List Pc} (h:Sf m (L.map oneS)):2 * m.cs.length + m.ps.length ≤ L.length:=by
 have hn:=h.ok.idn
 have hs:=count_sum (idl m) (L.map (·.id)) hn
 rw [idl,List.map_append,List.sum_append,List.length_map] at hs
 have h1:=sum_ge m.cs (fun x=>(L.map (·.id)).count x) 2 (fun x hx=>by
  rcases (h.c x).1 hx with ⟨s,hs,h1⟩ | ⟨s,hs,t,ht,p,hp,q,hq,e1,e2,hne⟩
  ·obtain ⟨r,_,rfl⟩:=List.mem_map.1 hs
   simp [oneS] at h1
  ·obtain ⟨r,hr,rfl⟩:=List.mem_map.1 hs
   obtain ⟨r2,hr2,rfl⟩:=List.mem_map.1 ht
   simp [oneS] at hp hq
   subst hp hq
   rw [← e1]
   exact two_le hr hr2 hne (e1.trans e2.symm))
 have h2:=sum_ge (m.ps.map (·.id)) (fun x=>(L.map (·.id)).count x) 1 (fun x hx=>by
  obtain ⟨p,hp,rfl⟩:=List.mem_map.1 hx
  exact List.count_pos_iff.2 (List.mem_map.2 ⟨p,h.pcs p hp,rfl⟩))
 rw [List.length_map] at h2
 omega
theorem FilR.merge {N M:Nat} {S T m:StS} {L K:List Pc} (h:FilR N S L) (h2:FilR M T K) (hm:Sf m [S,T]):FilR (N + M) m (L ++ K):=by
 refine ⟨by rw [List.length_append]; have:=h.l; have:=h2.l; omega,?_,fun q hq=>?_⟩
 ·rw [List.map_append]
  exact hm.merge h.s h2.s
 ·rcases List.mem_append.1 hq with h1 | h1
  ·exact h.d q h1
  ·exact h2.d q h1
theorem FilR.le {N M:Nat} {S:StS} {L:List Pc} (h:FilR N S L) (hn:N ≤ M):FilR M S L:=⟨Nat.le_trans h.l hn,h.s,h.d⟩
theorem fmerge_on {N M:Nat} {S T:StS} {L K:List Pc} (h:FilR N S L) (h2:FilR M T K) (hn:N + M ≤ 20) (σ:Store) :
  PCall Try.prog 22 [stV S,stV T] σ (fun q τ=>(∃ m,FilR (N + M) m (L ++ K) ∧ q = .tup [stV m,.int .i64 0]) ∧ τ = σ):=by
 refine PCall.mono (merge_on 12 unionOk12 S T (h.fit (by omega)) (h2.fit (by omega)) h.sm h2.sm ?_ σ) ?_
 ·have h3:=h.s.two
  have h4:=h2.s.two
  have h5:=h.l
  have h6:=h2.l
  omega
 ·rintro q τ ⟨hq,rfl⟩
  rcases hq with ⟨hno,_⟩ | ⟨_,_,m,hm,rfl⟩
  ·exact absurd ⟨h.ok (by omega),h2.ok (by omega)⟩ hno
  ·have hmr:=h.merge h2 hm
   rw [leastS_small m (by have:=hmr.sz; omega)]
   exact ⟨⟨m,hmr,rfl⟩,rfl⟩
theorem fadd_on {N:Nat} {S:StS} {L:List Pc} (h:FilR N S L) (hn:N ≤ 19) (hl:L.length + 1 ≤ N) {p:Pc} (hp:DrP p) (σ:Store) :
  PCall Try.prog 17 [stV S,.agg p.row] σ (fun q τ=>(∃ m,FilR N m (L ++ [p]) ∧ q = .tup [stV m,.int .i64 0]) ∧ τ = σ):=by
 refine PCall.mono (add_on S p (h.fit (by omega)) hp.fit h.sm hp.sm 12 unionOk12 ?_ σ) ?_
 ·have h3:=h.s.two
  have h5:=h.l
  omega
 ·rintro q τ ⟨hq,rfl⟩
  rcases hq with ⟨hno,_⟩ | ⟨_,hno,_⟩ | ⟨_,_,m,hm,rfl⟩
  ·exact absurd (h.ok (by omega)) hno
  ·exact absurd hp.ok hno
  ·have hmr:=h.push hl hp hm
   rw [leastS_small m (by have:=hmr.sz; omega)]
   exact ⟨⟨m,hmr,rfl⟩,rfl⟩
end Go.Proofs.Ythjoehaglonjaaa
