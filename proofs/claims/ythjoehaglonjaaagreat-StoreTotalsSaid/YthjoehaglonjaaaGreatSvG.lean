import Derived.Test.YthjoehaglonjaaaGreatSvE
import Derived.Test.YthjoehaglonjaaaGreatSvF
set_option maxRecDepth 8000
set_option linter.unusedSimpArgs false
set_option linter.unusedVariables false
namespace Go.Proofs.YthjoehaglonjaaaGreat
open Go.PV
set_option maxRecDepth 8000 in
set_option maxHeartbeats 8000000 in
theorem shape_w (a b:List FC) (ha:a.length ≤ 1000) (hb:b.length ≤ 1000) (h1:∀ x ∈ a,x.blocks.length ≤ 1000 ∧ x.edges.length = x.blocks.length) (h2:∀ x ∈ b,x.blocks.length ≤ 1000 ∧ x.edges.length = x.blocks.length) :
  PCall Tryz.prog 32 [cntV a,cntV b] [] (fun q _=>q = .bool (decide (shp a = shp b))):=by
 unfold cntV
 refine PCall.vfrz [] 2251799813820479 52 [.tmp 4] (noE_ok _) mix Tryz.func32 rfl (by decide) rfl rfl (by simp) ?_
 simp -dsimp only [initFr,List.zipIdx_cons,List.zipIdx_nil,List.map_cons,List.map_nil,Nat.zero_add,Nat.reduceAdd]
 by_cases hl:a.length = b.length
 ·simp -dsimp (maxSteps:=4000000) +contextual (disch:=first | omega | decide +kernel) only [↓vsD,vsE,↓Nat.reduceLT,simprocAttr,vcel,vgap,encF_length,hl]
  refine v_loopS (fun k:Nat=>[(2,.ptr 0 0 0 0),(3,.ptr 1 0 0 0),(5,.int .i64 k)]) (fun _=>[.rows 36 1 [[.sl (encF a)]] 0,.rows 36 1 [[.sl (encF b)]] 0]) (fun k=>k ≤ b.length ∧ ∀ j,j < k → (shp a).getD j 0 = (shp b).getD j 0) (fun k=>b.length - k) 0 (by simp [weaker,Go.PV.look]) rfl ⟨Nat.zero_le _,fun j h=>absurd h (Nat.not_lt_zero _)⟩ ?_
  rintro k ⟨hk,hj⟩
  by_cases hkb:k < b.length
  ·have q1:=h1 _ (gtD (d:=default) (show k < a.length by omega))
   have q2:=h2 _ (gtD (d:=default) hkb)
   have e1:=shp_get a k (by omega)
   have e2:=shp_get b k hkb
   have r1:=encF_getD a k (by omega)
   have r2:=encF_getD b k hkb
   obtain ⟨x,hx⟩:∃ x,x = a.getD k default:=⟨_,rfl⟩
   obtain ⟨y,hy⟩:∃ y,y = b.getD k default:=⟨_,rfl⟩
   rw [← hx] at q1 e1 r1
   rw [← hy] at q2 e2 r2
   by_cases hxy:x.blocks.length = y.blocks.length
   ·have hxy2:x.edges.length = y.edges.length:=by omega
    simp -dsimp (maxSteps:=4000000) +contextual (disch:=first | omega | decide +kernel) only [↓vsD,vsE,↓Nat.reduceLT,simprocAttr,vcel,vgap,encF_length,hl,r1,r2,ints_len,encT_length,hxy,hxy2]
    exact ⟨k + 1,(by (try dsimp only); omega),(by simp [weaker,Go.PV.look]),rfl,hkb,nextJ hj (by rw [e1,e2]; exact hxy)⟩
   ·simp -dsimp (maxSteps:=4000000) +contextual (disch:=first | omega | decide +kernel) only [↓vsD,vsE,↓Nat.reduceLT,simprocAttr,vcel,vgap,encF_length,hl,r1,r2,ints_len,encT_length]
    refine fin0 (.keep _ (bel_bool _ _)) ?_
    rw [decide_eq_false (fun e=>hxy (by rw [← e1,← e2,e]))]
  ·simp -dsimp (maxSteps:=4000000) +contextual (disch:=first | omega | decide +kernel) only [↓vsD,vsE,↓Nat.reduceLT,simprocAttr,vcel,vgap,encF_length,hl]
   refine fin0 (.keep _ (bel_bool _ _)) ?_
   rw [decide_eq_true (listExt (d:=0) (by rw [shp_len,shp_len]; exact hl) (fun j h=>hj j (by rw [shp_len] at h; omega)))]
 ·simp -dsimp (maxSteps:=4000000) +contextual (disch:=first | omega | decide +kernel) only [↓vsD,vsE,↓Nat.reduceLT,simprocAttr,vcel,vgap,encF_length,hl]
  refine fin0 (.keep _ (bel_bool _ _)) ?_
  rw [decide_eq_false (fun e=>hl (by rw [← shp_len,← shp_len,e]))]
end Go.Proofs.YthjoehaglonjaaaGreat
namespace Go.Proofs.YthjoehaglonjaaaGreat
open Go.PV
def sumR (a b:Int):Int:=if a < 0 then b else if b < 0 then a else min (a + b) 1099511627776
inductive PartL {α:Type}:List α → List α → List α → Prop where
 | nil:PartL [] [] []
 | l {L A B:List α} (p:α):PartL L A B → PartL (L ++ [p]) (A ++ [p]) B
 | r {L A B:List α} (p:α):PartL L A B → PartL (L ++ [p]) A (B ++ [p])
theorem PartL.len {α:Type} {L A B:List α} (h:PartL L A B):L.length = A.length + B.length:=by
 induction h with
 | nil=>rfl
 | l p _ ih=>simp; omega
 | r p _ ih=>simp; omega
theorem PartL.map {α β:Type} (f:α → β) {L A B:List α} (h:PartL L A B):PartL (L.map f) (A.map f) (B.map f):=by
 induction h with
 | nil=>exact .nil
 | l p _ ih=>rw [List.map_append,List.map_append]; exact .l _ ih
 | r p _ ih=>rw [List.map_append,List.map_append]; exact .r _ ih
theorem PartL.ofR {L A B:List Pc} (h:PartL L A B) (r:Int):PartL (ofR L r) (ofR A r) (ofR B r):=by
 have e:∀ (L:List Pc) (p:Pc),Go.Proofs.YthjoehaglonjaaaGreat.ofR (L ++ [p]) r = if p.id.1 = r then Go.Proofs.YthjoehaglonjaaaGreat.ofR L r ++ [p.fs] else Go.Proofs.YthjoehaglonjaaaGreat.ofR L r:=fun L p=>by
  unfold Go.Proofs.YthjoehaglonjaaaGreat.ofR
  rw [List.filter_append]
  split
  ·rename_i h; simp [h]
  ·rename_i h; simp [h]
 induction h with
 | nil=>exact .nil
 | l p _ ih =>
  rw [e,e]
  split
  ·exact .l _ ih
  ·exact ih
 | r p _ ih =>
  rw [e,e]
  split
  ·exact .r _ ih
  ·exact ih
theorem fold_blk {n:Nat}:∀ (l:List FC) (z:FC),z.blocks.length = n → (∀ x ∈ l,x.blocks.length = n) → (l.foldl sumF z).blocks.length = n ∧ ∀ j,j < n → (l.foldl sumF z).blocks.getD j 0 = (l.map (·.blocks.getD j 0)).foldl plusI (z.blocks.getD j 0)
 | [],z,h,_=>⟨h,fun j _=>rfl⟩
 | x :: l,z,h,hl=>by
  have hx:=hl x (by simp)
  have h1:(sumF z x).blocks.length = n:=by simp [sumF]; omega
  obtain ⟨h2,h3⟩:=fold_blk l (sumF z x) h1 (fun y hy=>hl y (by simp [hy]))
  refine ⟨h2,fun j hj=>?_⟩
  rw [List.foldl_cons,h3 j hj,List.map_cons,List.foldl_cons]
  congr 1
  show (List.zipWith plusI z.blocks x.blocks).getD j 0 = _
  exact zip_getD plusI _ _ 0 0 0 j (by omega) (by omega)
def OneSh (L:List (List FC)) (w:List Nat):Prop:=∀ l ∈ L,shp l = w
theorem oneSh_of {L:List (List FC)} (h:notAll L ≠ true):OneSh L (shp (L.getD 0 [])):=fun l hl=>by
 unfold notAll at h
 rw [ne_eq,List.any_eq_true] at h
 by_cases h2:shp (L.getD 0 []) = shp l
 ·exact h2.symm
 ·exact absurd ⟨l,hl,by rw [decide_eq_false h2]; rfl⟩ h
theorem notAll_of {L:List (List FC)} {w:List Nat} (h:OneSh L w) (h0:L ≠ []):notAll L = false:=by
 unfold notAll
 rw [List.any_eq_false]
 intro l hl
 have h1:=h l hl
 have h2:=h _ (gtD (d:=[]) (List.length_pos_iff.2 h0))
 rw [h1,h2]
 simp
theorem totF_len {L:List (List FC)} {w:List Nat} (h:OneSh L w) (h0:L ≠ []):(totF L).length = w.length:=by
 have h2:=h _ (gtD (d:=[]) (List.length_pos_iff.2 h0))
 unfold totF
 simp
 rw [← shp_len,← h2]; rfl
theorem totF_get {L:List (List FC)} {w:List Nat} (h:OneSh L w) (h0:L ≠ []) {f:Nat} (hf:f < w.length):(totF L).getD f default = totC L f:=by
 have h2:=h _ (gtD (d:=[]) (List.length_pos_iff.2 h0))
 have h3:f < (L.getD 0 []).length:=by rw [← shp_len,h2]; exact hf
 unfold totF
 simp only [List.getD_eq_getElem?_getD] at h3 ⊢
 simp [h3]
theorem totC_eq {L:List (List FC)} {w:List Nat} (h:OneSh L w) (h0:L ≠ []) {f:Nat} (hf:f < w.length):totC L f = (L.map fun l=>l.getD f default).foldl sumF (zeroF (w.getD f 0)):=by
 have h2:=h _ (gtD (d:=[]) (List.length_pos_iff.2 h0))
 have h3:f < (L.getD 0 []).length:=by rw [← shp_len,h2]; exact hf
 unfold totC
 rw [← shp_get _ _ h3,h2]
structure KnP (S a b:StS) (r:Int):Prop where
 no:(totR S r).2.2 = 34 → (totR a r).2.2 = 34 ∧ (totR b r).2.2 = 34
 n:(totR S r).2.2 = 0 → (totR S r).2.1 = (totR a r).2.1 + (totR b r).2.1
 sm:((totR a r).2.1 ≤ 100 ∧ 0 ≤ (totR a r).2.1) ∧ (totR b r).2.1 ≤ 100 ∧ 0 ≤ (totR b r).2.1
 f:(totR S r).2.2 = 0 → (totR a r).2.2 = 0 → (totR b r).2.2 = 0 → (totR a r).1.length = (totR S r).1.length ∧ (totR b r).1.length = (totR S r).1.length ∧ (totR S r).1.length ≤ 1000 ∧
  ∀ i,i < (totR S r).1.length → (((totR S r).1.getD i default).ent = sumR ((totR a r).1.getD i default).ent ((totR b r).1.getD i default).ent ∧ cntd ((totR a r).1.getD i default).ent ∧ cntd ((totR b r).1.getD i default).ent) ∧
   ((totR a r).1.getD i default).blocks.length = ((totR S r).1.getD i default).blocks.length ∧ ((totR b r).1.getD i default).blocks.length = ((totR S r).1.getD i default).blocks.length ∧ ((totR S r).1.getD i default).blocks.length ≤ 1000 ∧
   ∀ j,j < ((totR S r).1.getD i default).blocks.length → ((totR S r).1.getD i default).blocks.getD j 0 = sumR (((totR a r).1.getD i default).blocks.getD j 0) (((totR b r).1.getD i default).blocks.getD j 0) ∧ cntd (((totR a r).1.getD i default).blocks.getD j 0) ∧ cntd (((totR b r).1.getD i default).blocks.getD j 0)
end Go.Proofs.YthjoehaglonjaaaGreat
