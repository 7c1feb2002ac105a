import Derived.Test.YthjoehaglonjaaaGreatSvB
import Derived.Test.YthjoehaglonjaaaGreatSvJ
set_option maxRecDepth 8000
set_option linter.unusedSimpArgs false
set_option linter.unusedVariables false
namespace Go.Proofs.YthjoehaglonjaaaGreat
open Go.PV
def One1 (l:List Site):Prop:=∀ s ∈ l,∃ c:Int,s.tg = [(0,c)] ∧ 0 ≤ c ∧ c ≤ 1099511627776
def sV (l:List Site):PV:=if l.isEmpty then .nils else .sl (encS l)
theorem insT_one (c0 c:Int):insT [(0,c0)] (0,c) = [(0,plusI c0 c)]:=by
 simp [insT,posL]
theorem insT_nil1 (c:Int):insT [] (0,c) = [(0,c)]:=by simp [insT,posL]
theorem one_get {l:List Site} (h:One1 l) {k:Nat} (hk:k < l.length):∃ c:Int,(l.getD k default).tg = [(0,c)] ∧ 0 ≤ c ∧ c ≤ 1099511627776:=h _ (gtD hk)
theorem base_tg {l:List Site} (h:One1 l) (b i:Int):(¬ sHas l b i ∧ ((sBase l b i).getD (sPos l b i) default).tg = []) ∨ (sHas l b i ∧ ∃ c:Int,((sBase l b i).getD (sPos l b i) default).tg = [(0,c)] ∧ 0 ≤ c ∧ c ≤ 1099511627776):=by
 by_cases hh:sHas l b i
 ·refine .inr ⟨hh,?_⟩
  unfold sBase
  rw [if_pos hh]
  exact one_get h hh.1
 ·refine .inl ⟨hh,?_⟩
  unfold sBase
  rw [if_neg hh,List.getD_eq_getElem?_getD,List.getElem?_append_right (by simp; omega)]
  simp [Nat.min_eq_left (sPos_le l b i)]
theorem ins_getD {α:Type} (l:List α) (pos:Nat) (x d:α) (hp:pos ≤ l.length) (k:Nat):(l.take pos ++ x :: l.drop pos).getD k d = if k < pos then l.getD k d else if k = pos then x else l.getD (k - 1) d:=by
 have hl:(l.take pos).length = pos:=by simp; omega
 rw [List.getD_eq_getElem?_getD]
 split
 ·rename_i h
  rw [List.getElem?_append_left (by omega),List.getElem?_take,if_pos h,← List.getD_eq_getElem?_getD]
 ·rw [List.getElem?_append_right (by omega),hl]
  split
  ·rename_i h; subst h; simp
  ·obtain ⟨j,rfl⟩:∃ j,k = pos + 1 + j:=⟨k - pos - 1,by omega⟩
   rw [show pos + 1 + j - pos = j + 1 by omega,List.getElem?_cons_succ,List.getElem?_drop,← List.getD_eq_getElem?_getD]
   congr 1; omega
theorem base_get (l:List Site) (b i:Int) {k:Nat} (hk:k < (sBase l b i).length) (hne:k ≠ sPos l b i):(sBase l b i).getD k default ∈ l:=by
 have hp:=sPos_le l b i
 unfold sBase at hk ⊢
 split
 ·rename_i h
  rw [if_pos h] at hk
  exact gtD hk
 ·rename_i h
  rw [if_neg h] at hk
  rw [ins_getD _ _ _ _ hp,if_neg hne]
  simp at hk
  split
  ·exact gtD (by omega)
  ·exact gtD (by omega)
theorem addSi_one {l:List Site} (h:One1 l) {s:Site} {c:Int} (hs:s.tg = [(0,c)]) (hc:0 ≤ c ∧ c ≤ 1099511627776):One1 (addSi l s):=by
 intro x hx
 unfold addSi at hx
 rw [if_neg (by rw [hs]; simp),hs] at hx
 obtain ⟨k,hk,rfl⟩:=List.mem_iff_getElem.1 hx
 rw [List.length_set] at hk
 rw [List.getElem_set]
 split
 ·dsimp only [List.foldl_cons,List.foldl_nil]
  rcases base_tg h s.blk s.ins with ⟨_,e⟩ | ⟨_,c0,e,h1,h2⟩
  ·rw [e,insT_nil1]; exact ⟨c,rfl,hc⟩
  ·rw [e,insT_one,plusI_ok h1 hc.1]
   exact ⟨_,rfl,by omega,by omega⟩
 ·rename_i hne
  have:=base_get l s.blk s.ins hk (fun e=>hne e.symm)
  rw [List.getD_eq_getElem?_getD,List.getElem?_eq_getElem hk] at this
  exact h _ this
theorem addSi_ne {l:List Site} {s:Site} {c:Int} (hs:s.tg = [(0,c)]):addSi l s ≠ []:=by
 unfold addSi
 rw [if_neg (by rw [hs]; simp)]
 intro e
 have:=congrArg List.length e
 rw [List.length_set] at this
 have h2:=sBase_lt l s.blk s.ins
 simp at this
 rw [this] at h2
 simp at h2
theorem addSi_len (l:List Site) (s:Site):(addSi l s).length ≤ l.length + 1:=by
 have hp:=sPos_le l s.blk s.ins
 unfold addSi
 split
 ·omega
 ·rw [List.length_set]
  unfold sBase
  split
  ·omega
  ·simp; omega
def TgR (Y:Store) (o:Nat) (tg:List (Int × Int)) (T:PV):Prop:=(T = .nils ∧ tg = []) ∨ tg ≠ [] ∧ (T = .sl (encT tg) ∨ ∃ t v,T = .msl t v ∧ t ≠ o ∧ Y[t]? = some (.rows 79 2 (encT tg) v))
def RowsR (Y:Store) (o:Nat) (l:List Site) (Rw:List (List PV)):Prop:=Rw.length = l.length ∧ ∀ i,i < l.length → ∃ T,Rw.getD i [] = [.int .i64 (l.getD i default).blk,.int .i64 (l.getD i default).ins,T] ∧ TgR Y o (l.getD i default).tg T
theorem TgR.cell {Y:Store} {o:Nat} {tg:List (Int × Int)} {T:PV} (h:TgR Y o tg T):T.cell = true:=by
 rcases h with ⟨rfl,_⟩ | ⟨_,rfl | ⟨t,v,rfl,_,_⟩⟩ <;> rfl
theorem TgR.keep {Y Z:Store} {o:Nat} {tg:List (Int × Int)} {T:PV} (h:TgR Y o tg T) (hz:∀ j,j ≠ o → j < Y.length → Z[j]? = Y[j]?):TgR Z o tg T:=by
 rcases h with ⟨rfl,rfl⟩ | ⟨h0,rfl | ⟨t,v,rfl,h1,h2⟩⟩
 ·exact .inl ⟨rfl,rfl⟩
 ·exact .inr ⟨h0,.inl rfl⟩
 ·exact .inr ⟨h0,.inr <| ⟨t,v,rfl,h1,by rw [hz t h1 (List.getElem?_eq_some_iff.1 h2).1,h2]⟩⟩
theorem TgR.frz {Y:Store} {o:Nat} {tg:List (Int × Int)} {T:PV} (h:TgR Y o tg T):Frz 0 Y T (.sl (encT tg)):=by
 rcases h with ⟨rfl,rfl⟩ | ⟨h0,rfl | ⟨t,v,rfl,h1,h2⟩⟩
 ·exact .nils
 ·exact .keep _ (bel_pairs _ _)
 ·exact Frz.msl0 (Nat.zero_le _) h2 (encT_bel _ _)
theorem RowsR.keep {Y Z:Store} {o:Nat} {l:List Site} {Rw:List (List PV)} (h:RowsR Y o l Rw) (hz:∀ j,j ≠ o → j < Y.length → Z[j]? = Y[j]?):RowsR Z o l Rw :=
 ⟨h.1,fun i hi=>by obtain ⟨T,h1,h2⟩:=h.2 i hi; exact ⟨T,h1,h2.keep hz⟩⟩
theorem RowsR.frz {Y:Store} {o v:Nat} {l:List Site} {Rw:List (List PV)} (h:RowsR Y o l Rw) (ho:Y[o]? = some (.rows 82 3 Rw v)):Frz 0 Y (.msl o v) (.sl (encS l)):=by
 have key:∀ i row,Rw[i]? = some row → i < l.length ∧ ∃ T,row = [.int .i64 (l.getD i default).blk,.int .i64 (l.getD i default).ins,T] ∧ TgR Y o (l.getD i default).tg T ∧ (encS l).getD i [] = [.int .i64 (l.getD i default).blk,.int .i64 (l.getD i default).ins,.sl (encT (l.getD i default).tg)]:=fun i row hr=>by
  have hi:i < l.length:=by rw [← h.1]; exact (List.getElem?_eq_some_iff.1 hr).1
  obtain ⟨T,h1,h2⟩:=h.2 i hi
  rw [List.getD_eq_getElem?_getD,hr,Option.getD_some] at h1
  exact ⟨hi,T,h1,h2,encS_getD l i hi⟩
 refine .msl o v _ _ Rw (encS l) (Nat.zero_le _) ho (by rw [encS_length,h.1]) (fun i row hr=>?_) (fun i row j p hr hj=>?_)
 ·obtain ⟨_,T,h1,_,h3⟩:=key i row hr
  rw [h3,h1]; rfl
 ·obtain ⟨_,T,h1,h2,h3⟩:=key i row hr
  rw [h3]
  subst h1
  match j,hj with
  | 0,hj=>simp at hj; subst hj; exact .keep _ (bel_int _ _ _)
  | 1,hj=>simp at hj; subst hj; exact .keep _ (bel_int _ _ _)
  | 2,hj=>simp at hj; subst hj; exact h2.frz
  | j + 3,hj=>simp at hj
theorem RowsR.cells {Y:Store} {o:Nat} {l:List Site} {Rw:List (List PV)} (h:RowsR Y o l Rw):∀ r ∈ Rw,∀ q ∈ r,PV.cell q = true:=fun r hr q hq=>by
 obtain ⟨i,hi,rfl⟩:=List.mem_iff_getElem.1 hr
 obtain ⟨T,h1,h2⟩:=h.2 i (by rw [← h.1]; exact hi)
 rw [List.getD_eq_getElem?_getD,List.getElem?_eq_getElem hi,Option.getD_some] at h1
 rw [h1] at hq
 simp only [List.mem_cons,List.not_mem_nil,or_false] at hq
 rcases hq with rfl | rfl | rfl
 ·rfl
 ·rfl
 ·exact h2.cell
def OutR (Y:Store) (l:List Site) (O:PV):Prop:=(l = [] ∧ O = .nils) ∨ (l ≠ [] ∧ ∃ o v Rw,O = .msl o v ∧ Y[o]? = some (.rows 82 3 Rw v) ∧ RowsR Y o l Rw)
theorem OutR.frz {Y:Store} {l:List Site} {O:PV} (h:OutR Y l O):Frz 0 Y O (.sl (encS l)):=by
 rcases h with ⟨rfl,rfl⟩ | ⟨_,o,v,Rw,rfl,h1,h2⟩
 ·exact .nils
 ·exact h2.frz h1
theorem OutR.app {Y:Store} {l:List Site} {O:PV} (h:OutR Y l O) (X:Store):OutR (Y ++ X) l O:=by
 rcases h with h | ⟨h0,o,v,Rw,h1,h2,h3⟩
 ·exact .inl h
 ·exact .inr ⟨h0,o,v,Rw,h1,by rw [List.getElem?_append_left (List.getElem?_eq_some_iff.1 h2).1,h2],h3.keep (fun j _ hj=>List.getElem?_append_left hj)⟩
structure InsR (Y X τ:Store) (l:List Site) (b i:Int) (o v:Nat) (Rw:List (List PV)):Prop where
 ob:τ[o]? = some (.rows 82 3 Rw v)
 rw:RowsR τ o (sBase l b i) Rw
 old:∀ j,j < (Y ++ X).length → j ≠ o → τ[j]? = (Y ++ X)[j]?
 oy:o < Y.length ∨ (Y ++ X).length < o
theorem out_step {Y X τ F:Store} {l:List Site} {s:Site} {o v:Nat} {Rw:List (List PV)} {c:Int} (hI:InsR Y X τ l s.blk s.ins o v Rw) (hs:s.tg = [(0,c)]) {tt vv:Nat} {tg2:List (Int × Int)} (htg:tg2 = insT ((sBase l s.blk s.ins).getD (sPos l s.blk s.ins) default).tg (0,c)) (h0:tg2 ≠ [])
  (hF1:F[o]? = some (.rows 82 3 (Rw.set (sPos l s.blk s.ins) [.int .i64 s.blk,.int .i64 s.ins,.msl tt vv]) v)) (hF2:F[tt]? = some (.rows 79 2 (encT tg2) vv)) (hne:tt ≠ o) (hF3:∀ j,j ≠ o → j < τ.length → F[j]? = τ[j]?):OutR F (addSi l s) (.msl o v):=by
 refine .inr ⟨addSi_ne hs,o,v,_,rfl,hF1,?_⟩
 have hb:=sBase_lt l s.blk s.ins
 have hr:=hI.rw.1
 have h3:=hI.rw.keep hF3
 have e:addSi l s = (sBase l s.blk s.ins).set (sPos l s.blk s.ins) ⟨s.blk,s.ins,tg2⟩:=by
  unfold addSi
  rw [if_neg (by rw [hs]; simp),hs,htg]; rfl
 rw [e]
 refine ⟨by simp [hr],fun k hk=>?_⟩
 rw [List.length_set] at hk
 rw [getD_set2 _ _ _ _ _ hb,getD_set2 _ _ _ _ _ (by omega)]
 by_cases hk2:sPos l s.blk s.ins = k
 ·rw [if_pos hk2,if_pos hk2]
  exact ⟨_,rfl,.inr ⟨h0,.inr ⟨tt,vv,rfl,hne,hF2⟩⟩⟩
 ·rw [if_neg hk2,if_neg hk2]
  exact h3.2 k hk
theorem frzL3 {σ:Store} {p p2 q r:PV} (h:Frz 0 σ p p2) (hq:Bel 0 q) (hr:Bel 0 r):FrzL σ [p,q,r] [p2,q,r] :=
 ⟨rfl,fun j a b h1 h2=>by
  match j,h1,h2 with
  | 0,h1,h2=>cases h1; cases h2; exact h
  | 1,h1,h2=>cases h1; cases h2; exact .keep _ hq
  | 2,h1,h2=>cases h1; cases h2; exact .keep _ hr
  | j + 3,h1,_=>simp at h1⟩
theorem newsSi (b i:Int):newsOk Tryz.prog 82 [[.int .i64 b,.int .i64 i,.nils]] = true:=by simp [newsOk,PV.cell,tyC]
theorem rows_ins {Y Z:Store} {o:Nat} {l:List Site} {Rw:List (List PV)} {b i:Int} (h:RowsR Y o l Rw) (hz:∀ j,j ≠ o → j < Y.length → Z[j]? = Y[j]?) (hn:¬ sHas l b i) :
  RowsR Z o (sBase l b i) (Rw.take (sPos l b i) ++ [.int .i64 b,.int .i64 i,.nils] :: Rw.drop (sPos l b i)):=by
 have hp:=sPos_le l b i
 have hr:=h.1
 have h2:=h.keep hz
 unfold sBase
 rw [if_neg hn]
 refine ⟨by simp; omega,fun k hk=>?_⟩
 simp at hk
 rw [ins_getD _ _ _ _ (by omega),ins_getD _ _ _ _ hp]
 split
 ·exact h2.2 k (by omega)
 ·split
  ·exact ⟨_,rfl,.inl ⟨rfl,rfl⟩⟩
  ·exact h2.2 (k - 1) (by omega)
theorem insS_any {Y:Store} {l:List Site} {O:PV} (h:OutR Y l O) (b i:Int) (X:Store) (hl:l.length ≤ 1000000) (hn:¬ sHas l b i) :
  PCall Tryz.prog 79 [O,.int .i64 (sPos l b i),.msl (Y ++ X).length 0] (Y ++ X ++ [.rows 82 3 [[.int .i64 b,.int .i64 i,.nils]] 0])
   (fun q τ=>∃ o v Rw,q = .msl o v ∧ InsR Y X τ l b i o v Rw):=by
 have hp:(Y ++ X ++ [Go.PV.Obj.rows 82 3 [[.int .i64 b,.int .i64 i,.nils]] 0])[(Y ++ X).length]? = some (.rows 82 3 [[.int .i64 b,.int .i64 i,.nils]] 0):=List.getElem?_concat_length
 have hpos:=sPos_le l b i
 rcases h with ⟨rfl,rfl⟩ | ⟨_,o,v,Rw,rfl,h1,h2⟩
 ·refine PCall.mono (insS_nil _ _ 0 _ hp (newsSi b i)) ?_
  rintro q τ ⟨rfl,rfl⟩
  refine ⟨_,_,_,rfl,List.getElem?_concat_length,?_,fun j hj _=>?_,.inr (by simp)⟩
  ·have e:sBase [] b i = [⟨b,i,[]⟩]:=by
    unfold sBase
    rw [if_neg hn]; rfl
   rw [e]
   refine ⟨rfl,fun k hk=>?_⟩
   obtain rfl:k = 0:=by simpa using hk
   exact ⟨_,rfl,.inl ⟨rfl,rfl⟩⟩
  ·rw [List.getElem?_append_left (by simp at hj ⊢; omega),List.getElem?_append_left hj]
 ·have holt:=(List.getElem?_eq_some_iff.1 h1).1
  have h3:(Y ++ X ++ [Go.PV.Obj.rows 82 3 [[.int .i64 b,.int .i64 i,.nils]] 0])[o]? = some (.rows 82 3 Rw v):=by
   rw [List.append_assoc,List.getElem?_append_left holt,h1]
  have hrl:=h2.1
  have hz:∀ B:Go.PV.Obj,∀ j,j ≠ o → j < Y.length → ((Y ++ X ++ [Go.PV.Obj.rows 82 3 [[.int .i64 b,.int .i64 i,.nils]] 0]).set o B)[j]? = Y[j]?:=fun B j hj hjl=>by
   rw [List.getElem?_set_ne (Ne.symm hj),List.append_assoc,List.getElem?_append_left hjl]
  have hold:∀ B:Go.PV.Obj,∀ j,j < (Y ++ X).length → j ≠ o → ((Y ++ X ++ [Go.PV.Obj.rows 82 3 [[.int .i64 b,.int .i64 i,.nils]] 0]).set o B)[j]? = (Y ++ X)[j]?:=fun B j hj hne=>by
   rw [List.getElem?_set_ne (Ne.symm hne),List.getElem?_append_left hj]
  have hset:∀ B:Go.PV.Obj,((Y ++ X ++ [Go.PV.Obj.rows 82 3 [[.int .i64 b,.int .i64 i,.nils]] 0]).set o B)[o]? = some B:=fun B=>List.getElem?_set_self (by simp; omega)
  have hri:=fun B=>rows_ins (b:=b) (i:=i) h2 (hz B) hn
  by_cases he:sPos l b i = l.length
  ·rw [he] at hri ⊢
   rw [← hrl,List.take_length,List.drop_length] at hri
   rw [← hrl]
   refine PCall.mono (insS_end _ o v _ 0 Rw _ h3 hp (by simp; omega) (by omega) (newsSi b i)) ?_
   rintro q τ ⟨rfl,rfl⟩
   exact ⟨_,_,_,rfl,hset _,hri _,hold _,.inl holt⟩
  ·refine PCall.mono (insS_mid _ o _ v 0 (sPos l b i) Rw _ h3 hp (by simp; omega) (by omega) (by omega) h2.cells (fun q hq=>?_)) ?_
   ·simp only [List.mem_cons,List.not_mem_nil,or_false] at hq
    rcases hq with rfl | rfl | rfl <;> rfl
   ·rintro q τ ⟨rfl,rfl⟩
    exact ⟨_,_,_,rfl,hset _,hri _,hold _,.inl holt⟩
theorem cloneT_any {τ:Store} {o:Nat} {tg:List (Int × Int)} {T:PV} (h:TgR τ o tg T) (hl:tg.length ≤ 1000) :
  PCall Tryz.prog 80 [T] τ (fun q τ'=>(tg = [] ∧ q = .nils ∧ τ' = τ) ∨ (tg ≠ [] ∧ q = .msl τ.length 1 ∧ τ' = τ ++ [.rows 79 2 (encT tg) 1])):=by
 rcases h with ⟨rfl,rfl⟩ | ⟨hne,rfl | ⟨t,v,rfl,h1,h2⟩⟩
 ·exact PCall.mono (cloneTg_nil τ) fun q τ' ⟨a,b⟩=>.inl ⟨rfl,a,b⟩
 ·obtain ⟨t,r,rfl⟩:=List.exists_cons_of_ne_nil hne
  refine PCall.mono (cloneTg_some [.int .i64 t.1,.int .i64 t.2] (encT r) (by rw [encT_length]; simp at hl; omega) (newsT (t :: r)) τ) ?_
  rintro q τ' ⟨rfl,rfl⟩
  exact .inr ⟨hne,rfl,rfl⟩
 ·refine PCall.mono (cloneTg_m τ t v (encT tg) h2 (by rw [encT_length]; exact List.length_pos_iff.2 hne) (by rw [encT_length]; omega) (newsT tg)) ?_
  rintro q τ' ⟨rfl,rfl⟩
  exact .inr ⟨hne,rfl,rfl⟩
def InnI (τ:Store) (G:PV) (τ0:Store) (tg2:List (Int × Int)) (s2:Nat × PV × Store):Prop:=(s2.1 = 0 ∧ s2.2.1 = G ∧ s2.2.2 = τ0) ∨ (s2.1 = 1 ∧ ∃ tt vv Z,s2.2.1 = .msl tt vv ∧ s2.2.2 = τ ++ Z ∧ τ.length ≤ tt ∧ (τ ++ Z)[tt]? = some (.rows 79 2 (encT tg2) vv))
theorem out_end {Y X τ:Store} {l:List Site} {s:Site} {o v:Nat} {Rw:List (List PV)} {c:Int} (hI:InsR Y X τ l s.blk s.ins o v Rw) (hs:s.tg = [(0,c)]) {tg2:List (Int × Int)} (htg:tg2 = insT ((sBase l s.blk s.ins).getD (sPos l s.blk s.ins) default).tg (0,c)) (h0:tg2 ≠ [])
  {tt vv:Nat} {Z:Store} (ht:τ.length ≤ tt) (h5:(τ ++ Z)[tt]? = some (.rows 79 2 (encT tg2) vv)):OutR ((τ ++ Z).set o (.rows 82 3 (Rw.set (sPos l s.blk s.ins) [.int .i64 s.blk,.int .i64 s.ins,.msl tt vv]) v)) (addSi l s) (.msl o v):=by
 have hol:=(List.getElem?_eq_some_iff.1 hI.ob).1
 refine out_step hI hs htg h0 (List.getElem?_set_self (by simp; omega)) ?_ (by omega) (fun j hj hjl=>?_)
 ·rw [List.getElem?_set_ne (by omega),h5]
 ·rw [List.getElem?_set_ne (Ne.symm hj),List.getElem?_append_left hjl]
set_option maxRecDepth 8000 in
set_option maxHeartbeats 16000000 in
theorem sites_w (a b:List Site) (ha:One1 a) (hb:One1 b) (hs:SoS a) (hal:a.length ≤ 1000) (hbl:b.length ≤ 1000) :
  PCall Tryz.prog 49 [sV a,.sl (encS b)] [] (fun q _=>q = sV (addSs a b)):=by
 have k1:∀ args σ,cl1.f 74 args σ = none:=fun _ _=>rfl
 have k2:∀ args σ,noE.f 78 args σ = none:=fun _ _=>rfl
 have k3:∀ args σ,noE.f 81 args σ = none:=fun _ _=>rfl
 have k4:∀ args σ,noE.f 79 args σ = none:=fun _ _=>rfl
 have k5:∀ args σ,noE.f 83 args σ = none:=fun _ _=>rfl
 have k6:∀ args σ,noE.f 74 args σ = none:=fun _ _=>rfl
 have k7:∀ args σ,noE.f 80 args σ = none:=fun _ _=>rfl
 have k8:∀ args σ,noE.f 48 args σ = none:=fun _ _=>rfl
 have start:PCall Tryz.prog 74 [sV a] [] (fun q τ=>OutR τ a q):=by
  unfold sV
  cases a with
  | nil=>exact PCall.mono (cloneSi_nil []) fun q τ ⟨h1,h2⟩=>.inl ⟨rfl,h1⟩
  | cons s r =>
   refine PCall.mono (cloneSi_some s.row (encS r) (by rw [encS_length]; simp at hal; omega) (newsS (s :: r)) []) ?_
   rintro q τ ⟨rfl,rfl⟩
   refine .inr ⟨by simp,_,_,_,rfl,rfl,by simp [encS],fun k hk=>⟨_,encS_getD (s :: r) k hk,.inr ⟨?_,.inl rfl⟩⟩⟩
   obtain ⟨c,hc,_⟩:=one_get ha hk
   rw [hc]; simp
 refine PCall.vfrz [44,81] 37028596205097910271 91 [.tmp 4] (noE_ok _) mix Tryz.func49 rfl (by decide) rfl rfl (by simp) ?_
 simp -dsimp only [initFr,List.zipIdx_cons,List.zipIdx_nil,List.map_cons,List.map_nil,Nat.zero_add,Nat.reduceAdd]
 simp -dsimp (maxSteps:=4000000) +contextual (disch:=first | omega | decide +kernel) only [↓vsD,vsE,↓Nat.reduceLT,simprocAttr,k6]
 refine PCall.mono start ?_
 intro q0 Y0 hO0
 simp -dsimp (maxSteps:=4000000) +contextual (disch:=first | omega | decide +kernel) only [↓vsD,vsE,↓Nat.reduceLT,simprocAttr,encS_length]
 refine v_loopS (fun s:Nat × PV × Store=>[(5,s.2.1),(6,.func (.func 75) [] []),(18,.sl (encS b)),(19,.int .i64 b.length),(20,.int .i64 s.1)]) (fun s=>s.2.2) (fun s=>s.1 ≤ b.length ∧ OutR s.2.2 (addSs a (b.take s.1)) s.2.1 ∧ One1 (addSs a (b.take s.1)) ∧ SoS (addSs a (b.take s.1)) ∧ (addSs a (b.take s.1)).length ≤ a.length + s.1) (fun s=>b.length - s.1) (0,q0,Y0) (by simp [weaker,Go.PV.look]) rfl ⟨Nat.zero_le _,hO0,ha,hs,Nat.le_refl _⟩ ?_
 rintro ⟨k,O,Y⟩ ⟨hk,hO,hone,hso,hlen⟩
 dsimp only at hk hO hone hso hlen ⊢
 obtain ⟨l,hl⟩:∃ l,l = addSs a (b.take k):=⟨_,rfl⟩
 rw [← hl] at hO hone hso hlen
 by_cases hkb:k < b.length
 ·obtain ⟨c,hc,hc0,hcm⟩:=one_get hb hkb
  obtain ⟨s,hsd⟩:∃ s,s = b.getD k default:=⟨_,rfl⟩
  rw [← hsd] at hc
  have hrow:=encS_getD b k hkb
  rw [← hsd,hc] at hrow
  have ht1:(encT [(0,c)]).length = 1:=rfl
  have hbs:=bsS_w l s hso (by omega)
  unfold Site.row at hbs
  rw [hc] at hbs
  have hpl:=sPos_le l s.blk s.ins
  simp -dsimp (maxSteps:=4000000) +contextual (disch:=first | omega | decide +kernel) only [↓vsD,vsE,↓Nat.reduceLT,simprocAttr,encS_length,hrow,ht1,k2,vcel,vgap]
  refine PCall.use_lend hbs (frzL3 (hO.app _).frz (bel_site 0 ⟨s.blk,s.ins,[(0,c)]⟩) (bel_fn 0 _)) ?_
  rintro r rfl
  refine ⟨rfl,?_⟩
  have hbt:=sBase_at l s.blk s.ins
  have hbl2:=sBase_lt l s.blk s.ins
  obtain ⟨X,hX⟩:∃ X:Store,X = [Go.PV.Obj.rows 82 3 [[.int .i64 s.blk,.int .i64 s.ins,.sl (encT [(0,c)])]] 0]:=⟨_,rfl⟩
  have hxl:(Y ++ X).length = Y.length + 1:=by rw [hX]; simp
  have hadd:addSs a (b.take (k + 1)) = addSi l s:=by
   unfold addSs
   rw [take_succD b k hkb,List.foldl_append,← hsd]
   show addSi (addSs a (b.take k)) s = _
   rw [← hl]
  have hone2:=addSi_one hone hc ⟨hc0,hcm⟩
  have hso2:=addSi_sorted hso s
  have hlen2:=addSi_len l s
  have hboxY:∀ {τ:Store} {o v:Nat} {Rw:List (List PV)},InsR Y X τ l s.blk s.ins o v Rw → τ[Y.length]? = some (.rows 82 3 [[.int .i64 s.blk,.int .i64 s.ins,.sl (encT [(0,c)])]] 0):=fun {τ o v Rw} h=>by
   rw [h.old Y.length (by omega) (by have:=h.oy; omega),hX]; simp
  rw [← hX]
  by_cases hh:sHas l s.blk s.ins
  ·rw [decide_eq_true hh]
   rcases hO with ⟨rfl,_⟩ | ⟨_,o,v,Rw,rfl,h1,h2⟩
   ·exact absurd hh.1 (by simp)
   have holt:=(List.getElem?_eq_some_iff.1 h1).1
   have hI:InsR Y X (Y ++ X) l s.blk s.ins o v Rw:=⟨by rw [List.getElem?_append_left holt,h1],by
    unfold sBase; rw [if_pos hh]; exact h2.keep (fun j _ hj=>List.getElem?_append_left hj),fun _ _ _=>rfl,.inl holt⟩
   obtain ⟨τ,hτ⟩:∃ τ,τ = Y ++ X:=⟨_,rfl⟩
   rw [← hτ] at hI ⊢
   have hbox:=hboxY hI
   have hob:=hI.ob
   have hrw:=hI.rw
   have hrl:=hrw.1
   obtain ⟨T,hT1,hT2⟩:=hrw.2 _ hbl2
   rw [hbt.1,hbt.2] at hT1
   have hpr:sPos l s.blk s.ins < Rw.length:=by omega
   simp -dsimp (maxSteps:=4000000) +contextual (disch:=first | omega | decide +kernel) only [↓vsD,vsE,↓Nat.reduceLT,simprocAttr,vcel,vgap,hob,hT1,k7]
   rcases base_tg hone s.blk s.ins with ⟨hno,_⟩ | ⟨_,c0,htg,hc1,hc2⟩
   ·exact absurd hh hno
   rw [htg] at hT2
   refine PCall.mono (cloneT_any hT2 (by simp)) ?_
   rintro q1 τ1 (⟨h,_⟩ | ⟨_,rfl,rfl⟩)
   ·cases h
   have hol:=(List.getElem?_eq_some_iff.1 hob).1
   have hyl:=(List.getElem?_eq_some_iff.1 hbox).1
   have hboxA:∀ Z:Store,(τ ++ Z)[Y.length]? = some (.rows 82 3 [[.int .i64 s.blk,.int .i64 s.ins,.sl (encT [(0,c)])]] 0):=fun Z=>by rw [List.getElem?_append_left hyl,hbox]
   have hobA:∀ Z:Store,(τ ++ Z)[o]? = some (.rows 82 3 Rw v):=fun Z=>by rw [List.getElem?_append_left hol,hob]
   simp -dsimp (maxSteps:=4000000) +contextual (disch:=first | omega | decide +kernel) only [↓vsD,vsE,↓Nat.reduceLT,simprocAttr,vcel,vgap,hboxA,ht1]
   refine v_loopS (fun s2:Nat × PV × Store=>[(5,.msl o v),(6,.func (.func 75) [] []),(8,.ptr Y.length 0 0 0),(9,.int .i64 (sPos l s.blk s.ins)),(11,s2.2.1),(18,.sl (encS b)),(19,.int .i64 b.length),(20,.int .i64 k),(53,.sl (encT [(0,c)])),(54,.int .i64 1),(55,.int .i64 s2.1)]) (fun s2=>s2.2.2) (InnI τ (.msl τ.length 1) (τ ++ [.rows 79 2 (encT [(0,c0)]) 1]) [(0,plusI c0 c)]) (fun s2=>1 - s2.1) (0,.msl τ.length 1,τ ++ [.rows 79 2 (encT [(0,c0)]) 1]) (by simp [weaker,Go.PV.look]) rfl (.inl ⟨rfl,rfl,rfl⟩) ?_
   rintro ⟨k2,G,Q⟩ (⟨h1,h2,h3⟩ | ⟨h1,tt,vv,Z,h2,h3,h4,h5⟩)
   ·dsimp only at h1 h2 h3
    subst h1 h2 h3
    have hrowT:(encT [(0,c)]).getD 0 [] = [.int .i64 0,.int .i64 c]:=rfl
    simp -dsimp (maxSteps:=4000000) +contextual (disch:=first | omega | decide +kernel) only [↓vsD,vsE,↓Nat.reduceLT,simprocAttr,vcel,vgap,ht1,hrowT,k3,List.append_assoc,List.length_append]
    have hbt2:=bsT_w [(0,c0)] (0,c) (List.pairwise_singleton _ _) (by simp)
    rw [decide_eq_true (show tHas [(0,c0)] (0,c) by simp [tHas,posL])] at hbt2
    refine PCall.use_lend hbt2 (frzL3 (Frz.msl0 (elem:=79) (sz:=2) (Nat.zero_le _) (by simp) (encT_bel _ _)) (bel_tg 0 (0,c)) (bel_fn 0 _)) ?_
    rintro r rfl
    refine ⟨rfl,?_⟩
    have ep:posL (fun x:Int × Int=>decide (x.1 < 0)) [(0,c0)] = 0:=by simp [posL]
    have hr0:(encT [(0,c0)]).getD 0 [] = [.int .i64 0,.int .i64 c0]:=rfl
    have hl0:(encT [(0,c0)]).length = 1:=rfl
    simp -dsimp (maxSteps:=4000000) +contextual (disch:=first | omega | decide +kernel) only [↓vsD,vsE,↓Nat.reduceLT,simprocAttr,vcel,vgap,ep]
    refine v_draws _ _ _ _ _ _ [9,12] [] [(0,1),(0,1),(0,0),(0,0),(0,0),(0,0),(0,0),(0,0),(0,0),(0,0),(1,1),(1,1),(0,0)] (by decide +kernel) (by decide +kernel) (by decide +kernel) (by decide +kernel) ?_
    simp -dsimp (maxSteps:=4000000) +contextual (disch:=first | omega | decide +kernel) only [↓vsD,vsE,↓Nat.reduceLT,simprocAttr,vdA,↓vd_end,↓vdm_go,↓vd_op,↓guard_none,↓guard_some,vcel,vgap,hr0,hl0,k8]
    refine ⟨_,_,plusS_ok c0 c hc2 hcm _,by simp [rowsAt,outR],?_⟩
    simp -dsimp (maxSteps:=4000000) +contextual (disch:=first | omega | decide +kernel) only [↓vsD,vsE,↓Nat.reduceLT,simprocAttr,vdA,↓vd_end,↓vdm_go,↓vd_op,↓guard_none,↓guard_some,vcel,vgap,hr0,hl0,k8]
    refine ⟨(1,.msl τ.length 1,τ ++ _),(by (try dsimp only); omega),(by simp [weaker,Go.PV.look]),rfl,.inr ⟨rfl,τ.length,1,_,rfl,rfl,Nat.le_refl _,by simp [encT]⟩⟩
   ·dsimp only at h1 h2 h3
    subst h1 h2 h3
    simp -dsimp (maxSteps:=4000000) +contextual (disch:=first | omega | decide +kernel) only [↓vsD,vsE,↓Nat.reduceLT,simprocAttr,vcel,vgap,ht1,hobA,hT1]
    refine ⟨(k + 1,.msl o v,_),(by (try dsimp only); omega),(by simp [weaker,Go.PV.look]),rfl,hkb,?_,?_,?_,?_⟩ <;> dsimp only <;> rw [hadd]
    ·exact out_end hI hc (by rw [htg]; exact (insT_one c0 c).symm) (by simp) h4 h5
    ·exact hone2
    ·exact hso2
    ·omega
  ·rw [decide_eq_false hh]
   have hX0:X[0]? = some (Go.PV.Obj.rows 82 3 [[.int .i64 s.blk,.int .i64 s.ins,.sl (encT [(0,c)])]] 0):=by rw [hX]; rfl
   simp -dsimp (maxSteps:=4000000) +contextual (disch:=first | omega | decide +kernel) only [↓vsD,vsE,↓Nat.reduceLT,simprocAttr,vcel,vgap,k4,hX0]
   have hins:=insS_any hO s.blk s.ins X (by omega) hh
   refine PCall.mono hins ?_
   rintro q τ ⟨o,v,Rw,rfl,hI⟩
   have hbox:=hboxY hI
   have hob:=hI.ob
   have hrw:=hI.rw
   have hrl:=hrw.1
   obtain ⟨T,hT1,hT2⟩:=hrw.2 _ hbl2
   rw [hbt.1,hbt.2] at hT1
   have hpr:sPos l s.blk s.ins < Rw.length:=by omega
   simp -dsimp (maxSteps:=4000000) +contextual (disch:=first | omega | decide +kernel) only [↓vsD,vsE,↓Nat.reduceLT,simprocAttr,vcel,vgap,hob,hT1,k7]
   rcases base_tg hone s.blk s.ins with ⟨_,htg⟩ | ⟨hno,_⟩
   rotate_left
   ·exact absurd hno hh
   rw [htg] at hT2
   refine PCall.mono (cloneT_any hT2 (by simp)) ?_
   rintro q1 τ1 (⟨_,rfl,hτ1⟩ | ⟨h,_⟩)
   rotate_left
   ·exact absurd rfl h
   rw [hτ1]
   simp -dsimp (maxSteps:=4000000) +contextual (disch:=first | omega | decide +kernel) only [↓vsD,vsE,↓Nat.reduceLT,simprocAttr,vcel,vgap,hbox,ht1]
   have hol:=(List.getElem?_eq_some_iff.1 hob).1
   have hyl:=(List.getElem?_eq_some_iff.1 hbox).1
   have hboxA:∀ Z:Store,(τ ++ Z)[Y.length]? = some (.rows 82 3 [[.int .i64 s.blk,.int .i64 s.ins,.sl (encT [(0,c)])]] 0):=fun Z=>by rw [List.getElem?_append_left hyl,hbox]
   have hobA:∀ Z:Store,(τ ++ Z)[o]? = some (.rows 82 3 Rw v):=fun Z=>by rw [List.getElem?_append_left hol,hob]
   refine v_loopS (fun s2:Nat × PV × Store=>[(5,.msl o v),(6,.func (.func 75) [] []),(8,.ptr Y.length 0 0 0),(9,.int .i64 (sPos l s.blk s.ins)),(11,s2.2.1),(18,.sl (encS b)),(19,.int .i64 b.length),(20,.int .i64 k),(53,.sl (encT [(0,c)])),(54,.int .i64 1),(55,.int .i64 s2.1)]) (fun s2=>s2.2.2) (InnI τ .nils τ [(0,c)]) (fun s2=>1 - s2.1) (0,.nils,τ) (by simp [weaker,Go.PV.look]) rfl (.inl ⟨rfl,rfl,rfl⟩) ?_
   rintro ⟨k2,G,Q⟩ (⟨h1,h2,h3⟩ | ⟨h1,tt,vv,Z,h2,h3,h4,h5⟩)
   ·dsimp only at h1 h2 h3
    subst h1 h2
    rw [h3]
    have hrowT:(encT [(0,c)]).getD 0 [] = [.int .i64 0,.int .i64 c]:=rfl
    simp -dsimp (maxSteps:=4000000) +contextual (disch:=first | omega | decide +kernel) only [↓vsD,vsE,↓Nat.reduceLT,simprocAttr,vcel,vgap,ht1,hrowT,k3,List.append_assoc,List.length_append]
    have hbt2:=bsT_w [] (0,c) List.Pairwise.nil (by simp)
    rw [decide_eq_false (show ¬ tHas [] (0,c) by simp [tHas,posL])] at hbt2
    refine PCall.use_lend hbt2 (frzL3 .nils (bel_tg 0 (0,c)) (bel_fn 0 _)) ?_
    rintro r rfl
    refine ⟨rfl,?_⟩
    have ep:posL (fun x:Int × Int=>decide (x.1 < 0)) [] = 0:=by simp [posL]
    simp -dsimp (maxSteps:=4000000) +contextual (disch:=first | omega | decide +kernel) only [↓vsD,vsE,↓Nat.reduceLT,simprocAttr,vcel,vgap,ep,k5,List.append_assoc,List.length_append,Bool.or_true]
    refine PCall.mono (insT_nil _ (τ.length + 1) 0 [.int .i64 0,.int .i64 c] (by simp) (by simp [newsOk,PV.cell,tyC])) ?_
    rintro q2 τ2 ⟨rfl,rfl⟩
    simp -dsimp (maxSteps:=4000000) +contextual (disch:=first | omega | decide +kernel) only [↓vsD,vsE,↓Nat.reduceLT,simprocAttr,vcel,vgap,List.append_assoc,List.length_append]
    exact ⟨(1,.msl (τ.length + 2) 0,τ ++ _),(by (try dsimp only); omega),(by simp [weaker,Go.PV.look]),rfl,.inr ⟨rfl,τ.length + 2,0,_,rfl,rfl,by omega,by simp [encT]⟩⟩
   ·dsimp only at h1 h2 h3
    subst h1 h2 h3
    simp -dsimp (maxSteps:=4000000) +contextual (disch:=first | omega | decide +kernel) only [↓vsD,vsE,↓Nat.reduceLT,simprocAttr,vcel,vgap,ht1,hobA,hT1]
    refine ⟨(k + 1,.msl o v,_),(by (try dsimp only); omega),(by simp [weaker,Go.PV.look]),rfl,hkb,?_,?_,?_,?_⟩ <;> dsimp only <;> rw [hadd]
    ·exact out_end hI hc (by rw [htg]; exact (insT_nil1 c).symm) (by simp) h4 h5
    ·exact hone2
    ·exact hso2
    ·omega
 ·obtain rfl:k = b.length:=by omega
  rw [List.take_length] at hl
  simp -dsimp (maxSteps:=4000000) +contextual (disch:=first | omega | decide +kernel) only [↓vsD,vsE,↓Nat.reduceLT,simprocAttr,encS_length,k2,vcel,vgap]
  rcases hO with ⟨rfl,rfl⟩ | ⟨h0,hO⟩
  ·exact fin0 (.keep _ (bel_nils 0)) (by rw [← hl]; rfl)
  ·refine fin0 (OutR.frz (.inr ⟨h0,hO⟩)) ?_
   rw [← hl,sV,if_neg]
   simpa using h0
theorem sV_bel (k:Nat) (l:List Site):Bel k (sV l):=by
 unfold sV
 split
 ·exact bel_nils _
 ·exact bel_sites _ _
theorem sites_on (a b:List Site) (ha:One1 a) (hb:One1 b) (hs:SoS a) (hal:a.length ≤ 1000) (hbl:b.length ≤ 1000) (σ:Store) :
  PCall Tryz.prog 49 [sV a,.sl (encS b)] σ (fun q τ=>q = sV (addSs a b) ∧ τ = σ) :=
 PCall.lift (sites_w a b ha hb hs hal hbl) (bel2 (sV_bel _ _) (bel_sites _ _)) (fun q h=>⟨by rw [h]; exact sV_bel _ _,h,rfl⟩)
end Go.Proofs.YthjoehaglonjaaaGreat
