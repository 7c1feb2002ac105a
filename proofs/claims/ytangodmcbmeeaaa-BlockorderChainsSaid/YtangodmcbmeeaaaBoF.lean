import Derived.WalkKit
import Derived.Lib.SliceRun
import Derived.Shelf.AbstractIn
import Derived.Lib.Walk
import Derived.Test.YtangodmcbmeeaaaBoE
set_option maxRecDepth 8000
set_option linter.unusedSimpArgs false
set_option linter.unusedVariables false
namespace Go.Proofs.Ytangodmcbmeeaaa
open Go.PV Go.RowKit
set_option maxRecDepth 100000 in
set_option maxHeartbeats 2000000 in
theorem growI_calls (n:Nat) (hn:0 < n) (hn2:n ≤ 2000) (w:World):Calls Try.prog 92 #[.slice none 0 0,.int .i64 n] w fun x w'=>∃ b cap cs,x = .returned (.slice (some ⟨b,0,none⟩) 0 cap) ∧ w.heap.size ≤ b ∧ w'.heap[b]? = some (.cells cs 3 (0,0)) ∧ cs.size = cap * 1 ∧ cap ≤ maxLen ∧ Below w.heap.size w w':=by
 refine calls_of_wp Try.func92 rfl ?_
 simp only [Try.ntmps92,List.size_toArray,List.length_cons,List.length_nil,Nat.reduceAdd,Nat.reduceSub,Array.replicate_succ,Array.replicate_zero,List.push_toArray,List.append_toArray,List.nil_append,List.cons_append]
 have hu:Try.prog.underlying 29 = some (.slice 3):=by kernel_rfl
 have u:∀ w,Sem.run Try.prog (underlying 29) w = .ok (TypeDesc.slice 3) w:=run_underlying hu
 have hcap:Builtin.nextslicecap n 0 = n:=by simp [Builtin.nextslicecap,hn]
 have hbt:Try.t3.bytes = 8:=rfl
 go_wp2
 go_ret
 have hge:=grownCap_ge w n 0 3
 have hle:=grownCap_le_maxLen w n 0 3 (by unfold maxLen; omega)
 refine ⟨w.heap.size,grownCap w n 0 3,rfl,Nat.le_refl _,Builtin.zeroCells #[.int .i64 0] n ++ Builtin.zeroCells #[.int .i64 0] (grownCap w n 0 3 - n),?_,?_,hle,?_⟩
 ·show (w.heap.push _)[w.heap.size]? = _
  exact Array.getElem?_push_size
 ·rw [Array.size_append,size_zeroCells,size_zeroCells]
  simp
  omega
 ·exact ((Below.refl _ w).alloc (Nat.le_refl _) _).drew
end Go.Proofs.Ytangodmcbmeeaaa
namespace Go.PV
open Go.RowKit
theorem PCall.ofRoom {P:Program} {F:FuncId} {args:List PV} {σ:Store} (e:TypeId) (sz:Nat) (hb:hasBody P F = true)
  (h:∀ (I:Imm) (ρ:Rho) (w:World) (vs:Array Value),Inv I ρ σ w → ArgsR I ρ args vs → Calls P F vs w fun x w'=>∃ b cap cs,x = .returned (.slice (some ⟨b,0,none⟩) 0 cap) ∧ w.heap.size ≤ b ∧ w'.heap[b]? = some (.cells cs e (0,0)) ∧ cs.size = cap * sz ∧ cap ≤ maxLen ∧ Below w.heap.size w w') :
  PCall P F args σ (fun p σ'=>p = .msl σ.length 0 ∧ σ' = σ ++ [.rows e sz [] 0]):=by
 refine ⟨hb,fun I ρ w vs hinv ha=>(h I ρ w vs hinv ha).mono ?_⟩
 rintro x w' ⟨b,cap,cs,rfl,hbk,hcell,hcs,hcap,hbl⟩
 have himm:∀ off,I b off = none:=fun off=>by
  cases hI:I b off with
  | none=>rfl
  | some u=>exact absurd (World.block_lt_of_cell? w ⟨b,off,none⟩ (hinv.imm b off u hI)) (by simp; omega)
 obtain ⟨L,hL⟩:∃ L:Loc,L = ⟨b,sz,0,cap⟩:=⟨_,rfl⟩
 have hobj:ObjInv I (extR ρ σ.length 0 L) w' σ.length (.rows e sz [] 0):=by
  refine ⟨L,cs,extR_same _ _ _ _,by rw [hL],by rw [hL]; rfl,by rw [hL]; exact hcell,by rw [hL]; exact Nat.zero_le _,by rw [hL]; exact hcap,by rw [hL]; exact hcs,by simp,by simp,fun off=>by rw [hL]; exact himm off,fun v' hv=>?_⟩
  rw [extR_other (fun h=>by omega)]
  exact hinv.free _ _ (Nat.le_refl _)
 obtain ⟨h1,h2⟩:=hinv.newObj (obj:=.rows e sz [] 0) (L:=L) rfl (by rw [hL]; exact hbk) (fun b hb=>hbl.block b hb) hbl.size hbl.os hbl.tape hbl.output hobj
 refine ⟨_,.msl σ.length 0,I,_,_,rfl,?_,h1,h2,rfl,rfl⟩
 have:=R.msl (I:=I) (ρ:=extR ρ σ.length 0 L) σ.length 0 L (extR_same _ _ _ _)
 rw [hL] at this ⊢
 exact this
end Go.PV
namespace Go.Proofs.Ytangodmcbmeeaaa
open Go.PV Go.RowKit
theorem growI_ok (n:Nat) (hn:0 < n) (hn2:n ≤ 2000) (σ:Store):PCall Try.prog 92 [.nils,.int .i64 n] σ (fun p σ'=>p = .msl σ.length 0 ∧ σ' = σ ++ [.rows 3 1 [] 0]):=by
 refine PCall.ofRoom _ _ (by kernel_rfl) (fun I ρ w vs hinv ha=>?_)
 have h0:=ha.2 0 _ rfl
 have h1:=ha.2 1 _ rfl
 have hsz:vs.size = 2:=ha.1
 have hvs:vs = #[vs.getD 0 Go.undef,vs.getD 1 Go.undef]:=by
  apply Array.ext
  ·simp [hsz]
  ·intro i hi1 hi2
   simp at hi2
   match i,hi2 with
   | 0,_=>simp [Array.getD,hsz]
   | 1,_=>simp [Array.getD,hsz]
 generalize vs.getD 0 Go.undef = v at h0 hvs
 generalize vs.getD 1 Go.undef = u at h1 hvs
 cases h0
 cases h1
 rw [hvs]
 exact growI_calls n hn hn2 w
def encLL (L:List (List Int)):List (List PV):=L.map fun l=>[.sl (ints l)]
theorem encLL_length (L:List (List Int)):(encLL L).length = L.length:=by simp [encLL]
theorem encLL_getD (L:List (List Int)) (i:Nat) (h:i < L.length):(encLL L).getD i [] = [.sl (ints (L.getD i []))]:=by simp [encLL,List.getD_eq_getElem?_getD,h]
theorem encLL_set (L:List (List Int)) (i:Nat) (l:List Int):(encLL L).set i [.sl (ints l)] = encLL (L.set i l):=by simp [encLL,List.map_set]
theorem encLL_take (L:List (List Int)) (k:Nat):(encLL L).take k = encLL (L.take k):=by simp [encLL,List.map_take]
theorem encLL_bel (n:Nat) (L:List (List Int)):∀ row ∈ encLL L,∀ p ∈ row,Bel n p:=fun row hr p hp=>by
 simp only [encLL,List.mem_map] at hr
 obtain ⟨t,_,rfl⟩:=hr
 rw [List.mem_singleton] at hp
 rw [hp]; exact bel_intsB _ _
theorem newsLL (L:List (List Int)):newsOk Try.prog 29 (encLL L) = true:=by
 show newsOk _ _ (List.map _ _) = true
 simp [newsOk,PV.cell,tyC]
theorem flat_take (L:List (List Int)) (k:Nat) (h:k < L.length):(L.take (k + 1)).flatten = (L.take k).flatten ++ L.getD k []:=by
 rw [List.take_add_one,List.getElem?_eq_getElem h,Option.toList_some,List.flatten_append,getDB h]; simp
theorem flat_len (L:List (List Int)) (k:Nat):(L.take k).flatten.length ≤ L.flatten.length:=by
 conv=>rhs; rw [← List.take_append_drop k L,List.flatten_append,List.length_append]
 omega
set_option maxHeartbeats 8000000 in
theorem concatB_w (L:List (List Int)) (hl:L.length ≤ 1000) (h0:0 < L.flatten.length) (h1:L.flatten.length ≤ 1000):PCall Try.prog 66 [.sl (encLL L)] [] (fun p _=>p = .sl (ints L.flatten)):=by
 have k0:∀ args σ,noE.f 92 args σ = none:=fun _ _=>rfl
 refine PCall.vfrz [] 504373247 36 [.tmp 2] (noE_ok _) mix Try.func66 rfl (by decide) rfl rfl (by simp) ?_
 simp -dsimp only [initFr,List.zipIdx_cons,List.zipIdx_nil,List.map_cons,List.map_nil,Nat.zero_add,Nat.reduceAdd]
 simp -dsimp (maxSteps:=4000000) +contextual (disch:=first | omega | decide +kernel) only [↓vsD,vsE,↓Nat.reduceLT,simprocAttr,encLL_length]
 refine v_loopS (fun k:Nat=>[(0,.sl (encLL L)),(3,.int .i64 ((L.take k).flatten.length:Nat)),(9,.sl (encLL L)),(10,.int .i64 L.length),(11,.int .i64 (k:Int))]) (fun _=>[]) (fun k=>k ≤ L.length) (fun k=>L.length - k) 0 (by simp [weaker,Go.PV.look]) rfl (by omega) ?_
 intro k hk
 have b1:=flat_len L k
 by_cases hkl:k < L.length
 ·have hf:=flat_take L k hkl
  have b2:=flat_len L (k + 1)
  rw [hf,List.length_append] at b2
  simp -dsimp (maxSteps:=4000000) +contextual (disch:=first | omega | decide +kernel) only [↓vsD,vsE,↓Nat.reduceLT,simprocAttr,encLL_length,encLL_getD,intsB_len]
  exact ⟨k + 1,(by (try dsimp only); omega),by simp [weaker,Go.PV.look,hf],rfl,hkl⟩
 ·obtain rfl:k = L.length:=by omega
  rw [List.take_length]
  simp -dsimp (maxSteps:=4000000) +contextual (disch:=first | omega | decide +kernel) only [↓vsD,vsE,↓Nat.reduceLT,simprocAttr,encLL_length,k0]
  refine PCall.mono (growI_ok L.flatten.length h0 (by omega) _) ?_
  rintro p σ' ⟨rfl,rfl⟩
  simp -dsimp (maxSteps:=4000000) +contextual (disch:=first | omega | decide +kernel) only [↓vsD,vsE,↓Nat.reduceLT,simprocAttr,encLL_length]
  refine v_loopS (fun k:Nat=>[(6,.msl 0 k),(25,.sl (encLL L)),(26,.int .i64 L.length),(27,.int .i64 (k:Int))]) (fun k=>[.rows 3 1 (ints (L.take k).flatten) k]) (fun k=>k ≤ L.length) (fun k=>L.length - k) 0 (by simp [weaker,Go.PV.look]) rfl (by omega) ?_
  intro k hk
  by_cases hkl:k < L.length
  ·have hf:=flat_take L k hkl
   have b2:=flat_len L (k + 1)
   rw [hf,List.length_append] at b2
   have hn:=newsB (L.getD k [])
   have ha:∀ a b:List Int,ints (a ++ b) = ints a ++ ints b:=fun a b=>by simp [ints,PV.encI]
   simp -dsimp (maxSteps:=4000000) +contextual (disch:=first | omega | decide +kernel) only [↓vsD,vsE,↓Nat.reduceLT,simprocAttr,encLL_length,encLL_getD,intsB_len,hn,bytesB,lenB]
   exact ⟨k + 1,(by (try dsimp only); omega),by simp [weaker,Go.PV.look],by dsimp only; rw [hf,ha],hkl⟩
  ·obtain rfl:k = L.length:=by omega
   rw [List.take_length]
   simp -dsimp (maxSteps:=4000000) +contextual (disch:=first | omega | decide +kernel) only [↓vsD,vsE,↓Nat.reduceLT,simprocAttr]
   exact fin0 (Frz.msl0 (elem:=3) (sz:=1) (Nat.zero_le _) rfl (enc_bel _ _ _)) rfl
theorem slcBB:isSlcT Try.prog 111 = true:=by kernel_rfl
theorem cloneLL_ok (l:List Int) (L:List (List Int)) (hl:L.length ≤ 1000) (σ:Store):PCall Try.prog 61 [.sl (encLL (l :: L))] σ (fun p σ'=>p = .msl σ.length 1 ∧ σ' = σ ++ [.rows 29 1 (encLL (l :: L)) 1]):=by
 refine PCall.vraw [5] 23 8 [.tmp 2] (noE_ok _) mix Try.func61 rfl (by decide) rfl rfl (by simp) ?_
 simp -dsimp only [initFr,List.zipIdx_cons,List.zipIdx_nil,List.map_cons,List.map_nil,Nat.zero_add,Nat.reduceAdd]
 have hn:=newsLL (l :: L)
 have hc:encLL (l :: L) = [.sl (ints l)] :: encLL L:=rfl
 have hi:(encLL L).length = L.length:=encLL_length _
 rw [hc] at hn ⊢
 simp -dsimp (maxSteps:=4000000) +contextual (disch:=first | omega | decide +kernel) only [↓vsD,vsE,↓Nat.reduceLT,simprocAttr,slcBB,vgap,bytesB,lenB,Bool.or_false,Bool.true_or,hn,hi]
theorem getDmB {α:Type} {l:List α} {k:Nat} {d:α} (h:k < l.length):l.getD k d ∈ l:=by
 rw [getDB h]; exact List.getElem_mem _
section
variable (p:List Int → Bool)
def fstL (l:List (List Int)):Int:=if l.findIdx p = l.length then -1 else (l.findIdx p:Int)
theorem findIdx_takeL (l:List (List Int)) (k:Nat) (hk:k < l.length) (h:∀ j,j < k → p (l.getD j []) = false) (hp:p (l.getD k []) = true):l.findIdx p = k:=by
 rw [List.findIdx_eq hk]
 refine ⟨by simpa [List.getD_eq_getElem?_getD,List.getElem?_eq_getElem hk] using hp,fun j hj=>?_⟩
 simpa [List.getD_eq_getElem?_getD,List.getElem?_eq_getElem (show j < l.length by omega)] using h j hj
theorem findIdx_noneL (l:List (List Int)) (h:∀ j,j < l.length → p (l.getD j []) = false):l.findIdx p = l.length:=by
 refine List.findIdx_eq_length.2 (fun x hx=>?_)
 obtain ⟨j,hj,rfl⟩:=List.getElem_of_mem hx
 simpa [List.getD_eq_getElem?_getD,List.getElem?_eq_getElem hj] using h j hj
theorem take_set_appB {α:Type} (M:List α) (i:Nat) (x:α) (h:i < M.length):(M.set i x).take (i + 1) = M.take i ++ [x]:=by
 rw [List.take_add_one,List.take_set_of_le (Nat.le_refl _)]
 simp [h]
theorem drop_set_ltB {α:Type} (M:List α) (i j:Nat) (x:α) (h:i < j):(M.set i x).drop j = M.drop j:=by
 rw [List.drop_set]
 rw [if_pos h]
theorem drop_getDL (l M:List (List Int)) (j:Nat) (hj:j < l.length) (h:M.drop j = l.drop j):M.getD j [] = l.getD j [] ∧ M.drop (j + 1) = l.drop (j + 1):=by
 constructor
 ·have:=congrArg (fun x=>x[0]?) h
  simp only [List.getElem?_drop,Nat.add_zero] at this
  rw [List.getD_eq_getElem?_getD,List.getD_eq_getElem?_getD,this]
 ·have:=congrArg (List.drop 1) h
  simpa [List.drop_drop,Nat.add_comm] using this
theorem filter_takeL (l:List (List Int)) (k:Nat) (h:k < l.length):(l.take (k + 1)).filter p = if p (l.getD k []) = true then (l.take k).filter p ++ [l.getD k []] else (l.take k).filter p:=by
 rw [List.take_add_one,List.getElem?_eq_getElem h,List.filter_append,List.getD_eq_getElem?_getD,List.getElem?_eq_getElem h]
 simp only [Option.toList_some,Option.getD_some]
 split
 ·rw [List.filter_cons_of_pos (by assumption)]; rfl
 ·rw [List.filter_cons_of_neg (by assumption),List.filter_nil,List.append_nil]
theorem notAnyL (l:List (List Int)) (h:l.findIdx p = l.length):l.filter (fun x=>!p x) = l:=by
 rw [List.filter_eq_self]
 intro x hx
 simpa using List.findIdx_eq_length.1 h x hx
theorem takeFstL (l:List (List Int)) (h:l.findIdx p < l.length):(l.take (l.findIdx p + 1)).filter (fun x=>!p x) = l.take (l.findIdx p):=by
 rw [filter_takeL _ _ _ h,if_neg,List.filter_eq_self]
 ·intro x hx
  obtain ⟨j,hj,rfl⟩:=List.getElem_of_mem hx
  rw [List.length_take] at hj
  have hj2:j < l.findIdx p:=by omega
  have:=List.not_of_lt_findIdx hj2
  simpa using this
 ·have:=List.findIdx_getElem (w:=h)
  simp [List.getD_eq_getElem?_getD,List.getElem?_eq_getElem h,this]
end
set_option maxHeartbeats 4000000 in
theorem indexLL_ok (o v:Nat) (l:List (List Int)) (hll:l.length < 2 ^ 40) (F:FuncId) (cap:List PV) (p:List Int → Bool) (σ:Store) (ho:σ[o]? = some (.rows 29 1 (encLL l) v)) (hF:∀ x σ,PCall Try.prog F (.sl (ints x) :: cap) σ (fun q τ=>q = .bool (p x) ∧ τ = σ)) :
  PCall Try.prog 90 [.msl o v,.func (.func F) [] cap] σ (fun q τ=>q = .int .i64 (fstL p l) ∧ τ = σ):=by
 refine PCall.vraw [] 66495 19 [.tmp 4] (noE_ok _) mix Try.func90 rfl (by decide) rfl rfl (by simp) ?_
 simp -dsimp only [initFr,List.zipIdx_cons,List.zipIdx_nil,List.map_cons,List.map_nil,Nat.zero_add,Nat.reduceAdd]
 simp -dsimp (maxSteps:=4000000) +contextual (disch:=first | omega | decide +kernel) only [↓vsD,vsE,↓Nat.reduceLT,simprocAttr,encLL_length,ho]
 refine v_loopS (fun k:Nat=>[(0,.msl o v),(1,.func (.func F) [] cap),(7,.int .i64 l.length),(8,.int .i64 k)]) (fun _=>σ) (fun k=>k ≤ l.length ∧ ∀ j,j < k → p (l.getD j []) = false) (fun k=>l.length - k) 0 (by simp [weaker,Go.PV.look]) rfl ⟨by omega,fun j hj=>by omega⟩ ?_
 rintro k ⟨hk,hp⟩
 by_cases hkl:k < l.length
 ·simp -dsimp (maxSteps:=4000000) +contextual (disch:=first | omega | decide +kernel) only [↓vsD,vsE,↓Nat.reduceLT,simprocAttr,encLL_length,encLL_getD,ho]
  refine PCall.mono (hF (l.getD k []) _) ?_
  rintro q σ' ⟨rfl,rfl⟩
  obtain ⟨b,hb⟩:∃ b,p (l.getD k []) = b:=⟨_,rfl⟩
  rw [hb]
  cases b with
  | false =>
   simp -dsimp (maxSteps:=4000000) +contextual (disch:=first | omega | decide +kernel) only [↓vsD,vsE,↓Nat.reduceLT,simprocAttr]
   refine ⟨k + 1,(by (try dsimp only); omega),(by simp [weaker,Go.PV.look]),rfl,by omega,fun j hj=>?_⟩
   rcases Nat.lt_succ_iff_lt_or_eq.1 hj with hj | rfl
   ·exact hp j hj
   ·exact hb
  | true =>
   have e:=findIdx_takeL p l k hkl hp hb
   have e2:fstL p l = k:=by rw [fstL,e,if_neg (by omega)]
   simp -dsimp (maxSteps:=4000000) +contextual (disch:=first | omega | decide +kernel) only [↓vsD,vsE,↓Nat.reduceLT,simprocAttr,e2]
 ·have e2:fstL p l = -1:=by rw [fstL,if_pos (findIdx_noneL p l (fun j hj=>hp j (by omega)))]
  simp -dsimp (maxSteps:=4000000) +contextual (disch:=first | omega | decide +kernel) only [↓vsD,vsE,↓Nat.reduceLT,simprocAttr,encLL_length,e2]
set_option maxRecDepth 8000 in
set_option maxHeartbeats 8000000 in
theorem deleteLL_ok (o v:Nat) (l:List (List Int)) (hll:l.length < 2 ^ 40) (F:FuncId) (cap:List PV) (p:List Int → Bool) (σ:Store) (ho:σ[o]? = some (.rows 29 1 (encLL l) v)) (hF:∀ x σ,PCall Try.prog F (.sl (ints x) :: cap) σ (fun q τ=>q = .bool (p x) ∧ τ = σ)) :
  PCall Try.prog 60 [.msl o v,.func (.func F) [] cap] σ (fun q τ=>∃ v',q = .msl o v' ∧ τ = σ.set o (.rows 29 1 (encLL (l.filter fun x=>!p x)) v')):=by
 have hol:=(List.getElem?_eq_some_iff.1 ho).1
 have hs:∀ X,(σ.set o X)[o]? = some X:=fun X=>List.getElem?_set_self hol
 have hset:σ = σ.set o (.rows 29 1 (encLL l) v):=by
  obtain ⟨h1,h2⟩:=List.getElem?_eq_some_iff.1 ho
  rw [← h2]; exact List.set_getElem_self h1 |>.symm
 refine PCall.vraw [38] 537399551 42 [.tmp 4] (noE_ok _) mix Try.func60 rfl (by decide) rfl rfl (by simp) ?_
 simp -dsimp only [initFr,List.zipIdx_cons,List.zipIdx_nil,List.map_cons,List.map_nil,Nat.zero_add,Nat.reduceAdd]
 simp -dsimp (maxSteps:=4000000) +contextual (disch:=first | omega | decide +kernel) only [↓vsD,vsE,↓Nat.reduceLT,simprocAttr]
 refine PCall.mono (indexLL_ok o v l hll F cap p σ ho hF) ?_
 rintro q σ' ⟨rfl,rfl⟩
 by_cases hn:l.findIdx p = l.length
 ·have e2:fstL p l = -1:=by rw [fstL,if_pos hn]
  rw [e2]
  simp -dsimp (maxSteps:=4000000) +contextual (disch:=first | omega | decide +kernel) only [↓vsD,vsE,↓Nat.reduceLT,simprocAttr]
  rw [notAnyL p l hn]
  exact ⟨v,rfl,hset⟩
 ·have hle:=List.findIdx_le_length (p:=p) (xs:=l)
  obtain ⟨i0,hi0⟩:∃ i0,i0 = l.findIdx p:=⟨_,rfl⟩
  have e2:fstL p l = i0:=by rw [fstL,if_neg hn,hi0]
  have ht:=takeFstL p l (by omega)
  rw [← hi0] at ht hn hle
  rw [e2]
  simp -dsimp (maxSteps:=4000000) +contextual (disch:=first | omega | decide +kernel) only [↓vsD,vsE,↓Nat.reduceLT,simprocAttr]
  refine v_loopS (fun s:Nat × Nat × List (List Int)=>[(0,.msl o v),(1,.func (.func F) [] cap),(5,.int .i64 s.1),(6,.int .i64 s.2.1)]) (fun s=>σ'.set o (.rows 29 1 (encLL s.2.2) v)) (fun s=>s.1 < s.2.1 ∧ s.2.1 ≤ l.length ∧ s.2.2.length = l.length ∧ s.2.2.take s.1 = (l.take s.2.1).filter (fun x=>!p x) ∧ s.2.2.drop s.2.1 = l.drop s.2.1) (fun s=>l.length - s.2.1) (i0,i0 + 1,l) (by simp [weaker,Go.PV.look]) hset ⟨by simp,by dsimp only; omega,rfl,ht.symm,rfl⟩ ?_
  rintro ⟨i,j,M⟩ ⟨hij,hj,hM,ht1,ht2⟩
  dsimp only at hij hj hM ht1 ht2 ⊢
  by_cases hjl:j < l.length
  ·obtain ⟨d1,d2⟩:=drop_getDL l M j hjl ht2
   have hf:=filter_takeL (fun x=>!p x) l j hjl
   simp -dsimp (maxSteps:=4000000) +contextual (disch:=first | omega | decide +kernel) only [↓vsD,vsE,↓Nat.reduceLT,simprocAttr,encLL_length,encLL_getD,hs,hM]
   refine PCall.mono (hF (M.getD j []) _) ?_
   rintro q σ'' ⟨rfl,rfl⟩
   obtain ⟨b,hb⟩:∃ b,p (M.getD j []) = b:=⟨_,rfl⟩
   rw [hb]
   cases b with
   | true =>
    simp -dsimp (maxSteps:=4000000) +contextual (disch:=first | omega | decide +kernel) only [↓vsD,vsE,↓Nat.reduceLT,simprocAttr,hs]
    refine ⟨(i,j + 1,M),(by (try dsimp only); omega),(by simp [weaker,Go.PV.look]),rfl,by dsimp only; omega,by dsimp only; omega,hM,?_,d2⟩
    rw [hf,if_neg (by rw [← d1,hb]; simp)]
    exact ht1
   | false =>
    simp -dsimp (maxSteps:=4000000) +contextual (disch:=first | omega | decide +kernel) only [↓vsD,vsE,↓Nat.reduceLT,simprocAttr,vcel,encLL_length,encLL_getD,hs,hM]
    refine ⟨(i + 1,j + 1,M.set i (M.getD j [])),(by (try dsimp only); omega),(by simp [weaker,Go.PV.look]),by simp [encLL_set],by dsimp only; omega,by dsimp only; omega,by rw [List.length_set]; exact hM,?_,?_⟩
    ·rw [hf,if_pos (by rw [← d1,hb]; rfl),take_set_appB _ _ _ (by omega),ht1,d1]
    ·dsimp only
     rw [drop_set_ltB _ _ _ _ (by omega)]
     exact d2
  ·have hjz:j = l.length:=by omega
   subst hjz
   rw [List.take_length] at ht1
   have hall:List.all [PV.nils] PV.cell = true:=rfl
   simp -dsimp (maxSteps:=4000000) +contextual (disch:=first | omega | decide +kernel) only [↓vsD,vsE,↓Nat.reduceLT,simprocAttr,encLL_length,hs,hM,hall,Bool.or_false,Bool.true_or,List.set_set,List.length_append,List.length_take,List.length_replicate]
   refine ⟨v + 1,rfl,?_⟩
   rw [List.take_append_of_le_length (by rw [List.length_take,encLL_length]; omega),List.take_take,Nat.min_self,encLL_take,ht1]
end Go.Proofs.Ytangodmcbmeeaaa
