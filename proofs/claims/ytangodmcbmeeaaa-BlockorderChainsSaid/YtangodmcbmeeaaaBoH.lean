import Derived.Test.YtangodmcbmeeaaaBoG
set_option maxRecDepth 8000
set_option linter.unusedSimpArgs false
set_option linter.unusedVariables false
namespace Go.Proofs.Ytangodmcbmeeaaa
open Go.PV
def stb {α:Type} (lt:α → α → Bool) (l:List α):List α:=l.foldl (fun P c=>mrg lt P [c]) []
theorem stb_all {α:Type} {lt:α → α → Bool} (hw:Weak lt) (l:List α):Stb lt l (stb lt l):=by
 have h:∀ (l X P:List α),Stb lt X P → Stb lt (X ++ l) (l.foldl (fun P c=>mrg lt P [c]) P):=by
  intro l
  induction l with
  | nil=>intro X P hP; rw [List.append_nil]; exact hP
  | cons c l ih =>
   intro X P hP
   have:=ih (X ++ [c]) (mrg lt P [c]) (hP.mrg hw (.one c))
   rwa [List.append_assoc] at this
 have:=h l [] [] .nil
 rwa [List.nil_append] at this
def hdG (k:Nat) (g:ChG):PV:=if g.1 = [] then .nils else .msl (k + 4) g.2
def encG (gs:List ChG):List (List PV):=gs.mapIdx fun k g=>[hdG k g]
theorem encG_length (gs:List ChG):(encG gs).length = gs.length:=by simp [encG]
theorem encG_getD (gs:List ChG) (k:Nat) (h:k < gs.length):(encG gs).getD k [] = [hdG k (gs.getD k default)]:=by
 simp [encG,List.getD_eq_getElem?_getD,h]
theorem encG_set (gs:List ChG) (k:Nat) (g:ChG):(encG gs).set k [hdG k g] = encG (gs.set k g):=by
 apply List.ext_getElem?
 intro j
 simp only [encG,List.getElem?_set,List.getElem?_mapIdx,List.length_mapIdx]
 by_cases h:k = j
 ·subst h
  by_cases h2:k < gs.length
  ·simp [h2]
  ·simp [h2]
 ·simp [h]
theorem hdG_nil {k:Nat} {g:ChG} (h:g.1 = []):hdG k g = .nils:=by rw [hdG,if_pos h]
theorem hdG_ne {k:Nat} {g:ChG} (h:g.1 ≠ []):hdG k g = .msl (k + 4) g.2:=by rw [hdG,if_neg h]
def QG (gs:List ChG) (Q:Store):Prop:=∀ k,k < gs.length → (gs.getD k default).1 ≠ [] → Q[k]? = some (.rows 3 1 (ints (gs.getD k default).1) (gs.getD k default).2)
def gsA (n k:Nat):List ChG:=(List.range n).map fun x:Nat=>if x < k then ([(x:Int)],0) else ([],0)
theorem gsA_length (n k:Nat):(gsA n k).length = n:=by simp [gsA]
theorem gsA_set (n k:Nat) (h:k < n):(gsA n k).set k ([(k:Int)],0) = gsA n (k + 1):=by
 apply List.ext_getElem?
 intro j
 rw [List.getElem?_set]
 simp only [gsA,List.length_map,List.length_range,List.getElem?_map]
 by_cases hj:k = j
 ·subst hj
  rw [if_pos rfl,if_pos h,List.getElem?_range h]
  simp
 ·rw [if_neg hj]
  by_cases hjn:j < n
  ·rw [List.getElem?_range hjn]
   simp only [Option.map_some]
   by_cases h1:j < k
   ·rw [if_pos h1,if_pos (by omega)]
   ·rw [if_neg h1,if_neg (by omega)]
  ·rw [List.getElem?_eq_none (by simpa using hjn)]; rfl
theorem gsA_none (n:Nat):List.replicate n [PV.nils] = encG (gsA n 0):=by
 apply List.ext_getElem?
 intro j
 by_cases hj:j < n
 ·simp [encG,gsA,hj,hdG]
 ·simp [encG,gsA,hj]
def qA (k:Nat):Store:=(List.range k).map fun x:Nat=>.rows 3 1 (ints [(x:Int)]) 0
theorem qA_length (k:Nat):(qA k).length = k:=by simp [qA]
theorem qA_succ (k:Nat):qA (k + 1) = qA k ++ [.rows 3 1 (ints [(k:Int)]) 0]:=by simp [qA,List.range_succ]
theorem encG_set1 (gs:List ChG) (k:Nat) (l:List Int) (v:Nat) (h:l ≠ []):(encG gs).set k [.msl (k + 4) v] = encG (gs.set k (l,v)):=by
 have:=encG_set gs k (l,v)
 rwa [hdG_ne h] at this
theorem encG_set0 (gs:List ChG) (k:Nat):(encG gs).set k [.nils] = encG (gs.set k ([],0)):=encG_set gs k ([],0)
theorem qA_QG (n:Nat):QG (gsA n n) (qA n):=by
 intro k hk _
 rw [gsA_length] at hk
 simp [gsA,qA,List.getD_eq_getElem?_getD,hk]
theorem gsA_all (n:Nat):(⟨gsA n n,natB n⟩:CS) = initC n:=by
 unfold initC gsA
 congr 1
 apply List.map_congr_left
 intro x hx
 rw [if_pos (List.mem_range.1 hx)]
theorem QG.join {gs:List ChG} {Q:Store} (h:QG gs Q) {x y:Nat} (hx:x < gs.length) (hy:y < gs.length) (hxe:(gs.getD x default).1 ≠ []) (g:List Int) (v:Nat):QG ((gs.set x (g,v)).set y ([],0)) (Q.set x (.rows 3 1 (ints g) v)):=by
 intro k hk he
 rw [List.length_set,List.length_set] at hk
 rw [getD_setB _ _ _ _ _ (by rw [List.length_set]; exact hy),getD_setB _ _ _ _ _ hx] at he ⊢
 by_cases h1:y = k
 ·rw [if_pos h1] at he
  exact absurd rfl he
 ·rw [if_neg h1] at he ⊢
  by_cases h2:x = k
  ·subst h2
   rw [if_pos rfl] at he ⊢
   exact List.getElem?_set_self (List.getElem?_eq_some_iff.1 (h x hx hxe)).1
  ·rw [if_neg h2] at he ⊢
   rw [List.getElem?_set_ne h2]
   exact h k hk he
theorem QG.app {gs:List ChG} {Q:Store} (h:QG gs Q) (X:Store):QG gs (Q ++ X):=fun k hk he=>by
 have:=h k hk he
 rw [List.getElem?_append_left (List.getElem?_eq_some_iff.1 this).1,this]
theorem QG.setO {gs:List ChG} {Q:Store} (h:QG gs Q) {o:Nat} (ho:gs.length ≤ o) (X:Go.PV.Obj):QG gs (Q.set o X):=fun k hk he=>by
 rw [List.getElem?_set_ne (by omega)]
 exact h k hk he
def chS (fb cb:Go.PV.Obj) (s:CS) (Q:Store):Store:=fb :: cb :: .rows 3 1 (ints s.of) 0 :: .rows 29 1 (encG s.gs) 0 :: Q
def zsC (n:Nat):List Nat:=3 :: (List.range n).map (· + 4)
theorem heads_frz {fb cb:Go.PV.Obj} {s:CS} {Q:Store} {n:Nat} (hn:s.gs.length = n) (hQ:QG s.gs Q):Frzn (zsC n) (chS fb cb s Q) (.msl 3 0) (.sl (encLL (s.gs.map (·.1)))):=by
 refine .msl 3 0 29 1 (encG s.gs) _ (by simp [zsC]) rfl (by rw [encLL_length,List.length_map,encG_length]) (fun i row hi=>?_) (fun i row j p hi hj=>?_)
 ·have hil:i < s.gs.length:=by have:=(List.getElem?_eq_some_iff.1 hi).1; rwa [encG_length] at this
  rw [encLL_getD _ _ (by rw [List.length_map]; exact hil)]
  rw [encG,List.getElem?_mapIdx,List.getElem?_eq_getElem hil] at hi
  cases hi; rfl
 ·have hil:i < s.gs.length:=by have:=(List.getElem?_eq_some_iff.1 hi).1; rwa [encG_length] at this
  have e1:(s.gs.map (·.1)).getD i [] = (s.gs.getD i default).1:=by
   rw [getDB (by rw [List.length_map]; exact hil),getDB hil,List.getElem_map]
  rw [encLL_getD _ _ (by rw [List.length_map]; exact hil),e1]
  rw [encG,List.getElem?_mapIdx,List.getElem?_eq_getElem hil,← getDB (d:=default) hil] at hi
  simp only [Option.map_some,Option.some.injEq] at hi
  subst hi
  match j,hj with
  | 0,hj =>
   cases hj
   by_cases he:(s.gs.getD i default).1 = []
   ·rw [hdG_nil he,he]; exact .nils
   ·rw [hdG_ne he]
    exact .msl0 (elem:=3) (sz:=1) (by rw [zsC]; exact List.mem_cons_of_mem _ (List.mem_map.2 ⟨i,List.mem_range.2 (by omega),rfl⟩)) (hQ i hil he)
theorem isEmpty_ok (x:List Int) (σ:Store):PCall Try.prog 62 [.sl (ints x)] σ (fun p τ=>p = .bool (decide (x = [])) ∧ τ = σ):=by
 refine PCall.vraw [] 7 6 [.tmp 2] (noE_ok _) mix Try.func62 rfl (by decide) rfl rfl (by simp) ?_
 simp -dsimp only [initFr,List.zipIdx_cons,List.zipIdx_nil,List.map_cons,List.map_nil,Nat.zero_add,Nat.reduceAdd]
 simp -dsimp (maxSteps:=4000000) +contextual (disch:=first | omega | decide +kernel) only [↓vsD,vsE,↓Nat.reduceLT,simprocAttr,intsB_len]
 refine ⟨fun h=>?_,fun h=>?_⟩
 ·have hx:x = []:=List.eq_nil_of_length_eq_zero (by omega)
  rw [hx]; rfl
 ·rw [decide_eq_false (fun e=>h (by rw [e]; rfl))]
end Go.Proofs.Ytangodmcbmeeaaa
