import Derived.Test.YthjoehaglonjaaaSuD
set_option maxRecDepth 8000
set_option linter.unusedSimpArgs false
set_option linter.unusedVariables false
namespace Go.Proofs.Ythjoehaglonjaaa
open Go.PV
theorem newS_on (l:List Int) (n:Nat) (σ:Store):PCall Try.prog 11 [.sl (PV.encI .u8 l),.int .i64 n] σ (fun p σ'=>p = .ptr σ.length 0 0 0 ∧ σ' = σ ++ [codes (l.take n) 0]):=by
 refine PCall.vraw [] 287 15 [.tmp 4] (noE_ok _) mix Try.func11 rfl (by decide) rfl rfl (by simp) ?_
 simp -dsimp only [initFr,List.zipIdx_cons,List.zipIdx_nil,List.map_cons,List.map_nil,Nat.zero_add,Nat.reduceAdd]
 simp -dsimp (maxSteps:=4000000) +contextual (disch:=first | omega | decide +kernel) only [↓vsD,vsE,↓Nat.reduceLT,simprocAttr,enc_length,enc_all,enc_take]
 exact ⟨fun h=>rfl,fun h=>by rw [List.take_of_length_le (show l.length ≤ n by omega)]; rfl⟩
theorem FilR.congr {N M:Nat} {S T:StS} {L K:List Pc} (h:FilR N S L) (h2:FilR M T K) (he:∀ p,p ∈ L ↔ p ∈ K):S = T:=by
 refine h.s.uniq (h2.s.congr (fun s=>?_))
 simp only [List.mem_map]
 exact ⟨fun ⟨p,hp,e⟩=>⟨p,(he p).2 hp,e⟩,fun ⟨p,hp,e⟩=>⟨p,(he p).1 hp,e⟩⟩
theorem FilR.emp:FilR 0 ⟨[],[]⟩ []:=⟨Nat.zero_le _,Sf.empty,fun p h=>by simp at h⟩
theorem fm_on {N M:Nat} {S T:StS} {L K:List Pc} (h:FilR N S L) (h2:FilR M T K) (hn:N + M ≤ 20) (σ:Store) :
  PCall Try.prog 22 [.agg [.sl (encP S.ps),.sl (encD S.cs)],.agg [.sl (encP T.ps),.sl (encD T.cs)]] σ (fun q τ=>(∃ m,FilR (N + M) m (L ++ K) ∧ q = .tup [.agg [.sl (encP m.ps),.sl (encD m.cs)],.int .i64 0]) ∧ τ = σ):=fmerge_on h h2 hn σ
noncomputable def stOf (L:List Pc):StS:=@dite _ (∃ m,Sf m (L.map oneS)) (Classical.propDecidable _) (fun h=>Classical.choose h) (fun _=>default)
theorem stOf_of {L:List Pc} {m:StS} (h:Sf m (L.map oneS)):stOf L = m:=by
 have he:∃ m,Sf m (L.map oneS):=⟨m,h⟩
 unfold stOf
 rw [dif_pos he]
 exact (Classical.choose_spec he).uniq h
noncomputable def rowS (L:List Pc):List PV:=match L with | []=>[.nils,.nils] | p :: L=>[.sl (encP (stOf (p :: L)).ps),.sl (encD (stOf (p :: L)).cs)]
theorem rowS_len (L:List Pc):(rowS L).length = 2:=by cases L <;> rfl
theorem rowS_take (L:List Pc):(rowS L).take 2 = rowS L:=by cases L <;> rfl
theorem rowS_drop (L:List Pc):(rowS L).drop 2 = []:=by cases L <;> rfl
theorem rowS_pos {L:List Pc} (h:L ≠ []):rowS L = [.sl (encP (stOf L).ps),.sl (encD (stOf L).cs)]:=by
 cases L with
 | nil=>exact absurd rfl h
 | cons p L=>rfl
theorem rowS_all (L:List Pc):(rowS L).all PV.cell = true:=by cases L <;> rfl
def GoL (L:List Pc):Prop:=FilR L.length (stOf L) L
theorem FilR.go {N:Nat} {S:StS} {L:List Pc} (h:FilR N S L):GoL L:=by
 have e:=stOf_of h.s
 unfold GoL
 rw [e]
 exact ⟨Nat.le_refl _,h.s,h.d⟩
theorem GoL.nil:GoL []:=FilR.emp.go
theorem frzn_row {L:List Pc} (h:GoL L) (zs:List Nat) (σ:Store):Frzn zs σ (.agg (rowS L)) (stV (stOf L)):=by
 cases L with
 | nil =>
  have:stOf [] = ⟨[],[]⟩:=stOf_of Sf.empty
  rw [this]
  exact frzn_emp _ _
 | cons p L=>exact .keep _
theorem addR {L:List Pc} (h:GoL L) (hl:L.length ≤ 18) {p:Pc} (hp:DrP p) (σ:Store) :
  PCall Try.prog 17 [.agg (rowS L),.agg p.row] σ (fun q τ=>q = .tup [.agg [.sl (encP (stOf (L ++ [p])).ps),.sl (encD (stOf (L ++ [p])).cs)],.int .i64 0] ∧ τ = σ):=by
 refine PCall.frz [] (args2:=[stV (stOf L),.agg p.row]) (PCall.mono (fadd_on (h.le (Nat.le_succ _)) (by omega) (Nat.le_refl _) hp _) ?_) rfl (fun j a b h1 h2=>?_)
 ·rintro q τ ⟨⟨m,hm,rfl⟩,rfl⟩
  rw [stOf_of hm.s]
  exact ⟨rfl,rfl⟩
 ·match j,h1,h2 with
  | 0,h1,h2=>simp at h1 h2; subst h1 h2; exact frzn_row h _ _
  | 1,h1,h2=>simp at h1 h2; subst h1 h2; exact .keep _
  | j + 2,h1,h2=>simp at h1
theorem mergeR {L K:List Pc} (h:GoL L) (h2:GoL K) (hl:L.length + K.length ≤ 20) (σ:Store) :
  PCall Try.prog 22 [.agg (rowS L),.agg (rowS K)] σ (fun q τ=>q = .tup [.agg [.sl (encP (stOf (L ++ K)).ps),.sl (encD (stOf (L ++ K)).cs)],.int .i64 0] ∧ τ = σ):=by
 refine PCall.frz [] (args2:=[stV (stOf L),stV (stOf K)]) (PCall.mono (fmerge_on h h2 hl _) ?_) rfl (fun j a b h1 h3=>?_)
 ·rintro q τ ⟨⟨m,hm,rfl⟩,rfl⟩
  rw [stOf_of hm.s]
  exact ⟨rfl,rfl⟩
 ·match j,h1,h3 with
  | 0,h1,h3=>simp at h1 h3; subst h1 h3; exact frzn_row h _ _
  | 1,h1,h3=>simp at h1 h3; subst h1 h3; exact frzn_row h2 _ _
  | j + 2,h1,h3=>simp at h1
theorem GoL.app {L:List Pc} (h:GoL L):∀ K:List Pc,(∀ p ∈ K,DrP p) → GoL (L ++ K):=by
 intro K
 induction K generalizing L with
 | nil=>intro _; rw [List.append_nil]; exact h
 | cons p K ih =>
  intro hK
  obtain ⟨m,hm⟩:=sf_ex h.s.ok (oneS_ok (hK p (by simp)).ok).o
  have:=ih (L:=L ++ [p]) ((h.le (Nat.le_succ _)).push (Nat.le_refl _) (hK p (by simp)) hm).go (fun q hq=>hK q (by simp [hq]))
  rwa [List.append_assoc] at this
theorem goL (L:List Pc) (h:∀ p ∈ L,DrP p):GoL L:=GoL.nil.app L h
theorem stOf_congr {L K:List Pc} (h:GoL L) (h2:GoL K) (he:∀ p,p ∈ L ↔ p ∈ K):stOf L = stOf K:=FilR.congr h h2 he
theorem rowS_snoc (L:List Pc) (p:Pc):[.sl (encP (stOf (L ++ [p])).ps),.sl (encD (stOf (L ++ [p])).cs)] = rowS (L ++ [p]):=(rowS_pos (by simp)).symm
theorem validRow {L:List Pc} (h:GoL L) (hl:L.length ≤ 200) (σ:Store):PCall Try.prog 15 [.agg (rowS L)] σ (fun q τ=>q = .bool true ∧ τ = σ):=by
 refine PCall.frz [] (args2:=[stV (stOf L)]) (PCall.mono (sval_on _ (FilR.fit h hl) _) ?_) rfl (fun j a b e1 e2=>?_)
 ·rintro q τ ⟨rfl,rfl⟩
  rw [stB_t (FilR.ok h hl)]
  exact ⟨rfl,rfl⟩
 ·match j,e1,e2 with
  | 0,e1,e2=>simp at e1 e2; subst e1 e2; exact frzn_row h _ _
  | j + 1,e1,e2=>simp at e1
end Go.Proofs.Ythjoehaglonjaaa
