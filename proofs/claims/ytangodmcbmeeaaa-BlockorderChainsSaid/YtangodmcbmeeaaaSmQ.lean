import Derived.Test.YtangodmcbmeeaaaSmP
set_option maxRecDepth 8000
set_option linter.unusedSimpArgs false
set_option linter.unusedVariables false
namespace Go.Proofs.Ytangodmcbmeeaaa
structure Stb {α:Type} (lt:α → α → Bool) (l r:List α):Prop where
 s:SortedL lt r
 f:∀ z,r.filter (alike lt z) = l.filter (alike lt z)
 p:r.Perm l
section
variable {α:Type} {lt:α → α → Bool}
theorem mrg_perm:∀ (X Y:List α),(mrg lt X Y).Perm (X ++ Y)
 | [],Y=>by rw [nil_mrg]; exact .refl _
 | x :: X,[]=>by rw [mrg_nil,List.append_nil]
 | x :: X,y :: Y=>by
  rw [mrg_cons]
  split
  ·exact ((mrg_perm (x :: X) Y).cons y).trans (List.perm_middle (l₁:=x :: X) (l₂:=Y) (a:=y)).symm
  ·exact (mrg_perm X (y :: Y)).cons x
termination_by X Y=>X.length + Y.length
theorem mrg_length (X Y:List α):(mrg lt X Y).length = X.length + Y.length:=by
 rw [(mrg_perm (lt:=lt) X Y).length_eq,List.length_append]
theorem Stb.nil:Stb lt ([]:List α) []:=⟨List.Pairwise.nil,fun _=>rfl,.refl _⟩
theorem Stb.one (x:α):Stb lt [x] [x]:=⟨List.pairwise_singleton _ _,fun _=>rfl,.refl _⟩
theorem Stb.mrg (hw:Weak lt) {X Y R S:List α} (h:Stb lt X R) (k:Stb lt Y S):Stb lt (X ++ Y) (mrg lt R S) :=
 ⟨mrg_sorted hw R S h.s k.s,fun z=>by rw [mrg_filter hw z R S h.s k.s,List.filter_append,h.f,k.f],(mrg_perm R S).trans (h.p.append k.p)⟩
theorem Stb.len {X R:List α} (h:Stb lt X R):R.length = X.length:=h.p.length_eq
theorem Stb.uniq (hw:Weak lt) {X R S:List α} (h:Stb lt X R) (k:Stb lt X S):R = S :=
 stable_uniq hw R S h.s k.s (fun z=>by rw [h.f,k.f])
end
section
variable {α:Type} [Inhabited α] {lt:α → α → Bool}
def insA (lt:α → α → Bool) (a:Nat):Nat → List α → List α
 | 0,D=>D
 | n + 1,D=>if lt (D.getD (a + n + 1) default) (D.getD (a + n) default) = true then insA lt a n (sw2 D (a + n + 1) (a + n)) else D
theorem insA_length (a:Nat):∀ (n:Nat) (D:List α),(insA lt a n D).length = D.length
 | 0,_=>rfl
 | n + 1,D=>by
  rw [insA]
  split
  ·rw [insA_length,sw2_length]
  ·rfl
theorem sw2_comm (D:List α) (x y:Nat) (h:x ≠ y):sw2 D x y = sw2 D y x:=by
 unfold sw2
 exact List.set_comm _ _ h
theorem insA_at (hw:Weak lt):∀ (n:Nat) (A R:List α) (x:α) (B:List α),R.length = n → SortedL lt R → insA lt A.length n (A ++ (R ++ x :: B)) = A ++ (mrg lt R [x] ++ B)
 | 0,A,R,x,B,hn,_=>by
  have:R = []:=List.eq_nil_of_length_eq_zero hn
  subst this
  rw [insA,nil_mrg]; rfl
 | n + 1,A,R,x,B,hn,hs=>by
  obtain ⟨R1,p,rfl⟩:∃ R1 p,R = R1 ++ [p]:=by
   have hne:R ≠ []:=fun e=>by rw [e] at hn; simp at hn
   exact ⟨R.dropLast,R.getLast hne,(List.dropLast_concat_getLast hne).symm⟩
  have hl:R1.length = n:=by simpa using hn
  have hs1:SortedL lt R1:=(List.pairwise_append.1 hs).1
  have g1:(A ++ (R1 ++ [p] ++ x :: B)).getD (A.length + n + 1) default = x:=by
   rw [List.getD_eq_getElem?_getD,List.getElem?_append_right (by omega),List.getElem?_append_right (by simp; omega)]
   simp [hl,show A.length + n + 1 - A.length - (n + 1) = 0 by omega]
  have g2:(A ++ (R1 ++ [p] ++ x :: B)).getD (A.length + n) default = p:=by
   rw [List.getD_eq_getElem?_getD,List.getElem?_append_right (by omega),List.append_assoc,List.getElem?_append_right (by omega)]
   simp [hl]
  rw [insA,g1,g2]
  split
  ·rename_i hlt
   have e:=sw2_at (A ++ R1) [] B p x
   simp only [List.nil_append,List.length_nil,Nat.add_zero,List.length_append,hl,List.append_assoc] at e
   rw [sw2_comm _ _ _ (by omega),show A ++ (R1 ++ [p] ++ x :: B) = A ++ (R1 ++ p :: x :: B) by simp,e,insA_at hw n A R1 x (p :: B) hl hs1]
   have:mrg lt (R1 ++ [p]) ([x] ++ []) = mrg lt R1 [x] ++ mrg lt [p] []:=mrg_split lt R1 [p] [x] [] (fun a _ b hb=>by simp at hb) (fun a ha b hb=>by
    rw [List.mem_singleton] at ha hb
    rw [ha,hb]; exact hlt)
   rw [List.append_nil,mrg_nil] at this
   rw [this]
   simp
  ·rename_i hlt
   have hxp:lt x p = false:=by simpa using hlt
   have:mrg lt (R1 ++ [p]) [x] = (R1 ++ [p]) ++ [x]:=by
    have h:=mrg_left lt (y:=x) (Y:=[]) (R1 ++ [p]) [] (fun a ha=>by
     rcases List.mem_append.1 ha with h1 | h1
     ·exact hw.nt _ _ _ ((List.pairwise_append.1 hs).2.2 a h1 p (by simp)) hxp
     ·rw [List.mem_singleton] at h1; rw [h1]; exact hxp)
    rw [List.append_nil,nil_mrg] at h
    exact h
   rw [this]
   simp
end
section
variable {α:Type} {lt:α → α → Bool}
inductive Runs (lt:α → α → Bool) (n:Nat):List α → List α → Prop
 | last {X R:List α}:X.length ≤ n → Stb lt X R → Runs lt n X R
 | cons {X R Y S:List α}:X.length = n → Stb lt X R → Runs lt n Y S → Runs lt n (X ++ Y) (R ++ S)
theorem Runs.perm {n:Nat} {X R:List α} (h:Runs lt n X R):R.Perm X:=by
 induction h with
 | last _ h=>exact h.p
 | cons _ h _ ih=>exact h.p.append ih
theorem Runs.len {n:Nat} {X R:List α} (h:Runs lt n X R):R.length = X.length:=h.perm.length_eq
theorem Runs.one {n:Nat} {X R:List α} (h:Runs lt n X R) (hl:X.length ≤ n):Stb lt X R:=by
 cases h with
 | last _ h=>exact h
 | @cons X1 R1 Y S h1 h2 h3 =>
  rw [List.length_append] at hl
  have hY:Y = []:=List.eq_nil_of_length_eq_zero (by omega)
  subst hY
  have hS:S = []:=List.eq_nil_of_length_eq_zero (by rw [h3.len]; rfl)
  subst hS
  rw [List.append_nil,List.append_nil]; exact h2
theorem Runs.first {n:Nat} {X R:List α} (h:Runs lt n X R) (hl:n ≤ X.length):∃ X1 R1 Y S,X = X1 ++ Y ∧ R = R1 ++ S ∧ X1.length = n ∧ Stb lt X1 R1 ∧ Runs lt n Y S:=by
 cases h with
 | last h1 h2=>exact ⟨X,R,[],[],by simp,by simp,by omega,h2,.last (Nat.zero_le _) .nil⟩
 | cons h1 h2 h3=>exact ⟨_,_,_,_,rfl,rfl,h1,h2,h3⟩
def Pre (lt:α → α → Bool) (n:Nat) (XA A:List α):Prop:=A.length = XA.length ∧ ∀ Y S,Runs lt n Y S → Runs lt n (XA ++ Y) (A ++ S)
theorem Pre.nil (n:Nat):Pre lt n ([]:List α) []:=⟨rfl,fun _ _ h=>h⟩
theorem Pre.snoc {n:Nat} {XA A X R:List α} (h:Pre lt n XA A) (hl:X.length = n) (hR:Stb lt X R):Pre lt n (XA ++ X) (A ++ R) :=
 ⟨by rw [List.length_append,List.length_append,h.1,hR.len],fun Y S k=>by rw [List.append_assoc,List.append_assoc]; exact h.2 _ _ (.cons hl hR k)⟩
theorem Pre.last {n:Nat} {XA A X R:List α} (h:Pre lt n XA A) (hl:X.length ≤ n) (hR:Stb lt X R):Runs lt n (XA ++ X) (A ++ R):=h.2 _ _ (.last hl hR)
end
end Go.Proofs.Ytangodmcbmeeaaa
