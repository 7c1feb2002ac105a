import Derived.Test.YthjoehaglonjaaaTy
import Derived.Test.YthjoehaglonjaaaEnA
import Derived.Test.YthjoehaglonjaaaPvY
set_option maxRecDepth 8000
set_option linter.unusedSimpArgs false
set_option linter.unusedVariables false
namespace Go.Proofs.Ythjoehaglonjaaa
open Go.PV
def encT (l:List (Int × Int)):List (List PV):=l.map fun t=>[.int .i64 t.1,.int .i64 t.2]
theorem encT_length (l:List (Int × Int)):(encT l).length = l.length:=by simp [encT]
theorem encT_getD (l:List (Int × Int)) (i:Nat) (h:i < l.length):(encT l).getD i [] = [.int .i64 (l.getD i (0,0)).1,.int .i64 (l.getD i (0,0)).2]:=by simp [encT,List.getD_eq_getElem?_getD,h]
theorem encT_bel (n:Nat) (l:List (Int × Int)):∀ row ∈ encT l,∀ p ∈ row,Bel n p:=fun row hr p hp=>by
 simp only [encT,List.mem_map] at hr
 obtain ⟨t,_,rfl⟩:=hr
 simp only [List.mem_cons,List.not_mem_nil,or_false] at hp
 rcases hp with rfl | rfl <;> exact bel_int _ _ _
theorem bel_pairs (k:Nat) (l:List (Int × Int)):Bel k (.sl (encT l)):=bel_sl (encT_bel _ _)
structure Site where
 blk:Int
 ins:Int
 tg:List (Int × Int)
instance:Inhabited Site:=⟨⟨0,0,[]⟩⟩
def Site.row (s:Site):List PV:=[.int .i64 s.blk,.int .i64 s.ins,.sl (encT s.tg)]
def encS (l:List Site):List (List PV):=l.map Site.row
theorem encS_length (l:List Site):(encS l).length = l.length:=by simp [encS]
theorem encS_getD (l:List Site) (i:Nat) (h:i < l.length):(encS l).getD i [] = [.int .i64 (l.getD i default).blk,.int .i64 (l.getD i default).ins,.sl (encT (l.getD i default).tg)]:=by simp [encS,Site.row,List.getD_eq_getElem?_getD,h]
theorem encS_bel (n:Nat) (l:List Site):∀ row ∈ encS l,∀ p ∈ row,Bel n p:=fun row hr p hp=>by
 simp only [encS,List.mem_map] at hr
 obtain ⟨s,_,rfl⟩:=hr
 simp only [Site.row,List.mem_cons,List.not_mem_nil,or_false] at hp
 rcases hp with rfl | rfl | rfl
 ·exact bel_int _ _ _
 ·exact bel_int _ _ _
 ·exact bel_pairs _ _
theorem bel_sites (k:Nat) (l:List Site):Bel k (.sl (encS l)):=bel_sl (encS_bel _ _)
structure FC where
 ent:Int
 blocks:List Int
 edges:List (Int × Int)
 sites:List Site
instance:Inhabited FC:=⟨⟨0,[],[],[]⟩⟩
def FC.row (x:FC):List PV:=[.int .i64 x.ent,.sl (ints x.blocks),.sl (encT x.edges),.sl (encS x.sites)]
theorem FC.row_bel (x:FC) (n:Nat):∀ p ∈ x.row,Bel n p:=fun p hp=>by
 simp only [FC.row,List.mem_cons,List.not_mem_nil,or_false] at hp
 rcases hp with rfl | rfl | rfl | rfl
 ·exact bel_int _ _ _
 ·exact bel_ints _ _
 ·exact bel_pairs _ _
 ·exact bel_sites _ _
def encF (l:List FC):List (List PV):=l.map FC.row
theorem encF_length (l:List FC):(encF l).length = l.length:=by simp [encF]
theorem encF_getD (l:List FC) (i:Nat) (h:i < l.length):(encF l).getD i [] = [.int .i64 (l.getD i default).ent,.sl (ints (l.getD i default).blocks),.sl (encT (l.getD i default).edges),.sl (encS (l.getD i default).sites)]:=by simp [encF,FC.row,List.getD_eq_getElem?_getD,h]
theorem encF_bel (n:Nat) (l:List FC):∀ row ∈ encF l,∀ p ∈ row,Bel n p:=fun row hr p hp=>by
 simp only [encF,List.mem_map] at hr
 obtain ⟨s,_,rfl⟩:=hr
 exact s.row_bel n p hp
def encC (l:List FC):List (List PV):=l.map fun x=>[.sl [x.row]]
theorem encC_length (l:List FC):(encC l).length = l.length:=by simp [encC]
theorem encC_getD (l:List FC) (i:Nat) (h:i < l.length):(encC l).getD i [] = [.sl [(l.getD i default).row]]:=by simp [encC,List.getD_eq_getElem?_getD,h]
theorem encC_bel (n:Nat) (l:List FC):∀ row ∈ encC l,∀ p ∈ row,Bel n p:=fun row hr p hp=>by
 simp only [encC,List.mem_map] at hr
 obtain ⟨s,_,rfl⟩:=hr
 rw [List.mem_singleton] at hp
 rw [hp]
 exact bel_sl (fun row hr p hp=>by rw [List.mem_singleton] at hr; rw [hr] at hp; exact s.row_bel _ p hp)
def validR (num den:Int):Prop:=0 ≤ num ∧ num ≤ den ∧ 1 ≤ den ∧ den ≤ 4
def ageOk (n:Int):Prop:=0 ≤ n ∧ n ≤ 8
instance (num den:Int):Decidable (validR num den):=by unfold validR; infer_instance
instance (n:Int):Decidable (ageOk n):=by unfold ageOk; infer_instance
theorem pow_small {b:Int} {n:Nat} (h0:0 ≤ b) (h4:b ≤ 4) (hn:n ≤ 8):0 ≤ b ^ n ∧ b ^ n ≤ 65536:=by
 have h:∀ n:Nat,0 ≤ b ^ n ∧ b ^ n ≤ 4 ^ n:=by
  intro n
  induction n with
  | zero=>simp
  | succ n ih =>
   rw [Int.pow_succ,Int.pow_succ]
   exact ⟨Int.mul_nonneg ih.1 h0,Int.mul_le_mul ih.2 h4 h0 (Int.le_trans ih.1 ih.2)⟩
 refine ⟨(h n).1,Int.le_trans (h n).2 ?_⟩
 have:∀ n,n ≤ 8 → (4:Int) ^ n ≤ 65536:=by decide
 exact this n hn
def factorK (num den age:Int):PV:=if validR num den ∧ ageOk age then .tup [.int .i64 (num ^ age.toNat),.int .i64 (den ^ age.toNat),.int .i64 0] else .tup [.int .i64 0,.int .i64 0,.int .i64 1]
theorem factorK_yes {num den age:Int} (h:validR num den ∧ ageOk age):factorK num den age = .tup [.int .i64 (num ^ age.toNat),.int .i64 (den ^ age.toNat),.int .i64 0]:=if_pos h
theorem factorK_no {num den age:Int} (h:¬ (validR num den ∧ ageOk age)):factorK num den age = .tup [.int .i64 0,.int .i64 0,.int .i64 1]:=if_neg h
theorem bel_factorK (k:Nat) (num den age:Int):Bel k (factorK num den age):=by
 unfold factorK
 split <;> exact bel_tup3 (bel_int _ _ _) (bel_int _ _ _) (bel_int _ _ _)
def sumTo (f:Nat → Int):Nat → Int
 | 0=>0
 | k + 1=>sumTo f k + f k
def anyTo (p:Nat → Bool):Nat → Bool
 | 0=>false
 | k + 1=>anyTo p k || p k
theorem sumTo_nonneg {f:Nat → Int}:∀ (k:Nat),(∀ i,i < k → 0 ≤ f i) → 0 ≤ sumTo f k
 | 0,_=>Int.le_refl _
 | k + 1,h=>by
  have:=sumTo_nonneg k (fun i hi=>h i (by omega))
  have:=h k (by omega)
  simp only [sumTo]; omega
def eachV (w n:Nat → Int) (k:Nat) (den:Int):Int:=if anyTo (fun i=>decide (0 ≤ n i)) k then min (sumTo (fun i=>if 0 ≤ n i then n i * w i else 0) k / den) 1099511627776 else -1
end Go.Proofs.Ythjoehaglonjaaa
