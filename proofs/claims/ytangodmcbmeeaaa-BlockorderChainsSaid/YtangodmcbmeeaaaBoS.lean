import Derived.Test.YtangodmcbmeeaaaBoA
set_option maxRecDepth 8000
set_option linter.unusedSimpArgs false
set_option linter.unusedVariables false
namespace Go.Proofs.Ytangodmcbmeeaaa
open Go.PV
def ChE (n:Nat):Type:={l:List Int // l ≠ [] ∧ l.length ≤ 1000 ∧ ∀ b ∈ l,0 ≤ b ∧ b < (n:Int) + 1}
instance (n:Nat):Inhabited (ChE n):=⟨⟨[0],by simp,by simp,fun b hb=>by rw [List.mem_singleton] at hb; omega⟩⟩
def encE {n:Nat} (l:List (ChE n)):List (List PV):=l.map fun a=>[.sl (ints a.1)]
theorem encE_length {n:Nat} (l:List (ChE n)):(encE l).length = l.length:=by simp [encE]
theorem encE_getD {n:Nat} (l:List (ChE n)) (i:Nat) (h:i < l.length):(encE l).getD i [] = [.sl (ints (l.getD i default).1)]:=by simp [encE,List.getD_eq_getElem?_getD,h]
theorem encE_bel {n:Nat} (k:Nat) (l:List (ChE n)):∀ row ∈ encE l,∀ p ∈ row,Bel k p:=fun row hr p hp=>by
 simp only [encE,List.mem_map] at hr
 obtain ⟨t,_,rfl⟩:=hr
 rw [List.mem_singleton] at hp
 rw [hp]; exact bel_intsB _ _
end Go.Proofs.Ytangodmcbmeeaaa
