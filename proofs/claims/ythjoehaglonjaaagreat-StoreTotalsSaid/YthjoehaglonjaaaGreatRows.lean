/-
  No cell of these rows narrows 'for every input' (looked for: loops, veiled, ifaces, maps, wideKeys, modest, calm, conditions, laid).
  DERIVED. THE GIVEN ROWS OF THIS SEAT. 2 by the template 'for every input the law returns true; each argument reads behind the call as it read before'; 0 by the template 'total and deterministic' (their statements: YthjoehaglonjaaaGreatTotals.lean).
  GIVEN WITH THE SEED: the statements are not yours to turn. If you find one false, say at which input.
  Laid BY PROGRAM, IN A SANDBOX (cutbox-rows.mjs): the forced cells as the released guide's own fill.sh prints them over the translation 5f25c72ca87200bb… (all of the seat's roots in one cut). By AI agents, Wed Nov 11 2026. No macro, syntax, notation, axiom, sorry.
-/
import Derived.Test.YthjoehaglonjaaaGreatChecked
import GoSem.Claim
import GoSem.ClaimJoined
import GoSem.ClaimMapViews
import Derived.JoinedTies
import Derived.KernelRfl
namespace Go.Proofs.YthjoehaglonjaaaGreat
/- THE CELL 'sum', in the pinned program and in every row, IS THE sha256 OF THE DUMP (.gsa) THAT YthjoehaglonjaaaGreatProg.lean LOADS. Nothing in Lean hashes anything: it is a label: what it is worth is what the hold of that sum in a sandbox is worth. -/
noncomputable def Tryz.pinned : Pinned := { name := "ythjoehaglonjaaagreat", sum := "5f25c72ca87200bb68fde799fb337b24d2038c063a0ea8b463153eabe50cb36c", checked := Tryz.checked }
namespace Rows
def none {H : Type} : Left H := { results := [], args := [] }

/-- 'warmpathlaw31.StoreKnows': WHATEVER THE INPUT: true; the input reads as it did. -/
def storeKnowsSpec : ChangeSpec := { name := "storeKnows", fn := fun _ => fun
  | [d1, d2] => { results := [.lit (.bool true)], args := [d1, d2] }
  | _ => none }
def storeKnowsRow : OpenClaim := { program := "ythjoehaglonjaaagreat", sum := "5f25c72ca87200bb68fde799fb337b24d2038c063a0ea8b463153eabe50cb36c", func := "warmpath/warmpathlaw31.StoreKnows", spec := "storeKnows", inPlace := ["slices.overlaps[warmpath/api.Site]", "slices.overlaps[warmpath/api.Target]"], unfollowed := true, recurses := true, apart := false }
def StoreKnowsSaid : Prop := storeKnowsRow.holds Tryz.pinned (OpenSpec.ofChange storeKnowsSpec)

/-- ITS FALSE NEIGHBOUR: 'it returns false'. Refute it at one input. -/
def storeKnowsWrong : ChangeSpec := { name := "storeKnows", fn := fun _ => fun
  | [d1, d2] => { results := [.lit (.bool false)], args := [d1, d2] }
  | _ => none }
def StoreKnowsWrongFalsely : Prop := storeKnowsRow.holds Tryz.pinned (OpenSpec.ofChange storeKnowsWrong)

/-- 'warmpathlaw31.StoreTotals': WHATEVER THE INPUT: true; the input reads as it did. -/
def storeTotalsSpec : ChangeSpec := { name := "storeTotals", fn := fun _ => fun
  | [d1, d2] => { results := [.lit (.bool true)], args := [d1, d2] }
  | _ => none }
def storeTotalsRow : OpenClaim := { program := "ythjoehaglonjaaagreat", sum := "5f25c72ca87200bb68fde799fb337b24d2038c063a0ea8b463153eabe50cb36c", func := "warmpath/warmpathlaw31.StoreTotals", spec := "storeTotals", inPlace := ["slices.overlaps[warmpath/api.Site]", "slices.overlaps[warmpath/api.Target]"], unfollowed := true, recurses := true, apart := false }
def StoreTotalsSaid : Prop := storeTotalsRow.holds Tryz.pinned (OpenSpec.ofChange storeTotalsSpec)

/-- ITS FALSE NEIGHBOUR: 'it returns false'. Refute it at one input. -/
def storeTotalsWrong : ChangeSpec := { name := "storeTotals", fn := fun _ => fun
  | [d1, d2] => { results := [.lit (.bool false)], args := [d1, d2] }
  | _ => none }
def StoreTotalsWrongFalsely : Prop := storeTotalsRow.holds Tryz.pinned (OpenSpec.ofChange storeTotalsWrong)

/- THE SECOND FORM. 'bulk': how many values and letters a reading holds, each counted each time it is reached (what is shared counts as often as it is met; a slice's spare places count too). A statement '..UptoSaid' is the law's where the arguments, and the package variables that the reading takes, are together of bulk at most 1048576: NARROWER than '..Said'. Prove '..Said' where nothing that the law and all that it calls make is longer than what came in: it says more and counts as full. Else prove '..UptoSaid'. A law counts once. -/
mutual
def uptoBulk {H : Type} : DataW H → Nat
  | .lit (.string bytes) => bytes.length + 1
  | .lit _ => 1
  | .nil => 1
  | .ptr d => uptoBulk d + 1
  | .slice elems spare => uptoBulkAll elems + uptoBulkAll spare + 1
  | .agg parts => uptoBulkAll parts + 1
  | .iface _ d => uptoBulk d + 1
  | .map entries => uptoBulkEntries entries + 1
  | .held _ => 1
def uptoBulkAll {H : Type} : List (DataW H) → Nat
  | [] => 0
  | d :: r => uptoBulk d + uptoBulkAll r
def uptoBulkEntries {H : Type} : List (Lit × DataW H) → Nat
  | [] => 0
  | x :: r => uptoBulkEntry x + uptoBulkEntries r
def uptoBulkEntry {H : Type} : Lit × DataW H → Nat
  | (.string bytes, d) => bytes.length + uptoBulk d + 1
  | (_, d) => uptoBulk d + 1
 end
def uptoSmall : (H : Type) → List (DataW H) → Bool := fun _ ds => decide (uptoBulkAll ds ≤ 1048576)
def OpenSpec.upto (s : _root_.Go.ChangeSpec) : _root_.Go.OpenSpec := { _root_.Go.OpenSpec.ofChange s with cond := some uptoSmall }

/-- 'warmpathlaw31.StoreKnows', WHERE WHAT IT READS IS OF BULK AT MOST 1048576: true; the input reads as it did. -/
def storeKnowsUptoRow : OpenClaim := { program := "ythjoehaglonjaaagreat", sum := "5f25c72ca87200bb68fde799fb337b24d2038c063a0ea8b463153eabe50cb36c", func := "warmpath/warmpathlaw31.StoreKnows", spec := "storeKnows", inPlace := ["slices.overlaps[warmpath/api.Site]", "slices.overlaps[warmpath/api.Target]"], unfollowed := true, recurses := true, apart := false, narrowed := true }
def StoreKnowsUptoSaid : Prop := storeKnowsUptoRow.holds Tryz.pinned (OpenSpec.upto storeKnowsSpec)

/-- 'warmpathlaw31.StoreTotals', WHERE WHAT IT READS IS OF BULK AT MOST 1048576: true; the input reads as it did. -/
def storeTotalsUptoRow : OpenClaim := { program := "ythjoehaglonjaaagreat", sum := "5f25c72ca87200bb68fde799fb337b24d2038c063a0ea8b463153eabe50cb36c", func := "warmpath/warmpathlaw31.StoreTotals", spec := "storeTotals", inPlace := ["slices.overlaps[warmpath/api.Site]", "slices.overlaps[warmpath/api.Target]"], unfollowed := true, recurses := true, apart := false, narrowed := true }
def StoreTotalsUptoSaid : Prop := storeTotalsUptoRow.holds Tryz.pinned (OpenSpec.upto storeTotalsSpec)

end Rows
end Go.Proofs.YthjoehaglonjaaaGreat
