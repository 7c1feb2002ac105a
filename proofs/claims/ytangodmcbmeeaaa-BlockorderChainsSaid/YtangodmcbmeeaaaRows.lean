/-
  No cell of these rows narrows 'for every input' (looked for: loops, veiled, ifaces, maps, wideKeys, modest, calm, conditions, laid).
  DERIVED. THE GIVEN ROWS OF THIS SEAT. 6 by the template 'for every input the law returns true; each argument reads behind the call as it read before'; 0 by the template 'total and deterministic' (their statements: YtangodmcbmeeaaaTotals.lean).
  GIVEN WITH THE SEED: the statements are not yours to turn. If you find one false, say at which input.
  Laid BY PROGRAM, IN A SANDBOX (cutbox-rows.mjs): the forced cells as the released guide's own fill.sh prints them over the translation 5a8ef4bb60640b5a… (all of the seat's roots in one cut). By AI agents, Wed Nov 11 2026. No macro, syntax, notation, axiom, sorry.
-/
import Derived.Test.YtangodmcbmeeaaaChecked
import GoSem.Claim
import GoSem.ClaimJoined
import GoSem.ClaimMapViews
import Derived.JoinedTies
import Derived.KernelRfl
namespace Go.Proofs.Ytangodmcbmeeaaa
/- THE CELL 'sum', in the pinned program and in every row, IS THE sha256 OF THE DUMP (.gsa) THAT YtangodmcbmeeaaaProg.lean LOADS. Nothing in Lean hashes anything: it is a label: what it is worth is what the hold of that sum in a sandbox is worth. -/
noncomputable def Try.pinned : Pinned := { name := "ytangodmcbmeeaaa", sum := "5a8ef4bb60640b5a2499d02c5614bab7975385c1b8382e2035a35180dc006f97", checked := Try.checked }
namespace Rows
def none {H : Type} : Left H := { results := [], args := [] }

/-- 'warmpathlaw37.BlockorderChains': WHATEVER THE INPUT: true; the input reads as it did. -/
def blockorderChainsSpec : ChangeSpec := { name := "blockorderChains", fn := fun _ => fun
  | [d1, d2] => { results := [.lit (.bool true)], args := [d1, d2] }
  | _ => none }
def blockorderChainsRow : OpenClaim := { program := "ytangodmcbmeeaaa", sum := "5a8ef4bb60640b5a2499d02c5614bab7975385c1b8382e2035a35180dc006f97", func := "warmpath/warmpathlaw37.BlockorderChains", spec := "blockorderChains", unfollowed := true, recurses := true, apart := false }
def BlockorderChainsSaid : Prop := blockorderChainsRow.holds Try.pinned (OpenSpec.ofChange blockorderChainsSpec)

/-- ITS FALSE NEIGHBOUR: 'it returns false'. Refute it at one input. -/
def blockorderChainsWrong : ChangeSpec := { name := "blockorderChains", fn := fun _ => fun
  | [d1, d2] => { results := [.lit (.bool false)], args := [d1, d2] }
  | _ => none }
def BlockorderChainsWrongFalsely : Prop := blockorderChainsRow.holds Try.pinned (OpenSpec.ofChange blockorderChainsWrong)

/-- 'warmpathlaw37.BlockorderLimits': WHATEVER THE INPUT: true; the input reads as it did. -/
def blockorderLimitsSpec : ChangeSpec := { name := "blockorderLimits", fn := fun _ => fun
  | [d1, d2] => { results := [.lit (.bool true)], args := [d1, d2] }
  | _ => none }
def blockorderLimitsRow : OpenClaim := { program := "ytangodmcbmeeaaa", sum := "5a8ef4bb60640b5a2499d02c5614bab7975385c1b8382e2035a35180dc006f97", func := "warmpath/warmpathlaw37.BlockorderLimits", spec := "blockorderLimits", unfollowed := true, recurses := true, apart := false }
def BlockorderLimitsSaid : Prop := blockorderLimitsRow.holds Try.pinned (OpenSpec.ofChange blockorderLimitsSpec)

/-- ITS FALSE NEIGHBOUR: 'it returns false'. Refute it at one input. -/
def blockorderLimitsWrong : ChangeSpec := { name := "blockorderLimits", fn := fun _ => fun
  | [d1, d2] => { results := [.lit (.bool false)], args := [d1, d2] }
  | _ => none }
def BlockorderLimitsWrongFalsely : Prop := blockorderLimitsRow.holds Try.pinned (OpenSpec.ofChange blockorderLimitsWrong)

/-- 'warmpathlaw27.AnchorBlocks': WHATEVER THE INPUT: true; the input reads as it did. -/
def anchorBlocksSpec : ChangeSpec := { name := "anchorBlocks", fn := fun _ => fun
  | [d1, d2] => { results := [.lit (.bool true)], args := [d1, d2] }
  | _ => none }
def anchorBlocksRow : OpenClaim := { program := "ytangodmcbmeeaaa", sum := "5a8ef4bb60640b5a2499d02c5614bab7975385c1b8382e2035a35180dc006f97", func := "warmpath/warmpathlaw27.AnchorBlocks", spec := "anchorBlocks", recurses := true, apart := false }
def AnchorBlocksSaid : Prop := anchorBlocksRow.holds Try.pinned (OpenSpec.ofChange anchorBlocksSpec)

/-- ITS FALSE NEIGHBOUR: 'it returns false'. Refute it at one input. -/
def anchorBlocksWrong : ChangeSpec := { name := "anchorBlocks", fn := fun _ => fun
  | [d1, d2] => { results := [.lit (.bool false)], args := [d1, d2] }
  | _ => none }
def AnchorBlocksWrongFalsely : Prop := anchorBlocksRow.holds Try.pinned (OpenSpec.ofChange anchorBlocksWrong)

/-- 'warmpathlaw27.AnchorValid': WHATEVER THE INPUT: true; the input reads as it did. -/
def anchorValidSpec : ChangeSpec := { name := "anchorValid", fn := fun _ => fun
  | [d1, d2] => { results := [.lit (.bool true)], args := [d1, d2] }
  | _ => none }
def anchorValidRow : OpenClaim := { program := "ytangodmcbmeeaaa", sum := "5a8ef4bb60640b5a2499d02c5614bab7975385c1b8382e2035a35180dc006f97", func := "warmpath/warmpathlaw27.AnchorValid", spec := "anchorValid", unfollowed := true, recurses := true, apart := false }
def AnchorValidSaid : Prop := anchorValidRow.holds Try.pinned (OpenSpec.ofChange anchorValidSpec)

/-- ITS FALSE NEIGHBOUR: 'it returns false'. Refute it at one input. -/
def anchorValidWrong : ChangeSpec := { name := "anchorValid", fn := fun _ => fun
  | [d1, d2] => { results := [.lit (.bool false)], args := [d1, d2] }
  | _ => none }
def AnchorValidWrongFalsely : Prop := anchorValidRow.holds Try.pinned (OpenSpec.ofChange anchorValidWrong)

/-- 'warmpathlaw27.AnchorOrigins': WHATEVER THE INPUT: true; the input reads as it did. -/
def anchorOriginsSpec : ChangeSpec := { name := "anchorOrigins", fn := fun _ => fun
  | [d1, d2] => { results := [.lit (.bool true)], args := [d1, d2] }
  | _ => none }
def anchorOriginsRow : OpenClaim := { program := "ytangodmcbmeeaaa", sum := "5a8ef4bb60640b5a2499d02c5614bab7975385c1b8382e2035a35180dc006f97", func := "warmpath/warmpathlaw27.AnchorOrigins", spec := "anchorOrigins", unfollowed := true, recurses := true, apart := false }
def AnchorOriginsSaid : Prop := anchorOriginsRow.holds Try.pinned (OpenSpec.ofChange anchorOriginsSpec)

/-- ITS FALSE NEIGHBOUR: 'it returns false'. Refute it at one input. -/
def anchorOriginsWrong : ChangeSpec := { name := "anchorOrigins", fn := fun _ => fun
  | [d1, d2] => { results := [.lit (.bool false)], args := [d1, d2] }
  | _ => none }
def AnchorOriginsWrongFalsely : Prop := anchorOriginsRow.holds Try.pinned (OpenSpec.ofChange anchorOriginsWrong)

/-- 'warmpathlaw27.AnchorEdits': WHATEVER THE INPUT: true; the input reads as it did. -/
def anchorEditsSpec : ChangeSpec := { name := "anchorEdits", fn := fun _ => fun
  | [d1, d2, d3] => { results := [.lit (.bool true)], args := [d1, d2, d3] }
  | _ => none }
def anchorEditsRow : OpenClaim := { program := "ytangodmcbmeeaaa", sum := "5a8ef4bb60640b5a2499d02c5614bab7975385c1b8382e2035a35180dc006f97", func := "warmpath/warmpathlaw27.AnchorEdits", spec := "anchorEdits", unfollowed := true, recurses := true, apart := false }
def AnchorEditsSaid : Prop := anchorEditsRow.holds Try.pinned (OpenSpec.ofChange anchorEditsSpec)

/-- ITS FALSE NEIGHBOUR: 'it returns false'. Refute it at one input. -/
def anchorEditsWrong : ChangeSpec := { name := "anchorEdits", fn := fun _ => fun
  | [d1, d2, d3] => { results := [.lit (.bool false)], args := [d1, d2, d3] }
  | _ => none }
def AnchorEditsWrongFalsely : Prop := anchorEditsRow.holds Try.pinned (OpenSpec.ofChange anchorEditsWrong)

/- THE SECOND FORM. 'bulk': how many values and letters a reading holds, each counted each time it is reached (what is shared counts as often as it is met; a slice's spare places count too). A statement '..UptoSaid' is the law's where the arguments, and the package variables that the reading takes, are together of bulk at most 1048576: NARROWER than '..Said'. Prove '..Said' where nothing that the law and all that it calls make is longer than what came in: it says more and counts as full. Else prove '..UptoSaid'. A law counts once. -/
mutual
def uptoBulk {H : Type} : DataW H → Nat
  | .lit (.string bytes) => bytes.length + 1
  | .lit _ => 1
  | .nil => 1
  | .ptr d => uptoBulk d + 1
  | .slice elems spare => uptoBulkAll elems + uptoBulkAll spare + 1
  | .agg parts => uptoBulkAll parts + 1
  | .iface _ d => uptoBulk d + 1
  | .map entries => uptoBulkEntries entries + 1
  | .held _ => 1
def uptoBulkAll {H : Type} : List (DataW H) → Nat
  | [] => 0
  | d :: r => uptoBulk d + uptoBulkAll r
def uptoBulkEntries {H : Type} : List (Lit × DataW H) → Nat
  | [] => 0
  | x :: r => uptoBulkEntry x + uptoBulkEntries r
def uptoBulkEntry {H : Type} : Lit × DataW H → Nat
  | (.string bytes, d) => bytes.length + uptoBulk d + 1
  | (_, d) => uptoBulk d + 1
 end
def uptoSmall : (H : Type) → List (DataW H) → Bool := fun _ ds => decide (uptoBulkAll ds ≤ 1048576)
def OpenSpec.upto (s : _root_.Go.ChangeSpec) : _root_.Go.OpenSpec := { _root_.Go.OpenSpec.ofChange s with cond := some uptoSmall }

/-- 'warmpathlaw37.BlockorderChains', WHERE WHAT IT READS IS OF BULK AT MOST 1048576: true; the input reads as it did. -/
def blockorderChainsUptoRow : OpenClaim := { program := "ytangodmcbmeeaaa", sum := "5a8ef4bb60640b5a2499d02c5614bab7975385c1b8382e2035a35180dc006f97", func := "warmpath/warmpathlaw37.BlockorderChains", spec := "blockorderChains", unfollowed := true, recurses := true, apart := false, narrowed := true }
def BlockorderChainsUptoSaid : Prop := blockorderChainsUptoRow.holds Try.pinned (OpenSpec.upto blockorderChainsSpec)

/-- 'warmpathlaw37.BlockorderLimits', WHERE WHAT IT READS IS OF BULK AT MOST 1048576: true; the input reads as it did. -/
def blockorderLimitsUptoRow : OpenClaim := { program := "ytangodmcbmeeaaa", sum := "5a8ef4bb60640b5a2499d02c5614bab7975385c1b8382e2035a35180dc006f97", func := "warmpath/warmpathlaw37.BlockorderLimits", spec := "blockorderLimits", unfollowed := true, recurses := true, apart := false, narrowed := true }
def BlockorderLimitsUptoSaid : Prop := blockorderLimitsUptoRow.holds Try.pinned (OpenSpec.upto blockorderLimitsSpec)

/-- 'warmpathlaw27.AnchorBlocks', WHERE WHAT IT READS IS OF BULK AT MOST 1048576: true; the input reads as it did. -/
def anchorBlocksUptoRow : OpenClaim := { program := "ytangodmcbmeeaaa", sum := "5a8ef4bb60640b5a2499d02c5614bab7975385c1b8382e2035a35180dc006f97", func := "warmpath/warmpathlaw27.AnchorBlocks", spec := "anchorBlocks", recurses := true, apart := false, narrowed := true }
def AnchorBlocksUptoSaid : Prop := anchorBlocksUptoRow.holds Try.pinned (OpenSpec.upto anchorBlocksSpec)

/-- 'warmpathlaw27.AnchorValid', WHERE WHAT IT READS IS OF BULK AT MOST 1048576: true; the input reads as it did. -/
def anchorValidUptoRow : OpenClaim := { program := "ytangodmcbmeeaaa", sum := "5a8ef4bb60640b5a2499d02c5614bab7975385c1b8382e2035a35180dc006f97", func := "warmpath/warmpathlaw27.AnchorValid", spec := "anchorValid", unfollowed := true, recurses := true, apart := false, narrowed := true }
def AnchorValidUptoSaid : Prop := anchorValidUptoRow.holds Try.pinned (OpenSpec.upto anchorValidSpec)

/-- 'warmpathlaw27.AnchorOrigins', WHERE WHAT IT READS IS OF BULK AT MOST 1048576: true; the input reads as it did. -/
def anchorOriginsUptoRow : OpenClaim := { program := "ytangodmcbmeeaaa", sum := "5a8ef4bb60640b5a2499d02c5614bab7975385c1b8382e2035a35180dc006f97", func := "warmpath/warmpathlaw27.AnchorOrigins", spec := "anchorOrigins", unfollowed := true, recurses := true, apart := false, narrowed := true }
def AnchorOriginsUptoSaid : Prop := anchorOriginsUptoRow.holds Try.pinned (OpenSpec.upto anchorOriginsSpec)

/-- 'warmpathlaw27.AnchorEdits', WHERE WHAT IT READS IS OF BULK AT MOST 1048576: true; the input reads as it did. -/
def anchorEditsUptoRow : OpenClaim := { program := "ytangodmcbmeeaaa", sum := "5a8ef4bb60640b5a2499d02c5614bab7975385c1b8382e2035a35180dc006f97", func := "warmpath/warmpathlaw27.AnchorEdits", spec := "anchorEdits", unfollowed := true, recurses := true, apart := false, narrowed := true }
def AnchorEditsUptoSaid : Prop := anchorEditsUptoRow.holds Try.pinned (OpenSpec.upto anchorEditsSpec)

end Rows
end Go.Proofs.Ytangodmcbmeeaaa
