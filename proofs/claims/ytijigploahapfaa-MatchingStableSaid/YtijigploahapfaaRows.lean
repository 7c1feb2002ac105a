/-
  No cell of these rows narrows 'for every input' (looked for: loops, veiled, ifaces, maps, wideKeys, modest, calm, conditions, laid).
  DERIVED. THE GIVEN ROWS OF THIS SEAT. 9 by the template 'for every input the law returns true; each argument reads behind the call as it read before'; 0 by the template 'total and deterministic' (their statements: YtijigploahapfaaTotals.lean).
  GIVEN WITH THE SEED: the statements are not yours to turn. If you find one false, say at which input.
  Laid BY PROGRAM, IN A SANDBOX (cutbox-rows.mjs): the forced cells as the released guide's own fill.sh prints them over the translation 1b851d3d55cf50a7… (all of the seat's roots in one cut). By AI agents, Wed Nov 11 2026. No macro, syntax, notation, axiom, sorry.
-/
import Derived.Test.YtijigploahapfaaChecked
import GoSem.Claim
import GoSem.ClaimJoined
import GoSem.ClaimMapViews
import Derived.JoinedTies
import Derived.KernelRfl
namespace Go.Proofs.Ytijigploahapfaa
/- THE CELL 'sum', in the pinned program and in every row, IS THE sha256 OF THE DUMP (.gsa) THAT YtijigploahapfaaProg.lean LOADS. Nothing in Lean hashes anything: it is a label: what it is worth is what the hold of that sum in a sandbox is worth. -/
noncomputable def Try.pinned : Pinned := { name := "ytijigploahapfaa", sum := "1b851d3d55cf50a777fa554f50f337476a0ec8d6f745cb332823a11e3678ddc2", checked := Try.checked }
namespace Rows
def none {H : Type} : Left H := { results := [], args := [] }

/-- 'warmpathlaw28.MatchingCommon': WHATEVER THE INPUT: true; the input reads as it did. -/
def matchingCommonSpec : ChangeSpec := { name := "matchingCommon", fn := fun _ => fun
  | [d1, d2, d3] => { results := [.lit (.bool true)], args := [d1, d2, d3] }
  | _ => none }
def matchingCommonRow : OpenClaim := { program := "ytijigploahapfaa", sum := "1b851d3d55cf50a777fa554f50f337476a0ec8d6f745cb332823a11e3678ddc2", func := "warmpath/warmpathlaw28.MatchingCommon", spec := "matchingCommon", apart := false }
def MatchingCommonSaid : Prop := matchingCommonRow.holds Try.pinned (OpenSpec.ofChange matchingCommonSpec)

/-- ITS FALSE NEIGHBOUR: 'it returns false'. Refute it at one input. -/
def matchingCommonWrong : ChangeSpec := { name := "matchingCommon", fn := fun _ => fun
  | [d1, d2, d3] => { results := [.lit (.bool false)], args := [d1, d2, d3] }
  | _ => none }
def MatchingCommonWrongFalsely : Prop := matchingCommonRow.holds Try.pinned (OpenSpec.ofChange matchingCommonWrong)

/-- 'warmpathlaw27.AnchorBlocks': WHATEVER THE INPUT: true; the input reads as it did. -/
def anchorBlocksSpec : ChangeSpec := { name := "anchorBlocks", fn := fun _ => fun
  | [d1, d2] => { results := [.lit (.bool true)], args := [d1, d2] }
  | _ => none }
def anchorBlocksRow : OpenClaim := { program := "ytijigploahapfaa", sum := "1b851d3d55cf50a777fa554f50f337476a0ec8d6f745cb332823a11e3678ddc2", func := "warmpath/warmpathlaw27.AnchorBlocks", spec := "anchorBlocks", recurses := true, apart := false }
def AnchorBlocksSaid : Prop := anchorBlocksRow.holds Try.pinned (OpenSpec.ofChange anchorBlocksSpec)

/-- ITS FALSE NEIGHBOUR: 'it returns false'. Refute it at one input. -/
def anchorBlocksWrong : ChangeSpec := { name := "anchorBlocks", fn := fun _ => fun
  | [d1, d2] => { results := [.lit (.bool false)], args := [d1, d2] }
  | _ => none }
def AnchorBlocksWrongFalsely : Prop := anchorBlocksRow.holds Try.pinned (OpenSpec.ofChange anchorBlocksWrong)

/-- 'warmpathlaw28.MatchingStable': WHATEVER THE INPUT: true; the input reads as it did. -/
def matchingStableSpec : ChangeSpec := { name := "matchingStable", fn := fun _ => fun
  | [d1, d2, d3, d4] => { results := [.lit (.bool true)], args := [d1, d2, d3, d4] }
  | _ => none }
def matchingStableRow : OpenClaim := { program := "ytijigploahapfaa", sum := "1b851d3d55cf50a777fa554f50f337476a0ec8d6f745cb332823a11e3678ddc2", func := "warmpath/warmpathlaw28.MatchingStable", spec := "matchingStable", recurses := true, apart := false }
def MatchingStableSaid : Prop := matchingStableRow.holds Try.pinned (OpenSpec.ofChange matchingStableSpec)

/-- ITS FALSE NEIGHBOUR: 'it returns false'. Refute it at one input. -/
def matchingStableWrong : ChangeSpec := { name := "matchingStable", fn := fun _ => fun
  | [d1, d2, d3, d4] => { results := [.lit (.bool false)], args := [d1, d2, d3, d4] }
  | _ => none }
def MatchingStableWrongFalsely : Prop := matchingStableRow.holds Try.pinned (OpenSpec.ofChange matchingStableWrong)

/-- 'warmpathlaw28.MatchingBest': WHATEVER THE INPUT: true; the input reads as it did. -/
def matchingBestSpec : ChangeSpec := { name := "matchingBest", fn := fun _ => fun
  | [d] => { results := [.lit (.bool true)], args := [d] }
  | _ => none }
def matchingBestRow : OpenClaim := { program := "ytijigploahapfaa", sum := "1b851d3d55cf50a777fa554f50f337476a0ec8d6f745cb332823a11e3678ddc2", func := "warmpath/warmpathlaw28.MatchingBest", spec := "matchingBest", recurses := true, apart := false }
def MatchingBestSaid : Prop := matchingBestRow.holds Try.pinned (OpenSpec.ofChange matchingBestSpec)

/-- ITS FALSE NEIGHBOUR: 'it returns false'. Refute it at one input. -/
def matchingBestWrong : ChangeSpec := { name := "matchingBest", fn := fun _ => fun
  | [d] => { results := [.lit (.bool false)], args := [d] }
  | _ => none }
def MatchingBestWrongFalsely : Prop := matchingBestRow.holds Try.pinned (OpenSpec.ofChange matchingBestWrong)

/-- 'warmpathlaw28.MatchingTurns': WHATEVER THE INPUT: true; the input reads as it did. -/
def matchingTurnsSpec : ChangeSpec := { name := "matchingTurns", fn := fun _ => fun
  | [d] => { results := [.lit (.bool true)], args := [d] }
  | _ => none }
def matchingTurnsRow : OpenClaim := { program := "ytijigploahapfaa", sum := "1b851d3d55cf50a777fa554f50f337476a0ec8d6f745cb332823a11e3678ddc2", func := "warmpath/warmpathlaw28.MatchingTurns", spec := "matchingTurns", recurses := true, apart := false }
def MatchingTurnsSaid : Prop := matchingTurnsRow.holds Try.pinned (OpenSpec.ofChange matchingTurnsSpec)

/-- ITS FALSE NEIGHBOUR: 'it returns false'. Refute it at one input. -/
def matchingTurnsWrong : ChangeSpec := { name := "matchingTurns", fn := fun _ => fun
  | [d] => { results := [.lit (.bool false)], args := [d] }
  | _ => none }
def MatchingTurnsWrongFalsely : Prop := matchingTurnsRow.holds Try.pinned (OpenSpec.ofChange matchingTurnsWrong)

/-- 'warmpathlaw27.AnchorValid': WHATEVER THE INPUT: true; the input reads as it did. -/
def anchorValidSpec : ChangeSpec := { name := "anchorValid", fn := fun _ => fun
  | [d1, d2] => { results := [.lit (.bool true)], args := [d1, d2] }
  | _ => none }
def anchorValidRow : OpenClaim := { program := "ytijigploahapfaa", sum := "1b851d3d55cf50a777fa554f50f337476a0ec8d6f745cb332823a11e3678ddc2", func := "warmpath/warmpathlaw27.AnchorValid", spec := "anchorValid", unfollowed := true, recurses := true, apart := false }
def AnchorValidSaid : Prop := anchorValidRow.holds Try.pinned (OpenSpec.ofChange anchorValidSpec)

/-- ITS FALSE NEIGHBOUR: 'it returns false'. Refute it at one input. -/
def anchorValidWrong : ChangeSpec := { name := "anchorValid", fn := fun _ => fun
  | [d1, d2] => { results := [.lit (.bool false)], args := [d1, d2] }
  | _ => none }
def AnchorValidWrongFalsely : Prop := anchorValidRow.holds Try.pinned (OpenSpec.ofChange anchorValidWrong)

/-- 'warmpathlaw27.AnchorMoves': WHATEVER THE INPUT: true; the input reads as it did. -/
def anchorMovesSpec : ChangeSpec := { name := "anchorMoves", fn := fun _ => fun
  | [d1, d2] => { results := [.lit (.bool true)], args := [d1, d2] }
  | _ => none }
def anchorMovesRow : OpenClaim := { program := "ytijigploahapfaa", sum := "1b851d3d55cf50a777fa554f50f337476a0ec8d6f745cb332823a11e3678ddc2", func := "warmpath/warmpathlaw27.AnchorMoves", spec := "anchorMoves", unfollowed := true, recurses := true, apart := false }
def AnchorMovesSaid : Prop := anchorMovesRow.holds Try.pinned (OpenSpec.ofChange anchorMovesSpec)

/-- ITS FALSE NEIGHBOUR: 'it returns false'. Refute it at one input. -/
def anchorMovesWrong : ChangeSpec := { name := "anchorMoves", fn := fun _ => fun
  | [d1, d2] => { results := [.lit (.bool false)], args := [d1, d2] }
  | _ => none }
def AnchorMovesWrongFalsely : Prop := anchorMovesRow.holds Try.pinned (OpenSpec.ofChange anchorMovesWrong)

/-- 'warmpathlaw27.AnchorOrigins': WHATEVER THE INPUT: true; the input reads as it did. -/
def anchorOriginsSpec : ChangeSpec := { name := "anchorOrigins", fn := fun _ => fun
  | [d1, d2] => { results := [.lit (.bool true)], args := [d1, d2] }
  | _ => none }
def anchorOriginsRow : OpenClaim := { program := "ytijigploahapfaa", sum := "1b851d3d55cf50a777fa554f50f337476a0ec8d6f745cb332823a11e3678ddc2", func := "warmpath/warmpathlaw27.AnchorOrigins", spec := "anchorOrigins", unfollowed := true, recurses := true, apart := false }
def AnchorOriginsSaid : Prop := anchorOriginsRow.holds Try.pinned (OpenSpec.ofChange anchorOriginsSpec)

/-- ITS FALSE NEIGHBOUR: 'it returns false'. Refute it at one input. -/
def anchorOriginsWrong : ChangeSpec := { name := "anchorOrigins", fn := fun _ => fun
  | [d1, d2] => { results := [.lit (.bool false)], args := [d1, d2] }
  | _ => none }
def AnchorOriginsWrongFalsely : Prop := anchorOriginsRow.holds Try.pinned (OpenSpec.ofChange anchorOriginsWrong)

/-- 'warmpathlaw27.AnchorEdits': WHATEVER THE INPUT: true; the input reads as it did. -/
def anchorEditsSpec : ChangeSpec := { name := "anchorEdits", fn := fun _ => fun
  | [d1, d2, d3] => { results := [.lit (.bool true)], args := [d1, d2, d3] }
  | _ => none }
def anchorEditsRow : OpenClaim := { program := "ytijigploahapfaa", sum := "1b851d3d55cf50a777fa554f50f337476a0ec8d6f745cb332823a11e3678ddc2", func := "warmpath/warmpathlaw27.AnchorEdits", spec := "anchorEdits", unfollowed := true, recurses := true, apart := false }
def AnchorEditsSaid : Prop := anchorEditsRow.holds Try.pinned (OpenSpec.ofChange anchorEditsSpec)

/-- ITS FALSE NEIGHBOUR: 'it returns false'. Refute it at one input. -/
def anchorEditsWrong : ChangeSpec := { name := "anchorEdits", fn := fun _ => fun
  | [d1, d2, d3] => { results := [.lit (.bool false)], args := [d1, d2, d3] }
  | _ => none }
def AnchorEditsWrongFalsely : Prop := anchorEditsRow.holds Try.pinned (OpenSpec.ofChange anchorEditsWrong)

/- THE SECOND FORM. 'bulk': how many values and letters a reading holds, each counted each time it is reached (what is shared counts as often as it is met; a slice's spare places count too). A statement '..UptoSaid' is the law's where the arguments, and the package variables that the reading takes, are together of bulk at most 1048576: NARROWER than '..Said'. Prove '..Said' where nothing that the law and all that it calls make is longer than what came in: it says more and counts as full. Else prove '..UptoSaid'. A law counts once. -/
mutual
def uptoBulk {H : Type} : DataW H → Nat
  | .lit (.string bytes) => bytes.length + 1
  | .lit _ => 1
  | .nil => 1
  | .ptr d => uptoBulk d + 1
  | .slice elems spare => uptoBulkAll elems + uptoBulkAll spare + 1
  | .agg parts => uptoBulkAll parts + 1
  | .iface _ d => uptoBulk d + 1
  | .map entries => uptoBulkEntries entries + 1
  | .held _ => 1
def uptoBulkAll {H : Type} : List (DataW H) → Nat
  | [] => 0
  | d :: r => uptoBulk d + uptoBulkAll r
def uptoBulkEntries {H : Type} : List (Lit × DataW H) → Nat
  | [] => 0
  | x :: r => uptoBulkEntry x + uptoBulkEntries r
def uptoBulkEntry {H : Type} : Lit × DataW H → Nat
  | (.string bytes, d) => bytes.length + uptoBulk d + 1
  | (_, d) => uptoBulk d + 1
 end
def uptoSmall : (H : Type) → List (DataW H) → Bool := fun _ ds => decide (uptoBulkAll ds ≤ 1048576)
def OpenSpec.upto (s : _root_.Go.ChangeSpec) : _root_.Go.OpenSpec := { _root_.Go.OpenSpec.ofChange s with cond := some uptoSmall }

/-- 'warmpathlaw28.MatchingCommon', WHERE WHAT IT READS IS OF BULK AT MOST 1048576: true; the input reads as it did. -/
def matchingCommonUptoRow : OpenClaim := { program := "ytijigploahapfaa", sum := "1b851d3d55cf50a777fa554f50f337476a0ec8d6f745cb332823a11e3678ddc2", func := "warmpath/warmpathlaw28.MatchingCommon", spec := "matchingCommon", apart := false, narrowed := true }
def MatchingCommonUptoSaid : Prop := matchingCommonUptoRow.holds Try.pinned (OpenSpec.upto matchingCommonSpec)

/-- 'warmpathlaw27.AnchorBlocks', WHERE WHAT IT READS IS OF BULK AT MOST 1048576: true; the input reads as it did. -/
def anchorBlocksUptoRow : OpenClaim := { program := "ytijigploahapfaa", sum := "1b851d3d55cf50a777fa554f50f337476a0ec8d6f745cb332823a11e3678ddc2", func := "warmpath/warmpathlaw27.AnchorBlocks", spec := "anchorBlocks", recurses := true, apart := false, narrowed := true }
def AnchorBlocksUptoSaid : Prop := anchorBlocksUptoRow.holds Try.pinned (OpenSpec.upto anchorBlocksSpec)

/-- 'warmpathlaw28.MatchingStable', WHERE WHAT IT READS IS OF BULK AT MOST 1048576: true; the input reads as it did. -/
def matchingStableUptoRow : OpenClaim := { program := "ytijigploahapfaa", sum := "1b851d3d55cf50a777fa554f50f337476a0ec8d6f745cb332823a11e3678ddc2", func := "warmpath/warmpathlaw28.MatchingStable", spec := "matchingStable", recurses := true, apart := false, narrowed := true }
def MatchingStableUptoSaid : Prop := matchingStableUptoRow.holds Try.pinned (OpenSpec.upto matchingStableSpec)

/-- 'warmpathlaw28.MatchingBest', WHERE WHAT IT READS IS OF BULK AT MOST 1048576: true; the input reads as it did. -/
def matchingBestUptoRow : OpenClaim := { program := "ytijigploahapfaa", sum := "1b851d3d55cf50a777fa554f50f337476a0ec8d6f745cb332823a11e3678ddc2", func := "warmpath/warmpathlaw28.MatchingBest", spec := "matchingBest", recurses := true, apart := false, narrowed := true }
def MatchingBestUptoSaid : Prop := matchingBestUptoRow.holds Try.pinned (OpenSpec.upto matchingBestSpec)

/-- 'warmpathlaw28.MatchingTurns', WHERE WHAT IT READS IS OF BULK AT MOST 1048576: true; the input reads as it did. -/
def matchingTurnsUptoRow : OpenClaim := { program := "ytijigploahapfaa", sum := "1b851d3d55cf50a777fa554f50f337476a0ec8d6f745cb332823a11e3678ddc2", func := "warmpath/warmpathlaw28.MatchingTurns", spec := "matchingTurns", recurses := true, apart := false, narrowed := true }
def MatchingTurnsUptoSaid : Prop := matchingTurnsUptoRow.holds Try.pinned (OpenSpec.upto matchingTurnsSpec)

/-- 'warmpathlaw27.AnchorValid', WHERE WHAT IT READS IS OF BULK AT MOST 1048576: true; the input reads as it did. -/
def anchorValidUptoRow : OpenClaim := { program := "ytijigploahapfaa", sum := "1b851d3d55cf50a777fa554f50f337476a0ec8d6f745cb332823a11e3678ddc2", func := "warmpath/warmpathlaw27.AnchorValid", spec := "anchorValid", unfollowed := true, recurses := true, apart := false, narrowed := true }
def AnchorValidUptoSaid : Prop := anchorValidUptoRow.holds Try.pinned (OpenSpec.upto anchorValidSpec)

/-- 'warmpathlaw27.AnchorMoves', WHERE WHAT IT READS IS OF BULK AT MOST 1048576: true; the input reads as it did. -/
def anchorMovesUptoRow : OpenClaim := { program := "ytijigploahapfaa", sum := "1b851d3d55cf50a777fa554f50f337476a0ec8d6f745cb332823a11e3678ddc2", func := "warmpath/warmpathlaw27.AnchorMoves", spec := "anchorMoves", unfollowed := true, recurses := true, apart := false, narrowed := true }
def AnchorMovesUptoSaid : Prop := anchorMovesUptoRow.holds Try.pinned (OpenSpec.upto anchorMovesSpec)

/-- 'warmpathlaw27.AnchorOrigins', WHERE WHAT IT READS IS OF BULK AT MOST 1048576: true; the input reads as it did. -/
def anchorOriginsUptoRow : OpenClaim := { program := "ytijigploahapfaa", sum := "1b851d3d55cf50a777fa554f50f337476a0ec8d6f745cb332823a11e3678ddc2", func := "warmpath/warmpathlaw27.AnchorOrigins", spec := "anchorOrigins", unfollowed := true, recurses := true, apart := false, narrowed := true }
def AnchorOriginsUptoSaid : Prop := anchorOriginsUptoRow.holds Try.pinned (OpenSpec.upto anchorOriginsSpec)

/-- 'warmpathlaw27.AnchorEdits', WHERE WHAT IT READS IS OF BULK AT MOST 1048576: true; the input reads as it did. -/
def anchorEditsUptoRow : OpenClaim := { program := "ytijigploahapfaa", sum := "1b851d3d55cf50a777fa554f50f337476a0ec8d6f745cb332823a11e3678ddc2", func := "warmpath/warmpathlaw27.AnchorEdits", spec := "anchorEdits", unfollowed := true, recurses := true, apart := false, narrowed := true }
def AnchorEditsUptoSaid : Prop := anchorEditsUptoRow.holds Try.pinned (OpenSpec.upto anchorEditsSpec)

end Rows
end Go.Proofs.Ytijigploahapfaa
