/-
  No cell of these rows narrows 'for every input' (looked for: loops, veiled, ifaces, maps, wideKeys, modest, calm, conditions, laid).
  DERIVED. THE GIVEN ROWS OF THIS SEAT. 7 by the template 'for every input the law returns true; each argument reads behind the call as it read before'; 0 by the template 'total and deterministic' (their statements: YthjoehaglonjaaaTotals.lean).
  GIVEN WITH THE SEED: the statements are not yours to turn. If you find one false, say at which input.
  Laid BY PROGRAM, IN A SANDBOX (cutbox-rows.mjs): the forced cells as the released guide's own fill.sh prints them over the translation 22a80666c6ac8f31… (all of the seat's roots in one cut). By AI agents, Wed Nov 11 2026. No macro, syntax, notation, axiom, sorry.
-/
import Derived.Test.YthjoehaglonjaaaChecked
import GoSem.Claim
import GoSem.ClaimJoined
import GoSem.ClaimMapViews
import Derived.JoinedTies
import Derived.KernelRfl
namespace Go.Proofs.Ythjoehaglonjaaa
/- THE CELL 'sum', in the pinned program and in every row, IS THE sha256 OF THE DUMP (.gsa) THAT YthjoehaglonjaaaProg.lean LOADS. Nothing in Lean hashes anything: it is a label: what it is worth is what the hold of that sum in a sandbox is worth. -/
noncomputable def Try.pinned : Pinned := { name := "ythjoehaglonjaaa", sum := "22a80666c6ac8f3152737b0fbdca897beb650150fdd5040e1dbe754e7c7f67ba", checked := Try.checked }
namespace Rows
def none {H : Type} : Left H := { results := [], args := [] }

/-- 'warmpathlaw31.StoreAdds': WHATEVER THE INPUT: true; the input reads as it did. -/
def storeAddsSpec : ChangeSpec := { name := "storeAdds", fn := fun _ => fun
  | [d1, d2, d3] => { results := [.lit (.bool true)], args := [d1, d2, d3] }
  | _ => none }
def storeAddsRow : OpenClaim := { program := "ythjoehaglonjaaa", sum := "22a80666c6ac8f3152737b0fbdca897beb650150fdd5040e1dbe754e7c7f67ba", func := "warmpath/warmpathlaw31.StoreAdds", spec := "storeAdds", unfollowed := true, recurses := true, apart := false }
def StoreAddsSaid : Prop := storeAddsRow.holds Try.pinned (OpenSpec.ofChange storeAddsSpec)

/-- ITS FALSE NEIGHBOUR: 'it returns false'. Refute it at one input. -/
def storeAddsWrong : ChangeSpec := { name := "storeAdds", fn := fun _ => fun
  | [d1, d2, d3] => { results := [.lit (.bool false)], args := [d1, d2, d3] }
  | _ => none }
def StoreAddsWrongFalsely : Prop := storeAddsRow.holds Try.pinned (OpenSpec.ofChange storeAddsWrong)

/-- 'warmpathlaw31.StoreMerges': WHATEVER THE INPUT: true; the input reads as it did. -/
def storeMergesSpec : ChangeSpec := { name := "storeMerges", fn := fun _ => fun
  | [d] => { results := [.lit (.bool true)], args := [d] }
  | _ => none }
def storeMergesRow : OpenClaim := { program := "ythjoehaglonjaaa", sum := "22a80666c6ac8f3152737b0fbdca897beb650150fdd5040e1dbe754e7c7f67ba", func := "warmpath/warmpathlaw31.StoreMerges", spec := "storeMerges", unfollowed := true, recurses := true, apart := false }
def StoreMergesSaid : Prop := storeMergesRow.holds Try.pinned (OpenSpec.ofChange storeMergesSpec)

/-- ITS FALSE NEIGHBOUR: 'it returns false'. Refute it at one input. -/
def storeMergesWrong : ChangeSpec := { name := "storeMerges", fn := fun _ => fun
  | [d] => { results := [.lit (.bool false)], args := [d] }
  | _ => none }
def StoreMergesWrongFalsely : Prop := storeMergesRow.holds Try.pinned (OpenSpec.ofChange storeMergesWrong)

/-- 'warmpathlaw31.StoreOrder': WHATEVER THE INPUT: true; the input reads as it did. -/
def storeOrderSpec : ChangeSpec := { name := "storeOrder", fn := fun _ => fun
  | [d1, d2] => { results := [.lit (.bool true)], args := [d1, d2] }
  | _ => none }
def storeOrderRow : OpenClaim := { program := "ythjoehaglonjaaa", sum := "22a80666c6ac8f3152737b0fbdca897beb650150fdd5040e1dbe754e7c7f67ba", func := "warmpath/warmpathlaw31.StoreOrder", spec := "storeOrder", unfollowed := true, recurses := true, apart := false }
def StoreOrderSaid : Prop := storeOrderRow.holds Try.pinned (OpenSpec.ofChange storeOrderSpec)

/-- ITS FALSE NEIGHBOUR: 'it returns false'. Refute it at one input. -/
def storeOrderWrong : ChangeSpec := { name := "storeOrder", fn := fun _ => fun
  | [d1, d2] => { results := [.lit (.bool false)], args := [d1, d2] }
  | _ => none }
def StoreOrderWrongFalsely : Prop := storeOrderRow.holds Try.pinned (OpenSpec.ofChange storeOrderWrong)

/-- 'warmpathlaw31.StoreLaws': WHATEVER THE INPUT: true; the input reads as it did. -/
def storeLawsSpec : ChangeSpec := { name := "storeLaws", fn := fun _ => fun
  | [d] => { results := [.lit (.bool true)], args := [d] }
  | _ => none }
def storeLawsRow : OpenClaim := { program := "ythjoehaglonjaaa", sum := "22a80666c6ac8f3152737b0fbdca897beb650150fdd5040e1dbe754e7c7f67ba", func := "warmpath/warmpathlaw31.StoreLaws", spec := "storeLaws", unfollowed := true, recurses := true, apart := false }
def StoreLawsSaid : Prop := storeLawsRow.holds Try.pinned (OpenSpec.ofChange storeLawsSpec)

/-- ITS FALSE NEIGHBOUR: 'it returns false'. Refute it at one input. -/
def storeLawsWrong : ChangeSpec := { name := "storeLaws", fn := fun _ => fun
  | [d] => { results := [.lit (.bool false)], args := [d] }
  | _ => none }
def StoreLawsWrongFalsely : Prop := storeLawsRow.holds Try.pinned (OpenSpec.ofChange storeLawsWrong)

/-- 'warmpathlaw31.StoreLimits': WHATEVER THE INPUT: true; the input reads as it did. -/
def storeLimitsSpec : ChangeSpec := { name := "storeLimits", fn := fun _ => fun
  | [d1, d2, d3] => { results := [.lit (.bool true)], args := [d1, d2, d3] }
  | _ => none }
def storeLimitsRow : OpenClaim := { program := "ythjoehaglonjaaa", sum := "22a80666c6ac8f3152737b0fbdca897beb650150fdd5040e1dbe754e7c7f67ba", func := "warmpath/warmpathlaw31.StoreLimits", spec := "storeLimits", unfollowed := true, recurses := true, apart := false }
def StoreLimitsSaid : Prop := storeLimitsRow.holds Try.pinned (OpenSpec.ofChange storeLimitsSpec)

/-- ITS FALSE NEIGHBOUR: 'it returns false'. Refute it at one input. -/
def storeLimitsWrong : ChangeSpec := { name := "storeLimits", fn := fun _ => fun
  | [d1, d2, d3] => { results := [.lit (.bool false)], args := [d1, d2, d3] }
  | _ => none }
def StoreLimitsWrongFalsely : Prop := storeLimitsRow.holds Try.pinned (OpenSpec.ofChange storeLimitsWrong)

/-- 'warmpathlaw37.BlockorderChains': WHATEVER THE INPUT: true; the input reads as it did. -/
def blockorderChainsSpec : ChangeSpec := { name := "blockorderChains", fn := fun _ => fun
  | [d1, d2] => { results := [.lit (.bool true)], args := [d1, d2] }
  | _ => none }
def blockorderChainsRow : OpenClaim := { program := "ythjoehaglonjaaa", sum := "22a80666c6ac8f3152737b0fbdca897beb650150fdd5040e1dbe754e7c7f67ba", func := "warmpath/warmpathlaw37.BlockorderChains", spec := "blockorderChains", unfollowed := true, recurses := true, apart := false }
def BlockorderChainsSaid : Prop := blockorderChainsRow.holds Try.pinned (OpenSpec.ofChange blockorderChainsSpec)

/-- ITS FALSE NEIGHBOUR: 'it returns false'. Refute it at one input. -/
def blockorderChainsWrong : ChangeSpec := { name := "blockorderChains", fn := fun _ => fun
  | [d1, d2] => { results := [.lit (.bool false)], args := [d1, d2] }
  | _ => none }
def BlockorderChainsWrongFalsely : Prop := blockorderChainsRow.holds Try.pinned (OpenSpec.ofChange blockorderChainsWrong)

/-- 'warmpathlaw37.BlockorderLimits': WHATEVER THE INPUT: true; the input reads as it did. -/
def blockorderLimitsSpec : ChangeSpec := { name := "blockorderLimits", fn := fun _ => fun
  | [d1, d2] => { results := [.lit (.bool true)], args := [d1, d2] }
  | _ => none }
def blockorderLimitsRow : OpenClaim := { program := "ythjoehaglonjaaa", sum := "22a80666c6ac8f3152737b0fbdca897beb650150fdd5040e1dbe754e7c7f67ba", func := "warmpath/warmpathlaw37.BlockorderLimits", spec := "blockorderLimits", unfollowed := true, recurses := true, apart := false }
def BlockorderLimitsSaid : Prop := blockorderLimitsRow.holds Try.pinned (OpenSpec.ofChange blockorderLimitsSpec)

/-- ITS FALSE NEIGHBOUR: 'it returns false'. Refute it at one input. -/
def blockorderLimitsWrong : ChangeSpec := { name := "blockorderLimits", fn := fun _ => fun
  | [d1, d2] => { results := [.lit (.bool false)], args := [d1, d2] }
  | _ => none }
def BlockorderLimitsWrongFalsely : Prop := blockorderLimitsRow.holds Try.pinned (OpenSpec.ofChange blockorderLimitsWrong)

/- THE SECOND FORM. 'bulk': how many values and letters a reading holds, each counted each time it is reached (what is shared counts as often as it is met; a slice's spare places count too). A statement '..UptoSaid' is the law's where the arguments, and the package variables that the reading takes, are together of bulk at most 1048576: NARROWER than '..Said'. Prove '..Said' where nothing that the law and all that it calls make is longer than what came in: it says more and counts as full. Else prove '..UptoSaid'. A law counts once. -/
mutual
def uptoBulk {H : Type} : DataW H → Nat
  | .lit (.string bytes) => bytes.length + 1
  | .lit _ => 1
  | .nil => 1
  | .ptr d => uptoBulk d + 1
  | .slice elems spare => uptoBulkAll elems + uptoBulkAll spare + 1
  | .agg parts => uptoBulkAll parts + 1
  | .iface _ d => uptoBulk d + 1
  | .map entries => uptoBulkEntries entries + 1
  | .held _ => 1
def uptoBulkAll {H : Type} : List (DataW H) → Nat
  | [] => 0
  | d :: r => uptoBulk d + uptoBulkAll r
def uptoBulkEntries {H : Type} : List (Lit × DataW H) → Nat
  | [] => 0
  | x :: r => uptoBulkEntry x + uptoBulkEntries r
def uptoBulkEntry {H : Type} : Lit × DataW H → Nat
  | (.string bytes, d) => bytes.length + uptoBulk d + 1
  | (_, d) => uptoBulk d + 1
 end
def uptoSmall : (H : Type) → List (DataW H) → Bool := fun _ ds => decide (uptoBulkAll ds ≤ 1048576)
def OpenSpec.upto (s : _root_.Go.ChangeSpec) : _root_.Go.OpenSpec := { _root_.Go.OpenSpec.ofChange s with cond := some uptoSmall }

/-- 'warmpathlaw31.StoreAdds', WHERE WHAT IT READS IS OF BULK AT MOST 1048576: true; the input reads as it did. -/
def storeAddsUptoRow : OpenClaim := { program := "ythjoehaglonjaaa", sum := "22a80666c6ac8f3152737b0fbdca897beb650150fdd5040e1dbe754e7c7f67ba", func := "warmpath/warmpathlaw31.StoreAdds", spec := "storeAdds", unfollowed := true, recurses := true, apart := false, narrowed := true }
def StoreAddsUptoSaid : Prop := storeAddsUptoRow.holds Try.pinned (OpenSpec.upto storeAddsSpec)

/-- 'warmpathlaw31.StoreMerges', WHERE WHAT IT READS IS OF BULK AT MOST 1048576: true; the input reads as it did. -/
def storeMergesUptoRow : OpenClaim := { program := "ythjoehaglonjaaa", sum := "22a80666c6ac8f3152737b0fbdca897beb650150fdd5040e1dbe754e7c7f67ba", func := "warmpath/warmpathlaw31.StoreMerges", spec := "storeMerges", unfollowed := true, recurses := true, apart := false, narrowed := true }
def StoreMergesUptoSaid : Prop := storeMergesUptoRow.holds Try.pinned (OpenSpec.upto storeMergesSpec)

/-- 'warmpathlaw31.StoreOrder', WHERE WHAT IT READS IS OF BULK AT MOST 1048576: true; the input reads as it did. -/
def storeOrderUptoRow : OpenClaim := { program := "ythjoehaglonjaaa", sum := "22a80666c6ac8f3152737b0fbdca897beb650150fdd5040e1dbe754e7c7f67ba", func := "warmpath/warmpathlaw31.StoreOrder", spec := "storeOrder", unfollowed := true, recurses := true, apart := false, narrowed := true }
def StoreOrderUptoSaid : Prop := storeOrderUptoRow.holds Try.pinned (OpenSpec.upto storeOrderSpec)

/-- 'warmpathlaw31.StoreLaws', WHERE WHAT IT READS IS OF BULK AT MOST 1048576: true; the input reads as it did. -/
def storeLawsUptoRow : OpenClaim := { program := "ythjoehaglonjaaa", sum := "22a80666c6ac8f3152737b0fbdca897beb650150fdd5040e1dbe754e7c7f67ba", func := "warmpath/warmpathlaw31.StoreLaws", spec := "storeLaws", unfollowed := true, recurses := true, apart := false, narrowed := true }
def StoreLawsUptoSaid : Prop := storeLawsUptoRow.holds Try.pinned (OpenSpec.upto storeLawsSpec)

/-- 'warmpathlaw31.StoreLimits', WHERE WHAT IT READS IS OF BULK AT MOST 1048576: true; the input reads as it did. -/
def storeLimitsUptoRow : OpenClaim := { program := "ythjoehaglonjaaa", sum := "22a80666c6ac8f3152737b0fbdca897beb650150fdd5040e1dbe754e7c7f67ba", func := "warmpath/warmpathlaw31.StoreLimits", spec := "storeLimits", unfollowed := true, recurses := true, apart := false, narrowed := true }
def StoreLimitsUptoSaid : Prop := storeLimitsUptoRow.holds Try.pinned (OpenSpec.upto storeLimitsSpec)

/-- 'warmpathlaw37.BlockorderChains', WHERE WHAT IT READS IS OF BULK AT MOST 1048576: true; the input reads as it did. -/
def blockorderChainsUptoRow : OpenClaim := { program := "ythjoehaglonjaaa", sum := "22a80666c6ac8f3152737b0fbdca897beb650150fdd5040e1dbe754e7c7f67ba", func := "warmpath/warmpathlaw37.BlockorderChains", spec := "blockorderChains", unfollowed := true, recurses := true, apart := false, narrowed := true }
def BlockorderChainsUptoSaid : Prop := blockorderChainsUptoRow.holds Try.pinned (OpenSpec.upto blockorderChainsSpec)

/-- 'warmpathlaw37.BlockorderLimits', WHERE WHAT IT READS IS OF BULK AT MOST 1048576: true; the input reads as it did. -/
def blockorderLimitsUptoRow : OpenClaim := { program := "ythjoehaglonjaaa", sum := "22a80666c6ac8f3152737b0fbdca897beb650150fdd5040e1dbe754e7c7f67ba", func := "warmpath/warmpathlaw37.BlockorderLimits", spec := "blockorderLimits", unfollowed := true, recurses := true, apart := false, narrowed := true }
def BlockorderLimitsUptoSaid : Prop := blockorderLimitsUptoRow.holds Try.pinned (OpenSpec.upto blockorderLimitsSpec)

end Rows
end Go.Proofs.Ythjoehaglonjaaa
