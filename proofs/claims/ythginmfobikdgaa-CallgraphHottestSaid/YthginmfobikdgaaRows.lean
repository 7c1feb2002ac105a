/-
  No cell of these rows narrows 'for every input' (looked for: loops, veiled, ifaces, maps, wideKeys, modest, calm, conditions, laid).
  DERIVED. THE GIVEN ROWS OF THIS SEAT. 12 by the template 'for every input the law returns true; each argument reads behind the call as it read before'; 0 by the template 'total and deterministic' (their statements: YthginmfobikdgaaTotals.lean).
  GIVEN WITH THE SEED: the statements are not yours to turn. If you find one false, say at which input.
  Laid BY PROGRAM, IN A SANDBOX (cutbox-rows.mjs): the forced cells as the released guide's own fill.sh prints them over the translation b73c10dd7e1c18f8… (all of the seat's roots in one cut). By AI agents, Wed Nov 11 2026. No macro, syntax, notation, axiom, sorry.
-/
import Derived.Test.YthginmfobikdgaaChecked
import GoSem.Claim
import GoSem.ClaimJoined
import GoSem.ClaimMapViews
import Derived.JoinedTies
import Derived.KernelRfl
namespace Go.Proofs.Ythginmfobikdgaa
/- THE CELL 'sum', in the pinned program and in every row, IS THE sha256 OF THE DUMP (.gsa) THAT YthginmfobikdgaaProg.lean LOADS. Nothing in Lean hashes anything: it is a label: what it is worth is what the hold of that sum in a sandbox is worth. -/
noncomputable def Try.pinned : Pinned := { name := "ythginmfobikdgaa", sum := "b73c10dd7e1c18f81afc7e03c1b4dca644b5fd226f287c832b462b8f15dd3b53", checked := Try.checked }
namespace Rows
def none {H : Type} : Left H := { results := [], args := [] }

/-- 'warmpathlaw28.MatchingCommon': WHATEVER THE INPUT: true; the input reads as it did. -/
def matchingCommonSpec : ChangeSpec := { name := "matchingCommon", fn := fun _ => fun
  | [d1, d2, d3] => { results := [.lit (.bool true)], args := [d1, d2, d3] }
  | _ => none }
def matchingCommonRow : OpenClaim := { program := "ythginmfobikdgaa", sum := "b73c10dd7e1c18f81afc7e03c1b4dca644b5fd226f287c832b462b8f15dd3b53", func := "warmpath/warmpathlaw28.MatchingCommon", spec := "matchingCommon", plainKeys := false, apart := false }
def MatchingCommonSaid : Prop := matchingCommonRow.holds Try.pinned (OpenSpec.ofChange matchingCommonSpec)

/-- ITS FALSE NEIGHBOUR: 'it returns false'. Refute it at one input. -/
def matchingCommonWrong : ChangeSpec := { name := "matchingCommon", fn := fun _ => fun
  | [d1, d2, d3] => { results := [.lit (.bool false)], args := [d1, d2, d3] }
  | _ => none }
def MatchingCommonWrongFalsely : Prop := matchingCommonRow.holds Try.pinned (OpenSpec.ofChange matchingCommonWrong)

/-- 'warmpathlaw33.CallgraphOrders': WHATEVER THE INPUT: true; the input reads as it did. -/
def callgraphOrdersSpec : ChangeSpec := { name := "callgraphOrders", fn := fun _ => fun
  | [d] => { results := [.lit (.bool true)], args := [d] }
  | _ => none }
def callgraphOrdersRow : OpenClaim := { program := "ythginmfobikdgaa", sum := "b73c10dd7e1c18f81afc7e03c1b4dca644b5fd226f287c832b462b8f15dd3b53", func := "warmpath/warmpathlaw33.CallgraphOrders", spec := "callgraphOrders", unfollowed := true, recurses := true, plainKeys := false, apart := false }
def CallgraphOrdersSaid : Prop := callgraphOrdersRow.holds Try.pinned (OpenSpec.ofChange callgraphOrdersSpec)

/-- ITS FALSE NEIGHBOUR: 'it returns false'. Refute it at one input. -/
def callgraphOrdersWrong : ChangeSpec := { name := "callgraphOrders", fn := fun _ => fun
  | [d] => { results := [.lit (.bool false)], args := [d] }
  | _ => none }
def CallgraphOrdersWrongFalsely : Prop := callgraphOrdersRow.holds Try.pinned (OpenSpec.ofChange callgraphOrdersWrong)

/-- 'warmpathlaw32.WeightOrder': WHATEVER THE INPUT: true; the input reads as it did. -/
def weightOrderSpec : ChangeSpec := { name := "weightOrder", fn := fun _ => fun
  | [d1, d2] => { results := [.lit (.bool true)], args := [d1, d2] }
  | _ => none }
def weightOrderRow : OpenClaim := { program := "ythginmfobikdgaa", sum := "b73c10dd7e1c18f81afc7e03c1b4dca644b5fd226f287c832b462b8f15dd3b53", func := "warmpath/warmpathlaw32.WeightOrder", spec := "weightOrder", unfollowed := true, recurses := true, plainKeys := false, apart := false }
def WeightOrderSaid : Prop := weightOrderRow.holds Try.pinned (OpenSpec.ofChange weightOrderSpec)

/-- ITS FALSE NEIGHBOUR: 'it returns false'. Refute it at one input. -/
def weightOrderWrong : ChangeSpec := { name := "weightOrder", fn := fun _ => fun
  | [d1, d2] => { results := [.lit (.bool false)], args := [d1, d2] }
  | _ => none }
def WeightOrderWrongFalsely : Prop := weightOrderRow.holds Try.pinned (OpenSpec.ofChange weightOrderWrong)

/-- 'warmpathlaw32.WeightOne': WHATEVER THE INPUT: true; the input reads as it did. -/
def weightOneSpec : ChangeSpec := { name := "weightOne", fn := fun _ => fun
  | [d1, d2] => { results := [.lit (.bool true)], args := [d1, d2] }
  | _ => none }
def weightOneRow : OpenClaim := { program := "ythginmfobikdgaa", sum := "b73c10dd7e1c18f81afc7e03c1b4dca644b5fd226f287c832b462b8f15dd3b53", func := "warmpath/warmpathlaw32.WeightOne", spec := "weightOne", unfollowed := true, recurses := true, plainKeys := false, apart := false }
def WeightOneSaid : Prop := weightOneRow.holds Try.pinned (OpenSpec.ofChange weightOneSpec)

/-- ITS FALSE NEIGHBOUR: 'it returns false'. Refute it at one input. -/
def weightOneWrong : ChangeSpec := { name := "weightOne", fn := fun _ => fun
  | [d1, d2] => { results := [.lit (.bool false)], args := [d1, d2] }
  | _ => none }
def WeightOneWrongFalsely : Prop := weightOneRow.holds Try.pinned (OpenSpec.ofChange weightOneWrong)

/-- 'warmpathlaw32.WeightFactors': WHATEVER THE INPUT: true; the input reads as it did. -/
def weightFactorsSpec : ChangeSpec := { name := "weightFactors", fn := fun _ => fun
  | [d1, d2, d3] => { results := [.lit (.bool true)], args := [d1, d2, d3] }
  | _ => none }
def weightFactorsRow : OpenClaim := { program := "ythginmfobikdgaa", sum := "b73c10dd7e1c18f81afc7e03c1b4dca644b5fd226f287c832b462b8f15dd3b53", func := "warmpath/warmpathlaw32.WeightFactors", spec := "weightFactors", unfollowed := true, recurses := true, plainKeys := false, apart := false }
def WeightFactorsSaid : Prop := weightFactorsRow.holds Try.pinned (OpenSpec.ofChange weightFactorsSpec)

/-- ITS FALSE NEIGHBOUR: 'it returns false'. Refute it at one input. -/
def weightFactorsWrong : ChangeSpec := { name := "weightFactors", fn := fun _ => fun
  | [d1, d2, d3] => { results := [.lit (.bool false)], args := [d1, d2, d3] }
  | _ => none }
def WeightFactorsWrongFalsely : Prop := weightFactorsRow.holds Try.pinned (OpenSpec.ofChange weightFactorsWrong)

/-- 'warmpathlaw32.WeightSums': WHATEVER THE INPUT: true; the input reads as it did. -/
def weightSumsSpec : ChangeSpec := { name := "weightSums", fn := fun _ => fun
  | [d] => { results := [.lit (.bool true)], args := [d] }
  | _ => none }
def weightSumsRow : OpenClaim := { program := "ythginmfobikdgaa", sum := "b73c10dd7e1c18f81afc7e03c1b4dca644b5fd226f287c832b462b8f15dd3b53", func := "warmpath/warmpathlaw32.WeightSums", spec := "weightSums", unfollowed := true, recurses := true, plainKeys := false, apart := false }
def WeightSumsSaid : Prop := weightSumsRow.holds Try.pinned (OpenSpec.ofChange weightSumsSpec)

/-- ITS FALSE NEIGHBOUR: 'it returns false'. Refute it at one input. -/
def weightSumsWrong : ChangeSpec := { name := "weightSums", fn := fun _ => fun
  | [d] => { results := [.lit (.bool false)], args := [d] }
  | _ => none }
def WeightSumsWrongFalsely : Prop := weightSumsRow.holds Try.pinned (OpenSpec.ofChange weightSumsWrong)

/-- 'warmpathlaw33.CallgraphHottest': WHATEVER THE INPUT: true; the input reads as it did. -/
def callgraphHottestSpec : ChangeSpec := { name := "callgraphHottest", fn := fun _ => fun
  | [d1, d2] => { results := [.lit (.bool true)], args := [d1, d2] }
  | _ => none }
def callgraphHottestRow : OpenClaim := { program := "ythginmfobikdgaa", sum := "b73c10dd7e1c18f81afc7e03c1b4dca644b5fd226f287c832b462b8f15dd3b53", func := "warmpath/warmpathlaw33.CallgraphHottest", spec := "callgraphHottest", unfollowed := true, recurses := true, plainKeys := false, apart := false }
def CallgraphHottestSaid : Prop := callgraphHottestRow.holds Try.pinned (OpenSpec.ofChange callgraphHottestSpec)

/-- ITS FALSE NEIGHBOUR: 'it returns false'. Refute it at one input. -/
def callgraphHottestWrong : ChangeSpec := { name := "callgraphHottest", fn := fun _ => fun
  | [d1, d2] => { results := [.lit (.bool false)], args := [d1, d2] }
  | _ => none }
def CallgraphHottestWrongFalsely : Prop := callgraphHottestRow.holds Try.pinned (OpenSpec.ofChange callgraphHottestWrong)

/-- 'warmpathlaw38.PlaceWeighs': WHATEVER THE INPUT: true; the input reads as it did. -/
def placeWeighsSpec : ChangeSpec := { name := "placeWeighs", fn := fun _ => fun
  | [d1, d2, d3, d4, d5] => { results := [.lit (.bool true)], args := [d1, d2, d3, d4, d5] }
  | _ => none }
def placeWeighsRow : OpenClaim := { program := "ythginmfobikdgaa", sum := "b73c10dd7e1c18f81afc7e03c1b4dca644b5fd226f287c832b462b8f15dd3b53", func := "warmpath/warmpathlaw38.PlaceWeighs", spec := "placeWeighs", unfollowed := true, recurses := true, plainKeys := false, apart := false }
def PlaceWeighsSaid : Prop := placeWeighsRow.holds Try.pinned (OpenSpec.ofChange placeWeighsSpec)

/-- ITS FALSE NEIGHBOUR: 'it returns false'. Refute it at one input. -/
def placeWeighsWrong : ChangeSpec := { name := "placeWeighs", fn := fun _ => fun
  | [d1, d2, d3, d4, d5] => { results := [.lit (.bool false)], args := [d1, d2, d3, d4, d5] }
  | _ => none }
def PlaceWeighsWrongFalsely : Prop := placeWeighsRow.holds Try.pinned (OpenSpec.ofChange placeWeighsWrong)

/-- 'warmpathlaw38.PlaceFits': WHATEVER THE INPUT: true; the input reads as it did. -/
def placeFitsSpec : ChangeSpec := { name := "placeFits", fn := fun _ => fun
  | [d1, d2] => { results := [.lit (.bool true)], args := [d1, d2] }
  | _ => none }
def placeFitsRow : OpenClaim := { program := "ythginmfobikdgaa", sum := "b73c10dd7e1c18f81afc7e03c1b4dca644b5fd226f287c832b462b8f15dd3b53", func := "warmpath/warmpathlaw38.PlaceFits", spec := "placeFits", unfollowed := true, recurses := true, plainKeys := false, apart := false }
def PlaceFitsSaid : Prop := placeFitsRow.holds Try.pinned (OpenSpec.ofChange placeFitsSpec)

/-- ITS FALSE NEIGHBOUR: 'it returns false'. Refute it at one input. -/
def placeFitsWrong : ChangeSpec := { name := "placeFits", fn := fun _ => fun
  | [d1, d2] => { results := [.lit (.bool false)], args := [d1, d2] }
  | _ => none }
def PlaceFitsWrongFalsely : Prop := placeFitsRow.holds Try.pinned (OpenSpec.ofChange placeFitsWrong)

/-- 'warmpathlaw38.PlaceScales': WHATEVER THE INPUT: true; the input reads as it did. -/
def placeScalesSpec : ChangeSpec := { name := "placeScales", fn := fun _ => fun
  | [d1, d2, d3] => { results := [.lit (.bool true)], args := [d1, d2, d3] }
  | _ => none }
def placeScalesRow : OpenClaim := { program := "ythginmfobikdgaa", sum := "b73c10dd7e1c18f81afc7e03c1b4dca644b5fd226f287c832b462b8f15dd3b53", func := "warmpath/warmpathlaw38.PlaceScales", spec := "placeScales", unfollowed := true, recurses := true, plainKeys := false, apart := false }
def PlaceScalesSaid : Prop := placeScalesRow.holds Try.pinned (OpenSpec.ofChange placeScalesSpec)

/-- ITS FALSE NEIGHBOUR: 'it returns false'. Refute it at one input. -/
def placeScalesWrong : ChangeSpec := { name := "placeScales", fn := fun _ => fun
  | [d1, d2, d3] => { results := [.lit (.bool false)], args := [d1, d2, d3] }
  | _ => none }
def PlaceScalesWrongFalsely : Prop := placeScalesRow.holds Try.pinned (OpenSpec.ofChange placeScalesWrong)

/-- 'warmpathlaw38.PlaceGroups': WHATEVER THE INPUT: true; the input reads as it did. -/
def placeGroupsSpec : ChangeSpec := { name := "placeGroups", fn := fun _ => fun
  | [d] => { results := [.lit (.bool true)], args := [d] }
  | _ => none }
def placeGroupsRow : OpenClaim := { program := "ythginmfobikdgaa", sum := "b73c10dd7e1c18f81afc7e03c1b4dca644b5fd226f287c832b462b8f15dd3b53", func := "warmpath/warmpathlaw38.PlaceGroups", spec := "placeGroups", unfollowed := true, recurses := true, plainKeys := false, apart := false }
def PlaceGroupsSaid : Prop := placeGroupsRow.holds Try.pinned (OpenSpec.ofChange placeGroupsSpec)

/-- ITS FALSE NEIGHBOUR: 'it returns false'. Refute it at one input. -/
def placeGroupsWrong : ChangeSpec := { name := "placeGroups", fn := fun _ => fun
  | [d] => { results := [.lit (.bool false)], args := [d] }
  | _ => none }
def PlaceGroupsWrongFalsely : Prop := placeGroupsRow.holds Try.pinned (OpenSpec.ofChange placeGroupsWrong)

/-- 'warmpathlaw38.PlaceBest': WHATEVER THE INPUT: true; the input reads as it did. -/
def placeBestSpec : ChangeSpec := { name := "placeBest", fn := fun _ => fun
  | [d1, d2] => { results := [.lit (.bool true)], args := [d1, d2] }
  | _ => none }
def placeBestRow : OpenClaim := { program := "ythginmfobikdgaa", sum := "b73c10dd7e1c18f81afc7e03c1b4dca644b5fd226f287c832b462b8f15dd3b53", func := "warmpath/warmpathlaw38.PlaceBest", spec := "placeBest", unfollowed := true, recurses := true, plainKeys := false, apart := false }
def PlaceBestSaid : Prop := placeBestRow.holds Try.pinned (OpenSpec.ofChange placeBestSpec)

/-- ITS FALSE NEIGHBOUR: 'it returns false'. Refute it at one input. -/
def placeBestWrong : ChangeSpec := { name := "placeBest", fn := fun _ => fun
  | [d1, d2] => { results := [.lit (.bool false)], args := [d1, d2] }
  | _ => none }
def PlaceBestWrongFalsely : Prop := placeBestRow.holds Try.pinned (OpenSpec.ofChange placeBestWrong)

/- THE SECOND FORM. 'bulk': how many values and letters a reading holds, each counted each time it is reached (what is shared counts as often as it is met; a slice's spare places count too). A statement '..UptoSaid' is the law's where the arguments, and the package variables that the reading takes, are together of bulk at most 1048576: NARROWER than '..Said'. Prove '..Said' where nothing that the law and all that it calls make is longer than what came in: it says more and counts as full. Else prove '..UptoSaid'. A law counts once. -/
mutual
def uptoBulk {H : Type} : DataW H → Nat
  | .lit (.string bytes) => bytes.length + 1
  | .lit _ => 1
  | .nil => 1
  | .ptr d => uptoBulk d + 1
  | .slice elems spare => uptoBulkAll elems + uptoBulkAll spare + 1
  | .agg parts => uptoBulkAll parts + 1
  | .iface _ d => uptoBulk d + 1
  | .map entries => uptoBulkEntries entries + 1
  | .held _ => 1
def uptoBulkAll {H : Type} : List (DataW H) → Nat
  | [] => 0
  | d :: r => uptoBulk d + uptoBulkAll r
def uptoBulkEntries {H : Type} : List (Lit × DataW H) → Nat
  | [] => 0
  | x :: r => uptoBulkEntry x + uptoBulkEntries r
def uptoBulkEntry {H : Type} : Lit × DataW H → Nat
  | (.string bytes, d) => bytes.length + uptoBulk d + 1
  | (_, d) => uptoBulk d + 1
 end
def uptoSmall : (H : Type) → List (DataW H) → Bool := fun _ ds => decide (uptoBulkAll ds ≤ 1048576)
def OpenSpec.upto (s : _root_.Go.ChangeSpec) : _root_.Go.OpenSpec := { _root_.Go.OpenSpec.ofChange s with cond := some uptoSmall }

/-- 'warmpathlaw28.MatchingCommon', WHERE WHAT IT READS IS OF BULK AT MOST 1048576: true; the input reads as it did. -/
def matchingCommonUptoRow : OpenClaim := { program := "ythginmfobikdgaa", sum := "b73c10dd7e1c18f81afc7e03c1b4dca644b5fd226f287c832b462b8f15dd3b53", func := "warmpath/warmpathlaw28.MatchingCommon", spec := "matchingCommon", plainKeys := false, apart := false, narrowed := true }
def MatchingCommonUptoSaid : Prop := matchingCommonUptoRow.holds Try.pinned (OpenSpec.upto matchingCommonSpec)

/-- 'warmpathlaw33.CallgraphOrders', WHERE WHAT IT READS IS OF BULK AT MOST 1048576: true; the input reads as it did. -/
def callgraphOrdersUptoRow : OpenClaim := { program := "ythginmfobikdgaa", sum := "b73c10dd7e1c18f81afc7e03c1b4dca644b5fd226f287c832b462b8f15dd3b53", func := "warmpath/warmpathlaw33.CallgraphOrders", spec := "callgraphOrders", unfollowed := true, recurses := true, plainKeys := false, apart := false, narrowed := true }
def CallgraphOrdersUptoSaid : Prop := callgraphOrdersUptoRow.holds Try.pinned (OpenSpec.upto callgraphOrdersSpec)

/-- 'warmpathlaw32.WeightOrder', WHERE WHAT IT READS IS OF BULK AT MOST 1048576: true; the input reads as it did. -/
def weightOrderUptoRow : OpenClaim := { program := "ythginmfobikdgaa", sum := "b73c10dd7e1c18f81afc7e03c1b4dca644b5fd226f287c832b462b8f15dd3b53", func := "warmpath/warmpathlaw32.WeightOrder", spec := "weightOrder", unfollowed := true, recurses := true, plainKeys := false, apart := false, narrowed := true }
def WeightOrderUptoSaid : Prop := weightOrderUptoRow.holds Try.pinned (OpenSpec.upto weightOrderSpec)

/-- 'warmpathlaw32.WeightOne', WHERE WHAT IT READS IS OF BULK AT MOST 1048576: true; the input reads as it did. -/
def weightOneUptoRow : OpenClaim := { program := "ythginmfobikdgaa", sum := "b73c10dd7e1c18f81afc7e03c1b4dca644b5fd226f287c832b462b8f15dd3b53", func := "warmpath/warmpathlaw32.WeightOne", spec := "weightOne", unfollowed := true, recurses := true, plainKeys := false, apart := false, narrowed := true }
def WeightOneUptoSaid : Prop := weightOneUptoRow.holds Try.pinned (OpenSpec.upto weightOneSpec)

/-- 'warmpathlaw32.WeightFactors', WHERE WHAT IT READS IS OF BULK AT MOST 1048576: true; the input reads as it did. -/
def weightFactorsUptoRow : OpenClaim := { program := "ythginmfobikdgaa", sum := "b73c10dd7e1c18f81afc7e03c1b4dca644b5fd226f287c832b462b8f15dd3b53", func := "warmpath/warmpathlaw32.WeightFactors", spec := "weightFactors", unfollowed := true, recurses := true, plainKeys := false, apart := false, narrowed := true }
def WeightFactorsUptoSaid : Prop := weightFactorsUptoRow.holds Try.pinned (OpenSpec.upto weightFactorsSpec)

/-- 'warmpathlaw32.WeightSums', WHERE WHAT IT READS IS OF BULK AT MOST 1048576: true; the input reads as it did. -/
def weightSumsUptoRow : OpenClaim := { program := "ythginmfobikdgaa", sum := "b73c10dd7e1c18f81afc7e03c1b4dca644b5fd226f287c832b462b8f15dd3b53", func := "warmpath/warmpathlaw32.WeightSums", spec := "weightSums", unfollowed := true, recurses := true, plainKeys := false, apart := false, narrowed := true }
def WeightSumsUptoSaid : Prop := weightSumsUptoRow.holds Try.pinned (OpenSpec.upto weightSumsSpec)

/-- 'warmpathlaw33.CallgraphHottest', WHERE WHAT IT READS IS OF BULK AT MOST 1048576: true; the input reads as it did. -/
def callgraphHottestUptoRow : OpenClaim := { program := "ythginmfobikdgaa", sum := "b73c10dd7e1c18f81afc7e03c1b4dca644b5fd226f287c832b462b8f15dd3b53", func := "warmpath/warmpathlaw33.CallgraphHottest", spec := "callgraphHottest", unfollowed := true, recurses := true, plainKeys := false, apart := false, narrowed := true }
def CallgraphHottestUptoSaid : Prop := callgraphHottestUptoRow.holds Try.pinned (OpenSpec.upto callgraphHottestSpec)

/-- 'warmpathlaw38.PlaceWeighs', WHERE WHAT IT READS IS OF BULK AT MOST 1048576: true; the input reads as it did. -/
def placeWeighsUptoRow : OpenClaim := { program := "ythginmfobikdgaa", sum := "b73c10dd7e1c18f81afc7e03c1b4dca644b5fd226f287c832b462b8f15dd3b53", func := "warmpath/warmpathlaw38.PlaceWeighs", spec := "placeWeighs", unfollowed := true, recurses := true, plainKeys := false, apart := false, narrowed := true }
def PlaceWeighsUptoSaid : Prop := placeWeighsUptoRow.holds Try.pinned (OpenSpec.upto placeWeighsSpec)

/-- 'warmpathlaw38.PlaceFits', WHERE WHAT IT READS IS OF BULK AT MOST 1048576: true; the input reads as it did. -/
def placeFitsUptoRow : OpenClaim := { program := "ythginmfobikdgaa", sum := "b73c10dd7e1c18f81afc7e03c1b4dca644b5fd226f287c832b462b8f15dd3b53", func := "warmpath/warmpathlaw38.PlaceFits", spec := "placeFits", unfollowed := true, recurses := true, plainKeys := false, apart := false, narrowed := true }
def PlaceFitsUptoSaid : Prop := placeFitsUptoRow.holds Try.pinned (OpenSpec.upto placeFitsSpec)

/-- 'warmpathlaw38.PlaceScales', WHERE WHAT IT READS IS OF BULK AT MOST 1048576: true; the input reads as it did. -/
def placeScalesUptoRow : OpenClaim := { program := "ythginmfobikdgaa", sum := "b73c10dd7e1c18f81afc7e03c1b4dca644b5fd226f287c832b462b8f15dd3b53", func := "warmpath/warmpathlaw38.PlaceScales", spec := "placeScales", unfollowed := true, recurses := true, plainKeys := false, apart := false, narrowed := true }
def PlaceScalesUptoSaid : Prop := placeScalesUptoRow.holds Try.pinned (OpenSpec.upto placeScalesSpec)

/-- 'warmpathlaw38.PlaceGroups', WHERE WHAT IT READS IS OF BULK AT MOST 1048576: true; the input reads as it did. -/
def placeGroupsUptoRow : OpenClaim := { program := "ythginmfobikdgaa", sum := "b73c10dd7e1c18f81afc7e03c1b4dca644b5fd226f287c832b462b8f15dd3b53", func := "warmpath/warmpathlaw38.PlaceGroups", spec := "placeGroups", unfollowed := true, recurses := true, plainKeys := false, apart := false, narrowed := true }
def PlaceGroupsUptoSaid : Prop := placeGroupsUptoRow.holds Try.pinned (OpenSpec.upto placeGroupsSpec)

/-- 'warmpathlaw38.PlaceBest', WHERE WHAT IT READS IS OF BULK AT MOST 1048576: true; the input reads as it did. -/
def placeBestUptoRow : OpenClaim := { program := "ythginmfobikdgaa", sum := "b73c10dd7e1c18f81afc7e03c1b4dca644b5fd226f287c832b462b8f15dd3b53", func := "warmpath/warmpathlaw38.PlaceBest", spec := "placeBest", unfollowed := true, recurses := true, plainKeys := false, apart := false, narrowed := true }
def PlaceBestUptoSaid : Prop := placeBestUptoRow.holds Try.pinned (OpenSpec.upto placeBestSpec)

end Rows
end Go.Proofs.Ythginmfobikdgaa
