/-
  No cell of these rows narrows 'for every input' (looked for: loops, veiled, ifaces, maps, wideKeys, modest, calm, conditions, laid).
  DERIVED. THE GIVEN ROWS OF THIS SEAT. 7 by the template 'for every input the law returns true; each argument reads behind the call as it read before'; 0 by the template 'total and deterministic' (their statements: YthklljlachljgaaTotals.lean).
  GIVEN WITH THE SEED: the statements are not yours to turn. If you find one false, say at which input.
  Laid BY PROGRAM, IN A SANDBOX (cutbox-rows.mjs): the forced cells as the released guide's own fill.sh prints them over the translation a2988409821b038a… (all of the seat's roots in one cut). By AI agents, Wed Nov 11 2026. No macro, syntax, notation, axiom, sorry.
-/
import Derived.Test.YthklljlachljgaaChecked
import GoSem.Claim
import GoSem.ClaimJoined
import GoSem.ClaimMapViews
import Derived.JoinedTies
import Derived.KernelRfl
namespace Go.Proofs.Ythklljlachljgaa
/- THE CELL 'sum', in the pinned program and in every row, IS THE sha256 OF THE DUMP (.gsa) THAT YthklljlachljgaaProg.lean LOADS. Nothing in Lean hashes anything: it is a label: what it is worth is what the hold of that sum in a sandbox is worth. -/
noncomputable def Try.pinned : Pinned := { name := "ythklljlachljgaa", sum := "a2988409821b038ad5b48c9a3647a18316200374b18b7978e1281b39bd5e7b21", checked := Try.checked }
namespace Rows
def none {H : Type} : Left H := { results := [], args := [] }

/-- 'regulatorlaw40.WatchMatchesReference': WHATEVER THE INPUT: true; the input reads as it did. -/
def watchMatchesReferenceSpec : ChangeSpec := { name := "watchMatchesReference", fn := fun _ => fun
  | [d1, d2, d3, d4, d5, d6, d7, d8, d9, d10, d11] => { results := [.lit (.bool true)], args := [d1, d2, d3, d4, d5, d6, d7, d8, d9, d10, d11] }
  | _ => none }
def watchMatchesReferenceRow : OpenClaim := { program := "ythklljlachljgaa", sum := "a2988409821b038ad5b48c9a3647a18316200374b18b7978e1281b39bd5e7b21", func := "regulator/regulatorlaw40.WatchMatchesReference", spec := "watchMatchesReference", unfollowed := true, recurses := true, apart := false }
def WatchMatchesReferenceSaid : Prop := watchMatchesReferenceRow.holds Try.pinned (OpenSpec.ofChange watchMatchesReferenceSpec)

/-- ITS FALSE NEIGHBOUR: 'it returns false'. Refute it at one input. -/
def watchMatchesReferenceWrong : ChangeSpec := { name := "watchMatchesReference", fn := fun _ => fun
  | [d1, d2, d3, d4, d5, d6, d7, d8, d9, d10, d11] => { results := [.lit (.bool false)], args := [d1, d2, d3, d4, d5, d6, d7, d8, d9, d10, d11] }
  | _ => none }
def WatchMatchesReferenceWrongFalsely : Prop := watchMatchesReferenceRow.holds Try.pinned (OpenSpec.ofChange watchMatchesReferenceWrong)

/-- 'regulatorlaw40.WatchTruth': WHATEVER THE INPUT: true; the input reads as it did. -/
def watchTruthSpec : ChangeSpec := { name := "watchTruth", fn := fun _ => fun
  | [d1, d2, d3, d4, d5, d6, d7, d8] => { results := [.lit (.bool true)], args := [d1, d2, d3, d4, d5, d6, d7, d8] }
  | _ => none }
def watchTruthRow : OpenClaim := { program := "ythklljlachljgaa", sum := "a2988409821b038ad5b48c9a3647a18316200374b18b7978e1281b39bd5e7b21", func := "regulator/regulatorlaw40.WatchTruth", spec := "watchTruth", unfollowed := true, recurses := true, apart := false }
def WatchTruthSaid : Prop := watchTruthRow.holds Try.pinned (OpenSpec.ofChange watchTruthSpec)

/-- ITS FALSE NEIGHBOUR: 'it returns false'. Refute it at one input. -/
def watchTruthWrong : ChangeSpec := { name := "watchTruth", fn := fun _ => fun
  | [d1, d2, d3, d4, d5, d6, d7, d8] => { results := [.lit (.bool false)], args := [d1, d2, d3, d4, d5, d6, d7, d8] }
  | _ => none }
def WatchTruthWrongFalsely : Prop := watchTruthRow.holds Try.pinned (OpenSpec.ofChange watchTruthWrong)

/-- 'regulatorlaw40.WatchFaults': WHATEVER THE INPUT: true; the input reads as it did. -/
def watchFaultsSpec : ChangeSpec := { name := "watchFaults", fn := fun _ => fun
  | [d1, d2, d3, d4, d5, d6, d7, d8] => { results := [.lit (.bool true)], args := [d1, d2, d3, d4, d5, d6, d7, d8] }
  | _ => none }
def watchFaultsRow : OpenClaim := { program := "ythklljlachljgaa", sum := "a2988409821b038ad5b48c9a3647a18316200374b18b7978e1281b39bd5e7b21", func := "regulator/regulatorlaw40.WatchFaults", spec := "watchFaults", unfollowed := true, recurses := true, apart := false }
def WatchFaultsSaid : Prop := watchFaultsRow.holds Try.pinned (OpenSpec.ofChange watchFaultsSpec)

/-- ITS FALSE NEIGHBOUR: 'it returns false'. Refute it at one input. -/
def watchFaultsWrong : ChangeSpec := { name := "watchFaults", fn := fun _ => fun
  | [d1, d2, d3, d4, d5, d6, d7, d8] => { results := [.lit (.bool false)], args := [d1, d2, d3, d4, d5, d6, d7, d8] }
  | _ => none }
def WatchFaultsWrongFalsely : Prop := watchFaultsRow.holds Try.pinned (OpenSpec.ofChange watchFaultsWrong)

/-- 'regulatorlaw40.WatchLies': WHATEVER THE INPUT: true; the input reads as it did. -/
def watchLiesSpec : ChangeSpec := { name := "watchLies", fn := fun _ => fun
  | [d1, d2, d3, d4, d5, d6, d7] => { results := [.lit (.bool true)], args := [d1, d2, d3, d4, d5, d6, d7] }
  | _ => none }
def watchLiesRow : OpenClaim := { program := "ythklljlachljgaa", sum := "a2988409821b038ad5b48c9a3647a18316200374b18b7978e1281b39bd5e7b21", func := "regulator/regulatorlaw40.WatchLies", spec := "watchLies", unfollowed := true, recurses := true, apart := false }
def WatchLiesSaid : Prop := watchLiesRow.holds Try.pinned (OpenSpec.ofChange watchLiesSpec)

/-- ITS FALSE NEIGHBOUR: 'it returns false'. Refute it at one input. -/
def watchLiesWrong : ChangeSpec := { name := "watchLies", fn := fun _ => fun
  | [d1, d2, d3, d4, d5, d6, d7] => { results := [.lit (.bool false)], args := [d1, d2, d3, d4, d5, d6, d7] }
  | _ => none }
def WatchLiesWrongFalsely : Prop := watchLiesRow.holds Try.pinned (OpenSpec.ofChange watchLiesWrong)

/-- 'regulatorlaw40.WatchFew': WHATEVER THE INPUT: true; the input reads as it did. -/
def watchFewSpec : ChangeSpec := { name := "watchFew", fn := fun _ => fun
  | [d1, d2, d3, d4, d5, d6, d7] => { results := [.lit (.bool true)], args := [d1, d2, d3, d4, d5, d6, d7] }
  | _ => none }
def watchFewRow : OpenClaim := { program := "ythklljlachljgaa", sum := "a2988409821b038ad5b48c9a3647a18316200374b18b7978e1281b39bd5e7b21", func := "regulator/regulatorlaw40.WatchFew", spec := "watchFew", unfollowed := true, recurses := true, apart := false }
def WatchFewSaid : Prop := watchFewRow.holds Try.pinned (OpenSpec.ofChange watchFewSpec)

/-- ITS FALSE NEIGHBOUR: 'it returns false'. Refute it at one input. -/
def watchFewWrong : ChangeSpec := { name := "watchFew", fn := fun _ => fun
  | [d1, d2, d3, d4, d5, d6, d7] => { results := [.lit (.bool false)], args := [d1, d2, d3, d4, d5, d6, d7] }
  | _ => none }
def WatchFewWrongFalsely : Prop := watchFewRow.holds Try.pinned (OpenSpec.ofChange watchFewWrong)

/-- 'regulatorlaw40.WatchWidth': WHATEVER THE INPUT: true; the input reads as it did. -/
def watchWidthSpec : ChangeSpec := { name := "watchWidth", fn := fun _ => fun
  | [d1, d2, d3, d4, d5, d6, d7, d8] => { results := [.lit (.bool true)], args := [d1, d2, d3, d4, d5, d6, d7, d8] }
  | _ => none }
def watchWidthRow : OpenClaim := { program := "ythklljlachljgaa", sum := "a2988409821b038ad5b48c9a3647a18316200374b18b7978e1281b39bd5e7b21", func := "regulator/regulatorlaw40.WatchWidth", spec := "watchWidth", unfollowed := true, recurses := true, apart := false }
def WatchWidthSaid : Prop := watchWidthRow.holds Try.pinned (OpenSpec.ofChange watchWidthSpec)

/-- ITS FALSE NEIGHBOUR: 'it returns false'. Refute it at one input. -/
def watchWidthWrong : ChangeSpec := { name := "watchWidth", fn := fun _ => fun
  | [d1, d2, d3, d4, d5, d6, d7, d8] => { results := [.lit (.bool false)], args := [d1, d2, d3, d4, d5, d6, d7, d8] }
  | _ => none }
def WatchWidthWrongFalsely : Prop := watchWidthRow.holds Try.pinned (OpenSpec.ofChange watchWidthWrong)

/-- 'regulatorlaw40.WatchMissed': WHATEVER THE INPUT: true; the input reads as it did. -/
def watchMissedSpec : ChangeSpec := { name := "watchMissed", fn := fun _ => fun
  | [d1, d2, d3, d4, d5] => { results := [.lit (.bool true)], args := [d1, d2, d3, d4, d5] }
  | _ => none }
def watchMissedRow : OpenClaim := { program := "ythklljlachljgaa", sum := "a2988409821b038ad5b48c9a3647a18316200374b18b7978e1281b39bd5e7b21", func := "regulator/regulatorlaw40.WatchMissed", spec := "watchMissed", unfollowed := true, recurses := true, apart := false }
def WatchMissedSaid : Prop := watchMissedRow.holds Try.pinned (OpenSpec.ofChange watchMissedSpec)

/-- ITS FALSE NEIGHBOUR: 'it returns false'. Refute it at one input. -/
def watchMissedWrong : ChangeSpec := { name := "watchMissed", fn := fun _ => fun
  | [d1, d2, d3, d4, d5] => { results := [.lit (.bool false)], args := [d1, d2, d3, d4, d5] }
  | _ => none }
def WatchMissedWrongFalsely : Prop := watchMissedRow.holds Try.pinned (OpenSpec.ofChange watchMissedWrong)

/- THE SECOND FORM. 'bulk': how many values and letters a reading holds, each counted each time it is reached (what is shared counts as often as it is met; a slice's spare places count too). A statement '..UptoSaid' is the law's where the arguments, and the package variables that the reading takes, are together of bulk at most 1048576: NARROWER than '..Said'. Prove '..Said' where nothing that the law and all that it calls make is longer than what came in: it says more and counts as full. Else prove '..UptoSaid'. A law counts once. -/
mutual
def uptoBulk {H : Type} : DataW H → Nat
  | .lit (.string bytes) => bytes.length + 1
  | .lit _ => 1
  | .nil => 1
  | .ptr d => uptoBulk d + 1
  | .slice elems spare => uptoBulkAll elems + uptoBulkAll spare + 1
  | .agg parts => uptoBulkAll parts + 1
  | .iface _ d => uptoBulk d + 1
  | .map entries => uptoBulkEntries entries + 1
  | .held _ => 1
def uptoBulkAll {H : Type} : List (DataW H) → Nat
  | [] => 0
  | d :: r => uptoBulk d + uptoBulkAll r
def uptoBulkEntries {H : Type} : List (Lit × DataW H) → Nat
  | [] => 0
  | x :: r => uptoBulkEntry x + uptoBulkEntries r
def uptoBulkEntry {H : Type} : Lit × DataW H → Nat
  | (.string bytes, d) => bytes.length + uptoBulk d + 1
  | (_, d) => uptoBulk d + 1
 end
def uptoSmall : (H : Type) → List (DataW H) → Bool := fun _ ds => decide (uptoBulkAll ds ≤ 1048576)
def OpenSpec.upto (s : _root_.Go.ChangeSpec) : _root_.Go.OpenSpec := { _root_.Go.OpenSpec.ofChange s with cond := some uptoSmall }

/-- 'regulatorlaw40.WatchMatchesReference', WHERE WHAT IT READS IS OF BULK AT MOST 1048576: true; the input reads as it did. -/
def watchMatchesReferenceUptoRow : OpenClaim := { program := "ythklljlachljgaa", sum := "a2988409821b038ad5b48c9a3647a18316200374b18b7978e1281b39bd5e7b21", func := "regulator/regulatorlaw40.WatchMatchesReference", spec := "watchMatchesReference", unfollowed := true, recurses := true, apart := false, narrowed := true }
def WatchMatchesReferenceUptoSaid : Prop := watchMatchesReferenceUptoRow.holds Try.pinned (OpenSpec.upto watchMatchesReferenceSpec)

/-- 'regulatorlaw40.WatchTruth', WHERE WHAT IT READS IS OF BULK AT MOST 1048576: true; the input reads as it did. -/
def watchTruthUptoRow : OpenClaim := { program := "ythklljlachljgaa", sum := "a2988409821b038ad5b48c9a3647a18316200374b18b7978e1281b39bd5e7b21", func := "regulator/regulatorlaw40.WatchTruth", spec := "watchTruth", unfollowed := true, recurses := true, apart := false, narrowed := true }
def WatchTruthUptoSaid : Prop := watchTruthUptoRow.holds Try.pinned (OpenSpec.upto watchTruthSpec)

/-- 'regulatorlaw40.WatchFaults', WHERE WHAT IT READS IS OF BULK AT MOST 1048576: true; the input reads as it did. -/
def watchFaultsUptoRow : OpenClaim := { program := "ythklljlachljgaa", sum := "a2988409821b038ad5b48c9a3647a18316200374b18b7978e1281b39bd5e7b21", func := "regulator/regulatorlaw40.WatchFaults", spec := "watchFaults", unfollowed := true, recurses := true, apart := false, narrowed := true }
def WatchFaultsUptoSaid : Prop := watchFaultsUptoRow.holds Try.pinned (OpenSpec.upto watchFaultsSpec)

/-- 'regulatorlaw40.WatchLies', WHERE WHAT IT READS IS OF BULK AT MOST 1048576: true; the input reads as it did. -/
def watchLiesUptoRow : OpenClaim := { program := "ythklljlachljgaa", sum := "a2988409821b038ad5b48c9a3647a18316200374b18b7978e1281b39bd5e7b21", func := "regulator/regulatorlaw40.WatchLies", spec := "watchLies", unfollowed := true, recurses := true, apart := false, narrowed := true }
def WatchLiesUptoSaid : Prop := watchLiesUptoRow.holds Try.pinned (OpenSpec.upto watchLiesSpec)

/-- 'regulatorlaw40.WatchFew', WHERE WHAT IT READS IS OF BULK AT MOST 1048576: true; the input reads as it did. -/
def watchFewUptoRow : OpenClaim := { program := "ythklljlachljgaa", sum := "a2988409821b038ad5b48c9a3647a18316200374b18b7978e1281b39bd5e7b21", func := "regulator/regulatorlaw40.WatchFew", spec := "watchFew", unfollowed := true, recurses := true, apart := false, narrowed := true }
def WatchFewUptoSaid : Prop := watchFewUptoRow.holds Try.pinned (OpenSpec.upto watchFewSpec)

/-- 'regulatorlaw40.WatchWidth', WHERE WHAT IT READS IS OF BULK AT MOST 1048576: true; the input reads as it did. -/
def watchWidthUptoRow : OpenClaim := { program := "ythklljlachljgaa", sum := "a2988409821b038ad5b48c9a3647a18316200374b18b7978e1281b39bd5e7b21", func := "regulator/regulatorlaw40.WatchWidth", spec := "watchWidth", unfollowed := true, recurses := true, apart := false, narrowed := true }
def WatchWidthUptoSaid : Prop := watchWidthUptoRow.holds Try.pinned (OpenSpec.upto watchWidthSpec)

/-- 'regulatorlaw40.WatchMissed', WHERE WHAT IT READS IS OF BULK AT MOST 1048576: true; the input reads as it did. -/
def watchMissedUptoRow : OpenClaim := { program := "ythklljlachljgaa", sum := "a2988409821b038ad5b48c9a3647a18316200374b18b7978e1281b39bd5e7b21", func := "regulator/regulatorlaw40.WatchMissed", spec := "watchMissed", unfollowed := true, recurses := true, apart := false, narrowed := true }
def WatchMissedUptoSaid : Prop := watchMissedUptoRow.holds Try.pinned (OpenSpec.upto watchMissedSpec)

end Rows
end Go.Proofs.Ythklljlachljgaa
