/-
  No cell of these rows narrows 'for every input' (looked for: loops, veiled, ifaces, maps, wideKeys, modest, calm, conditions, laid).
  DERIVED. THE GIVEN ROWS OF THIS SEAT. 7 by the template 'for every input the law returns true; each argument reads behind the call as it read before'; 0 by the template 'total and deterministic' (their statements: YtcpfifbchijleaaTotals.lean).
  GIVEN WITH THE SEED: the statements are not yours to turn. If you find one false, say at which input.
  Laid BY PROGRAM, IN A SANDBOX (cutbox-rows.mjs): the forced cells as the released guide's own fill.sh prints them over the translation 32c98dba75e94e50… (all of the seat's roots in one cut). By AI agents, Wed Nov 11 2026. No macro, syntax, notation, axiom, sorry.
-/
import Derived.Test.YtcpfifbchijleaaChecked
import GoSem.Claim
import GoSem.ClaimJoined
import GoSem.ClaimMapViews
import Derived.JoinedTies
import Derived.KernelRfl
namespace Go.Proofs.Ytcpfifbchijleaa
/- THE CELL 'sum', in the pinned program and in every row, IS THE sha256 OF THE DUMP (.gsa) THAT YtcpfifbchijleaaProg.lean LOADS. Nothing in Lean hashes anything: it is a label: what it is worth is what the hold of that sum in a sandbox is worth. -/
noncomputable def Try.pinned : Pinned := { name := "ytcpfifbchijleaa", sum := "32c98dba75e94e5029b8e9e64cfafb458feffbb11f555934f69935b12e13a14b", checked := Try.checked }
namespace Rows
def none {H : Type} : Left H := { results := [], args := [] }

/-- 'regulatorlaw15.SpreadMatchesReference': WHATEVER THE INPUT: true; the input reads as it did. -/
def spreadMatchesReferenceSpec : ChangeSpec := { name := "spreadMatchesReference", fn := fun _ => fun
  | [d1, d2, d3, d4] => { results := [.lit (.bool true)], args := [d1, d2, d3, d4] }
  | _ => none }
def spreadMatchesReferenceRow : OpenClaim := { program := "ytcpfifbchijleaa", sum := "32c98dba75e94e5029b8e9e64cfafb458feffbb11f555934f69935b12e13a14b", func := "regulator/regulatorlaw15.SpreadMatchesReference", spec := "spreadMatchesReference", unfollowed := true, recurses := true, apart := false }
def SpreadMatchesReferenceSaid : Prop := spreadMatchesReferenceRow.holds Try.pinned (OpenSpec.ofChange spreadMatchesReferenceSpec)

/-- ITS FALSE NEIGHBOUR: 'it returns false'. Refute it at one input. -/
def spreadMatchesReferenceWrong : ChangeSpec := { name := "spreadMatchesReference", fn := fun _ => fun
  | [d1, d2, d3, d4] => { results := [.lit (.bool false)], args := [d1, d2, d3, d4] }
  | _ => none }
def SpreadMatchesReferenceWrongFalsely : Prop := spreadMatchesReferenceRow.holds Try.pinned (OpenSpec.ofChange spreadMatchesReferenceWrong)

/-- 'regulatorlaw15.SpreadGrows': WHATEVER THE INPUT: true; the input reads as it did. -/
def spreadGrowsSpec : ChangeSpec := { name := "spreadGrows", fn := fun _ => fun
  | [d1, d2, d3, d4, d5, d6] => { results := [.lit (.bool true)], args := [d1, d2, d3, d4, d5, d6] }
  | _ => none }
def spreadGrowsRow : OpenClaim := { program := "ytcpfifbchijleaa", sum := "32c98dba75e94e5029b8e9e64cfafb458feffbb11f555934f69935b12e13a14b", func := "regulator/regulatorlaw15.SpreadGrows", spec := "spreadGrows", unfollowed := true, recurses := true, apart := false }
def SpreadGrowsSaid : Prop := spreadGrowsRow.holds Try.pinned (OpenSpec.ofChange spreadGrowsSpec)

/-- ITS FALSE NEIGHBOUR: 'it returns false'. Refute it at one input. -/
def spreadGrowsWrong : ChangeSpec := { name := "spreadGrows", fn := fun _ => fun
  | [d1, d2, d3, d4, d5, d6] => { results := [.lit (.bool false)], args := [d1, d2, d3, d4, d5, d6] }
  | _ => none }
def SpreadGrowsWrongFalsely : Prop := spreadGrowsRow.holds Try.pinned (OpenSpec.ofChange spreadGrowsWrong)

/-- 'regulatorlaw15.SpreadOrder': WHATEVER THE INPUT: true; the input reads as it did. -/
def spreadOrderSpec : ChangeSpec := { name := "spreadOrder", fn := fun _ => fun
  | [d1, d2, d3, d4, d5] => { results := [.lit (.bool true)], args := [d1, d2, d3, d4, d5] }
  | _ => none }
def spreadOrderRow : OpenClaim := { program := "ytcpfifbchijleaa", sum := "32c98dba75e94e5029b8e9e64cfafb458feffbb11f555934f69935b12e13a14b", func := "regulator/regulatorlaw15.SpreadOrder", spec := "spreadOrder", unfollowed := true, recurses := true, apart := false }
def SpreadOrderSaid : Prop := spreadOrderRow.holds Try.pinned (OpenSpec.ofChange spreadOrderSpec)

/-- ITS FALSE NEIGHBOUR: 'it returns false'. Refute it at one input. -/
def spreadOrderWrong : ChangeSpec := { name := "spreadOrder", fn := fun _ => fun
  | [d1, d2, d3, d4, d5] => { results := [.lit (.bool false)], args := [d1, d2, d3, d4, d5] }
  | _ => none }
def SpreadOrderWrongFalsely : Prop := spreadOrderRow.holds Try.pinned (OpenSpec.ofChange spreadOrderWrong)

/-- 'regulatorlaw15.SpreadPicks': WHATEVER THE INPUT: true; the input reads as it did. -/
def spreadPicksSpec : ChangeSpec := { name := "spreadPicks", fn := fun _ => fun
  | [d1, d2, d3] => { results := [.lit (.bool true)], args := [d1, d2, d3] }
  | _ => none }
def spreadPicksRow : OpenClaim := { program := "ytcpfifbchijleaa", sum := "32c98dba75e94e5029b8e9e64cfafb458feffbb11f555934f69935b12e13a14b", func := "regulator/regulatorlaw15.SpreadPicks", spec := "spreadPicks", unfollowed := true, recurses := true, apart := false }
def SpreadPicksSaid : Prop := spreadPicksRow.holds Try.pinned (OpenSpec.ofChange spreadPicksSpec)

/-- ITS FALSE NEIGHBOUR: 'it returns false'. Refute it at one input. -/
def spreadPicksWrong : ChangeSpec := { name := "spreadPicks", fn := fun _ => fun
  | [d1, d2, d3] => { results := [.lit (.bool false)], args := [d1, d2, d3] }
  | _ => none }
def SpreadPicksWrongFalsely : Prop := spreadPicksRow.holds Try.pinned (OpenSpec.ofChange spreadPicksWrong)

/-- 'regulatorlaw15.SpreadEqual': WHATEVER THE INPUT: true; the input reads as it did. -/
def spreadEqualSpec : ChangeSpec := { name := "spreadEqual", fn := fun _ => fun
  | [d1, d2, d3, d4] => { results := [.lit (.bool true)], args := [d1, d2, d3, d4] }
  | _ => none }
def spreadEqualRow : OpenClaim := { program := "ytcpfifbchijleaa", sum := "32c98dba75e94e5029b8e9e64cfafb458feffbb11f555934f69935b12e13a14b", func := "regulator/regulatorlaw15.SpreadEqual", spec := "spreadEqual", unfollowed := true, recurses := true, apart := false }
def SpreadEqualSaid : Prop := spreadEqualRow.holds Try.pinned (OpenSpec.ofChange spreadEqualSpec)

/-- ITS FALSE NEIGHBOUR: 'it returns false'. Refute it at one input. -/
def spreadEqualWrong : ChangeSpec := { name := "spreadEqual", fn := fun _ => fun
  | [d1, d2, d3, d4] => { results := [.lit (.bool false)], args := [d1, d2, d3, d4] }
  | _ => none }
def SpreadEqualWrongFalsely : Prop := spreadEqualRow.holds Try.pinned (OpenSpec.ofChange spreadEqualWrong)

/-- 'regulatorlaw15.SpreadBound': WHATEVER THE INPUT: true; the input reads as it did. -/
def spreadBoundSpec : ChangeSpec := { name := "spreadBound", fn := fun _ => fun
  | [d1, d2, d3, d4, d5] => { results := [.lit (.bool true)], args := [d1, d2, d3, d4, d5] }
  | _ => none }
def spreadBoundRow : OpenClaim := { program := "ytcpfifbchijleaa", sum := "32c98dba75e94e5029b8e9e64cfafb458feffbb11f555934f69935b12e13a14b", func := "regulator/regulatorlaw15.SpreadBound", spec := "spreadBound", unfollowed := true, recurses := true, apart := false }
def SpreadBoundSaid : Prop := spreadBoundRow.holds Try.pinned (OpenSpec.ofChange spreadBoundSpec)

/-- ITS FALSE NEIGHBOUR: 'it returns false'. Refute it at one input. -/
def spreadBoundWrong : ChangeSpec := { name := "spreadBound", fn := fun _ => fun
  | [d1, d2, d3, d4, d5] => { results := [.lit (.bool false)], args := [d1, d2, d3, d4, d5] }
  | _ => none }
def SpreadBoundWrongFalsely : Prop := spreadBoundRow.holds Try.pinned (OpenSpec.ofChange spreadBoundWrong)

/-- 'regulatorlaw15.SpreadAttained': WHATEVER THE INPUT: true; the input reads as it did. -/
def spreadAttainedSpec : ChangeSpec := { name := "spreadAttained", fn := fun _ => fun
  | [d1, d2, d3, d4] => { results := [.lit (.bool true)], args := [d1, d2, d3, d4] }
  | _ => none }
def spreadAttainedRow : OpenClaim := { program := "ytcpfifbchijleaa", sum := "32c98dba75e94e5029b8e9e64cfafb458feffbb11f555934f69935b12e13a14b", func := "regulator/regulatorlaw15.SpreadAttained", spec := "spreadAttained", unfollowed := true, recurses := true, apart := false }
def SpreadAttainedSaid : Prop := spreadAttainedRow.holds Try.pinned (OpenSpec.ofChange spreadAttainedSpec)

/-- ITS FALSE NEIGHBOUR: 'it returns false'. Refute it at one input. -/
def spreadAttainedWrong : ChangeSpec := { name := "spreadAttained", fn := fun _ => fun
  | [d1, d2, d3, d4] => { results := [.lit (.bool false)], args := [d1, d2, d3, d4] }
  | _ => none }
def SpreadAttainedWrongFalsely : Prop := spreadAttainedRow.holds Try.pinned (OpenSpec.ofChange spreadAttainedWrong)

/- THE SECOND FORM. 'bulk': how many values and letters a reading holds, each counted each time it is reached (what is shared counts as often as it is met; a slice's spare places count too). A statement '..UptoSaid' is the law's where the arguments, and the package variables that the reading takes, are together of bulk at most 1048576: NARROWER than '..Said'. Prove '..Said' where nothing that the law and all that it calls make is longer than what came in: it says more and counts as full. Else prove '..UptoSaid'. A law counts once. -/
mutual
def uptoBulk {H : Type} : DataW H → Nat
  | .lit (.string bytes) => bytes.length + 1
  | .lit _ => 1
  | .nil => 1
  | .ptr d => uptoBulk d + 1
  | .slice elems spare => uptoBulkAll elems + uptoBulkAll spare + 1
  | .agg parts => uptoBulkAll parts + 1
  | .iface _ d => uptoBulk d + 1
  | .map entries => uptoBulkEntries entries + 1
  | .held _ => 1
def uptoBulkAll {H : Type} : List (DataW H) → Nat
  | [] => 0
  | d :: r => uptoBulk d + uptoBulkAll r
def uptoBulkEntries {H : Type} : List (Lit × DataW H) → Nat
  | [] => 0
  | x :: r => uptoBulkEntry x + uptoBulkEntries r
def uptoBulkEntry {H : Type} : Lit × DataW H → Nat
  | (.string bytes, d) => bytes.length + uptoBulk d + 1
  | (_, d) => uptoBulk d + 1
 end
def uptoSmall : (H : Type) → List (DataW H) → Bool := fun _ ds => decide (uptoBulkAll ds ≤ 1048576)
def OpenSpec.upto (s : _root_.Go.ChangeSpec) : _root_.Go.OpenSpec := { _root_.Go.OpenSpec.ofChange s with cond := some uptoSmall }

/-- 'regulatorlaw15.SpreadMatchesReference', WHERE WHAT IT READS IS OF BULK AT MOST 1048576: true; the input reads as it did. -/
def spreadMatchesReferenceUptoRow : OpenClaim := { program := "ytcpfifbchijleaa", sum := "32c98dba75e94e5029b8e9e64cfafb458feffbb11f555934f69935b12e13a14b", func := "regulator/regulatorlaw15.SpreadMatchesReference", spec := "spreadMatchesReference", unfollowed := true, recurses := true, apart := false, narrowed := true }
def SpreadMatchesReferenceUptoSaid : Prop := spreadMatchesReferenceUptoRow.holds Try.pinned (OpenSpec.upto spreadMatchesReferenceSpec)

/-- 'regulatorlaw15.SpreadGrows', WHERE WHAT IT READS IS OF BULK AT MOST 1048576: true; the input reads as it did. -/
def spreadGrowsUptoRow : OpenClaim := { program := "ytcpfifbchijleaa", sum := "32c98dba75e94e5029b8e9e64cfafb458feffbb11f555934f69935b12e13a14b", func := "regulator/regulatorlaw15.SpreadGrows", spec := "spreadGrows", unfollowed := true, recurses := true, apart := false, narrowed := true }
def SpreadGrowsUptoSaid : Prop := spreadGrowsUptoRow.holds Try.pinned (OpenSpec.upto spreadGrowsSpec)

/-- 'regulatorlaw15.SpreadOrder', WHERE WHAT IT READS IS OF BULK AT MOST 1048576: true; the input reads as it did. -/
def spreadOrderUptoRow : OpenClaim := { program := "ytcpfifbchijleaa", sum := "32c98dba75e94e5029b8e9e64cfafb458feffbb11f555934f69935b12e13a14b", func := "regulator/regulatorlaw15.SpreadOrder", spec := "spreadOrder", unfollowed := true, recurses := true, apart := false, narrowed := true }
def SpreadOrderUptoSaid : Prop := spreadOrderUptoRow.holds Try.pinned (OpenSpec.upto spreadOrderSpec)

/-- 'regulatorlaw15.SpreadPicks', WHERE WHAT IT READS IS OF BULK AT MOST 1048576: true; the input reads as it did. -/
def spreadPicksUptoRow : OpenClaim := { program := "ytcpfifbchijleaa", sum := "32c98dba75e94e5029b8e9e64cfafb458feffbb11f555934f69935b12e13a14b", func := "regulator/regulatorlaw15.SpreadPicks", spec := "spreadPicks", unfollowed := true, recurses := true, apart := false, narrowed := true }
def SpreadPicksUptoSaid : Prop := spreadPicksUptoRow.holds Try.pinned (OpenSpec.upto spreadPicksSpec)

/-- 'regulatorlaw15.SpreadEqual', WHERE WHAT IT READS IS OF BULK AT MOST 1048576: true; the input reads as it did. -/
def spreadEqualUptoRow : OpenClaim := { program := "ytcpfifbchijleaa", sum := "32c98dba75e94e5029b8e9e64cfafb458feffbb11f555934f69935b12e13a14b", func := "regulator/regulatorlaw15.SpreadEqual", spec := "spreadEqual", unfollowed := true, recurses := true, apart := false, narrowed := true }
def SpreadEqualUptoSaid : Prop := spreadEqualUptoRow.holds Try.pinned (OpenSpec.upto spreadEqualSpec)

/-- 'regulatorlaw15.SpreadBound', WHERE WHAT IT READS IS OF BULK AT MOST 1048576: true; the input reads as it did. -/
def spreadBoundUptoRow : OpenClaim := { program := "ytcpfifbchijleaa", sum := "32c98dba75e94e5029b8e9e64cfafb458feffbb11f555934f69935b12e13a14b", func := "regulator/regulatorlaw15.SpreadBound", spec := "spreadBound", unfollowed := true, recurses := true, apart := false, narrowed := true }
def SpreadBoundUptoSaid : Prop := spreadBoundUptoRow.holds Try.pinned (OpenSpec.upto spreadBoundSpec)

/-- 'regulatorlaw15.SpreadAttained', WHERE WHAT IT READS IS OF BULK AT MOST 1048576: true; the input reads as it did. -/
def spreadAttainedUptoRow : OpenClaim := { program := "ytcpfifbchijleaa", sum := "32c98dba75e94e5029b8e9e64cfafb458feffbb11f555934f69935b12e13a14b", func := "regulator/regulatorlaw15.SpreadAttained", spec := "spreadAttained", unfollowed := true, recurses := true, apart := false, narrowed := true }
def SpreadAttainedUptoSaid : Prop := spreadAttainedUptoRow.holds Try.pinned (OpenSpec.upto spreadAttainedSpec)

end Rows
end Go.Proofs.Ytcpfifbchijleaa
