/-
  No cell of these rows narrows 'for every input' (looked for: loops, veiled, ifaces, maps, wideKeys, modest, calm, conditions, laid).
  DERIVED. THE GIVEN ROWS OF THIS SEAT. 7 by the template 'for every input the law returns true; each argument reads behind the call as it read before'; 0 by the template 'total and deterministic' (their statements: YtgoimbddefefdaaTotals.lean).
  GIVEN WITH THE SEED: the statements are not yours to turn. If you find one false, say at which input.
  Laid BY PROGRAM, IN A SANDBOX (cutbox-rows.mjs): the forced cells as the released guide's own fill.sh prints them over the translation da8bee306e1267dc… (all of the seat's roots in one cut). By AI agents, Wed Nov 11 2026. No macro, syntax, notation, axiom, sorry.
-/
import Derived.Test.YtgoimbddefefdaaChecked
import GoSem.Claim
import GoSem.ClaimJoined
import GoSem.ClaimMapViews
import Derived.JoinedTies
import Derived.KernelRfl
namespace Go.Proofs.Ytgoimbddefefdaa
/- THE CELL 'sum', in the pinned program and in every row, IS THE sha256 OF THE DUMP (.gsa) THAT YtgoimbddefefdaaProg.lean LOADS. Nothing in Lean hashes anything: it is a label: what it is worth is what the hold of that sum in a sandbox is worth. -/
noncomputable def Try.pinned : Pinned := { name := "ytgoimbddefefdaa", sum := "da8bee306e1267dc87c8e0102c03a6ab1acb5cd03de2c3e21d142cea83fd2dfa", checked := Try.checked }
namespace Rows
def none {H : Type} : Left H := { results := [], args := [] }

/-- 'regulatorlaw02.IntervalMatchesReference': WHATEVER THE INPUT: true; the input reads as it did. -/
def intervalMatchesReferenceSpec : ChangeSpec := { name := "intervalMatchesReference", fn := fun _ => fun
  | [d1, d2, d3, d4, d5, d6, d7] => { results := [.lit (.bool true)], args := [d1, d2, d3, d4, d5, d6, d7] }
  | _ => none }
def intervalMatchesReferenceRow : OpenClaim := { program := "ytgoimbddefefdaa", sum := "da8bee306e1267dc87c8e0102c03a6ab1acb5cd03de2c3e21d142cea83fd2dfa", func := "regulator/regulatorlaw02.IntervalMatchesReference", spec := "intervalMatchesReference", unfollowed := true, recurses := true, apart := false }
def IntervalMatchesReferenceSaid : Prop := intervalMatchesReferenceRow.holds Try.pinned (OpenSpec.ofChange intervalMatchesReferenceSpec)

/-- ITS FALSE NEIGHBOUR: 'it returns false'. Refute it at one input. -/
def intervalMatchesReferenceWrong : ChangeSpec := { name := "intervalMatchesReference", fn := fun _ => fun
  | [d1, d2, d3, d4, d5, d6, d7] => { results := [.lit (.bool false)], args := [d1, d2, d3, d4, d5, d6, d7] }
  | _ => none }
def IntervalMatchesReferenceWrongFalsely : Prop := intervalMatchesReferenceRow.holds Try.pinned (OpenSpec.ofChange intervalMatchesReferenceWrong)

/-- 'regulatorlaw02.IntervalMeets': WHATEVER THE INPUT: true; the input reads as it did. -/
def intervalMeetsSpec : ChangeSpec := { name := "intervalMeets", fn := fun _ => fun
  | [d1, d2, d3] => { results := [.lit (.bool true)], args := [d1, d2, d3] }
  | _ => none }
def intervalMeetsRow : OpenClaim := { program := "ytgoimbddefefdaa", sum := "da8bee306e1267dc87c8e0102c03a6ab1acb5cd03de2c3e21d142cea83fd2dfa", func := "regulator/regulatorlaw02.IntervalMeets", spec := "intervalMeets", unfollowed := true, recurses := true, apart := false }
def IntervalMeetsSaid : Prop := intervalMeetsRow.holds Try.pinned (OpenSpec.ofChange intervalMeetsSpec)

/-- ITS FALSE NEIGHBOUR: 'it returns false'. Refute it at one input. -/
def intervalMeetsWrong : ChangeSpec := { name := "intervalMeets", fn := fun _ => fun
  | [d1, d2, d3] => { results := [.lit (.bool false)], args := [d1, d2, d3] }
  | _ => none }
def IntervalMeetsWrongFalsely : Prop := intervalMeetsRow.holds Try.pinned (OpenSpec.ofChange intervalMeetsWrong)

/-- 'regulatorlaw02.IntervalHull': WHATEVER THE INPUT: true; the input reads as it did. -/
def intervalHullSpec : ChangeSpec := { name := "intervalHull", fn := fun _ => fun
  | [d] => { results := [.lit (.bool true)], args := [d] }
  | _ => none }
def intervalHullRow : OpenClaim := { program := "ytgoimbddefefdaa", sum := "da8bee306e1267dc87c8e0102c03a6ab1acb5cd03de2c3e21d142cea83fd2dfa", func := "regulator/regulatorlaw02.IntervalHull", spec := "intervalHull", unfollowed := true, recurses := true, apart := false }
def IntervalHullSaid : Prop := intervalHullRow.holds Try.pinned (OpenSpec.ofChange intervalHullSpec)

/-- ITS FALSE NEIGHBOUR: 'it returns false'. Refute it at one input. -/
def intervalHullWrong : ChangeSpec := { name := "intervalHull", fn := fun _ => fun
  | [d] => { results := [.lit (.bool false)], args := [d] }
  | _ => none }
def IntervalHullWrongFalsely : Prop := intervalHullRow.holds Try.pinned (OpenSpec.ofChange intervalHullWrong)

/-- 'regulatorlaw02.IntervalGrows': WHATEVER THE INPUT: true; the input reads as it did. -/
def intervalGrowsSpec : ChangeSpec := { name := "intervalGrows", fn := fun _ => fun
  | [d1, d2, d3, d4, d5, d6] => { results := [.lit (.bool true)], args := [d1, d2, d3, d4, d5, d6] }
  | _ => none }
def intervalGrowsRow : OpenClaim := { program := "ytgoimbddefefdaa", sum := "da8bee306e1267dc87c8e0102c03a6ab1acb5cd03de2c3e21d142cea83fd2dfa", func := "regulator/regulatorlaw02.IntervalGrows", spec := "intervalGrows", unfollowed := true, recurses := true, apart := false }
def IntervalGrowsSaid : Prop := intervalGrowsRow.holds Try.pinned (OpenSpec.ofChange intervalGrowsSpec)

/-- ITS FALSE NEIGHBOUR: 'it returns false'. Refute it at one input. -/
def intervalGrowsWrong : ChangeSpec := { name := "intervalGrows", fn := fun _ => fun
  | [d1, d2, d3, d4, d5, d6] => { results := [.lit (.bool false)], args := [d1, d2, d3, d4, d5, d6] }
  | _ => none }
def IntervalGrowsWrongFalsely : Prop := intervalGrowsRow.holds Try.pinned (OpenSpec.ofChange intervalGrowsWrong)

/-- 'regulatorlaw02.IntervalCovers': WHATEVER THE INPUT: true; the input reads as it did. -/
def intervalCoversSpec : ChangeSpec := { name := "intervalCovers", fn := fun _ => fun
  | [d1, d2, d3] => { results := [.lit (.bool true)], args := [d1, d2, d3] }
  | _ => none }
def intervalCoversRow : OpenClaim := { program := "ytgoimbddefefdaa", sum := "da8bee306e1267dc87c8e0102c03a6ab1acb5cd03de2c3e21d142cea83fd2dfa", func := "regulator/regulatorlaw02.IntervalCovers", spec := "intervalCovers", unfollowed := true, recurses := true, apart := false }
def IntervalCoversSaid : Prop := intervalCoversRow.holds Try.pinned (OpenSpec.ofChange intervalCoversSpec)

/-- ITS FALSE NEIGHBOUR: 'it returns false'. Refute it at one input. -/
def intervalCoversWrong : ChangeSpec := { name := "intervalCovers", fn := fun _ => fun
  | [d1, d2, d3] => { results := [.lit (.bool false)], args := [d1, d2, d3] }
  | _ => none }
def IntervalCoversWrongFalsely : Prop := intervalCoversRow.holds Try.pinned (OpenSpec.ofChange intervalCoversWrong)

/-- 'regulatorlaw02.IntervalMore': WHATEVER THE INPUT: true; the input reads as it did. -/
def intervalMoreSpec : ChangeSpec := { name := "intervalMore", fn := fun _ => fun
  | [d1, d2, d3, d4, d5] => { results := [.lit (.bool true)], args := [d1, d2, d3, d4, d5] }
  | _ => none }
def intervalMoreRow : OpenClaim := { program := "ytgoimbddefefdaa", sum := "da8bee306e1267dc87c8e0102c03a6ab1acb5cd03de2c3e21d142cea83fd2dfa", func := "regulator/regulatorlaw02.IntervalMore", spec := "intervalMore", unfollowed := true, recurses := true, apart := false }
def IntervalMoreSaid : Prop := intervalMoreRow.holds Try.pinned (OpenSpec.ofChange intervalMoreSpec)

/-- ITS FALSE NEIGHBOUR: 'it returns false'. Refute it at one input. -/
def intervalMoreWrong : ChangeSpec := { name := "intervalMore", fn := fun _ => fun
  | [d1, d2, d3, d4, d5] => { results := [.lit (.bool false)], args := [d1, d2, d3, d4, d5] }
  | _ => none }
def IntervalMoreWrongFalsely : Prop := intervalMoreRow.holds Try.pinned (OpenSpec.ofChange intervalMoreWrong)

/-- 'regulatorlaw02.IntervalDepths': WHATEVER THE INPUT: true; the input reads as it did. -/
def intervalDepthsSpec : ChangeSpec := { name := "intervalDepths", fn := fun _ => fun
  | [d1, d2, d3] => { results := [.lit (.bool true)], args := [d1, d2, d3] }
  | _ => none }
def intervalDepthsRow : OpenClaim := { program := "ytgoimbddefefdaa", sum := "da8bee306e1267dc87c8e0102c03a6ab1acb5cd03de2c3e21d142cea83fd2dfa", func := "regulator/regulatorlaw02.IntervalDepths", spec := "intervalDepths", unfollowed := true, recurses := true, apart := false }
def IntervalDepthsSaid : Prop := intervalDepthsRow.holds Try.pinned (OpenSpec.ofChange intervalDepthsSpec)

/-- ITS FALSE NEIGHBOUR: 'it returns false'. Refute it at one input. -/
def intervalDepthsWrong : ChangeSpec := { name := "intervalDepths", fn := fun _ => fun
  | [d1, d2, d3] => { results := [.lit (.bool false)], args := [d1, d2, d3] }
  | _ => none }
def IntervalDepthsWrongFalsely : Prop := intervalDepthsRow.holds Try.pinned (OpenSpec.ofChange intervalDepthsWrong)

/- THE SECOND FORM. 'bulk': how many values and letters a reading holds, each counted each time it is reached (what is shared counts as often as it is met; a slice's spare places count too). A statement '..UptoSaid' is the law's where the arguments, and the package variables that the reading takes, are together of bulk at most 1048576: NARROWER than '..Said'. Prove '..Said' where nothing that the law and all that it calls make is longer than what came in: it says more and counts as full. Else prove '..UptoSaid'. A law counts once. -/
mutual
def uptoBulk {H : Type} : DataW H → Nat
  | .lit (.string bytes) => bytes.length + 1
  | .lit _ => 1
  | .nil => 1
  | .ptr d => uptoBulk d + 1
  | .slice elems spare => uptoBulkAll elems + uptoBulkAll spare + 1
  | .agg parts => uptoBulkAll parts + 1
  | .iface _ d => uptoBulk d + 1
  | .map entries => uptoBulkEntries entries + 1
  | .held _ => 1
def uptoBulkAll {H : Type} : List (DataW H) → Nat
  | [] => 0
  | d :: r => uptoBulk d + uptoBulkAll r
def uptoBulkEntries {H : Type} : List (Lit × DataW H) → Nat
  | [] => 0
  | x :: r => uptoBulkEntry x + uptoBulkEntries r
def uptoBulkEntry {H : Type} : Lit × DataW H → Nat
  | (.string bytes, d) => bytes.length + uptoBulk d + 1
  | (_, d) => uptoBulk d + 1
 end
def uptoSmall : (H : Type) → List (DataW H) → Bool := fun _ ds => decide (uptoBulkAll ds ≤ 1048576)
def OpenSpec.upto (s : _root_.Go.ChangeSpec) : _root_.Go.OpenSpec := { _root_.Go.OpenSpec.ofChange s with cond := some uptoSmall }

/-- 'regulatorlaw02.IntervalMatchesReference', WHERE WHAT IT READS IS OF BULK AT MOST 1048576: true; the input reads as it did. -/
def intervalMatchesReferenceUptoRow : OpenClaim := { program := "ytgoimbddefefdaa", sum := "da8bee306e1267dc87c8e0102c03a6ab1acb5cd03de2c3e21d142cea83fd2dfa", func := "regulator/regulatorlaw02.IntervalMatchesReference", spec := "intervalMatchesReference", unfollowed := true, recurses := true, apart := false, narrowed := true }
def IntervalMatchesReferenceUptoSaid : Prop := intervalMatchesReferenceUptoRow.holds Try.pinned (OpenSpec.upto intervalMatchesReferenceSpec)

/-- 'regulatorlaw02.IntervalMeets', WHERE WHAT IT READS IS OF BULK AT MOST 1048576: true; the input reads as it did. -/
def intervalMeetsUptoRow : OpenClaim := { program := "ytgoimbddefefdaa", sum := "da8bee306e1267dc87c8e0102c03a6ab1acb5cd03de2c3e21d142cea83fd2dfa", func := "regulator/regulatorlaw02.IntervalMeets", spec := "intervalMeets", unfollowed := true, recurses := true, apart := false, narrowed := true }
def IntervalMeetsUptoSaid : Prop := intervalMeetsUptoRow.holds Try.pinned (OpenSpec.upto intervalMeetsSpec)

/-- 'regulatorlaw02.IntervalHull', WHERE WHAT IT READS IS OF BULK AT MOST 1048576: true; the input reads as it did. -/
def intervalHullUptoRow : OpenClaim := { program := "ytgoimbddefefdaa", sum := "da8bee306e1267dc87c8e0102c03a6ab1acb5cd03de2c3e21d142cea83fd2dfa", func := "regulator/regulatorlaw02.IntervalHull", spec := "intervalHull", unfollowed := true, recurses := true, apart := false, narrowed := true }
def IntervalHullUptoSaid : Prop := intervalHullUptoRow.holds Try.pinned (OpenSpec.upto intervalHullSpec)

/-- 'regulatorlaw02.IntervalGrows', WHERE WHAT IT READS IS OF BULK AT MOST 1048576: true; the input reads as it did. -/
def intervalGrowsUptoRow : OpenClaim := { program := "ytgoimbddefefdaa", sum := "da8bee306e1267dc87c8e0102c03a6ab1acb5cd03de2c3e21d142cea83fd2dfa", func := "regulator/regulatorlaw02.IntervalGrows", spec := "intervalGrows", unfollowed := true, recurses := true, apart := false, narrowed := true }
def IntervalGrowsUptoSaid : Prop := intervalGrowsUptoRow.holds Try.pinned (OpenSpec.upto intervalGrowsSpec)

/-- 'regulatorlaw02.IntervalCovers', WHERE WHAT IT READS IS OF BULK AT MOST 1048576: true; the input reads as it did. -/
def intervalCoversUptoRow : OpenClaim := { program := "ytgoimbddefefdaa", sum := "da8bee306e1267dc87c8e0102c03a6ab1acb5cd03de2c3e21d142cea83fd2dfa", func := "regulator/regulatorlaw02.IntervalCovers", spec := "intervalCovers", unfollowed := true, recurses := true, apart := false, narrowed := true }
def IntervalCoversUptoSaid : Prop := intervalCoversUptoRow.holds Try.pinned (OpenSpec.upto intervalCoversSpec)

/-- 'regulatorlaw02.IntervalMore', WHERE WHAT IT READS IS OF BULK AT MOST 1048576: true; the input reads as it did. -/
def intervalMoreUptoRow : OpenClaim := { program := "ytgoimbddefefdaa", sum := "da8bee306e1267dc87c8e0102c03a6ab1acb5cd03de2c3e21d142cea83fd2dfa", func := "regulator/regulatorlaw02.IntervalMore", spec := "intervalMore", unfollowed := true, recurses := true, apart := false, narrowed := true }
def IntervalMoreUptoSaid : Prop := intervalMoreUptoRow.holds Try.pinned (OpenSpec.upto intervalMoreSpec)

/-- 'regulatorlaw02.IntervalDepths', WHERE WHAT IT READS IS OF BULK AT MOST 1048576: true; the input reads as it did. -/
def intervalDepthsUptoRow : OpenClaim := { program := "ytgoimbddefefdaa", sum := "da8bee306e1267dc87c8e0102c03a6ab1acb5cd03de2c3e21d142cea83fd2dfa", func := "regulator/regulatorlaw02.IntervalDepths", spec := "intervalDepths", unfollowed := true, recurses := true, apart := false, narrowed := true }
def IntervalDepthsUptoSaid : Prop := intervalDepthsUptoRow.holds Try.pinned (OpenSpec.upto intervalDepthsSpec)

end Rows
end Go.Proofs.Ytgoimbddefefdaa
