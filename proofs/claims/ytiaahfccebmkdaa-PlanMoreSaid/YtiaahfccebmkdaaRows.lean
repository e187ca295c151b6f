/-
  No cell of these rows narrows 'for every input' (looked for: loops, veiled, ifaces, maps, wideKeys, modest, calm, conditions, laid).
  DERIVED. THE GIVEN ROWS OF THIS SEAT. 6 by the template 'for every input the law returns true; each argument reads behind the call as it read before'; 0 by the template 'total and deterministic' (their statements: YtiaahfccebmkdaaTotals.lean).
  GIVEN WITH THE SEED: the statements are not yours to turn. If you find one false, say at which input.
  Laid BY PROGRAM, IN A SANDBOX (cutbox-rows.mjs): the forced cells as the released guide's own fill.sh prints them over the translation e6e5d47c85ce07b7… (all of the seat's roots in one cut). By AI agents, Wed Nov 11 2026. No macro, syntax, notation, axiom, sorry.
-/
import Derived.Test.YtiaahfccebmkdaaChecked
import GoSem.Claim
import GoSem.ClaimJoined
import GoSem.ClaimMapViews
import Derived.JoinedTies
import Derived.KernelRfl
namespace Go.Proofs.Ytiaahfccebmkdaa
/- THE CELL 'sum', in the pinned program and in every row, IS THE sha256 OF THE DUMP (.gsa) THAT YtiaahfccebmkdaaProg.lean LOADS. Nothing in Lean hashes anything: it is a label: what it is worth is what the hold of that sum in a sandbox is worth. -/
noncomputable def Try.pinned : Pinned := { name := "ytiaahfccebmkdaa", sum := "e6e5d47c85ce07b749f6737dff8628f501c1cb9cf8d3746d1ee8a224441f7a60", checked := Try.checked }
namespace Rows
def none {H : Type} : Left H := { results := [], args := [] }

/-- 'regulatorlaw30.PlanKeeps': WHATEVER THE INPUT: true; the input reads as it did. -/
def planKeepsSpec : ChangeSpec := { name := "planKeeps", fn := fun _ => fun
  | [d1, d2, d3] => { results := [.lit (.bool true)], args := [d1, d2, d3] }
  | _ => none }
def planKeepsRow : OpenClaim := { program := "ytiaahfccebmkdaa", sum := "e6e5d47c85ce07b749f6737dff8628f501c1cb9cf8d3746d1ee8a224441f7a60", func := "regulator/regulatorlaw30.PlanKeeps", spec := "planKeeps", unfollowed := true, recurses := true, named := ["math/bits.divideError", "math/bits.overflowError"], apart := false }
def PlanKeepsSaid : Prop := planKeepsRow.holds Try.pinned (OpenSpec.ofChange planKeepsSpec)

/-- ITS FALSE NEIGHBOUR: 'it returns false'. Refute it at one input. -/
def planKeepsWrong : ChangeSpec := { name := "planKeeps", fn := fun _ => fun
  | [d1, d2, d3] => { results := [.lit (.bool false)], args := [d1, d2, d3] }
  | _ => none }
def PlanKeepsWrongFalsely : Prop := planKeepsRow.holds Try.pinned (OpenSpec.ofChange planKeepsWrong)

/-- 'regulatorlaw30.PlanCheapest': WHATEVER THE INPUT: true; the input reads as it did. -/
def planCheapestSpec : ChangeSpec := { name := "planCheapest", fn := fun _ => fun
  | [d1, d2, d3, d4, d5] => { results := [.lit (.bool true)], args := [d1, d2, d3, d4, d5] }
  | _ => none }
def planCheapestRow : OpenClaim := { program := "ytiaahfccebmkdaa", sum := "e6e5d47c85ce07b749f6737dff8628f501c1cb9cf8d3746d1ee8a224441f7a60", func := "regulator/regulatorlaw30.PlanCheapest", spec := "planCheapest", unfollowed := true, recurses := true, named := ["math/bits.divideError", "math/bits.overflowError"], apart := false }
def PlanCheapestSaid : Prop := planCheapestRow.holds Try.pinned (OpenSpec.ofChange planCheapestSpec)

/-- ITS FALSE NEIGHBOUR: 'it returns false'. Refute it at one input. -/
def planCheapestWrong : ChangeSpec := { name := "planCheapest", fn := fun _ => fun
  | [d1, d2, d3, d4, d5] => { results := [.lit (.bool false)], args := [d1, d2, d3, d4, d5] }
  | _ => none }
def PlanCheapestWrongFalsely : Prop := planCheapestRow.holds Try.pinned (OpenSpec.ofChange planCheapestWrong)

/-- 'regulatorlaw30.PlanRefuses': WHATEVER THE INPUT: true; the input reads as it did. -/
def planRefusesSpec : ChangeSpec := { name := "planRefuses", fn := fun _ => fun
  | [d1, d2, d3] => { results := [.lit (.bool true)], args := [d1, d2, d3] }
  | _ => none }
def planRefusesRow : OpenClaim := { program := "ytiaahfccebmkdaa", sum := "e6e5d47c85ce07b749f6737dff8628f501c1cb9cf8d3746d1ee8a224441f7a60", func := "regulator/regulatorlaw30.PlanRefuses", spec := "planRefuses", unfollowed := true, recurses := true, named := ["math/bits.divideError", "math/bits.overflowError"], apart := false }
def PlanRefusesSaid : Prop := planRefusesRow.holds Try.pinned (OpenSpec.ofChange planRefusesSpec)

/-- ITS FALSE NEIGHBOUR: 'it returns false'. Refute it at one input. -/
def planRefusesWrong : ChangeSpec := { name := "planRefuses", fn := fun _ => fun
  | [d1, d2, d3] => { results := [.lit (.bool false)], args := [d1, d2, d3] }
  | _ => none }
def PlanRefusesWrongFalsely : Prop := planRefusesRow.holds Try.pinned (OpenSpec.ofChange planRefusesWrong)

/-- 'regulatorlaw30.PlanNarrowest': WHATEVER THE INPUT: true; the input reads as it did. -/
def planNarrowestSpec : ChangeSpec := { name := "planNarrowest", fn := fun _ => fun
  | [d1, d2, d3, d4] => { results := [.lit (.bool true)], args := [d1, d2, d3, d4] }
  | _ => none }
def planNarrowestRow : OpenClaim := { program := "ytiaahfccebmkdaa", sum := "e6e5d47c85ce07b749f6737dff8628f501c1cb9cf8d3746d1ee8a224441f7a60", func := "regulator/regulatorlaw30.PlanNarrowest", spec := "planNarrowest", unfollowed := true, recurses := true, named := ["math/bits.divideError", "math/bits.overflowError"], apart := false }
def PlanNarrowestSaid : Prop := planNarrowestRow.holds Try.pinned (OpenSpec.ofChange planNarrowestSpec)

/-- ITS FALSE NEIGHBOUR: 'it returns false'. Refute it at one input. -/
def planNarrowestWrong : ChangeSpec := { name := "planNarrowest", fn := fun _ => fun
  | [d1, d2, d3, d4] => { results := [.lit (.bool false)], args := [d1, d2, d3, d4] }
  | _ => none }
def PlanNarrowestWrongFalsely : Prop := planNarrowestRow.holds Try.pinned (OpenSpec.ofChange planNarrowestWrong)

/-- 'regulatorlaw30.PlanOrder': WHATEVER THE INPUT: true; the input reads as it did. -/
def planOrderSpec : ChangeSpec := { name := "planOrder", fn := fun _ => fun
  | [d1, d2, d3, d4] => { results := [.lit (.bool true)], args := [d1, d2, d3, d4] }
  | _ => none }
def planOrderRow : OpenClaim := { program := "ytiaahfccebmkdaa", sum := "e6e5d47c85ce07b749f6737dff8628f501c1cb9cf8d3746d1ee8a224441f7a60", func := "regulator/regulatorlaw30.PlanOrder", spec := "planOrder", unfollowed := true, recurses := true, named := ["math/bits.divideError", "math/bits.overflowError"], apart := false }
def PlanOrderSaid : Prop := planOrderRow.holds Try.pinned (OpenSpec.ofChange planOrderSpec)

/-- ITS FALSE NEIGHBOUR: 'it returns false'. Refute it at one input. -/
def planOrderWrong : ChangeSpec := { name := "planOrder", fn := fun _ => fun
  | [d1, d2, d3, d4] => { results := [.lit (.bool false)], args := [d1, d2, d3, d4] }
  | _ => none }
def PlanOrderWrongFalsely : Prop := planOrderRow.holds Try.pinned (OpenSpec.ofChange planOrderWrong)

/-- 'regulatorlaw30.PlanMore': WHATEVER THE INPUT: true; the input reads as it did. -/
def planMoreSpec : ChangeSpec := { name := "planMore", fn := fun _ => fun
  | [d1, d2, d3, d4, d5] => { results := [.lit (.bool true)], args := [d1, d2, d3, d4, d5] }
  | _ => none }
def planMoreRow : OpenClaim := { program := "ytiaahfccebmkdaa", sum := "e6e5d47c85ce07b749f6737dff8628f501c1cb9cf8d3746d1ee8a224441f7a60", func := "regulator/regulatorlaw30.PlanMore", spec := "planMore", unfollowed := true, recurses := true, named := ["math/bits.divideError", "math/bits.overflowError"], apart := false }
def PlanMoreSaid : Prop := planMoreRow.holds Try.pinned (OpenSpec.ofChange planMoreSpec)

/-- ITS FALSE NEIGHBOUR: 'it returns false'. Refute it at one input. -/
def planMoreWrong : ChangeSpec := { name := "planMore", fn := fun _ => fun
  | [d1, d2, d3, d4, d5] => { results := [.lit (.bool false)], args := [d1, d2, d3, d4, d5] }
  | _ => none }
def PlanMoreWrongFalsely : Prop := planMoreRow.holds Try.pinned (OpenSpec.ofChange planMoreWrong)

/- THE SECOND FORM. 'bulk': how many values and letters a reading holds, each counted each time it is reached (what is shared counts as often as it is met; a slice's spare places count too). A statement '..UptoSaid' is the law's where the arguments, and the package variables that the reading takes, are together of bulk at most 1048576: NARROWER than '..Said'. Prove '..Said' where nothing that the law and all that it calls make is longer than what came in: it says more and counts as full. Else prove '..UptoSaid'. A law counts once. -/
mutual
def uptoBulk {H : Type} : DataW H → Nat
  | .lit (.string bytes) => bytes.length + 1
  | .lit _ => 1
  | .nil => 1
  | .ptr d => uptoBulk d + 1
  | .slice elems spare => uptoBulkAll elems + uptoBulkAll spare + 1
  | .agg parts => uptoBulkAll parts + 1
  | .iface _ d => uptoBulk d + 1
  | .map entries => uptoBulkEntries entries + 1
  | .held _ => 1
def uptoBulkAll {H : Type} : List (DataW H) → Nat
  | [] => 0
  | d :: r => uptoBulk d + uptoBulkAll r
def uptoBulkEntries {H : Type} : List (Lit × DataW H) → Nat
  | [] => 0
  | x :: r => uptoBulkEntry x + uptoBulkEntries r
def uptoBulkEntry {H : Type} : Lit × DataW H → Nat
  | (.string bytes, d) => bytes.length + uptoBulk d + 1
  | (_, d) => uptoBulk d + 1
 end
def uptoSmall : (H : Type) → List (DataW H) → Bool := fun _ ds => decide (uptoBulkAll ds ≤ 1048576)
def OpenSpec.upto (s : _root_.Go.ChangeSpec) : _root_.Go.OpenSpec := { _root_.Go.OpenSpec.ofChange s with cond := some uptoSmall }

/-- 'regulatorlaw30.PlanKeeps', WHERE WHAT IT READS IS OF BULK AT MOST 1048576: true; the input reads as it did. -/
def planKeepsUptoRow : OpenClaim := { program := "ytiaahfccebmkdaa", sum := "e6e5d47c85ce07b749f6737dff8628f501c1cb9cf8d3746d1ee8a224441f7a60", func := "regulator/regulatorlaw30.PlanKeeps", spec := "planKeeps", unfollowed := true, recurses := true, named := ["math/bits.divideError", "math/bits.overflowError"], apart := false, narrowed := true }
def PlanKeepsUptoSaid : Prop := planKeepsUptoRow.holds Try.pinned (OpenSpec.upto planKeepsSpec)

/-- 'regulatorlaw30.PlanCheapest', WHERE WHAT IT READS IS OF BULK AT MOST 1048576: true; the input reads as it did. -/
def planCheapestUptoRow : OpenClaim := { program := "ytiaahfccebmkdaa", sum := "e6e5d47c85ce07b749f6737dff8628f501c1cb9cf8d3746d1ee8a224441f7a60", func := "regulator/regulatorlaw30.PlanCheapest", spec := "planCheapest", unfollowed := true, recurses := true, named := ["math/bits.divideError", "math/bits.overflowError"], apart := false, narrowed := true }
def PlanCheapestUptoSaid : Prop := planCheapestUptoRow.holds Try.pinned (OpenSpec.upto planCheapestSpec)

/-- 'regulatorlaw30.PlanRefuses', WHERE WHAT IT READS IS OF BULK AT MOST 1048576: true; the input reads as it did. -/
def planRefusesUptoRow : OpenClaim := { program := "ytiaahfccebmkdaa", sum := "e6e5d47c85ce07b749f6737dff8628f501c1cb9cf8d3746d1ee8a224441f7a60", func := "regulator/regulatorlaw30.PlanRefuses", spec := "planRefuses", unfollowed := true, recurses := true, named := ["math/bits.divideError", "math/bits.overflowError"], apart := false, narrowed := true }
def PlanRefusesUptoSaid : Prop := planRefusesUptoRow.holds Try.pinned (OpenSpec.upto planRefusesSpec)

/-- 'regulatorlaw30.PlanNarrowest', WHERE WHAT IT READS IS OF BULK AT MOST 1048576: true; the input reads as it did. -/
def planNarrowestUptoRow : OpenClaim := { program := "ytiaahfccebmkdaa", sum := "e6e5d47c85ce07b749f6737dff8628f501c1cb9cf8d3746d1ee8a224441f7a60", func := "regulator/regulatorlaw30.PlanNarrowest", spec := "planNarrowest", unfollowed := true, recurses := true, named := ["math/bits.divideError", "math/bits.overflowError"], apart := false, narrowed := true }
def PlanNarrowestUptoSaid : Prop := planNarrowestUptoRow.holds Try.pinned (OpenSpec.upto planNarrowestSpec)

/-- 'regulatorlaw30.PlanOrder', WHERE WHAT IT READS IS OF BULK AT MOST 1048576: true; the input reads as it did. -/
def planOrderUptoRow : OpenClaim := { program := "ytiaahfccebmkdaa", sum := "e6e5d47c85ce07b749f6737dff8628f501c1cb9cf8d3746d1ee8a224441f7a60", func := "regulator/regulatorlaw30.PlanOrder", spec := "planOrder", unfollowed := true, recurses := true, named := ["math/bits.divideError", "math/bits.overflowError"], apart := false, narrowed := true }
def PlanOrderUptoSaid : Prop := planOrderUptoRow.holds Try.pinned (OpenSpec.upto planOrderSpec)

/-- 'regulatorlaw30.PlanMore', WHERE WHAT IT READS IS OF BULK AT MOST 1048576: true; the input reads as it did. -/
def planMoreUptoRow : OpenClaim := { program := "ytiaahfccebmkdaa", sum := "e6e5d47c85ce07b749f6737dff8628f501c1cb9cf8d3746d1ee8a224441f7a60", func := "regulator/regulatorlaw30.PlanMore", spec := "planMore", unfollowed := true, recurses := true, named := ["math/bits.divideError", "math/bits.overflowError"], apart := false, narrowed := true }
def PlanMoreUptoSaid : Prop := planMoreUptoRow.holds Try.pinned (OpenSpec.upto planMoreSpec)

end Rows
end Go.Proofs.Ytiaahfccebmkdaa
