/-
  No cell of these rows narrows 'for every input' (looked for: loops, veiled, ifaces, maps, wideKeys, modest, calm, conditions, laid).
  DERIVED. THE GIVEN ROWS OF THIS SEAT. 3 by the template 'for every input the law returns true; each argument reads behind the call as it read before'; 0 by the template 'total and deterministic' (their statements: YtlmcoollkmhanaaGreatTotals.lean).
  GIVEN WITH THE SEED: the statements are not yours to turn. If you find one false, say at which input.
  Laid BY PROGRAM, IN A SANDBOX (cutbox-rows.mjs): the forced cells as the released guide's own fill.sh prints them over the translation 44aa0d88f37782af… (all of the seat's roots in one cut). By AI agents, Wed Nov 11 2026. No macro, syntax, notation, axiom, sorry.
-/
import Derived.Test.YtlmcoollkmhanaaGreatChecked
import GoSem.Claim
import GoSem.ClaimJoined
import GoSem.ClaimMapViews
import Derived.JoinedTies
import Derived.KernelRfl
namespace Go.Proofs.YtlmcoollkmhanaaGreat
/- THE CELL 'sum', in the pinned program and in every row, IS THE sha256 OF THE DUMP (.gsa) THAT YtlmcoollkmhanaaGreatProg.lean LOADS. Nothing in Lean hashes anything: it is a label: what it is worth is what the hold of that sum in a sandbox is worth. -/
noncomputable def Tryz.pinned : Pinned := { name := "ytlmcoollkmhanaagreat", sum := "44aa0d88f37782af24055c07721d7b58b1a2dd6284bd5d05c94b0dd11b2c77a0", checked := Tryz.checked }
namespace Rows
def none {H : Type} : Left H := { results := [], args := [] }

/-- 'regulatorlaw31.CertMatchesReference': WHATEVER THE INPUT: true; the input reads as it did. -/
def certMatchesReferenceSpec : ChangeSpec := { name := "certMatchesReference", fn := fun _ => fun
  | [d1, d2, d3, d4, d5, d6] => { results := [.lit (.bool true)], args := [d1, d2, d3, d4, d5, d6] }
  | _ => none }
def certMatchesReferenceRow : OpenClaim := { program := "ytlmcoollkmhanaagreat", sum := "44aa0d88f37782af24055c07721d7b58b1a2dd6284bd5d05c94b0dd11b2c77a0", func := "regulator/regulatorlaw31.CertMatchesReference", spec := "certMatchesReference", unfollowed := true, recurses := true, named := ["math/bits.divideError", "math/bits.overflowError"], apart := false }
def CertMatchesReferenceSaid : Prop := certMatchesReferenceRow.holds Tryz.pinned (OpenSpec.ofChange certMatchesReferenceSpec)

/-- ITS FALSE NEIGHBOUR: 'it returns false'. Refute it at one input. -/
def certMatchesReferenceWrong : ChangeSpec := { name := "certMatchesReference", fn := fun _ => fun
  | [d1, d2, d3, d4, d5, d6] => { results := [.lit (.bool false)], args := [d1, d2, d3, d4, d5, d6] }
  | _ => none }
def CertMatchesReferenceWrongFalsely : Prop := certMatchesReferenceRow.holds Tryz.pinned (OpenSpec.ofChange certMatchesReferenceWrong)

/-- 'regulatorlaw31.CertBehaviour': WHATEVER THE INPUT: true; the input reads as it did. -/
def certBehaviourSpec : ChangeSpec := { name := "certBehaviour", fn := fun _ => fun
  | [d1, d2, d3, d4, d5, d6, d7] => { results := [.lit (.bool true)], args := [d1, d2, d3, d4, d5, d6, d7] }
  | _ => none }
def certBehaviourRow : OpenClaim := { program := "ytlmcoollkmhanaagreat", sum := "44aa0d88f37782af24055c07721d7b58b1a2dd6284bd5d05c94b0dd11b2c77a0", func := "regulator/regulatorlaw31.CertBehaviour", spec := "certBehaviour", unfollowed := true, recurses := true, named := ["math/bits.divideError", "math/bits.overflowError"], apart := false }
def CertBehaviourSaid : Prop := certBehaviourRow.holds Tryz.pinned (OpenSpec.ofChange certBehaviourSpec)

/-- ITS FALSE NEIGHBOUR: 'it returns false'. Refute it at one input. -/
def certBehaviourWrong : ChangeSpec := { name := "certBehaviour", fn := fun _ => fun
  | [d1, d2, d3, d4, d5, d6, d7] => { results := [.lit (.bool false)], args := [d1, d2, d3, d4, d5, d6, d7] }
  | _ => none }
def CertBehaviourWrongFalsely : Prop := certBehaviourRow.holds Tryz.pinned (OpenSpec.ofChange certBehaviourWrong)

/-- 'regulatorlaw31.CertAttained': WHATEVER THE INPUT: true; the input reads as it did. -/
def certAttainedSpec : ChangeSpec := { name := "certAttained", fn := fun _ => fun
  | [d1, d2, d3, d4] => { results := [.lit (.bool true)], args := [d1, d2, d3, d4] }
  | _ => none }
def certAttainedRow : OpenClaim := { program := "ytlmcoollkmhanaagreat", sum := "44aa0d88f37782af24055c07721d7b58b1a2dd6284bd5d05c94b0dd11b2c77a0", func := "regulator/regulatorlaw31.CertAttained", spec := "certAttained", unfollowed := true, recurses := true, named := ["math/bits.divideError", "math/bits.overflowError"], apart := false }
def CertAttainedSaid : Prop := certAttainedRow.holds Tryz.pinned (OpenSpec.ofChange certAttainedSpec)

/-- ITS FALSE NEIGHBOUR: 'it returns false'. Refute it at one input. -/
def certAttainedWrong : ChangeSpec := { name := "certAttained", fn := fun _ => fun
  | [d1, d2, d3, d4] => { results := [.lit (.bool false)], args := [d1, d2, d3, d4] }
  | _ => none }
def CertAttainedWrongFalsely : Prop := certAttainedRow.holds Tryz.pinned (OpenSpec.ofChange certAttainedWrong)

/- THE SECOND FORM. 'bulk': how many values and letters a reading holds, each counted each time it is reached (what is shared counts as often as it is met; a slice's spare places count too). A statement '..UptoSaid' is the law's where the arguments, and the package variables that the reading takes, are together of bulk at most 1048576: NARROWER than '..Said'. Prove '..Said' where nothing that the law and all that it calls make is longer than what came in: it says more and counts as full. Else prove '..UptoSaid'. A law counts once. -/
mutual
def uptoBulk {H : Type} : DataW H → Nat
  | .lit (.string bytes) => bytes.length + 1
  | .lit _ => 1
  | .nil => 1
  | .ptr d => uptoBulk d + 1
  | .slice elems spare => uptoBulkAll elems + uptoBulkAll spare + 1
  | .agg parts => uptoBulkAll parts + 1
  | .iface _ d => uptoBulk d + 1
  | .map entries => uptoBulkEntries entries + 1
  | .held _ => 1
def uptoBulkAll {H : Type} : List (DataW H) → Nat
  | [] => 0
  | d :: r => uptoBulk d + uptoBulkAll r
def uptoBulkEntries {H : Type} : List (Lit × DataW H) → Nat
  | [] => 0
  | x :: r => uptoBulkEntry x + uptoBulkEntries r
def uptoBulkEntry {H : Type} : Lit × DataW H → Nat
  | (.string bytes, d) => bytes.length + uptoBulk d + 1
  | (_, d) => uptoBulk d + 1
 end
def uptoSmall : (H : Type) → List (DataW H) → Bool := fun _ ds => decide (uptoBulkAll ds ≤ 1048576)
def OpenSpec.upto (s : _root_.Go.ChangeSpec) : _root_.Go.OpenSpec := { _root_.Go.OpenSpec.ofChange s with cond := some uptoSmall }

/-- 'regulatorlaw31.CertMatchesReference', WHERE WHAT IT READS IS OF BULK AT MOST 1048576: true; the input reads as it did. -/
def certMatchesReferenceUptoRow : OpenClaim := { program := "ytlmcoollkmhanaagreat", sum := "44aa0d88f37782af24055c07721d7b58b1a2dd6284bd5d05c94b0dd11b2c77a0", func := "regulator/regulatorlaw31.CertMatchesReference", spec := "certMatchesReference", unfollowed := true, recurses := true, named := ["math/bits.divideError", "math/bits.overflowError"], apart := false, narrowed := true }
def CertMatchesReferenceUptoSaid : Prop := certMatchesReferenceUptoRow.holds Tryz.pinned (OpenSpec.upto certMatchesReferenceSpec)

/-- 'regulatorlaw31.CertBehaviour', WHERE WHAT IT READS IS OF BULK AT MOST 1048576: true; the input reads as it did. -/
def certBehaviourUptoRow : OpenClaim := { program := "ytlmcoollkmhanaagreat", sum := "44aa0d88f37782af24055c07721d7b58b1a2dd6284bd5d05c94b0dd11b2c77a0", func := "regulator/regulatorlaw31.CertBehaviour", spec := "certBehaviour", unfollowed := true, recurses := true, named := ["math/bits.divideError", "math/bits.overflowError"], apart := false, narrowed := true }
def CertBehaviourUptoSaid : Prop := certBehaviourUptoRow.holds Tryz.pinned (OpenSpec.upto certBehaviourSpec)

/-- 'regulatorlaw31.CertAttained', WHERE WHAT IT READS IS OF BULK AT MOST 1048576: true; the input reads as it did. -/
def certAttainedUptoRow : OpenClaim := { program := "ytlmcoollkmhanaagreat", sum := "44aa0d88f37782af24055c07721d7b58b1a2dd6284bd5d05c94b0dd11b2c77a0", func := "regulator/regulatorlaw31.CertAttained", spec := "certAttained", unfollowed := true, recurses := true, named := ["math/bits.divideError", "math/bits.overflowError"], apart := false, narrowed := true }
def CertAttainedUptoSaid : Prop := certAttainedUptoRow.holds Tryz.pinned (OpenSpec.upto certAttainedSpec)

end Rows
end Go.Proofs.YtlmcoollkmhanaaGreat
