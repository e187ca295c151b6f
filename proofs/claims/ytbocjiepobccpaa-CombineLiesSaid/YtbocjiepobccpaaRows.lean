/-
  No cell of these rows narrows 'for every input' (looked for: loops, veiled, ifaces, maps, wideKeys, modest, calm, conditions, laid).
  DERIVED. THE GIVEN ROWS OF THIS SEAT. 7 by the template 'for every input the law returns true; each argument reads behind the call as it read before'; 0 by the template 'total and deterministic' (their statements: YtbocjiepobccpaaTotals.lean).
  GIVEN WITH THE SEED: the statements are not yours to turn. If you find one false, say at which input.
  Laid BY PROGRAM, IN A SANDBOX (cutbox-rows.mjs): the forced cells as the released guide's own fill.sh prints them over the translation d5adf651ddfa83f2… (all of the seat's roots in one cut). By AI agents, Wed Nov 11 2026. No macro, syntax, notation, axiom, sorry.
-/
import Derived.Test.YtbocjiepobccpaaChecked
import GoSem.Claim
import GoSem.ClaimJoined
import GoSem.ClaimMapViews
import Derived.JoinedTies
import Derived.KernelRfl
namespace Go.Proofs.Ytbocjiepobccpaa
/- THE CELL 'sum', in the pinned program and in every row, IS THE sha256 OF THE DUMP (.gsa) THAT YtbocjiepobccpaaProg.lean LOADS. Nothing in Lean hashes anything: it is a label: what it is worth is what the hold of that sum in a sandbox is worth. -/
noncomputable def Try.pinned : Pinned := { name := "ytbocjiepobccpaa", sum := "d5adf651ddfa83f277dfe885fe06d5900c5fc17023234d49f496db105ef4bc92", checked := Try.checked }
namespace Rows
def none {H : Type} : Left H := { results := [], args := [] }

/-- 'regulatorlaw14.CombineMatchesReference': WHATEVER THE INPUT: true; the input reads as it did. -/
def combineMatchesReferenceSpec : ChangeSpec := { name := "combineMatchesReference", fn := fun _ => fun
  | [d1, d2] => { results := [.lit (.bool true)], args := [d1, d2] }
  | _ => none }
def combineMatchesReferenceRow : OpenClaim := { program := "ytbocjiepobccpaa", sum := "d5adf651ddfa83f277dfe885fe06d5900c5fc17023234d49f496db105ef4bc92", func := "regulator/regulatorlaw14.CombineMatchesReference", spec := "combineMatchesReference", unfollowed := true, recurses := true, apart := false }
def CombineMatchesReferenceSaid : Prop := combineMatchesReferenceRow.holds Try.pinned (OpenSpec.ofChange combineMatchesReferenceSpec)

/-- ITS FALSE NEIGHBOUR: 'it returns false'. Refute it at one input. -/
def combineMatchesReferenceWrong : ChangeSpec := { name := "combineMatchesReference", fn := fun _ => fun
  | [d1, d2] => { results := [.lit (.bool false)], args := [d1, d2] }
  | _ => none }
def CombineMatchesReferenceWrongFalsely : Prop := combineMatchesReferenceRow.holds Try.pinned (OpenSpec.ofChange combineMatchesReferenceWrong)

/-- 'regulatorlaw14.CombineTruth': WHATEVER THE INPUT: true; the input reads as it did. -/
def combineTruthSpec : ChangeSpec := { name := "combineTruth", fn := fun _ => fun
  | [d1, d2, d3] => { results := [.lit (.bool true)], args := [d1, d2, d3] }
  | _ => none }
def combineTruthRow : OpenClaim := { program := "ytbocjiepobccpaa", sum := "d5adf651ddfa83f277dfe885fe06d5900c5fc17023234d49f496db105ef4bc92", func := "regulator/regulatorlaw14.CombineTruth", spec := "combineTruth", unfollowed := true, recurses := true, apart := false }
def CombineTruthSaid : Prop := combineTruthRow.holds Try.pinned (OpenSpec.ofChange combineTruthSpec)

/-- ITS FALSE NEIGHBOUR: 'it returns false'. Refute it at one input. -/
def combineTruthWrong : ChangeSpec := { name := "combineTruth", fn := fun _ => fun
  | [d1, d2, d3] => { results := [.lit (.bool false)], args := [d1, d2, d3] }
  | _ => none }
def CombineTruthWrongFalsely : Prop := combineTruthRow.holds Try.pinned (OpenSpec.ofChange combineTruthWrong)

/-- 'regulatorlaw14.CombineExact': WHATEVER THE INPUT: true; the input reads as it did. -/
def combineExactSpec : ChangeSpec := { name := "combineExact", fn := fun _ => fun
  | [d1, d2] => { results := [.lit (.bool true)], args := [d1, d2] }
  | _ => none }
def combineExactRow : OpenClaim := { program := "ytbocjiepobccpaa", sum := "d5adf651ddfa83f277dfe885fe06d5900c5fc17023234d49f496db105ef4bc92", func := "regulator/regulatorlaw14.CombineExact", spec := "combineExact", unfollowed := true, recurses := true, apart := false }
def CombineExactSaid : Prop := combineExactRow.holds Try.pinned (OpenSpec.ofChange combineExactSpec)

/-- ITS FALSE NEIGHBOUR: 'it returns false'. Refute it at one input. -/
def combineExactWrong : ChangeSpec := { name := "combineExact", fn := fun _ => fun
  | [d1, d2] => { results := [.lit (.bool false)], args := [d1, d2] }
  | _ => none }
def CombineExactWrongFalsely : Prop := combineExactRow.holds Try.pinned (OpenSpec.ofChange combineExactWrong)

/-- 'regulatorlaw14.CombineAgrees': WHATEVER THE INPUT: true; the input reads as it did. -/
def combineAgreesSpec : ChangeSpec := { name := "combineAgrees", fn := fun _ => fun
  | [d1, d2] => { results := [.lit (.bool true)], args := [d1, d2] }
  | _ => none }
def combineAgreesRow : OpenClaim := { program := "ytbocjiepobccpaa", sum := "d5adf651ddfa83f277dfe885fe06d5900c5fc17023234d49f496db105ef4bc92", func := "regulator/regulatorlaw14.CombineAgrees", spec := "combineAgrees", unfollowed := true, recurses := true, apart := false }
def CombineAgreesSaid : Prop := combineAgreesRow.holds Try.pinned (OpenSpec.ofChange combineAgreesSpec)

/-- ITS FALSE NEIGHBOUR: 'it returns false'. Refute it at one input. -/
def combineAgreesWrong : ChangeSpec := { name := "combineAgrees", fn := fun _ => fun
  | [d1, d2] => { results := [.lit (.bool false)], args := [d1, d2] }
  | _ => none }
def CombineAgreesWrongFalsely : Prop := combineAgreesRow.holds Try.pinned (OpenSpec.ofChange combineAgreesWrong)

/-- 'regulatorlaw14.CombineOutside': WHATEVER THE INPUT: true; the input reads as it did. -/
def combineOutsideSpec : ChangeSpec := { name := "combineOutside", fn := fun _ => fun
  | [d1, d2, d3] => { results := [.lit (.bool true)], args := [d1, d2, d3] }
  | _ => none }
def combineOutsideRow : OpenClaim := { program := "ytbocjiepobccpaa", sum := "d5adf651ddfa83f277dfe885fe06d5900c5fc17023234d49f496db105ef4bc92", func := "regulator/regulatorlaw14.CombineOutside", spec := "combineOutside", unfollowed := true, recurses := true, apart := false }
def CombineOutsideSaid : Prop := combineOutsideRow.holds Try.pinned (OpenSpec.ofChange combineOutsideSpec)

/-- ITS FALSE NEIGHBOUR: 'it returns false'. Refute it at one input. -/
def combineOutsideWrong : ChangeSpec := { name := "combineOutside", fn := fun _ => fun
  | [d1, d2, d3] => { results := [.lit (.bool false)], args := [d1, d2, d3] }
  | _ => none }
def CombineOutsideWrongFalsely : Prop := combineOutsideRow.holds Try.pinned (OpenSpec.ofChange combineOutsideWrong)

/-- 'regulatorlaw14.CombineMore': WHATEVER THE INPUT: true; the input reads as it did. -/
def combineMoreSpec : ChangeSpec := { name := "combineMore", fn := fun _ => fun
  | [d1, d2, d3] => { results := [.lit (.bool true)], args := [d1, d2, d3] }
  | _ => none }
def combineMoreRow : OpenClaim := { program := "ytbocjiepobccpaa", sum := "d5adf651ddfa83f277dfe885fe06d5900c5fc17023234d49f496db105ef4bc92", func := "regulator/regulatorlaw14.CombineMore", spec := "combineMore", unfollowed := true, recurses := true, apart := false }
def CombineMoreSaid : Prop := combineMoreRow.holds Try.pinned (OpenSpec.ofChange combineMoreSpec)

/-- ITS FALSE NEIGHBOUR: 'it returns false'. Refute it at one input. -/
def combineMoreWrong : ChangeSpec := { name := "combineMore", fn := fun _ => fun
  | [d1, d2, d3] => { results := [.lit (.bool false)], args := [d1, d2, d3] }
  | _ => none }
def CombineMoreWrongFalsely : Prop := combineMoreRow.holds Try.pinned (OpenSpec.ofChange combineMoreWrong)

/-- 'regulatorlaw14.CombineLies': WHATEVER THE INPUT: true; the input reads as it did. -/
def combineLiesSpec : ChangeSpec := { name := "combineLies", fn := fun _ => fun
  | [d1, d2, d3] => { results := [.lit (.bool true)], args := [d1, d2, d3] }
  | _ => none }
def combineLiesRow : OpenClaim := { program := "ytbocjiepobccpaa", sum := "d5adf651ddfa83f277dfe885fe06d5900c5fc17023234d49f496db105ef4bc92", func := "regulator/regulatorlaw14.CombineLies", spec := "combineLies", unfollowed := true, recurses := true, apart := false }
def CombineLiesSaid : Prop := combineLiesRow.holds Try.pinned (OpenSpec.ofChange combineLiesSpec)

/-- ITS FALSE NEIGHBOUR: 'it returns false'. Refute it at one input. -/
def combineLiesWrong : ChangeSpec := { name := "combineLies", fn := fun _ => fun
  | [d1, d2, d3] => { results := [.lit (.bool false)], args := [d1, d2, d3] }
  | _ => none }
def CombineLiesWrongFalsely : Prop := combineLiesRow.holds Try.pinned (OpenSpec.ofChange combineLiesWrong)

/- THE SECOND FORM. 'bulk': how many values and letters a reading holds, each counted each time it is reached (what is shared counts as often as it is met; a slice's spare places count too). A statement '..UptoSaid' is the law's where the arguments, and the package variables that the reading takes, are together of bulk at most 1048576: NARROWER than '..Said'. Prove '..Said' where nothing that the law and all that it calls make is longer than what came in: it says more and counts as full. Else prove '..UptoSaid'. A law counts once. -/
mutual
def uptoBulk {H : Type} : DataW H → Nat
  | .lit (.string bytes) => bytes.length + 1
  | .lit _ => 1
  | .nil => 1
  | .ptr d => uptoBulk d + 1
  | .slice elems spare => uptoBulkAll elems + uptoBulkAll spare + 1
  | .agg parts => uptoBulkAll parts + 1
  | .iface _ d => uptoBulk d + 1
  | .map entries => uptoBulkEntries entries + 1
  | .held _ => 1
def uptoBulkAll {H : Type} : List (DataW H) → Nat
  | [] => 0
  | d :: r => uptoBulk d + uptoBulkAll r
def uptoBulkEntries {H : Type} : List (Lit × DataW H) → Nat
  | [] => 0
  | x :: r => uptoBulkEntry x + uptoBulkEntries r
def uptoBulkEntry {H : Type} : Lit × DataW H → Nat
  | (.string bytes, d) => bytes.length + uptoBulk d + 1
  | (_, d) => uptoBulk d + 1
 end
def uptoSmall : (H : Type) → List (DataW H) → Bool := fun _ ds => decide (uptoBulkAll ds ≤ 1048576)
def OpenSpec.upto (s : _root_.Go.ChangeSpec) : _root_.Go.OpenSpec := { _root_.Go.OpenSpec.ofChange s with cond := some uptoSmall }

/-- 'regulatorlaw14.CombineMatchesReference', WHERE WHAT IT READS IS OF BULK AT MOST 1048576: true; the input reads as it did. -/
def combineMatchesReferenceUptoRow : OpenClaim := { program := "ytbocjiepobccpaa", sum := "d5adf651ddfa83f277dfe885fe06d5900c5fc17023234d49f496db105ef4bc92", func := "regulator/regulatorlaw14.CombineMatchesReference", spec := "combineMatchesReference", unfollowed := true, recurses := true, apart := false, narrowed := true }
def CombineMatchesReferenceUptoSaid : Prop := combineMatchesReferenceUptoRow.holds Try.pinned (OpenSpec.upto combineMatchesReferenceSpec)

/-- 'regulatorlaw14.CombineTruth', WHERE WHAT IT READS IS OF BULK AT MOST 1048576: true; the input reads as it did. -/
def combineTruthUptoRow : OpenClaim := { program := "ytbocjiepobccpaa", sum := "d5adf651ddfa83f277dfe885fe06d5900c5fc17023234d49f496db105ef4bc92", func := "regulator/regulatorlaw14.CombineTruth", spec := "combineTruth", unfollowed := true, recurses := true, apart := false, narrowed := true }
def CombineTruthUptoSaid : Prop := combineTruthUptoRow.holds Try.pinned (OpenSpec.upto combineTruthSpec)

/-- 'regulatorlaw14.CombineExact', WHERE WHAT IT READS IS OF BULK AT MOST 1048576: true; the input reads as it did. -/
def combineExactUptoRow : OpenClaim := { program := "ytbocjiepobccpaa", sum := "d5adf651ddfa83f277dfe885fe06d5900c5fc17023234d49f496db105ef4bc92", func := "regulator/regulatorlaw14.CombineExact", spec := "combineExact", unfollowed := true, recurses := true, apart := false, narrowed := true }
def CombineExactUptoSaid : Prop := combineExactUptoRow.holds Try.pinned (OpenSpec.upto combineExactSpec)

/-- 'regulatorlaw14.CombineAgrees', WHERE WHAT IT READS IS OF BULK AT MOST 1048576: true; the input reads as it did. -/
def combineAgreesUptoRow : OpenClaim := { program := "ytbocjiepobccpaa", sum := "d5adf651ddfa83f277dfe885fe06d5900c5fc17023234d49f496db105ef4bc92", func := "regulator/regulatorlaw14.CombineAgrees", spec := "combineAgrees", unfollowed := true, recurses := true, apart := false, narrowed := true }
def CombineAgreesUptoSaid : Prop := combineAgreesUptoRow.holds Try.pinned (OpenSpec.upto combineAgreesSpec)

/-- 'regulatorlaw14.CombineOutside', WHERE WHAT IT READS IS OF BULK AT MOST 1048576: true; the input reads as it did. -/
def combineOutsideUptoRow : OpenClaim := { program := "ytbocjiepobccpaa", sum := "d5adf651ddfa83f277dfe885fe06d5900c5fc17023234d49f496db105ef4bc92", func := "regulator/regulatorlaw14.CombineOutside", spec := "combineOutside", unfollowed := true, recurses := true, apart := false, narrowed := true }
def CombineOutsideUptoSaid : Prop := combineOutsideUptoRow.holds Try.pinned (OpenSpec.upto combineOutsideSpec)

/-- 'regulatorlaw14.CombineMore', WHERE WHAT IT READS IS OF BULK AT MOST 1048576: true; the input reads as it did. -/
def combineMoreUptoRow : OpenClaim := { program := "ytbocjiepobccpaa", sum := "d5adf651ddfa83f277dfe885fe06d5900c5fc17023234d49f496db105ef4bc92", func := "regulator/regulatorlaw14.CombineMore", spec := "combineMore", unfollowed := true, recurses := true, apart := false, narrowed := true }
def CombineMoreUptoSaid : Prop := combineMoreUptoRow.holds Try.pinned (OpenSpec.upto combineMoreSpec)

/-- 'regulatorlaw14.CombineLies', WHERE WHAT IT READS IS OF BULK AT MOST 1048576: true; the input reads as it did. -/
def combineLiesUptoRow : OpenClaim := { program := "ytbocjiepobccpaa", sum := "d5adf651ddfa83f277dfe885fe06d5900c5fc17023234d49f496db105ef4bc92", func := "regulator/regulatorlaw14.CombineLies", spec := "combineLies", unfollowed := true, recurses := true, apart := false, narrowed := true }
def CombineLiesUptoSaid : Prop := combineLiesUptoRow.holds Try.pinned (OpenSpec.upto combineLiesSpec)

end Rows
end Go.Proofs.Ytbocjiepobccpaa
