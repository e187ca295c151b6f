/-
  No cell of these rows narrows 'for every input' (looked for: loops, veiled, ifaces, maps, wideKeys, modest, calm, conditions, laid).
  DERIVED. THE GIVEN ROWS OF THIS SEAT. 8 by the template 'for every input the law returns true; each argument reads behind the call as it read before'; 0 by the template 'total and deterministic' (their statements: YtigjljmhpkeahaaGreatTotals.lean).
  GIVEN WITH THE SEED: the statements are not yours to turn. If you find one false, say at which input.
  Laid BY PROGRAM, IN A SANDBOX (cutbox-rows.mjs): the forced cells as the released guide's own fill.sh prints them over the translation c969b5ec55710b04… (all of the seat's roots in one cut). By AI agents, Wed Nov 11 2026. No macro, syntax, notation, axiom, sorry.
-/
import Derived.Test.YtigjljmhpkeahaaGreatChecked
import GoSem.Claim
import GoSem.ClaimJoined
import GoSem.ClaimMapViews
import Derived.JoinedTies
import Derived.KernelRfl
namespace Go.Proofs.YtigjljmhpkeahaaGreat
/- THE CELL 'sum', in the pinned program and in every row, IS THE sha256 OF THE DUMP (.gsa) THAT YtigjljmhpkeahaaGreatProg.lean LOADS. Nothing in Lean hashes anything: it is a label: what it is worth is what the hold of that sum in a sandbox is worth. -/
noncomputable def Tryz.pinned : Pinned := { name := "ytigjljmhpkeahaagreat", sum := "c969b5ec55710b04e324ff52528e1cde3371c541dca6968718aef77baed0b8b7", checked := Tryz.checked }
namespace Rows
def none {H : Type} : Left H := { results := [], args := [] }

/-- 'regulatorlaw32.SceneMatchesReference': WHATEVER THE INPUT: true; the input reads as it did. -/
def sceneMatchesReferenceSpec : ChangeSpec := { name := "sceneMatchesReference", fn := fun _ => fun
  | [d1, d2, d3, d4, d5, d6] => { results := [.lit (.bool true)], args := [d1, d2, d3, d4, d5, d6] }
  | _ => none }
def sceneMatchesReferenceRow : OpenClaim := { program := "ytigjljmhpkeahaagreat", sum := "c969b5ec55710b04e324ff52528e1cde3371c541dca6968718aef77baed0b8b7", func := "regulator/regulatorlaw32.SceneMatchesReference", spec := "sceneMatchesReference", unfollowed := true, recurses := true, named := ["math/bits.divideError", "math/bits.overflowError"], apart := false }
def SceneMatchesReferenceSaid : Prop := sceneMatchesReferenceRow.holds Tryz.pinned (OpenSpec.ofChange sceneMatchesReferenceSpec)

/-- ITS FALSE NEIGHBOUR: 'it returns false'. Refute it at one input. -/
def sceneMatchesReferenceWrong : ChangeSpec := { name := "sceneMatchesReference", fn := fun _ => fun
  | [d1, d2, d3, d4, d5, d6] => { results := [.lit (.bool false)], args := [d1, d2, d3, d4, d5, d6] }
  | _ => none }
def SceneMatchesReferenceWrongFalsely : Prop := sceneMatchesReferenceRow.holds Tryz.pinned (OpenSpec.ofChange sceneMatchesReferenceWrong)

/-- 'regulatorlaw32.SceneAllowed': WHATEVER THE INPUT: true; the input reads as it did. -/
def sceneAllowedSpec : ChangeSpec := { name := "sceneAllowed", fn := fun _ => fun
  | [d1, d2, d3] => { results := [.lit (.bool true)], args := [d1, d2, d3] }
  | _ => none }
def sceneAllowedRow : OpenClaim := { program := "ytigjljmhpkeahaagreat", sum := "c969b5ec55710b04e324ff52528e1cde3371c541dca6968718aef77baed0b8b7", func := "regulator/regulatorlaw32.SceneAllowed", spec := "sceneAllowed", unfollowed := true, recurses := true, named := ["math/bits.divideError", "math/bits.overflowError"], apart := false }
def SceneAllowedSaid : Prop := sceneAllowedRow.holds Tryz.pinned (OpenSpec.ofChange sceneAllowedSpec)

/-- ITS FALSE NEIGHBOUR: 'it returns false'. Refute it at one input. -/
def sceneAllowedWrong : ChangeSpec := { name := "sceneAllowed", fn := fun _ => fun
  | [d1, d2, d3] => { results := [.lit (.bool false)], args := [d1, d2, d3] }
  | _ => none }
def SceneAllowedWrongFalsely : Prop := sceneAllowedRow.holds Tryz.pinned (OpenSpec.ofChange sceneAllowedWrong)

/-- 'regulatorlaw32.SceneWidth': WHATEVER THE INPUT: true; the input reads as it did. -/
def sceneWidthSpec : ChangeSpec := { name := "sceneWidth", fn := fun _ => fun
  | [d1, d2, d3] => { results := [.lit (.bool true)], args := [d1, d2, d3] }
  | _ => none }
def sceneWidthRow : OpenClaim := { program := "ytigjljmhpkeahaagreat", sum := "c969b5ec55710b04e324ff52528e1cde3371c541dca6968718aef77baed0b8b7", func := "regulator/regulatorlaw32.SceneWidth", spec := "sceneWidth", unfollowed := true, recurses := true, named := ["math/bits.divideError", "math/bits.overflowError"], apart := false }
def SceneWidthSaid : Prop := sceneWidthRow.holds Tryz.pinned (OpenSpec.ofChange sceneWidthSpec)

/-- ITS FALSE NEIGHBOUR: 'it returns false'. Refute it at one input. -/
def sceneWidthWrong : ChangeSpec := { name := "sceneWidth", fn := fun _ => fun
  | [d1, d2, d3] => { results := [.lit (.bool false)], args := [d1, d2, d3] }
  | _ => none }
def SceneWidthWrongFalsely : Prop := sceneWidthRow.holds Tryz.pinned (OpenSpec.ofChange sceneWidthWrong)

/-- 'regulatorlaw32.SceneTruth': WHATEVER THE INPUT: true; the input reads as it did. -/
def sceneTruthSpec : ChangeSpec := { name := "sceneTruth", fn := fun _ => fun
  | [d1, d2, d3] => { results := [.lit (.bool true)], args := [d1, d2, d3] }
  | _ => none }
def sceneTruthRow : OpenClaim := { program := "ytigjljmhpkeahaagreat", sum := "c969b5ec55710b04e324ff52528e1cde3371c541dca6968718aef77baed0b8b7", func := "regulator/regulatorlaw32.SceneTruth", spec := "sceneTruth", unfollowed := true, recurses := true, named := ["math/bits.divideError", "math/bits.overflowError"], apart := false }
def SceneTruthSaid : Prop := sceneTruthRow.holds Tryz.pinned (OpenSpec.ofChange sceneTruthSpec)

/-- ITS FALSE NEIGHBOUR: 'it returns false'. Refute it at one input. -/
def sceneTruthWrong : ChangeSpec := { name := "sceneTruth", fn := fun _ => fun
  | [d1, d2, d3] => { results := [.lit (.bool false)], args := [d1, d2, d3] }
  | _ => none }
def SceneTruthWrongFalsely : Prop := sceneTruthRow.holds Tryz.pinned (OpenSpec.ofChange sceneTruthWrong)

/-- 'regulatorlaw32.SceneMoves': WHATEVER THE INPUT: true; the input reads as it did. -/
def sceneMovesSpec : ChangeSpec := { name := "sceneMoves", fn := fun _ => fun
  | [d1, d2, d3, d4] => { results := [.lit (.bool true)], args := [d1, d2, d3, d4] }
  | _ => none }
def sceneMovesRow : OpenClaim := { program := "ytigjljmhpkeahaagreat", sum := "c969b5ec55710b04e324ff52528e1cde3371c541dca6968718aef77baed0b8b7", func := "regulator/regulatorlaw32.SceneMoves", spec := "sceneMoves", unfollowed := true, recurses := true, named := ["math/bits.divideError", "math/bits.overflowError"], apart := false }
def SceneMovesSaid : Prop := sceneMovesRow.holds Tryz.pinned (OpenSpec.ofChange sceneMovesSpec)

/-- ITS FALSE NEIGHBOUR: 'it returns false'. Refute it at one input. -/
def sceneMovesWrong : ChangeSpec := { name := "sceneMoves", fn := fun _ => fun
  | [d1, d2, d3, d4] => { results := [.lit (.bool false)], args := [d1, d2, d3, d4] }
  | _ => none }
def SceneMovesWrongFalsely : Prop := sceneMovesRow.holds Tryz.pinned (OpenSpec.ofChange sceneMovesWrong)

/-- 'regulatorlaw32.SceneCounts': WHATEVER THE INPUT: true; the input reads as it did. -/
def sceneCountsSpec : ChangeSpec := { name := "sceneCounts", fn := fun _ => fun
  | [d1, d2, d3] => { results := [.lit (.bool true)], args := [d1, d2, d3] }
  | _ => none }
def sceneCountsRow : OpenClaim := { program := "ytigjljmhpkeahaagreat", sum := "c969b5ec55710b04e324ff52528e1cde3371c541dca6968718aef77baed0b8b7", func := "regulator/regulatorlaw32.SceneCounts", spec := "sceneCounts", unfollowed := true, recurses := true, named := ["math/bits.divideError", "math/bits.overflowError"], apart := false }
def SceneCountsSaid : Prop := sceneCountsRow.holds Tryz.pinned (OpenSpec.ofChange sceneCountsSpec)

/-- ITS FALSE NEIGHBOUR: 'it returns false'. Refute it at one input. -/
def sceneCountsWrong : ChangeSpec := { name := "sceneCounts", fn := fun _ => fun
  | [d1, d2, d3] => { results := [.lit (.bool false)], args := [d1, d2, d3] }
  | _ => none }
def SceneCountsWrongFalsely : Prop := sceneCountsRow.holds Tryz.pinned (OpenSpec.ofChange sceneCountsWrong)

/-- 'regulatorlaw32.SceneRefuses': WHATEVER THE INPUT: true; the input reads as it did. -/
def sceneRefusesSpec : ChangeSpec := { name := "sceneRefuses", fn := fun _ => fun
  | [d1, d2, d3, d4] => { results := [.lit (.bool true)], args := [d1, d2, d3, d4] }
  | _ => none }
def sceneRefusesRow : OpenClaim := { program := "ytigjljmhpkeahaagreat", sum := "c969b5ec55710b04e324ff52528e1cde3371c541dca6968718aef77baed0b8b7", func := "regulator/regulatorlaw32.SceneRefuses", spec := "sceneRefuses", unfollowed := true, recurses := true, named := ["math/bits.divideError", "math/bits.overflowError"], apart := false }
def SceneRefusesSaid : Prop := sceneRefusesRow.holds Tryz.pinned (OpenSpec.ofChange sceneRefusesSpec)

/-- ITS FALSE NEIGHBOUR: 'it returns false'. Refute it at one input. -/
def sceneRefusesWrong : ChangeSpec := { name := "sceneRefuses", fn := fun _ => fun
  | [d1, d2, d3, d4] => { results := [.lit (.bool false)], args := [d1, d2, d3, d4] }
  | _ => none }
def SceneRefusesWrongFalsely : Prop := sceneRefusesRow.holds Tryz.pinned (OpenSpec.ofChange sceneRefusesWrong)

/-- 'regulatorlaw32.SceneKeeps': WHATEVER THE INPUT: true; the input reads as it did. -/
def sceneKeepsSpec : ChangeSpec := { name := "sceneKeeps", fn := fun _ => fun
  | [d1, d2, d3, d4, d5, d6] => { results := [.lit (.bool true)], args := [d1, d2, d3, d4, d5, d6] }
  | _ => none }
def sceneKeepsRow : OpenClaim := { program := "ytigjljmhpkeahaagreat", sum := "c969b5ec55710b04e324ff52528e1cde3371c541dca6968718aef77baed0b8b7", func := "regulator/regulatorlaw32.SceneKeeps", spec := "sceneKeeps", unfollowed := true, recurses := true, named := ["math/bits.divideError", "math/bits.overflowError"], apart := false }
def SceneKeepsSaid : Prop := sceneKeepsRow.holds Tryz.pinned (OpenSpec.ofChange sceneKeepsSpec)

/-- ITS FALSE NEIGHBOUR: 'it returns false'. Refute it at one input. -/
def sceneKeepsWrong : ChangeSpec := { name := "sceneKeeps", fn := fun _ => fun
  | [d1, d2, d3, d4, d5, d6] => { results := [.lit (.bool false)], args := [d1, d2, d3, d4, d5, d6] }
  | _ => none }
def SceneKeepsWrongFalsely : Prop := sceneKeepsRow.holds Tryz.pinned (OpenSpec.ofChange sceneKeepsWrong)

/- THE SECOND FORM. 'bulk': how many values and letters a reading holds, each counted each time it is reached (what is shared counts as often as it is met; a slice's spare places count too). A statement '..UptoSaid' is the law's where the arguments, and the package variables that the reading takes, are together of bulk at most 1048576: NARROWER than '..Said'. Prove '..Said' where nothing that the law and all that it calls make is longer than what came in: it says more and counts as full. Else prove '..UptoSaid'. A law counts once. -/
mutual
def uptoBulk {H : Type} : DataW H → Nat
  | .lit (.string bytes) => bytes.length + 1
  | .lit _ => 1
  | .nil => 1
  | .ptr d => uptoBulk d + 1
  | .slice elems spare => uptoBulkAll elems + uptoBulkAll spare + 1
  | .agg parts => uptoBulkAll parts + 1
  | .iface _ d => uptoBulk d + 1
  | .map entries => uptoBulkEntries entries + 1
  | .held _ => 1
def uptoBulkAll {H : Type} : List (DataW H) → Nat
  | [] => 0
  | d :: r => uptoBulk d + uptoBulkAll r
def uptoBulkEntries {H : Type} : List (Lit × DataW H) → Nat
  | [] => 0
  | x :: r => uptoBulkEntry x + uptoBulkEntries r
def uptoBulkEntry {H : Type} : Lit × DataW H → Nat
  | (.string bytes, d) => bytes.length + uptoBulk d + 1
  | (_, d) => uptoBulk d + 1
 end
def uptoSmall : (H : Type) → List (DataW H) → Bool := fun _ ds => decide (uptoBulkAll ds ≤ 1048576)
def OpenSpec.upto (s : _root_.Go.ChangeSpec) : _root_.Go.OpenSpec := { _root_.Go.OpenSpec.ofChange s with cond := some uptoSmall }

/-- 'regulatorlaw32.SceneMatchesReference', WHERE WHAT IT READS IS OF BULK AT MOST 1048576: true; the input reads as it did. -/
def sceneMatchesReferenceUptoRow : OpenClaim := { program := "ytigjljmhpkeahaagreat", sum := "c969b5ec55710b04e324ff52528e1cde3371c541dca6968718aef77baed0b8b7", func := "regulator/regulatorlaw32.SceneMatchesReference", spec := "sceneMatchesReference", unfollowed := true, recurses := true, named := ["math/bits.divideError", "math/bits.overflowError"], apart := false, narrowed := true }
def SceneMatchesReferenceUptoSaid : Prop := sceneMatchesReferenceUptoRow.holds Tryz.pinned (OpenSpec.upto sceneMatchesReferenceSpec)

/-- 'regulatorlaw32.SceneAllowed', WHERE WHAT IT READS IS OF BULK AT MOST 1048576: true; the input reads as it did. -/
def sceneAllowedUptoRow : OpenClaim := { program := "ytigjljmhpkeahaagreat", sum := "c969b5ec55710b04e324ff52528e1cde3371c541dca6968718aef77baed0b8b7", func := "regulator/regulatorlaw32.SceneAllowed", spec := "sceneAllowed", unfollowed := true, recurses := true, named := ["math/bits.divideError", "math/bits.overflowError"], apart := false, narrowed := true }
def SceneAllowedUptoSaid : Prop := sceneAllowedUptoRow.holds Tryz.pinned (OpenSpec.upto sceneAllowedSpec)

/-- 'regulatorlaw32.SceneWidth', WHERE WHAT IT READS IS OF BULK AT MOST 1048576: true; the input reads as it did. -/
def sceneWidthUptoRow : OpenClaim := { program := "ytigjljmhpkeahaagreat", sum := "c969b5ec55710b04e324ff52528e1cde3371c541dca6968718aef77baed0b8b7", func := "regulator/regulatorlaw32.SceneWidth", spec := "sceneWidth", unfollowed := true, recurses := true, named := ["math/bits.divideError", "math/bits.overflowError"], apart := false, narrowed := true }
def SceneWidthUptoSaid : Prop := sceneWidthUptoRow.holds Tryz.pinned (OpenSpec.upto sceneWidthSpec)

/-- 'regulatorlaw32.SceneTruth', WHERE WHAT IT READS IS OF BULK AT MOST 1048576: true; the input reads as it did. -/
def sceneTruthUptoRow : OpenClaim := { program := "ytigjljmhpkeahaagreat", sum := "c969b5ec55710b04e324ff52528e1cde3371c541dca6968718aef77baed0b8b7", func := "regulator/regulatorlaw32.SceneTruth", spec := "sceneTruth", unfollowed := true, recurses := true, named := ["math/bits.divideError", "math/bits.overflowError"], apart := false, narrowed := true }
def SceneTruthUptoSaid : Prop := sceneTruthUptoRow.holds Tryz.pinned (OpenSpec.upto sceneTruthSpec)

/-- 'regulatorlaw32.SceneMoves', WHERE WHAT IT READS IS OF BULK AT MOST 1048576: true; the input reads as it did. -/
def sceneMovesUptoRow : OpenClaim := { program := "ytigjljmhpkeahaagreat", sum := "c969b5ec55710b04e324ff52528e1cde3371c541dca6968718aef77baed0b8b7", func := "regulator/regulatorlaw32.SceneMoves", spec := "sceneMoves", unfollowed := true, recurses := true, named := ["math/bits.divideError", "math/bits.overflowError"], apart := false, narrowed := true }
def SceneMovesUptoSaid : Prop := sceneMovesUptoRow.holds Tryz.pinned (OpenSpec.upto sceneMovesSpec)

/-- 'regulatorlaw32.SceneCounts', WHERE WHAT IT READS IS OF BULK AT MOST 1048576: true; the input reads as it did. -/
def sceneCountsUptoRow : OpenClaim := { program := "ytigjljmhpkeahaagreat", sum := "c969b5ec55710b04e324ff52528e1cde3371c541dca6968718aef77baed0b8b7", func := "regulator/regulatorlaw32.SceneCounts", spec := "sceneCounts", unfollowed := true, recurses := true, named := ["math/bits.divideError", "math/bits.overflowError"], apart := false, narrowed := true }
def SceneCountsUptoSaid : Prop := sceneCountsUptoRow.holds Tryz.pinned (OpenSpec.upto sceneCountsSpec)

/-- 'regulatorlaw32.SceneRefuses', WHERE WHAT IT READS IS OF BULK AT MOST 1048576: true; the input reads as it did. -/
def sceneRefusesUptoRow : OpenClaim := { program := "ytigjljmhpkeahaagreat", sum := "c969b5ec55710b04e324ff52528e1cde3371c541dca6968718aef77baed0b8b7", func := "regulator/regulatorlaw32.SceneRefuses", spec := "sceneRefuses", unfollowed := true, recurses := true, named := ["math/bits.divideError", "math/bits.overflowError"], apart := false, narrowed := true }
def SceneRefusesUptoSaid : Prop := sceneRefusesUptoRow.holds Tryz.pinned (OpenSpec.upto sceneRefusesSpec)

/-- 'regulatorlaw32.SceneKeeps', WHERE WHAT IT READS IS OF BULK AT MOST 1048576: true; the input reads as it did. -/
def sceneKeepsUptoRow : OpenClaim := { program := "ytigjljmhpkeahaagreat", sum := "c969b5ec55710b04e324ff52528e1cde3371c541dca6968718aef77baed0b8b7", func := "regulator/regulatorlaw32.SceneKeeps", spec := "sceneKeeps", unfollowed := true, recurses := true, named := ["math/bits.divideError", "math/bits.overflowError"], apart := false, narrowed := true }
def SceneKeepsUptoSaid : Prop := sceneKeepsUptoRow.holds Tryz.pinned (OpenSpec.upto sceneKeepsSpec)

end Rows
end Go.Proofs.YtigjljmhpkeahaaGreat
