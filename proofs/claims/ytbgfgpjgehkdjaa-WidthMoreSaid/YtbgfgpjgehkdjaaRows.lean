/-
  No cell of these rows narrows 'for every input' (looked for: loops, veiled, ifaces, maps, wideKeys, modest, calm, conditions, laid).
  DERIVED. THE GIVEN ROWS OF THIS SEAT. 6 by the template 'for every input the law returns true; each argument reads behind the call as it read before'; 0 by the template 'total and deterministic' (their statements: YtbgfgpjgehkdjaaTotals.lean).
  GIVEN WITH THE SEED: the statements are not yours to turn. If you find one false, say at which input.
  Laid BY PROGRAM, IN A SANDBOX (cutbox-rows.mjs): the forced cells as the released guide's own fill.sh prints them over the translation f5ea160a574e9423… (all of the seat's roots in one cut). By AI agents, Wed Nov 11 2026. No macro, syntax, notation, axiom, sorry.
-/
import Derived.Test.YtbgfgpjgehkdjaaChecked
import GoSem.Claim
import GoSem.ClaimJoined
import GoSem.ClaimMapViews
import Derived.JoinedTies
import Derived.KernelRfl
namespace Go.Proofs.Ytbgfgpjgehkdjaa
/- THE CELL 'sum', in the pinned program and in every row, IS THE sha256 OF THE DUMP (.gsa) THAT YtbgfgpjgehkdjaaProg.lean LOADS. Nothing in Lean hashes anything: it is a label: what it is worth is what the hold of that sum in a sandbox is worth. -/
noncomputable def Try.pinned : Pinned := { name := "ytbgfgpjgehkdjaa", sum := "f5ea160a574e942383c4b4ff81b3f498d6657fc5b1cead13d26756d44e9d7cb4", checked := Try.checked }
namespace Rows
def none {H : Type} : Left H := { results := [], args := [] }

/-- 'regulatorlaw29.WidthMatchesReference': WHATEVER THE INPUT: true; the input reads as it did. -/
def widthMatchesReferenceSpec : ChangeSpec := { name := "widthMatchesReference", fn := fun _ => fun
  | [d1, d2, d3, d4, d5] => { results := [.lit (.bool true)], args := [d1, d2, d3, d4, d5] }
  | _ => none }
def widthMatchesReferenceRow : OpenClaim := { program := "ytbgfgpjgehkdjaa", sum := "f5ea160a574e942383c4b4ff81b3f498d6657fc5b1cead13d26756d44e9d7cb4", func := "regulator/regulatorlaw29.WidthMatchesReference", spec := "widthMatchesReference", unfollowed := true, recurses := true, named := ["math/bits.divideError", "math/bits.overflowError"], apart := false }
def WidthMatchesReferenceSaid : Prop := widthMatchesReferenceRow.holds Try.pinned (OpenSpec.ofChange widthMatchesReferenceSpec)

/-- ITS FALSE NEIGHBOUR: 'it returns false'. Refute it at one input. -/
def widthMatchesReferenceWrong : ChangeSpec := { name := "widthMatchesReference", fn := fun _ => fun
  | [d1, d2, d3, d4, d5] => { results := [.lit (.bool false)], args := [d1, d2, d3, d4, d5] }
  | _ => none }
def WidthMatchesReferenceWrongFalsely : Prop := widthMatchesReferenceRow.holds Try.pinned (OpenSpec.ofChange widthMatchesReferenceWrong)

/-- 'regulatorlaw29.WidthPeers': WHATEVER THE INPUT: true; the input reads as it did. -/
def widthPeersSpec : ChangeSpec := { name := "widthPeers", fn := fun _ => fun
  | [d1, d2, d3, d4] => { results := [.lit (.bool true)], args := [d1, d2, d3, d4] }
  | _ => none }
def widthPeersRow : OpenClaim := { program := "ytbgfgpjgehkdjaa", sum := "f5ea160a574e942383c4b4ff81b3f498d6657fc5b1cead13d26756d44e9d7cb4", func := "regulator/regulatorlaw29.WidthPeers", spec := "widthPeers", unfollowed := true, recurses := true, named := ["math/bits.divideError", "math/bits.overflowError"], apart := false }
def WidthPeersSaid : Prop := widthPeersRow.holds Try.pinned (OpenSpec.ofChange widthPeersSpec)

/-- ITS FALSE NEIGHBOUR: 'it returns false'. Refute it at one input. -/
def widthPeersWrong : ChangeSpec := { name := "widthPeers", fn := fun _ => fun
  | [d1, d2, d3, d4] => { results := [.lit (.bool false)], args := [d1, d2, d3, d4] }
  | _ => none }
def WidthPeersWrongFalsely : Prop := widthPeersRow.holds Try.pinned (OpenSpec.ofChange widthPeersWrong)

/-- 'regulatorlaw29.WidthMore': WHATEVER THE INPUT: true; the input reads as it did. -/
def widthMoreSpec : ChangeSpec := { name := "widthMore", fn := fun _ => fun
  | [d1, d2, d3, d4, d5] => { results := [.lit (.bool true)], args := [d1, d2, d3, d4, d5] }
  | _ => none }
def widthMoreRow : OpenClaim := { program := "ytbgfgpjgehkdjaa", sum := "f5ea160a574e942383c4b4ff81b3f498d6657fc5b1cead13d26756d44e9d7cb4", func := "regulator/regulatorlaw29.WidthMore", spec := "widthMore", unfollowed := true, recurses := true, named := ["math/bits.divideError", "math/bits.overflowError"], apart := false }
def WidthMoreSaid : Prop := widthMoreRow.holds Try.pinned (OpenSpec.ofChange widthMoreSpec)

/-- ITS FALSE NEIGHBOUR: 'it returns false'. Refute it at one input. -/
def widthMoreWrong : ChangeSpec := { name := "widthMore", fn := fun _ => fun
  | [d1, d2, d3, d4, d5] => { results := [.lit (.bool false)], args := [d1, d2, d3, d4, d5] }
  | _ => none }
def WidthMoreWrongFalsely : Prop := widthMoreRow.holds Try.pinned (OpenSpec.ofChange widthMoreWrong)

/-- 'regulatorlaw29.WidthFurther': WHATEVER THE INPUT: true; the input reads as it did. -/
def widthFurtherSpec : ChangeSpec := { name := "widthFurther", fn := fun _ => fun
  | [d1, d2, d3] => { results := [.lit (.bool true)], args := [d1, d2, d3] }
  | _ => none }
def widthFurtherRow : OpenClaim := { program := "ytbgfgpjgehkdjaa", sum := "f5ea160a574e942383c4b4ff81b3f498d6657fc5b1cead13d26756d44e9d7cb4", func := "regulator/regulatorlaw29.WidthFurther", spec := "widthFurther", unfollowed := true, recurses := true, named := ["math/bits.divideError", "math/bits.overflowError"], apart := false }
def WidthFurtherSaid : Prop := widthFurtherRow.holds Try.pinned (OpenSpec.ofChange widthFurtherSpec)

/-- ITS FALSE NEIGHBOUR: 'it returns false'. Refute it at one input. -/
def widthFurtherWrong : ChangeSpec := { name := "widthFurther", fn := fun _ => fun
  | [d1, d2, d3] => { results := [.lit (.bool false)], args := [d1, d2, d3] }
  | _ => none }
def WidthFurtherWrongFalsely : Prop := widthFurtherRow.holds Try.pinned (OpenSpec.ofChange widthFurtherWrong)

/-- 'regulatorlaw29.WidthCosts': WHATEVER THE INPUT: true; the input reads as it did. -/
def widthCostsSpec : ChangeSpec := { name := "widthCosts", fn := fun _ => fun
  | [d1, d2, d3] => { results := [.lit (.bool true)], args := [d1, d2, d3] }
  | _ => none }
def widthCostsRow : OpenClaim := { program := "ytbgfgpjgehkdjaa", sum := "f5ea160a574e942383c4b4ff81b3f498d6657fc5b1cead13d26756d44e9d7cb4", func := "regulator/regulatorlaw29.WidthCosts", spec := "widthCosts", unfollowed := true, recurses := true, named := ["math/bits.divideError", "math/bits.overflowError"], apart := false }
def WidthCostsSaid : Prop := widthCostsRow.holds Try.pinned (OpenSpec.ofChange widthCostsSpec)

/-- ITS FALSE NEIGHBOUR: 'it returns false'. Refute it at one input. -/
def widthCostsWrong : ChangeSpec := { name := "widthCosts", fn := fun _ => fun
  | [d1, d2, d3] => { results := [.lit (.bool false)], args := [d1, d2, d3] }
  | _ => none }
def WidthCostsWrongFalsely : Prop := widthCostsRow.holds Try.pinned (OpenSpec.ofChange widthCostsWrong)

/-- 'regulatorlaw29.WidthGrows': WHATEVER THE INPUT: true; the input reads as it did. -/
def widthGrowsSpec : ChangeSpec := { name := "widthGrows", fn := fun _ => fun
  | [d1, d2, d3, d4, d5] => { results := [.lit (.bool true)], args := [d1, d2, d3, d4, d5] }
  | _ => none }
def widthGrowsRow : OpenClaim := { program := "ytbgfgpjgehkdjaa", sum := "f5ea160a574e942383c4b4ff81b3f498d6657fc5b1cead13d26756d44e9d7cb4", func := "regulator/regulatorlaw29.WidthGrows", spec := "widthGrows", unfollowed := true, recurses := true, named := ["math/bits.divideError", "math/bits.overflowError"], apart := false }
def WidthGrowsSaid : Prop := widthGrowsRow.holds Try.pinned (OpenSpec.ofChange widthGrowsSpec)

/-- ITS FALSE NEIGHBOUR: 'it returns false'. Refute it at one input. -/
def widthGrowsWrong : ChangeSpec := { name := "widthGrows", fn := fun _ => fun
  | [d1, d2, d3, d4, d5] => { results := [.lit (.bool false)], args := [d1, d2, d3, d4, d5] }
  | _ => none }
def WidthGrowsWrongFalsely : Prop := widthGrowsRow.holds Try.pinned (OpenSpec.ofChange widthGrowsWrong)

/- THE SECOND FORM. 'bulk': how many values and letters a reading holds, each counted each time it is reached (what is shared counts as often as it is met; a slice's spare places count too). A statement '..UptoSaid' is the law's where the arguments, and the package variables that the reading takes, are together of bulk at most 1048576: NARROWER than '..Said'. Prove '..Said' where nothing that the law and all that it calls make is longer than what came in: it says more and counts as full. Else prove '..UptoSaid'. A law counts once. -/
mutual
def uptoBulk {H : Type} : DataW H → Nat
  | .lit (.string bytes) => bytes.length + 1
  | .lit _ => 1
  | .nil => 1
  | .ptr d => uptoBulk d + 1
  | .slice elems spare => uptoBulkAll elems + uptoBulkAll spare + 1
  | .agg parts => uptoBulkAll parts + 1
  | .iface _ d => uptoBulk d + 1
  | .map entries => uptoBulkEntries entries + 1
  | .held _ => 1
def uptoBulkAll {H : Type} : List (DataW H) → Nat
  | [] => 0
  | d :: r => uptoBulk d + uptoBulkAll r
def uptoBulkEntries {H : Type} : List (Lit × DataW H) → Nat
  | [] => 0
  | x :: r => uptoBulkEntry x + uptoBulkEntries r
def uptoBulkEntry {H : Type} : Lit × DataW H → Nat
  | (.string bytes, d) => bytes.length + uptoBulk d + 1
  | (_, d) => uptoBulk d + 1
 end
def uptoSmall : (H : Type) → List (DataW H) → Bool := fun _ ds => decide (uptoBulkAll ds ≤ 1048576)
def OpenSpec.upto (s : _root_.Go.ChangeSpec) : _root_.Go.OpenSpec := { _root_.Go.OpenSpec.ofChange s with cond := some uptoSmall }

/-- 'regulatorlaw29.WidthMatchesReference', WHERE WHAT IT READS IS OF BULK AT MOST 1048576: true; the input reads as it did. -/
def widthMatchesReferenceUptoRow : OpenClaim := { program := "ytbgfgpjgehkdjaa", sum := "f5ea160a574e942383c4b4ff81b3f498d6657fc5b1cead13d26756d44e9d7cb4", func := "regulator/regulatorlaw29.WidthMatchesReference", spec := "widthMatchesReference", unfollowed := true, recurses := true, named := ["math/bits.divideError", "math/bits.overflowError"], apart := false, narrowed := true }
def WidthMatchesReferenceUptoSaid : Prop := widthMatchesReferenceUptoRow.holds Try.pinned (OpenSpec.upto widthMatchesReferenceSpec)

/-- 'regulatorlaw29.WidthPeers', WHERE WHAT IT READS IS OF BULK AT MOST 1048576: true; the input reads as it did. -/
def widthPeersUptoRow : OpenClaim := { program := "ytbgfgpjgehkdjaa", sum := "f5ea160a574e942383c4b4ff81b3f498d6657fc5b1cead13d26756d44e9d7cb4", func := "regulator/regulatorlaw29.WidthPeers", spec := "widthPeers", unfollowed := true, recurses := true, named := ["math/bits.divideError", "math/bits.overflowError"], apart := false, narrowed := true }
def WidthPeersUptoSaid : Prop := widthPeersUptoRow.holds Try.pinned (OpenSpec.upto widthPeersSpec)

/-- 'regulatorlaw29.WidthMore', WHERE WHAT IT READS IS OF BULK AT MOST 1048576: true; the input reads as it did. -/
def widthMoreUptoRow : OpenClaim := { program := "ytbgfgpjgehkdjaa", sum := "f5ea160a574e942383c4b4ff81b3f498d6657fc5b1cead13d26756d44e9d7cb4", func := "regulator/regulatorlaw29.WidthMore", spec := "widthMore", unfollowed := true, recurses := true, named := ["math/bits.divideError", "math/bits.overflowError"], apart := false, narrowed := true }
def WidthMoreUptoSaid : Prop := widthMoreUptoRow.holds Try.pinned (OpenSpec.upto widthMoreSpec)

/-- 'regulatorlaw29.WidthFurther', WHERE WHAT IT READS IS OF BULK AT MOST 1048576: true; the input reads as it did. -/
def widthFurtherUptoRow : OpenClaim := { program := "ytbgfgpjgehkdjaa", sum := "f5ea160a574e942383c4b4ff81b3f498d6657fc5b1cead13d26756d44e9d7cb4", func := "regulator/regulatorlaw29.WidthFurther", spec := "widthFurther", unfollowed := true, recurses := true, named := ["math/bits.divideError", "math/bits.overflowError"], apart := false, narrowed := true }
def WidthFurtherUptoSaid : Prop := widthFurtherUptoRow.holds Try.pinned (OpenSpec.upto widthFurtherSpec)

/-- 'regulatorlaw29.WidthCosts', WHERE WHAT IT READS IS OF BULK AT MOST 1048576: true; the input reads as it did. -/
def widthCostsUptoRow : OpenClaim := { program := "ytbgfgpjgehkdjaa", sum := "f5ea160a574e942383c4b4ff81b3f498d6657fc5b1cead13d26756d44e9d7cb4", func := "regulator/regulatorlaw29.WidthCosts", spec := "widthCosts", unfollowed := true, recurses := true, named := ["math/bits.divideError", "math/bits.overflowError"], apart := false, narrowed := true }
def WidthCostsUptoSaid : Prop := widthCostsUptoRow.holds Try.pinned (OpenSpec.upto widthCostsSpec)

/-- 'regulatorlaw29.WidthGrows', WHERE WHAT IT READS IS OF BULK AT MOST 1048576: true; the input reads as it did. -/
def widthGrowsUptoRow : OpenClaim := { program := "ytbgfgpjgehkdjaa", sum := "f5ea160a574e942383c4b4ff81b3f498d6657fc5b1cead13d26756d44e9d7cb4", func := "regulator/regulatorlaw29.WidthGrows", spec := "widthGrows", unfollowed := true, recurses := true, named := ["math/bits.divideError", "math/bits.overflowError"], apart := false, narrowed := true }
def WidthGrowsUptoSaid : Prop := widthGrowsUptoRow.holds Try.pinned (OpenSpec.upto widthGrowsSpec)

end Rows
end Go.Proofs.Ytbgfgpjgehkdjaa
