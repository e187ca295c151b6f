/-
  NARROWER THAN 'FOR EVERY INPUT', by the rows' own cells (each row's printed sentence says how): OutlierMatchesReference: laid · OutlierSets: laid · OutlierAll: laid · OutlierSure: laid · OutlierTruth: laid · OutlierLonger: laid.
  DERIVED. THE GIVEN ROWS OF THIS SEAT. 6 by the template 'for every input the law returns true; each argument reads behind the call as it read before'; 0 by the template 'total and deterministic' (their statements: YtodkmbjhdckjiaaDoorTotals.lean).
  GIVEN WITH THE SEED: the statements are not yours to turn. If you find one false, say at which input.
  Laid BY PROGRAM, IN A SANDBOX (cutbox-rows.mjs): the forced cells as the released guide's own fill.sh prints them over the translation 11a964b7025612b4… (all of the seat's roots in one cut). By AI agents, Wed Nov 11 2026. No macro, syntax, notation, axiom, sorry.
-/
import Derived.Test.YtodkmbjhdckjiaaDoorChecked
import GoSem.Claim
import GoSem.ClaimJoined
import GoSem.ClaimMapViews
import Derived.JoinedTies
import Derived.KernelRfl
namespace Go.Proofs.YtodkmbjhdckjiaaDoor
/- THE CELL 'sum', in the pinned program and in every row, IS THE sha256 OF THE DUMP (.gsa) THAT YtodkmbjhdckjiaaDoorProg.lean LOADS. Nothing in Lean hashes anything: it is a label: what it is worth is what the hold of that sum in a sandbox is worth. -/
noncomputable def Tryd.pinned : Pinned := { name := "ytodkmbjhdckjiaadoor", sum := "11a964b7025612b4ec0afd87cb9b2230c4b41f9e9d9f5a60b281605046eb5716", checked := Tryd.checked }
namespace Rows
def none {H : Type} : Left H := { results := [], args := [] }

/- WHAT THE LISTED PACKAGE-LEVEL VARIABLES READ AS WHEN THE CALL BEGINS. Each datum BY PROGRAM (the guide's laid-datum.mjs) off the statement by which the dump's own 'gosem.cut.vars' lays the variable. In a bare row this is a premise. The card (YtodkmbjhdckjiaaDoorCards.lean) ties it to the program's text. -/
def laid_math_bits_deBruijn32tab {H : Type} : DataW H := .agg [.lit (.int .u8 0), .lit (.int .u8 1), .lit (.int .u8 28), .lit (.int .u8 2), .lit (.int .u8 29), .lit (.int .u8 14), .lit (.int .u8 24), .lit (.int .u8 3), .lit (.int .u8 30), .lit (.int .u8 22), .lit (.int .u8 20), .lit (.int .u8 15), .lit (.int .u8 25), .lit (.int .u8 17), .lit (.int .u8 4), .lit (.int .u8 8), .lit (.int .u8 31), .lit (.int .u8 27), .lit (.int .u8 13), .lit (.int .u8 23), .lit (.int .u8 21), .lit (.int .u8 19), .lit (.int .u8 16), .lit (.int .u8 7), .lit (.int .u8 26), .lit (.int .u8 12), .lit (.int .u8 18), .lit (.int .u8 6), .lit (.int .u8 11), .lit (.int .u8 5), .lit (.int .u8 10), .lit (.int .u8 9)]

/-- 'regulatorlaw16.OutlierMatchesReference': WHATEVER THE INPUT: true; the input reads as it did. -/
def outlierMatchesReferenceSpec : ChangeSpec := { name := "outlierMatchesReference", fn := fun _ => fun
  | [d] => { results := [.lit (.bool true)], args := [d] }
  | _ => none }
def outlierMatchesReferenceRow : OpenClaim := { program := "ytodkmbjhdckjiaadoor", sum := "11a964b7025612b4ec0afd87cb9b2230c4b41f9e9d9f5a60b281605046eb5716", func := "regulator/regulatorlaw16.OutlierMatchesReference", spec := "outlierMatchesReference", unfollowed := true, recurses := true, named := ["math/bits.deBruijn32tab"], apart := false, laid := [("math/bits.deBruijn32tab", laid_math_bits_deBruijn32tab)] }
def OutlierMatchesReferenceSaid : Prop := outlierMatchesReferenceRow.holds Tryd.pinned (OpenSpec.ofChange outlierMatchesReferenceSpec)

/-- ITS FALSE NEIGHBOUR: 'it returns false'. Refute it at one input. -/
def outlierMatchesReferenceWrong : ChangeSpec := { name := "outlierMatchesReference", fn := fun _ => fun
  | [d] => { results := [.lit (.bool false)], args := [d] }
  | _ => none }
def OutlierMatchesReferenceWrongFalsely : Prop := outlierMatchesReferenceRow.holds Tryd.pinned (OpenSpec.ofChange outlierMatchesReferenceWrong)

/-- 'regulatorlaw16.OutlierSets': WHATEVER THE INPUT: true; the input reads as it did. -/
def outlierSetsSpec : ChangeSpec := { name := "outlierSets", fn := fun _ => fun
  | [d] => { results := [.lit (.bool true)], args := [d] }
  | _ => none }
def outlierSetsRow : OpenClaim := { program := "ytodkmbjhdckjiaadoor", sum := "11a964b7025612b4ec0afd87cb9b2230c4b41f9e9d9f5a60b281605046eb5716", func := "regulator/regulatorlaw16.OutlierSets", spec := "outlierSets", unfollowed := true, recurses := true, named := ["math/bits.deBruijn32tab"], apart := false, laid := [("math/bits.deBruijn32tab", laid_math_bits_deBruijn32tab)] }
def OutlierSetsSaid : Prop := outlierSetsRow.holds Tryd.pinned (OpenSpec.ofChange outlierSetsSpec)

/-- ITS FALSE NEIGHBOUR: 'it returns false'. Refute it at one input. -/
def outlierSetsWrong : ChangeSpec := { name := "outlierSets", fn := fun _ => fun
  | [d] => { results := [.lit (.bool false)], args := [d] }
  | _ => none }
def OutlierSetsWrongFalsely : Prop := outlierSetsRow.holds Tryd.pinned (OpenSpec.ofChange outlierSetsWrong)

/-- 'regulatorlaw16.OutlierAll': WHATEVER THE INPUT: true; the input reads as it did. -/
def outlierAllSpec : ChangeSpec := { name := "outlierAll", fn := fun _ => fun
  | [d1, d2] => { results := [.lit (.bool true)], args := [d1, d2] }
  | _ => none }
def outlierAllRow : OpenClaim := { program := "ytodkmbjhdckjiaadoor", sum := "11a964b7025612b4ec0afd87cb9b2230c4b41f9e9d9f5a60b281605046eb5716", func := "regulator/regulatorlaw16.OutlierAll", spec := "outlierAll", unfollowed := true, recurses := true, named := ["math/bits.deBruijn32tab"], apart := false, laid := [("math/bits.deBruijn32tab", laid_math_bits_deBruijn32tab)] }
def OutlierAllSaid : Prop := outlierAllRow.holds Tryd.pinned (OpenSpec.ofChange outlierAllSpec)

/-- ITS FALSE NEIGHBOUR: 'it returns false'. Refute it at one input. -/
def outlierAllWrong : ChangeSpec := { name := "outlierAll", fn := fun _ => fun
  | [d1, d2] => { results := [.lit (.bool false)], args := [d1, d2] }
  | _ => none }
def OutlierAllWrongFalsely : Prop := outlierAllRow.holds Tryd.pinned (OpenSpec.ofChange outlierAllWrong)

/-- 'regulatorlaw16.OutlierSure': WHATEVER THE INPUT: true; the input reads as it did. -/
def outlierSureSpec : ChangeSpec := { name := "outlierSure", fn := fun _ => fun
  | [d1, d2] => { results := [.lit (.bool true)], args := [d1, d2] }
  | _ => none }
def outlierSureRow : OpenClaim := { program := "ytodkmbjhdckjiaadoor", sum := "11a964b7025612b4ec0afd87cb9b2230c4b41f9e9d9f5a60b281605046eb5716", func := "regulator/regulatorlaw16.OutlierSure", spec := "outlierSure", unfollowed := true, recurses := true, named := ["math/bits.deBruijn32tab"], apart := false, laid := [("math/bits.deBruijn32tab", laid_math_bits_deBruijn32tab)] }
def OutlierSureSaid : Prop := outlierSureRow.holds Tryd.pinned (OpenSpec.ofChange outlierSureSpec)

/-- ITS FALSE NEIGHBOUR: 'it returns false'. Refute it at one input. -/
def outlierSureWrong : ChangeSpec := { name := "outlierSure", fn := fun _ => fun
  | [d1, d2] => { results := [.lit (.bool false)], args := [d1, d2] }
  | _ => none }
def OutlierSureWrongFalsely : Prop := outlierSureRow.holds Tryd.pinned (OpenSpec.ofChange outlierSureWrong)

/-- 'regulatorlaw16.OutlierTruth': WHATEVER THE INPUT: true; the input reads as it did. -/
def outlierTruthSpec : ChangeSpec := { name := "outlierTruth", fn := fun _ => fun
  | [d1, d2] => { results := [.lit (.bool true)], args := [d1, d2] }
  | _ => none }
def outlierTruthRow : OpenClaim := { program := "ytodkmbjhdckjiaadoor", sum := "11a964b7025612b4ec0afd87cb9b2230c4b41f9e9d9f5a60b281605046eb5716", func := "regulator/regulatorlaw16.OutlierTruth", spec := "outlierTruth", unfollowed := true, recurses := true, named := ["math/bits.deBruijn32tab"], apart := false, laid := [("math/bits.deBruijn32tab", laid_math_bits_deBruijn32tab)] }
def OutlierTruthSaid : Prop := outlierTruthRow.holds Tryd.pinned (OpenSpec.ofChange outlierTruthSpec)

/-- ITS FALSE NEIGHBOUR: 'it returns false'. Refute it at one input. -/
def outlierTruthWrong : ChangeSpec := { name := "outlierTruth", fn := fun _ => fun
  | [d1, d2] => { results := [.lit (.bool false)], args := [d1, d2] }
  | _ => none }
def OutlierTruthWrongFalsely : Prop := outlierTruthRow.holds Tryd.pinned (OpenSpec.ofChange outlierTruthWrong)

/-- 'regulatorlaw16.OutlierLonger': WHATEVER THE INPUT: true; the input reads as it did. -/
def outlierLongerSpec : ChangeSpec := { name := "outlierLonger", fn := fun _ => fun
  | [d1, d2, d3, d4, d5] => { results := [.lit (.bool true)], args := [d1, d2, d3, d4, d5] }
  | _ => none }
def outlierLongerRow : OpenClaim := { program := "ytodkmbjhdckjiaadoor", sum := "11a964b7025612b4ec0afd87cb9b2230c4b41f9e9d9f5a60b281605046eb5716", func := "regulator/regulatorlaw16.OutlierLonger", spec := "outlierLonger", unfollowed := true, recurses := true, named := ["math/bits.deBruijn32tab"], apart := false, laid := [("math/bits.deBruijn32tab", laid_math_bits_deBruijn32tab)] }
def OutlierLongerSaid : Prop := outlierLongerRow.holds Tryd.pinned (OpenSpec.ofChange outlierLongerSpec)

/-- ITS FALSE NEIGHBOUR: 'it returns false'. Refute it at one input. -/
def outlierLongerWrong : ChangeSpec := { name := "outlierLonger", fn := fun _ => fun
  | [d1, d2, d3, d4, d5] => { results := [.lit (.bool false)], args := [d1, d2, d3, d4, d5] }
  | _ => none }
def OutlierLongerWrongFalsely : Prop := outlierLongerRow.holds Tryd.pinned (OpenSpec.ofChange outlierLongerWrong)

/- THE SECOND FORM. 'bulk': how many values and letters a reading holds, each counted each time it is reached (what is shared counts as often as it is met; a slice's spare places count too). A statement '..UptoSaid' is the law's where the arguments, and the package variables that the reading takes, are together of bulk at most 1048576: NARROWER than '..Said'. Prove '..Said' where nothing that the law and all that it calls make is longer than what came in: it says more and counts as full. Else prove '..UptoSaid'. A law counts once. -/
mutual
def uptoBulk {H : Type} : DataW H → Nat
  | .lit (.string bytes) => bytes.length + 1
  | .lit _ => 1
  | .nil => 1
  | .ptr d => uptoBulk d + 1
  | .slice elems spare => uptoBulkAll elems + uptoBulkAll spare + 1
  | .agg parts => uptoBulkAll parts + 1
  | .iface _ d => uptoBulk d + 1
  | .map entries => uptoBulkEntries entries + 1
  | .held _ => 1
def uptoBulkAll {H : Type} : List (DataW H) → Nat
  | [] => 0
  | d :: r => uptoBulk d + uptoBulkAll r
def uptoBulkEntries {H : Type} : List (Lit × DataW H) → Nat
  | [] => 0
  | x :: r => uptoBulkEntry x + uptoBulkEntries r
def uptoBulkEntry {H : Type} : Lit × DataW H → Nat
  | (.string bytes, d) => bytes.length + uptoBulk d + 1
  | (_, d) => uptoBulk d + 1
 end
def uptoSmall : (H : Type) → List (DataW H) → Bool := fun _ ds => decide (uptoBulkAll ds ≤ 1048576)
def OpenSpec.upto (s : _root_.Go.ChangeSpec) : _root_.Go.OpenSpec := { _root_.Go.OpenSpec.ofChange s with cond := some uptoSmall }

/-- 'regulatorlaw16.OutlierMatchesReference', WHERE WHAT IT READS IS OF BULK AT MOST 1048576: true; the input reads as it did. -/
def outlierMatchesReferenceUptoRow : OpenClaim := { program := "ytodkmbjhdckjiaadoor", sum := "11a964b7025612b4ec0afd87cb9b2230c4b41f9e9d9f5a60b281605046eb5716", func := "regulator/regulatorlaw16.OutlierMatchesReference", spec := "outlierMatchesReference", unfollowed := true, recurses := true, named := ["math/bits.deBruijn32tab"], apart := false, laid := [("math/bits.deBruijn32tab", laid_math_bits_deBruijn32tab)], narrowed := true }
def OutlierMatchesReferenceUptoSaid : Prop := outlierMatchesReferenceUptoRow.holds Tryd.pinned (OpenSpec.upto outlierMatchesReferenceSpec)

/-- 'regulatorlaw16.OutlierSets', WHERE WHAT IT READS IS OF BULK AT MOST 1048576: true; the input reads as it did. -/
def outlierSetsUptoRow : OpenClaim := { program := "ytodkmbjhdckjiaadoor", sum := "11a964b7025612b4ec0afd87cb9b2230c4b41f9e9d9f5a60b281605046eb5716", func := "regulator/regulatorlaw16.OutlierSets", spec := "outlierSets", unfollowed := true, recurses := true, named := ["math/bits.deBruijn32tab"], apart := false, laid := [("math/bits.deBruijn32tab", laid_math_bits_deBruijn32tab)], narrowed := true }
def OutlierSetsUptoSaid : Prop := outlierSetsUptoRow.holds Tryd.pinned (OpenSpec.upto outlierSetsSpec)

/-- 'regulatorlaw16.OutlierAll', WHERE WHAT IT READS IS OF BULK AT MOST 1048576: true; the input reads as it did. -/
def outlierAllUptoRow : OpenClaim := { program := "ytodkmbjhdckjiaadoor", sum := "11a964b7025612b4ec0afd87cb9b2230c4b41f9e9d9f5a60b281605046eb5716", func := "regulator/regulatorlaw16.OutlierAll", spec := "outlierAll", unfollowed := true, recurses := true, named := ["math/bits.deBruijn32tab"], apart := false, laid := [("math/bits.deBruijn32tab", laid_math_bits_deBruijn32tab)], narrowed := true }
def OutlierAllUptoSaid : Prop := outlierAllUptoRow.holds Tryd.pinned (OpenSpec.upto outlierAllSpec)

/-- 'regulatorlaw16.OutlierSure', WHERE WHAT IT READS IS OF BULK AT MOST 1048576: true; the input reads as it did. -/
def outlierSureUptoRow : OpenClaim := { program := "ytodkmbjhdckjiaadoor", sum := "11a964b7025612b4ec0afd87cb9b2230c4b41f9e9d9f5a60b281605046eb5716", func := "regulator/regulatorlaw16.OutlierSure", spec := "outlierSure", unfollowed := true, recurses := true, named := ["math/bits.deBruijn32tab"], apart := false, laid := [("math/bits.deBruijn32tab", laid_math_bits_deBruijn32tab)], narrowed := true }
def OutlierSureUptoSaid : Prop := outlierSureUptoRow.holds Tryd.pinned (OpenSpec.upto outlierSureSpec)

/-- 'regulatorlaw16.OutlierTruth', WHERE WHAT IT READS IS OF BULK AT MOST 1048576: true; the input reads as it did. -/
def outlierTruthUptoRow : OpenClaim := { program := "ytodkmbjhdckjiaadoor", sum := "11a964b7025612b4ec0afd87cb9b2230c4b41f9e9d9f5a60b281605046eb5716", func := "regulator/regulatorlaw16.OutlierTruth", spec := "outlierTruth", unfollowed := true, recurses := true, named := ["math/bits.deBruijn32tab"], apart := false, laid := [("math/bits.deBruijn32tab", laid_math_bits_deBruijn32tab)], narrowed := true }
def OutlierTruthUptoSaid : Prop := outlierTruthUptoRow.holds Tryd.pinned (OpenSpec.upto outlierTruthSpec)

/-- 'regulatorlaw16.OutlierLonger', WHERE WHAT IT READS IS OF BULK AT MOST 1048576: true; the input reads as it did. -/
def outlierLongerUptoRow : OpenClaim := { program := "ytodkmbjhdckjiaadoor", sum := "11a964b7025612b4ec0afd87cb9b2230c4b41f9e9d9f5a60b281605046eb5716", func := "regulator/regulatorlaw16.OutlierLonger", spec := "outlierLonger", unfollowed := true, recurses := true, named := ["math/bits.deBruijn32tab"], apart := false, laid := [("math/bits.deBruijn32tab", laid_math_bits_deBruijn32tab)], narrowed := true }
def OutlierLongerUptoSaid : Prop := outlierLongerUptoRow.holds Tryd.pinned (OpenSpec.upto outlierLongerSpec)

end Rows
end Go.Proofs.YtodkmbjhdckjiaaDoor
