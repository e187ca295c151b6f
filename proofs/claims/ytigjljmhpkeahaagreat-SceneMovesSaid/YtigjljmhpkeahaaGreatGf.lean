
/- Parts SpI SpJ SpK SpL of the proof, joined. -/
import Derived.Test.YtigjljmhpkeahaaGreatGb
import Derived.Laws.MakeOwn
import Derived.Laws.OwnMore
/- The reference of layer 15: the checks, the value for a number, the best number. -/
namespace Go.Proofs.YtigjljmhpkeahaaGreat
open Go.RowKit
attribute [local go_sem ↓] run_max_mx run_min_mn

end Go.Proofs.YtigjljmhpkeahaaGreat
/- The reference of layer 15: the best number, the order of widths, and Worst. -/
namespace Go.Proofs.YtigjljmhpkeahaaGreat
open Go.RowKit
attribute [local go_sem ↓] run_max_mx run_min_mn

def aheadB (l : List Int) (i k : Nat) : Bool := decide (iAt l k < iAt l i) || (decide (iAt l i = iAt l k) && decide (i < k))
end Go.Proofs.YtigjljmhpkeahaaGreat
/- Where each index stands in the order of widths: behind as many as are ahead of it. -/
namespace Go.Proofs.YtigjljmhpkeahaaGreat
open Go.RowKit
def plc (l : List Int) (i : Nat) : Nat → Nat
 | 0 => 0
 | k + 1 => if aheadB l k i = true then plc l i k + 1 else plc l i k
end Go.Proofs.YtigjljmhpkeahaaGreat
/- The reference's Order, right and Worst. -/
namespace Go.Proofs.YtigjljmhpkeahaaGreat
open Go.RowKit
attribute [local go_sem ↓] run_max_mx run_min_mn

end Go.Proofs.YtigjljmhpkeahaaGreat
