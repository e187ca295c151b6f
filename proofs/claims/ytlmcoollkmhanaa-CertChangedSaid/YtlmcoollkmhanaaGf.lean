
/- Parts SpI SpJ SpK SpL of the proof, joined. -/
import Derived.Test.YtlmcoollkmhanaaGb
import Derived.Laws.MakeOwn
import Derived.Laws.OwnMore
/- The reference of layer 15: the checks, the value for a number, the best number. -/
namespace Go.Proofs.Ytlmcoollkmhanaa
open Go.RowKit
attribute [local go_sem ↓] run_max_mx run_min_mn

end Go.Proofs.Ytlmcoollkmhanaa
/- The reference of layer 15: the best number, the order of widths, and Worst. -/
namespace Go.Proofs.Ytlmcoollkmhanaa
open Go.RowKit
attribute [local go_sem ↓] run_max_mx run_min_mn

end Go.Proofs.Ytlmcoollkmhanaa
/- Where each index stands in the order of widths: behind as many as are ahead of it. -/
namespace Go.Proofs.Ytlmcoollkmhanaa
open Go.RowKit
end Go.Proofs.Ytlmcoollkmhanaa
/- The reference's Order, right and Worst. -/
namespace Go.Proofs.Ytlmcoollkmhanaa
open Go.RowKit
attribute [local go_sem ↓] run_max_mx run_min_mn

end Go.Proofs.Ytlmcoollkmhanaa
