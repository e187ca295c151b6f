
/- Plain laws of package cert: whatever is stated in a choice; what Place attains. -/
import Derived.Test.YtlmcoollkmhanaaCtP
import Derived.Test.YtlmcoollkmhanaaGv
import Derived.Test.YtlmcoollkmhanaaGu
namespace Go.Proofs.Ytlmcoollkmhanaa
open Go.RowKit

end Go.Proofs.Ytlmcoollkmhanaa
