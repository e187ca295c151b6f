
/- The reference of cert: limit. -/
import Derived.Test.YtlmcoollkmhanaaCtM
import Derived.Test.YtlmcoollkmhanaaCtQ
import Derived.Test.YtlmcoollkmhanaaGg
namespace Go.Proofs.Ytlmcoollkmhanaa
open Go.RowKit

end Go.Proofs.Ytlmcoollkmhanaa
