
/- The reference of cert: rising. -/
import Derived.Test.YtlmcoollkmhanaaCtJ
namespace Go.Proofs.Ytlmcoollkmhanaa
open Go.RowKit

end Go.Proofs.Ytlmcoollkmhanaa
