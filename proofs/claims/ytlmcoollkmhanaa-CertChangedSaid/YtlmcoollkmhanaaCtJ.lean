
/- The reference of cert: its small functions. -/
import Derived.Test.YtlmcoollkmhanaaCtI
namespace Go.Proofs.Ytlmcoollkmhanaa
open Go.RowKit

end Go.Proofs.Ytlmcoollkmhanaa
