
/- The reference of cert: rising. -/
import Derived.Test.YtlmcoollkmhanaaGreatCtJ
namespace Go.Proofs.YtlmcoollkmhanaaGreat
open Go.RowKit

end Go.Proofs.YtlmcoollkmhanaaGreat
