
/- The reference of cert: Make, Check. -/
import Derived.Test.YtlmcoollkmhanaaGreatCtT
import Derived.Test.YtlmcoollkmhanaaGreatCtN
namespace Go.Proofs.YtlmcoollkmhanaaGreat
open Go.RowKit

end Go.Proofs.YtlmcoollkmhanaaGreat
