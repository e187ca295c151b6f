
/- Plain laws of package scene: what may happen has true time in its interval, and is not wider than the schedule; a lesser count. -/
import Derived.Test.YtigjljmhpkeahaaGreatScQ
import Derived.Test.YtigjljmhpkeahaaGreatGv
namespace Go.Proofs.YtigjljmhpkeahaaGreat
open Go.RowKit

end Go.Proofs.YtigjljmhpkeahaaGreat
