
/- Plain law of package scene: the worst scene, some time later. -/
import Derived.Test.YtigjljmhpkeahaaGreatScQ
namespace Go.Proofs.YtigjljmhpkeahaaGreat
open Go.RowKit

end Go.Proofs.YtigjljmhpkeahaaGreat
