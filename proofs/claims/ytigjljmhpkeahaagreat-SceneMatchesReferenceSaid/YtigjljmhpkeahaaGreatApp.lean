
/- append of a row that came in, nil or not, to a row of the call's own. -/
import Derived.Test.YtigjljmhpkeahaaGreatGa
import Derived.Maps.AppendAt
namespace Go.Proofs.YtigjljmhpkeahaaGreat
open Go.RowKit
section
variable {P : Program}
end
end Go.Proofs.YtigjljmhpkeahaaGreat
