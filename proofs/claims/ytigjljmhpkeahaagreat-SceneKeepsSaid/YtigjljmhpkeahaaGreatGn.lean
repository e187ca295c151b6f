
/- Parts PlR PlS PlT of the proof, joined. -/
import Derived.Test.YtigjljmhpkeahaaGreatGm
import Derived.Test.YtigjljmhpkeahaaGreatGi
import Derived.Test.YtigjljmhpkeahaaGreatGg
import Derived.Deep.DeepCutAuto
import Derived.Test.YtigjljmhpkeahaaGreatGk
/- The examples of chapter 30: plain values. -/
namespace Go.Proofs.YtigjljmhpkeahaaGreat
open Go.RowKit

end Go.Proofs.YtigjljmhpkeahaaGreat
/- The reference of package plan: cost, Compare, Cheaper. -/
namespace Go.Proofs.YtigjljmhpkeahaaGreat
open Go.RowKit

end Go.Proofs.YtigjljmhpkeahaaGreat
/- The reference of package plan: Cheaper, better. -/
namespace Go.Proofs.YtigjljmhpkeahaaGreat
open Go.RowKit

end Go.Proofs.YtigjljmhpkeahaaGreat
