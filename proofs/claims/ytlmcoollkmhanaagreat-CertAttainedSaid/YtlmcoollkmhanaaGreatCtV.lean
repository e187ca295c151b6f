
/- The laws of cert: certificates that came in by value; the examples' site. -/
import Derived.Test.YtlmcoollkmhanaaGreatCtU
import Derived.Test.YtlmcoollkmhanaaGreatRw
import Derived.Test.YtlmcoollkmhanaaGreatBxs
import Derived.Test.YtlmcoollkmhanaaGreatGv
namespace Go.Proofs.YtlmcoollkmhanaaGreat
open Go.ChangeShapes Go.WideShapes Go.ChangeAt Go.RowKit Go.Joins Go.Deep
section
variable {H : Type} {enc : TypeId × Value → H} {W : World} {base : Nat}
end
end Go.Proofs.YtlmcoollkmhanaaGreat
