
/- The laws of cert: certificates that came in by value; the examples' site. -/
import Derived.Test.YtlmcoollkmhanaaCtU
import Derived.Test.YtlmcoollkmhanaaRw
import Derived.Test.YtlmcoollkmhanaaBxs
import Derived.Test.YtlmcoollkmhanaaGv
namespace Go.Proofs.Ytlmcoollkmhanaa
open Go.ChangeShapes Go.WideShapes Go.ChangeAt Go.RowKit Go.Joins Go.Deep
section
variable {H : Type} {enc : TypeId × Value → H} {W : World} {base : Nat}
end
end Go.Proofs.Ytlmcoollkmhanaa
