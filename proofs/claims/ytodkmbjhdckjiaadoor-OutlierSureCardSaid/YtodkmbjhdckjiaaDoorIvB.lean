/- The functions of package interval and of its reference that go through a list: what each call returns. -/
import Derived.Test.YtodkmbjhdckjiaaDoorIvA
namespace Go.Proofs.YtodkmbjhdckjiaaDoor
open Go.RowKit
attribute [local go_sem ↓] run_max_mx run_min_mn

end Go.Proofs.YtodkmbjhdckjiaaDoor
