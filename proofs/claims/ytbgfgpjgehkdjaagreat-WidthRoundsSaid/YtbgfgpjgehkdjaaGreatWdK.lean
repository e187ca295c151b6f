/- The reference of layer 29: Width. -/
import Derived.Test.YtbgfgpjgehkdjaaGreatWdJ
namespace Go.Proofs.YtbgfgpjgehkdjaaGreat
open Go.RowKit

end Go.Proofs.YtbgfgpjgehkdjaaGreat
