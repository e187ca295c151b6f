
/- Parts CbP CbQ of the proof, joined. -/
import Derived.Test.YtlmcoollkmhanaaGa
/- Plain mathematics of what package combine returns. -/
namespace Go.Proofs.Ytlmcoollkmhanaa
open Go.RowKit

end Go.Proofs.Ytlmcoollkmhanaa
/- More plain mathematics of depths: counts, lists that are joined. -/
namespace Go.Proofs.Ytlmcoollkmhanaa
open Go.RowKit
end Go.Proofs.Ytlmcoollkmhanaa
