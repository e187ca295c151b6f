/- The reference of layer 29: Peer, Widths, Width. -/
import Derived.Test.YtbgfgpjgehkdjaaGreatWdI
import Derived.Test.YtbgfgpjgehkdjaaGreatWdG
namespace Go.Proofs.YtbgfgpjgehkdjaaGreat
open Go.RowKit

theorem wdL_take (ps : List Pr) (use : List Int) (k : Nat) (h : k < use.length) : wdL ps (use.take (k + 1)) = wdL ps (use.take k) ++ [pWd (pAt ps (iAt use k).toNat)] := by
  rw [take_snoc_is use k h]; simp [wdL]
end Go.Proofs.YtbgfgpjgehkdjaaGreat
