
/- The reference of cert: limit. -/
import Derived.Test.YtlmcoollkmhanaaGreatCtM
import Derived.Test.YtlmcoollkmhanaaGreatCtQ
import Derived.Test.YtlmcoollkmhanaaGreatGg
namespace Go.Proofs.YtlmcoollkmhanaaGreat
open Go.RowKit

theorem cwTo_in1 {ws li lg : List Int} {k : Nat} (h : (k : Int) ∈ li) : cwTo ws li lg (k + 1) = cwTo ws li lg k := by rw [cwTo, if_pos (.inl h)]
theorem cwTo_in2 {ws li lg : List Int} {k : Nat} (h : (k : Int) ∈ lg) : cwTo ws li lg (k + 1) = cwTo ws li lg k := by rw [cwTo, if_pos (.inr h)]
theorem cwTo_out {ws li lg : List Int} {k : Nat} (h : (k : Int) ∉ li) (h2 : (k : Int) ∉ lg) : cwTo ws li lg (k + 1) = cwTo ws li lg k ++ [iAt ws k] := by rw [cwTo, if_neg (by rintro (h3 | h3); exact h h3; exact h2 h3)]
theorem cwTo_len (ws li lg : List Int) (k : Nat) : (cwTo ws li lg k).length ≤ k := by have := cwTo_length ws li lg k; omega
end Go.Proofs.YtlmcoollkmhanaaGreat
