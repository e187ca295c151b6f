/- The reference's Hull, Same and after: what each call returns. -/
import Derived.Test.YtiaahfccebmkdaaIvA
namespace Go.Proofs.Ytiaahfccebmkdaa
open Go.RowKit
theorem run_eql_iv (w : World) (a b c d : Int) : (binOp .eql 111 (.agg #[.int .i64 a, .int .i64 b]) (.agg #[.int .i64 c, .int .i64 d])).run Try.prog w = .ok (.bool (ivEq a b c d)) w := by
  simp [go_sem, Try.underlying111]
  by_cases h1 : a = c <;> by_cases h2 : b = d <;> simp [ivEq, h1, h2]
theorem run_neq_iv (w : World) (a b c d : Int) : (binOp .neq 111 (.agg #[.int .i64 a, .int .i64 b]) (.agg #[.int .i64 c, .int .i64 d])).run Try.prog w = .ok (.bool (!ivEq a b c d)) w := by
  simp [go_sem, Try.underlying111]
  by_cases h1 : a = c <;> by_cases h2 : b = d <;> simp [ivEq, h1, h2]
attribute [local go_sem ↓] run_max_mx run_min_mn run_eql_iv run_neq_iv
theorem list_ext {l1 l2 : List Iv} (hl : l1.length = l2.length) (h : ∀ j, j < l1.length → iLo l1 j = iLo l2 j ∧ iHi l1 j = iHi l2 j) : l1 = l2 := by
  apply List.ext_getElem hl
  intro i h1 h2
  have := h i h1
  simp only [iLo, iHi, List.getD_eq_getElem?_getD, List.getElem?_eq_getElem h1, List.getElem?_eq_getElem h2, Option.getD_some] at this
  exact Prod.ext this.1 this.2

end Go.Proofs.Ytiaahfccebmkdaa
