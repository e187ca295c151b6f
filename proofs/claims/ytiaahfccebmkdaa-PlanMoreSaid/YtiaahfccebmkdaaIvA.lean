/- The small functions of package interval and of its reference: what each call returns. -/
import Derived.Test.YtiaahfccebmkdaaProg
import Derived.Test.YtiaahfccebmkdaaIvP
import Derived.WalkKit
import Derived.WalkSpells
import Derived.WalkLawsBesides
import Derived.Deep.QuietTactic
import Derived.BigQuiet
import Derived.BigRegion
namespace Go.Proofs.Ytiaahfccebmkdaa
open Go.RowKit
theorem run_max_mx {P : Program} {w : World} (ts : Array TypeId) (t : TypeId) (k k' : IntKind) (x y : Int) : (Builtin.max_ ts t #[.int k x, .int k' y]).run P w = .ok (.int k (mx x y)) w := by rw [run_max_int2]; rfl
theorem run_min_mn {P : Program} {w : World} (ts : Array TypeId) (t : TypeId) (k k' : IntKind) (x y : Int) : (Builtin.min_ ts t #[.int k x, .int k' y]).run P w = .ok (.int k (mn x y)) w := by rw [run_min_int2]; rfl
attribute [local go_sem ↓] run_max_mx run_min_mn

set_option maxRecDepth 100000 in
set_option maxHeartbeats 400000 in
theorem Valid_any (lo hi : Int) (w : World) :
    Calls Try.prog 92 #[.agg #[.int .i64 lo, .int .i64 hi]] w fun e w' => e = .returned (.bool (validB lo hi)) ∧ w' = w.alloc (.cells #[.int .i64 lo, .int .i64 hi] 111) := by
  go_enter Try.func92, Try.ntmps92
  go_wp2
  all_goals go_ret
  all_goals exact ⟨ret_bool (by unfold validB; rw [Bool.eq_iff_iff]; simp only [decide_eq_true_eq, Bool.false_eq_true, false_iff]; omega), rfl⟩
theorem valid_mm {a1 a2 b1 b2 : Int} (h1 : validB a1 a2 = true) (_h2 : validB b1 b2 = true) : validB (mx a1 b1) (mn a2 b2) = decide (mx a1 b1 ≤ mn a2 b2) := by
  have := mx_spec a1 b1; have := mn_spec a2 b2
  rw [validB_iff] at h1
  rw [Bool.eq_iff_iff, validB_iff]; simp only [decide_eq_true_eq]; omega
end Go.Proofs.Ytiaahfccebmkdaa
