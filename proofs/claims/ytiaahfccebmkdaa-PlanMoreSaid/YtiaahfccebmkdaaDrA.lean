/- Package scale's quotients of the numbers that package drift has: what each call returns. -/
import Derived.Test.YtiaahfccebmkdaaDvA
import Derived.Test.YtiaahfccebmkdaaDrP
import Derived.Test.YtiaahfccebmkdaaSpA
namespace Go.Proofs.Ytiaahfccebmkdaa
open Go.RowKit
attribute [local go_sem ↓] run_max_mx run_min_mn
def tmB (n : Int) : Bool := decide (-3000000000000000 ≤ n ∧ n ≤ 3000000000000000)
theorem tmB_yes {n : Int} (h : -3000000000000000 ≤ n ∧ n ≤ 3000000000000000) : tmB n = true := by simp [tmB]; omega
set_option maxRecDepth 100000 in
set_option maxHeartbeats 400000 in
theorem scTime_any (n : Int) (w : World) : Calls Try.prog 99 #[.int .i64 n] w fun e w' => e = .returned (.bool (tmB n)) ∧ w = w' := by
  go_enter Try.func99, Try.ntmps99
  go_wp2
  all_goals go_ret
  all_goals exact ⟨ret_bool (by unfold tmB; rw [Bool.eq_iff_iff]; simp only [decide_eq_true_eq, Bool.false_eq_true, false_iff]; omega), rfl⟩
/-- A quotient's numbers: the absolute value m times n is h and l, and d goes q times into it. -/
def QuoN (m n d q r h l : Nat) : Prop := (m * n = h * 18446744073709551616 + l ∧ m * n = d * q + r ∧ r < d) ∧ h < d ∧ l < 18446744073709551616 ∧ q ≤ 1003000000000000 ∧ 999000000 ≤ d ∧ d ≤ 1001000000
theorem quo_mk {m n d : Nat} (hm : m ≤ 1000000000000001) (hn : n ≤ 1001000000) (hd1 : 999000000 ≤ d) (hd2 : d ≤ 1001000000) : ∃ h l, QuoN m n d (m * n / d) (m * n % d) h l := by
  have hb : m * n ≤ 1000000000000001 * 1001000000 := Nat.mul_le_mul hm hn
  refine ⟨m * n / 18446744073709551616, m * n % 18446744073709551616, ⟨by omega, (Nat.div_add_mod _ _).symm, Nat.mod_lt _ (by omega)⟩, by omega, by omega, ?_, hd1, hd2⟩
  exact Nat.le_of_lt_succ ((Nat.div_lt_iff_lt_mul (by omega)).2 (by omega))
set_option maxRecDepth 100000 in
set_option maxHeartbeats 1000000 in
theorem divide_any (a : Int) (m n d q r h l : Nat) (hm : mx a (-a) = m) (ha : -1 ≤ a ∧ a ≤ 1000000000000001) (hm' : m ≤ 1000000000000001) (hn : n ≤ 1001000000) (hq : QuoN m n d q r h l) (w : World) :
    Calls Try.prog 100 #[.int .i64 a, .int .i64 n, .int .i64 d] w fun e w' => e = .returned (.tuple #[.agg #[.int .u64 q, .int .u64 r, .int .u64 d, .bool (decide (a < 0))], .bool true]) ∧ Below w.heap.size w w' := by
  have hq1 := hq.2.2.2.1
  have hd1 := hq.2.2.2.2
  have hh := hq.2.1
  have Hq := hide hq
  have p1 : decide ((d : Int) ≤ h) = false := decide_eq_false (by omega)
  have p1' : decide (d ≤ h) = false := decide_eq_false (by omega)
  have p2 : decide ((q : Int) ≤ 3000000000000000) = true := decide_eq_true (by omega)
  clear hq
  go_enter Try.func100, Try.ntmps100
  go_wp2_with (first | (go_at_call 105; refine (Mul64_at m n h l (by omega) (by omega) Hq.out.2.2.1 Hq.out.1.1 _).mono ?_; rintro e w' ⟨rfl, rfl⟩) | (go_at_call 106; refine (Div64_at h l d q r (by omega) (by omega) hh Hq.out.2.2.1 Hq.out.1.2.2 (Hq.out.1.1.symm.trans Hq.out.1.2.1) _).mono ?_; rintro e w1 ⟨rfl, b1⟩; obtain ⟨kb1_0, fb1_0, zb1_0, zab1_0, zbb1_0, zcb1_0, zdb1_0, zeb1_0⟩ := bk3 b1 (w.heap.size) (by first | omega | (simp; done) | (simp; omega)); obtain ⟨kb1_1, fb1_1, zb1_1, zab1_1, zbb1_1, zcb1_1, zdb1_1, zeb1_1⟩ := bk3 b1 (w.heap.size + 1) (by first | omega | (simp; done) | (simp; omega))))
  go_region
  go_wp2
  refine bodyPost_ret (v := .tuple #[.agg #[.int .u64 q, .int .u64 r, .int .u64 d, .bool (decide (a < 0))], .bool true]) (by simp [results, Try.results100, go_sem, kb1_0]) rfl ⟨rfl, ?_⟩
  ((repeat' (first | with_reducible exact Below.refl _ _ | with_reducible exact b1 | with_reducible refine Below.alloc ?_ ?_ _ | with_reducible refine Below.setCell ?_ ?_ _ | with_reducible refine Below.drew ?_ | with_reducible refine below_drewN ?_ _ | with_reducible refine Below.trans ?_ (b1.mono ?_))) <;> (first | omega | (simp; done) | (simp; omega)))
set_option maxRecDepth 100000 in
set_option maxHeartbeats 400000 in
theorem FloorUp_any (q r d : Nat) (b : Bool) (w : World) : Calls Try.prog 89 #[.agg #[.int .u64 q, .int .u64 r, .int .u64 d, .bool b]] w fun e w' => e = .returned (.bool (b && decide (0 < r))) ∧ Below w.heap.size w w' := by
  cases b
  · go_enter Try.func89, Try.ntmps89
    go_wp2
    go_ret
    exact ⟨rfl, (by ((repeat' (first | exact Below.refl _ _ | refine Below.alloc ?_ ?_ _ | refine Below.setCell ?_ ?_ _ | refine Below.drew ?_ | refine below_drewN ?_ _)) <;> (first | omega | (simp; done) | (simp; omega))))⟩
  · go_enter Try.func89, Try.ntmps89
    go_wp2
    go_ret
    exact ⟨ret_bool (by simp), (by ((repeat' (first | exact Below.refl _ _ | refine Below.alloc ?_ ?_ _ | refine Below.setCell ?_ ?_ _ | refine Below.drew ?_ | refine below_drewN ?_ _)) <;> (first | omega | (simp; done) | (simp; omega))))⟩
set_option maxRecDepth 100000 in
set_option maxHeartbeats 400000 in
theorem CeilUp_any (q r d : Nat) (b : Bool) (w : World) : Calls Try.prog 90 #[.agg #[.int .u64 q, .int .u64 r, .int .u64 d, .bool b]] w fun e w' => e = .returned (.bool (!b && decide (0 < r))) ∧ Below w.heap.size w w' := by
  cases b
  · go_enter Try.func90, Try.ntmps90
    go_wp2
    go_ret
    exact ⟨ret_bool (by simp), (by ((repeat' (first | exact Below.refl _ _ | refine Below.alloc ?_ ?_ _ | refine Below.setCell ?_ ?_ _ | refine Below.drew ?_ | refine below_drewN ?_ _)) <;> (first | omega | (simp; done) | (simp; omega))))⟩
  · go_enter Try.func90, Try.ntmps90
    go_wp2
    go_ret
    exact ⟨rfl, (by ((repeat' (first | exact Below.refl _ _ | refine Below.alloc ?_ ?_ _ | refine Below.setCell ?_ ?_ _ | refine Below.drew ?_ | refine below_drewN ?_ _)) <;> (first | omega | (simp; done) | (simp; omega))))⟩
end Go.Proofs.Ytiaahfccebmkdaa
