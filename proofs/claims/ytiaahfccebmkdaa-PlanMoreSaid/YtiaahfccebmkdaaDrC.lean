/- Package drift, and the references of layers 1 and 7: what each call returns. -/
import Derived.Test.YtiaahfccebmkdaaDrB
namespace Go.Proofs.Ytiaahfccebmkdaa
open Go.RowKit
attribute [local go_sem ↓] run_max_mx run_min_mn
set_option maxRecDepth 100000 in
set_option maxHeartbeats 400000 in
theorem isBound_any (n : Int) (w : World) : Calls Try.prog 72 #[.int .i64 n] w fun e w' => e = .returned (.bool (inB n 0 1000000)) ∧ w = w' := by
  go_enter Try.func72, Try.ntmps72
  go_wp2
  all_goals go_ret
  all_goals exact ⟨ret_bool (by unfold inB; rw [Bool.eq_iff_iff]; simp only [decide_eq_true_eq, Bool.false_eq_true, false_iff]; omega), rfl⟩
set_option maxRecDepth 100000 in
set_option maxHeartbeats 400000 in
theorem isStretch_any (n : Int) (w : World) : Calls Try.prog 73 #[.int .i64 n] w fun e w' => e = .returned (.bool (inB n 0 1000000000000000)) ∧ w = w' := by
  go_enter Try.func73, Try.ntmps73
  go_wp2
  all_goals go_ret
  all_goals exact ⟨ret_bool (by unfold inB; rw [Bool.eq_iff_iff]; simp only [decide_eq_true_eq, Bool.false_eq_true, false_iff]; omega), rfl⟩
set_option maxRecDepth 100000 in
set_option maxHeartbeats 400000 in
theorem R7Bound_any (n : Int) (w : World) : Calls Try.prog 81 #[.int .i64 n] w fun e w' => e = .returned (.bool (inB n 0 1000000)) ∧ w = w' := by
  go_enter Try.func81, Try.ntmps81
  go_wp2
  all_goals go_ret
  all_goals exact ⟨ret_bool (by unfold inB; rw [Bool.eq_iff_iff]; simp only [decide_eq_true_eq, Bool.false_eq_true, false_iff]; omega), rfl⟩
set_option maxRecDepth 100000 in
set_option maxHeartbeats 400000 in
theorem R7Stretch_any (n : Int) (w : World) : Calls Try.prog 82 #[.int .i64 n] w fun e w' => e = .returned (.bool (inB n 0 1000000000000000)) ∧ w = w' := by
  go_enter Try.func82, Try.ntmps82
  go_wp2
  all_goals go_ret
  all_goals exact ⟨ret_bool (by unfold inB; rw [Bool.eq_iff_iff]; simp only [decide_eq_true_eq, Bool.false_eq_true, false_iff]; omega), rfl⟩
set_option maxRecDepth 100000 in
set_option maxHeartbeats 400000 in
theorem R1Time_any (n : Int) (w : World) : Calls Try.prog 102 #[.int .i64 n] w fun e w' => e = .returned (.bool (tmB n)) ∧ w = w' := by
  go_enter Try.func102, Try.ntmps102
  go_wp2
  all_goals go_ret
  all_goals exact ⟨ret_bool (by unfold tmB; rw [Bool.eq_iff_iff]; simp only [decide_eq_true_eq, Bool.false_eq_true, false_iff]; omega), rfl⟩
set_option maxRecDepth 100000 in
set_option maxHeartbeats 400000 in
theorem R1Factor_any (n : Int) (w : World) : Calls Try.prog 103 #[.int .i64 n] w fun e w' => e = .returned (.bool (inB n 0 2000000000)) ∧ w = w' := by
  go_enter Try.func103, Try.ntmps103
  go_wp2
  all_goals go_ret
  all_goals exact ⟨ret_bool (by unfold inB; rw [Bool.eq_iff_iff]; simp only [decide_eq_true_eq, Bool.false_eq_true, false_iff]; omega), rfl⟩
set_option maxRecDepth 100000 in
set_option maxHeartbeats 400000 in
theorem R1right_any (a n d : Int) (h : DrIn a n d) (w : World) : Calls Try.prog 94 #[.int .i64 a, .int .i64 n, .int .i64 d] w fun e w' => e = .returned (.bool true) ∧ w = w' := by
  obtain ⟨h1, h2, h3⟩ := h
  have p1 := tmB_yes (n := a) (by omega)
  have p2 : inB n 0 2000000000 = true := by simp [inB]; omega
  have p3 : inB d 0 2000000000 = true := by simp [inB]; omega
  have p4 : decide (1 ≤ d) = true := decide_eq_true (by omega)
  go_enter Try.func94, Try.ntmps94
  go_wp2_with (first | (go_at_call 102; refine (R1Time_any _ _).mono ?_; rintro e w' ⟨rfl, rfl⟩) | (go_at_call 103; refine (R1Factor_any _ _).mono ?_; rintro e w' ⟨rfl, rfl⟩))
  go_ret
  exact ⟨rfl, rfl⟩
set_option maxRecDepth 100000 in
set_option maxHeartbeats 400000 in
theorem R1result_any (n : Int) (h : -3000000000000000 ≤ n ∧ n ≤ 3000000000000000) (w : World) : Calls Try.prog 96 #[.int .i64 n, .bool true] w fun e w' => e = .returned (.tuple #[.int .i64 n, .int .i64 0]) ∧ w = w' := by
  have p1 := tmB_yes h
  go_enter Try.func96, Try.ntmps96
  go_wp2_with (go_at_call 102; refine (R1Time_any _ _).mono ?_; rintro e w' ⟨rfl, rfl⟩)
  go_ret2
  exact ⟨rfl, rfl⟩
set_option maxRecDepth 100000 in
set_option maxHeartbeats 1000000 in
theorem R1Split_any (a n d : Int) (h : DrIn a n d) (h0 : 0 ≤ a) (w : World) : Calls Try.prog 95 #[.int .i64 a, .int .i64 n, .int .i64 d] w fun e w' => e = .returned (.tuple #[.int .i64 (a * n / d), .int .i64 (a * n % d), .bool true]) ∧ ∃ q, w' = w.drewN q := by
  have hq := dr_quo h
  have hs := flo_split (a := a) (n := n) (d := d) (by have := h.2.2; omega)
  obtain ⟨h1, h2, h3⟩ := h
  rw [hs.1, hs.2]
  obtain ⟨T, hT⟩ : ∃ T : Int, T = 3000000000000000 / n := ⟨_, rfl⟩
  have hT1 : 2990000 ≤ T := by rw [hT]; exact le_flo (by omega) (by omega)
  have hT2 : T ≤ 3100000 := by rw [hT]; exact flo_le (by omega) (by omega)
  have hq0 : 0 ≤ a / d := le_flo (by omega) (by omega)
  generalize hqe : a / d = q at hq hq0 ⊢
  generalize hre : a % d = r at hq ⊢
  have b1 : 0 ≤ q * n ∧ q * n ≤ 1002000 * 1001000000 := ⟨Int.mul_nonneg hq0 (by omega), Int.mul_le_mul (by omega) (by omega) (by omega) (by omega)⟩
  have b2 : 0 ≤ r * n ∧ r * n ≤ 1001000000 * 1001000000 := ⟨Int.mul_nonneg (by omega) (by omega), Int.mul_le_mul (by omega) (by omega) (by omega) (by omega)⟩
  obtain ⟨x, hx⟩ : ∃ x : Int, x = r * n / d := ⟨_, rfl⟩
  have b3 : 0 ≤ x ∧ x ≤ 1100000000 := by rw [hx]; exact ⟨le_flo (by omega) (by omega), flo_le (by omega) (by omega)⟩
  rw [← hx]
  have f1 : IntKind.i64.wrap (q * n) = q * n := IntWalk.i64_in _ (by omega)
  have f2 : IntKind.i64.wrap (r * n) = r * n := IntWalk.i64_in _ (by omega)
  have f3 : IntKind.i64.wrap (r * n / d) = x := by rw [← hx]; exact IntWalk.i64_in _ (by omega)
  have f3' : r * n / d = x := hx.symm
  have f4 : IntKind.i64.wrap (q * n + x) = q * n + x := IntWalk.i64_in _ (by omega)
  have f5 : a / d = q := hqe
  have f6 : a % d = r := hre
  have f7 : (3000000000000000 : Int) / n = T := hT.symm
  have f8 : IntKind.i64.wrap (a / d) = q := by rw [f5]; exact IntWalk.i64_in _ (by omega)
  have f9 : IntKind.i64.wrap ((3000000000000000 : Int) / n) = T := by rw [f7]; exact IntWalk.i64_in _ (by omega)
  have g1 : decide (r < 0) = false := decide_eq_false (by omega)
  have g2 : decide (0 < n) = true := decide_eq_true (by omega)
  have g3 : decide (T < q) = false := decide_eq_false (by omega)
  have g4 : decide (T + 1 < -q) = false := decide_eq_false (by omega)
  have hn0 : ¬ n = 0 := by omega
  have hd0 : ¬ d = 0 := by omega
  have hq1 : q ≤ 1002000 := by omega
  have hr1 : 0 ≤ r ∧ r ≤ 1001000000 := by omega
  clear hT hqe hre hx hs hq
  go_enter Try.func95, Try.ntmps95
  go_wp2
  go_quiet (fail)
  go_wp2
  go_ret3
  exact ⟨by first | rfl | (simp only [f5, f6, f3']; rfl) | (simp [f5, f6, f3']), _, rfl⟩
set_option maxRecDepth 100000 in
set_option maxHeartbeats 1000000 in
theorem R1Floor_any (a n d : Int) (h : DrIn a n d) (h0 : 0 ≤ a) (w : World) : Calls Try.prog 83 #[.int .i64 a, .int .i64 n, .int .i64 d] w fun e w' => e = .returned (.tuple #[.int .i64 (a * n / d), .int .i64 0]) ∧ Below w.heap.size w w' := by
  have hq := dr_quo h
  obtain ⟨x, hx⟩ : ∃ x : Int, x = a * n / d := ⟨_, rfl⟩
  obtain ⟨y, hy⟩ : ∃ y : Int, y = a * n % d := ⟨_, rfl⟩
  have hs := R1Split_any a n d h h0
  rw [← hx, ← hy] at hs
  rw [← hx]
  have hb : -3000000000000000 ≤ x ∧ x ≤ 3000000000000000 := by omega
  clear hq hx hy
  go_enter Try.func83, Try.ntmps83
  go_wp2_with (first | (go_at_call 94; refine (R1right_any a n d h _).mono ?_; rintro e w' ⟨rfl, rfl⟩) | (go_at_call 95; refine (hs _).mono ?_; rintro e w' ⟨rfl, q, rfl⟩) | (go_at_call 96; refine (R1result_any x hb _).mono ?_; rintro e w' ⟨rfl, rfl⟩))
  go_ret2
  exact ⟨rfl, (by ((repeat' (first | with_reducible exact Below.refl _ _ | with_reducible refine Below.alloc ?_ ?_ _ | with_reducible refine Below.setCell ?_ ?_ _ | with_reducible refine Below.drew ?_ | with_reducible refine below_drewN ?_ _)) <;> (first | omega | (simp; done) | (simp; omega))))⟩
set_option maxRecDepth 100000 in
set_option maxHeartbeats 1000000 in
theorem R1Ceil_any (a n d : Int) (h : DrIn a n d) (h0 : 0 ≤ a) (w : World) : Calls Try.prog 84 #[.int .i64 a, .int .i64 n, .int .i64 d] w fun e w' => e = .returned (.tuple #[.int .i64 (cei (a * n) d), .int .i64 0]) ∧ Below w.heap.size w w' := by
  have hq := dr_quo h
  obtain ⟨x, hx⟩ : ∃ x : Int, x = a * n / d := ⟨_, rfl⟩
  obtain ⟨y, hy⟩ : ∃ y : Int, y = a * n % d := ⟨_, rfl⟩
  have hc := cei_mod (N := a * n) (d := d) (by have := h.2.2; omega)
  have hs := R1Split_any a n d h h0
  rw [← hx, ← hy] at hs hc
  have hb : -3000000000000000 ≤ x ∧ x ≤ 1003000000000000 := by omega
  rw [hc]
  clear hq hx hy hc
  by_cases hp : 0 < y
  · rw [if_pos hp]
    go_enter Try.func84, Try.ntmps84
    go_wp2_with (first | (go_at_call 94; refine (R1right_any a n d h _).mono ?_; rintro e w' ⟨rfl, rfl⟩) | (go_at_call 95; refine (hs _).mono ?_; rintro e w' ⟨rfl, q, rfl⟩) | (go_at_call 96; refine (R1result_any (x + 1) (by omega) _).mono ?_; rintro e w' ⟨rfl, rfl⟩))
    go_ret2
    exact ⟨rfl, (by ((repeat' (first | with_reducible exact Below.refl _ _ | with_reducible refine Below.alloc ?_ ?_ _ | with_reducible refine Below.setCell ?_ ?_ _ | with_reducible refine Below.drew ?_ | with_reducible refine below_drewN ?_ _)) <;> (first | omega | (simp; done) | (simp; omega))))⟩
  · rw [if_neg hp]
    go_enter Try.func84, Try.ntmps84
    go_wp2_with (first | (go_at_call 94; refine (R1right_any a n d h _).mono ?_; rintro e w' ⟨rfl, rfl⟩) | (go_at_call 95; refine (hs _).mono ?_; rintro e w' ⟨rfl, q, rfl⟩) | (go_at_call 96; refine (R1result_any x (by omega) _).mono ?_; rintro e w' ⟨rfl, rfl⟩))
    go_ret2
    exact ⟨rfl, (by ((repeat' (first | with_reducible exact Below.refl _ _ | with_reducible refine Below.alloc ?_ ?_ _ | with_reducible refine Below.setCell ?_ ?_ _ | with_reducible refine Below.drew ?_ | with_reducible refine below_drewN ?_ _)) <;> (first | omega | (simp; done) | (simp; omega))))⟩
end Go.Proofs.Ytiaahfccebmkdaa
