/- The small functions of package interval and of its reference: what each call returns. -/
import Derived.Test.YtgoimbddefefdaaProg
import Derived.Test.YtgoimbddefefdaaIvP
import Derived.WalkKit
import Derived.WalkSpells
import Derived.WalkLawsBesides
import Derived.Deep.QuietTactic
import Derived.BigQuiet
import Derived.BigRegion
namespace Go.Proofs.Ytgoimbddefefdaa
open Go.RowKit
theorem run_max_mx {P : Program} {w : World} (ts : Array TypeId) (t : TypeId) (k k' : IntKind) (x y : Int) : (Builtin.max_ ts t #[.int k x, .int k' y]).run P w = .ok (.int k (mx x y)) w := by rw [run_max_int2]; rfl
theorem run_min_mn {P : Program} {w : World} (ts : Array TypeId) (t : TypeId) (k k' : IntKind) (x y : Int) : (Builtin.min_ ts t #[.int k x, .int k' y]).run P w = .ok (.int k (mn x y)) w := by rw [run_min_int2]; rfl
attribute [local go_sem ↓] run_max_mx run_min_mn

set_option maxRecDepth 100000 in
set_option maxHeartbeats 400000 in
theorem Valid_any (lo hi : Int) (w : World) :
    Calls Try.prog 14 #[.agg #[.int .i64 lo, .int .i64 hi]] w fun e w' => e = .returned (.bool (validB lo hi)) ∧ w' = w.alloc (.cells #[.int .i64 lo, .int .i64 hi] 24) := by
  go_enter Try.func14, Try.ntmps14
  go_wp2
  all_goals go_ret
  all_goals exact ⟨ret_bool (by unfold validB; rw [Bool.eq_iff_iff]; simp only [decide_eq_true_eq, Bool.false_eq_true, false_iff]; omega), rfl⟩
set_option maxRecDepth 100000 in
set_option maxHeartbeats 400000 in
theorem RValid_any (lo hi : Int) (w : World) :
    Calls Try.prog 15 #[.agg #[.int .i64 lo, .int .i64 hi]] w fun e w' => e = .returned (.bool (validB lo hi)) ∧ w' = w.alloc (.cells #[.int .i64 lo, .int .i64 hi] 24) := by
  go_enter Try.func15, Try.ntmps15
  go_wp2
  all_goals go_ret
  all_goals exact ⟨ret_bool (by unfold validB; rw [Bool.eq_iff_iff]; simp only [decide_eq_true_eq, Bool.false_eq_true, false_iff]; omega), rfl⟩
set_option maxRecDepth 100000 in
set_option maxHeartbeats 400000 in
theorem RHas_any (lo hi x : Int) (w : World) :
    Calls Try.prog 25 #[.agg #[.int .i64 lo, .int .i64 hi], .int .i64 x] w fun e w' => e = .returned (.bool (hasB lo hi x)) ∧ w' = w.alloc (.cells #[.int .i64 lo, .int .i64 hi] 24) := by
  go_enter Try.func25, Try.ntmps25
  go_wp2
  all_goals go_ret
  all_goals exact ⟨ret_bool (by unfold hasB; rw [Bool.eq_iff_iff]; simp only [decide_eq_true_eq, Bool.false_eq_true, false_iff]; omega), rfl⟩
set_option maxRecDepth 100000 in
set_option maxHeartbeats 400000 in
theorem time_any (n : Int) (w : World) :
    Calls Try.prog 29 #[.int .i64 n] w fun e w' => e = .returned (.bool (timeB n)) ∧ w' = w := by
  go_enter Try.func29, Try.ntmps29
  go_wp2
  all_goals go_ret
  all_goals exact ⟨ret_bool (by unfold timeB; rw [Bool.eq_iff_iff]; simp only [decide_eq_true_eq, Bool.false_eq_true, false_iff]; omega), rfl⟩

set_option maxRecDepth 100000 in
set_option maxHeartbeats 400000 in
theorem Meet_any (a1 a2 b1 b2 : Int) (w : World) :
    Calls Try.prog 12 #[.agg #[.int .i64 a1, .int .i64 a2], .agg #[.int .i64 b1, .int .i64 b2]] w fun e w' =>
      e = .returned (.tuple #[.agg #[.int .i64 (meetLo a1 a2 b1 b2), .int .i64 (meetHi a1 a2 b1 b2)], .bool (meetOk a1 a2 b1 b2), .int .i64 (meetEr a1 a2 b1 b2)]) ∧ Below w.heap.size w w' := by
  go_enter Try.func12, Try.ntmps12
  go_wp2_with (go_at_call 14; refine (Valid_any _ _ _).mono ?_; rintro e w' ⟨rfl, rfl⟩)
  all_goals refine bodyPost_ret (v := .tuple #[.agg #[.int .i64 (meetLo a1 a2 b1 b2), .int .i64 (meetHi a1 a2 b1 b2)], .bool (meetOk a1 a2 b1 b2), .int .i64 (meetEr a1 a2 b1 b2)]) (by simp_all [results, Try.results12, go_sem, meetLo, meetHi, meetOk, meetEr]) rfl ⟨rfl, ?_⟩
  all_goals ((repeat' (first | exact Below.refl _ _ | refine Below.alloc ?_ ?_ _ | refine Below.setCell ?_ ?_ _ | refine Below.drew ?_ | refine below_drewN ?_ _)) <;> (first | omega | (simp; done) | (simp; omega)))

theorem valid_mm {a1 a2 b1 b2 : Int} (h1 : validB a1 a2 = true) (_h2 : validB b1 b2 = true) : validB (mx a1 b1) (mn a2 b2) = decide (mx a1 b1 ≤ mn a2 b2) := by
  have := mx_spec a1 b1; have := mn_spec a2 b2
  rw [validB_iff] at h1
  rw [Bool.eq_iff_iff, validB_iff]; simp only [decide_eq_true_eq]; omega
set_option maxRecDepth 100000 in
set_option maxHeartbeats 400000 in
theorem RMeet_any (a1 a2 b1 b2 : Int) (w : World) :
    Calls Try.prog 13 #[.agg #[.int .i64 a1, .int .i64 a2], .agg #[.int .i64 b1, .int .i64 b2]] w fun e w' =>
      e = .returned (.tuple #[.agg #[.int .i64 (meetLo a1 a2 b1 b2), .int .i64 (meetHi a1 a2 b1 b2)], .bool (meetOk a1 a2 b1 b2), .int .i64 (meetEr a1 a2 b1 b2)]) ∧ Below w.heap.size w w' := by
  by_cases h1 : validB a1 a2 = true <;> by_cases h2 : validB b1 b2 = true
  · have h3 := hide (valid_mm h1 h2)
    go_enter Try.func13, Try.ntmps13
    go_wp2_with (go_at_call 15; refine (RValid_any _ _ _).mono ?_; rintro e w' ⟨rfl, rfl⟩)
    all_goals refine bodyPost_ret (v := .tuple #[.agg #[.int .i64 (meetLo a1 a2 b1 b2), .int .i64 (meetHi a1 a2 b1 b2)], .bool (meetOk a1 a2 b1 b2), .int .i64 (meetEr a1 a2 b1 b2)]) (by have h3 := h3.out; simp_all [results, Try.results13, go_sem, meetLo, meetHi, meetOk, meetEr]; try omega) rfl ⟨rfl, ?_⟩
    all_goals ((repeat' (first | exact Below.refl _ _ | refine Below.alloc ?_ ?_ _ | refine Below.setCell ?_ ?_ _ | refine Below.drew ?_ | refine below_drewN ?_ _)) <;> (first | omega | (simp; done) | (simp; omega)))
  all_goals
    go_enter Try.func13, Try.ntmps13
    go_wp2_with (go_at_call 15; refine (RValid_any _ _ _).mono ?_; rintro e w' ⟨rfl, rfl⟩)
    all_goals refine bodyPost_ret (v := .tuple #[.agg #[.int .i64 (meetLo a1 a2 b1 b2), .int .i64 (meetHi a1 a2 b1 b2)], .bool (meetOk a1 a2 b1 b2), .int .i64 (meetEr a1 a2 b1 b2)]) (by simp_all [results, Try.results13, go_sem, meetLo, meetHi, meetOk, meetEr]) rfl ⟨rfl, ?_⟩
    all_goals ((repeat' (first | exact Below.refl _ _ | refine Below.alloc ?_ ?_ _ | refine Below.setCell ?_ ?_ _ | refine Below.drew ?_ | refine below_drewN ?_ _)) <;> (first | omega | (simp; done) | (simp; omega)))

set_option maxRecDepth 100000 in
set_option maxHeartbeats 400000 in
theorem Grow_any (a1 a2 l r : Int) (w : World) :
    Calls Try.prog 18 #[.agg #[.int .i64 a1, .int .i64 a2], .int .i64 l, .int .i64 r] w fun e w' =>
      e = .returned (.tuple #[.agg #[.int .i64 (growLo a1 a2 l r), .int .i64 (growHi a1 a2 l r)], .int .i64 (growEr a1 a2 l r)]) ∧ Below w.heap.size w w' := by
  by_cases h : growOk a1 a2 l r = true
  · have hh := h
    simp only [growOk, Bool.and_eq_true, validB_iff, timeB, decide_eq_true_eq] at hh
    have h1 : validB a1 a2 = true := by rw [validB_iff]; omega
    have h2 : timeB l = true := by simp [timeB]; omega
    have h3 : timeB r = true := by simp [timeB]; omega
    go_enter Try.func18, Try.ntmps18
    go_wp2_with (first | (go_at_call 14; refine (Valid_any _ _ _).mono ?_; rintro e w' ⟨rfl, rfl⟩) | (go_at_call 29; refine (time_any _ _).mono ?_; rintro e w' ⟨rfl, rfl⟩))
    all_goals refine bodyPost_ret (v := .tuple #[.agg #[.int .i64 (growLo a1 a2 l r), .int .i64 (growHi a1 a2 l r)], .int .i64 (growEr a1 a2 l r)]) (by simp_all [results, Try.results18, go_sem, growLo, growHi, growEr]) rfl ⟨rfl, ?_⟩
    all_goals ((repeat' (first | exact Below.refl _ _ | refine Below.alloc ?_ ?_ _ | refine Below.setCell ?_ ?_ _ | refine Below.drew ?_ | refine below_drewN ?_ _)) <;> (first | omega | (simp; done) | (simp; omega)))
  · go_enter Try.func18, Try.ntmps18
    go_wp2_with (first | (go_at_call 14; refine (Valid_any _ _ _).mono ?_; rintro e w' ⟨rfl, rfl⟩) | (go_at_call 29; refine (time_any _ _).mono ?_; rintro e w' ⟨rfl, rfl⟩))
    all_goals first | (exfalso; simp_all [growOk]; done) | refine bodyPost_ret (v := .tuple #[.agg #[.int .i64 (growLo a1 a2 l r), .int .i64 (growHi a1 a2 l r)], .int .i64 (growEr a1 a2 l r)]) (by simp_all [results, Try.results18, go_sem, growLo, growHi, growEr]) rfl ⟨rfl, ?_⟩
    all_goals ((repeat' (first | exact Below.refl _ _ | refine Below.alloc ?_ ?_ _ | refine Below.setCell ?_ ?_ _ | refine Below.drew ?_ | refine below_drewN ?_ _)) <;> (first | omega | (simp; done) | (simp; omega)))
set_option maxRecDepth 100000 in
set_option maxHeartbeats 400000 in
theorem RGrow_any (a1 a2 l r : Int) (w : World) :
    Calls Try.prog 19 #[.agg #[.int .i64 a1, .int .i64 a2], .int .i64 l, .int .i64 r] w fun e w' =>
      e = .returned (.tuple #[.agg #[.int .i64 (growLo a1 a2 l r), .int .i64 (growHi a1 a2 l r)], .int .i64 (growEr a1 a2 l r)]) ∧ Below w.heap.size w w' := by
  by_cases h : growOk a1 a2 l r = true
  · have hh := h
    simp only [growOk, Bool.and_eq_true, validB_iff, timeB, decide_eq_true_eq] at hh
    have h1 : validB a1 a2 = true := by rw [validB_iff]; omega
    go_enter Try.func19, Try.ntmps19
    go_wp2_with (go_at_call 15; refine (RValid_any _ _ _).mono ?_; rintro e w' ⟨rfl, rfl⟩)
    all_goals refine bodyPost_ret (v := .tuple #[.agg #[.int .i64 (growLo a1 a2 l r), .int .i64 (growHi a1 a2 l r)], .int .i64 (growEr a1 a2 l r)]) (by simp_all [results, Try.results19, go_sem, growLo, growHi, growEr]) rfl ⟨rfl, ?_⟩
    all_goals ((repeat' (first | exact Below.refl _ _ | refine Below.alloc ?_ ?_ _ | refine Below.setCell ?_ ?_ _ | refine Below.drew ?_ | refine below_drewN ?_ _)) <;> (first | omega | (simp; done) | (simp; omega)))
  · have h0 : validB a1 a2 = true → (0 ≤ l ∧ l ≤ 3000000000000000 ∧ 0 ≤ r ∧ r ≤ 3000000000000000) → False := by
      intro h1 h2; apply h; simp [growOk, h1, timeB]; omega
    have h5 := hide h0; clear h0
    go_enter Try.func19, Try.ntmps19
    go_wp2_with (go_at_call 15; refine (RValid_any _ _ _).mono ?_; rintro e w' ⟨rfl, rfl⟩)
    all_goals first | (exfalso; exact h5.out ‹_› (by omega)) | refine bodyPost_ret (v := .tuple #[.agg #[.int .i64 (growLo a1 a2 l r), .int .i64 (growHi a1 a2 l r)], .int .i64 (growEr a1 a2 l r)]) (by simp_all [results, Try.results19, go_sem, growLo, growHi, growEr]) rfl ⟨rfl, ?_⟩
    all_goals ((repeat' (first | exact Below.refl _ _ | refine Below.alloc ?_ ?_ _ | refine Below.setCell ?_ ?_ _ | refine Below.drew ?_ | refine below_drewN ?_ _)) <;> (first | omega | (simp; done) | (simp; omega)))
end Go.Proofs.Ytgoimbddefefdaa
