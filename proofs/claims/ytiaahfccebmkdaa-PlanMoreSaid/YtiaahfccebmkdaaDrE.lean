/- The reference of layer 7, and package link: what each call returns. -/
import Derived.Test.YtiaahfccebmkdaaDrD
namespace Go.Proofs.Ytiaahfccebmkdaa
open Go.RowKit
attribute [local go_sem ↓] run_max_mx run_min_mn
set_option maxRecDepth 100000 in
set_option maxHeartbeats 1000000 in
theorem R7Counts_any (r c : Int) (w : World) : Calls Try.prog 64 #[.int .i64 r, .int .i64 c] w fun e w' => e = .returned (.tuple #[.agg #[.int .i64 (ctLo r c), .int .i64 (ctHi r c)], .int .i64 (elEr r c)]) ∧ Below w.heap.size w w' := by
  rcases el_ways r c with ⟨h, h1, h2⟩ | ⟨h, h1⟩ | ⟨h, h1, h2⟩
  · have hd := el_in h
    have hi := (elOk_iff r c).1 h
    have e1 : ctLo r c = c * (1000000000 - r) / 1000000000 := by unfold ctLo; rw [if_pos h]
    have e2 : ctHi r c = cei (c * (1000000000 + r)) 1000000000 := by unfold ctHi; rw [if_pos h]
    have e3 : elEr r c = 0 := by unfold elEr; rw [if_pos h]
    have hl := R1Floor_any _ _ _ hd.2.2.1 (by omega)
    have hh := R1Ceil_any _ _ _ hd.2.2.2 (by omega)
    rw [e1, e2, e3]
    generalize c * (1000000000 - r) / 1000000000 = x at *
    generalize cei (c * (1000000000 + r)) 1000000000 = y at *
    clear e1 e2 e3 h hd
    go_enter Try.func64, Try.ntmps64
    go_wp2_with (first | (go_at_call 81; refine (R7Bound_any _ _).mono ?_; rintro e w' ⟨rfl, rfl⟩) | (go_at_call 82; refine (R7Stretch_any _ _).mono ?_; rintro e w' ⟨rfl, rfl⟩) | (go_at_call 83; refine (hl _).mono ?_; rintro e w1 ⟨rfl, b1⟩; obtain ⟨kb1_0, fb1_0, zb1_0, zab1_0, zbb1_0, zcb1_0, zdb1_0, zeb1_0⟩ := bk3 b1 (w.heap.size) (by first | omega | (simp; done) | (simp; omega))) | (go_at_call 84; refine (hh _).mono ?_; rintro e w2 ⟨rfl, b2⟩; obtain ⟨kb2_0, fb2_0, zb2_0, zab2_0, zbb2_0, zcb2_0, zdb2_0, zeb2_0⟩ := bk3 b2 (w.heap.size) (by first | omega | (simp; done) | (simp; omega))))
    refine bodyPost_ret (v := .tuple #[.agg #[.int .i64 x, .int .i64 y], .int .i64 0]) (by simp [results, Try.results64, go_sem, kb1_0, kb2_0]) rfl ⟨rfl, ?_⟩
    have z1 := b1.size
    ((repeat' (first | with_reducible exact Below.refl _ _ | with_reducible exact b1 | with_reducible exact b2 | with_reducible refine Below.alloc ?_ ?_ _ | with_reducible refine Below.setCell ?_ ?_ _ | with_reducible refine Below.drew ?_ | with_reducible refine below_drewN ?_ _ | with_reducible refine Below.trans ?_ (b1.mono ?_) | with_reducible refine Below.trans ?_ (b2.mono ?_))) <;> (first | omega | (simp; done) | (simp; omega)))
  all_goals
    obtain ⟨-, -, e3, e1, e2⟩ := elOk_no h
    rw [e1, e2, e3]
    clear e1 e2 e3 h
    go_enter Try.func64, Try.ntmps64
    go_wp2_with (first | (go_at_call 81; refine (R7Bound_any _ _).mono ?_; rintro e w' ⟨rfl, rfl⟩) | (go_at_call 82; refine (R7Stretch_any _ _).mono ?_; rintro e w' ⟨rfl, rfl⟩))
    refine bodyPost_ret (v := .tuple #[.agg #[.int .i64 0, .int .i64 0], .int .i64 1]) (by simp [results, Try.results64, go_sem]) rfl ⟨rfl, ?_⟩
    ((repeat' (first | with_reducible exact Below.refl _ _ | with_reducible refine Below.alloc ?_ ?_ _ | with_reducible refine Below.setCell ?_ ?_ _ | with_reducible refine Below.drew ?_ | with_reducible refine below_drewN ?_ _)) <;> (first | omega | (simp; done) | (simp; omega)))
set_option maxRecDepth 100000 in
set_option maxHeartbeats 400000 in
theorem lkBounds_any (lo hi : Int) (w : World) : Calls Try.prog 101 #[.int .i64 lo, .int .i64 hi] w fun e w' => e = .returned (.bool (dlB lo hi)) ∧ w = w' := by
  go_enter Try.func101, Try.ntmps101
  go_wp2
  all_goals go_ret
  all_goals exact ⟨ret_bool (by unfold dlB; rw [Bool.eq_iff_iff]; simp only [decide_eq_true_eq, Bool.false_eq_true, false_iff]; omega), rfl⟩
set_option maxRecDepth 100000 in
set_option maxHeartbeats 400000 in
theorem formed_any (t ol oh bl bh : Int) (w : World) : Calls Try.prog 91 #[.agg #[.int .i64 t, .int .i64 ol, .int .i64 oh, .int .i64 bl, .int .i64 bh]] w fun e w' => e = .returned (.bool (lkB ol oh bl bh)) ∧ Below w.heap.size w w' := by
  cases h1 : dlB ol oh <;> cases h2 : dlB bl bh
  all_goals
    go_enter Try.func91, Try.ntmps91
    go_wp2_with (go_at_call 101; refine (lkBounds_any _ _ _).mono ?_; rintro e w' ⟨rfl, rfl⟩)
    go_ret
    exact ⟨ret_bool (by simp [lkB, h1, h2]), (by ((repeat' (first | with_reducible exact Below.refl _ _ | with_reducible refine Below.alloc ?_ ?_ _ | with_reducible refine Below.setCell ?_ ?_ _ | with_reducible refine Below.drew ?_ | with_reducible refine below_drewN ?_ _)) <;> (first | omega | (simp; done) | (simp; omega))))⟩
set_option maxRecDepth 100000 in
set_option maxHeartbeats 400000 in
theorem R10delays_any (lo hi : Int) (w : World) : Calls Try.prog 80 #[.int .i64 lo, .int .i64 hi] w fun e w' => e = .returned (.bool (dlB lo hi)) ∧ w = w' := by
  go_enter Try.func80, Try.ntmps80
  go_wp2
  all_goals go_ret
  all_goals exact ⟨ret_bool (by unfold dlB; rw [Bool.eq_iff_iff]; simp only [decide_eq_true_eq, Bool.false_eq_true, false_iff]; omega), rfl⟩
set_option maxRecDepth 100000 in
set_option maxHeartbeats 400000 in
theorem R10Form_any (t ol oh bl bh : Int) (w : World) : Calls Try.prog 63 #[.agg #[.int .i64 t, .int .i64 ol, .int .i64 oh, .int .i64 bl, .int .i64 bh]] w fun e w' => e = .returned (.bool (lkB ol oh bl bh)) ∧ Below w.heap.size w w' := by
  cases h1 : dlB ol oh <;> cases h2 : dlB bl bh
  all_goals
    go_enter Try.func63, Try.ntmps63
    go_wp2_with (go_at_call 80; refine (R10delays_any _ _ _).mono ?_; rintro e w' ⟨rfl, rfl⟩)
    go_ret
    exact ⟨ret_bool (by simp [lkB, h1, h2]), (by ((repeat' (first | with_reducible exact Below.refl _ _ | with_reducible refine Below.alloc ?_ ?_ _ | with_reducible refine Below.setCell ?_ ?_ _ | with_reducible refine Below.drew ?_ | with_reducible refine below_drewN ?_ _)) <;> (first | omega | (simp; done) | (simp; omega))))⟩
/-- What link's Sent answers: an interval, or why not. -/
def snOk (ol oh bl bh s1 s2 : Int) : Bool := lkB ol oh bl bh && validB s1 s2
def snEr (ol oh bl bh s1 s2 : Int) : Int := if snOk ol oh bl bh s1 s2 = true then (if s2 < ol then 22 else 0) else 1
def snLo (ol oh bl bh s1 s2 : Int) : Int := if snEr ol oh bl bh s1 s2 = 0 then mx 0 (s1 - oh) else 0
def snHi (ol oh bl bh s1 s2 : Int) : Int := if snEr ol oh bl bh s1 s2 = 0 then s2 - ol else 0
theorem lkB_iff (ol oh bl bh : Int) : lkB ol oh bl bh = true ↔ (0 ≤ ol ∧ ol ≤ oh ∧ oh ≤ 1000000) ∧ 0 ≤ bl ∧ bl ≤ bh ∧ bh ≤ 1000000 := by simp [lkB, dlB]
set_option maxRecDepth 100000 in
set_option maxHeartbeats 400000 in
theorem before_any (s1 s2 lo hi : Int) (hl : 0 ≤ lo ∧ lo ≤ hi ∧ hi ≤ 1000000) (hs : 0 ≤ s1 ∧ s1 ≤ s2 ∧ s2 ≤ 3000000000000000) (w : World) : Calls Try.prog 93 #[.agg #[.int .i64 s1, .int .i64 s2], .int .i64 lo, .int .i64 hi] w fun e w' =>
    e = .returned (if s2 < lo then .tuple #[.agg #[.int .i64 0, .int .i64 0], .int .i64 22] else .tuple #[.agg #[.int .i64 (mx 0 (s1 - hi)), .int .i64 (s2 - lo)], .int .i64 0]) ∧ Below w.heap.size w w' := by
  have d1 : decide (hi < lo) = false := decide_eq_false (by omega)
  by_cases h : s2 < lo
  · rw [if_pos h]
    go_enter Try.func93, Try.ntmps93
    go_wp2
    refine bodyPost_ret (v := .tuple #[.agg #[.int .i64 0, .int .i64 0], .int .i64 22]) (by simp [results, Try.results93, go_sem]) rfl ⟨rfl, ?_⟩
    ((repeat' (first | with_reducible exact Below.refl _ _ | with_reducible refine Below.alloc ?_ ?_ _ | with_reducible refine Below.setCell ?_ ?_ _ | with_reducible refine Below.drew ?_ | with_reducible refine below_drewN ?_ _)) <;> (first | omega | (simp; done) | (simp; omega)))
  · rw [if_neg h]
    go_enter Try.func93, Try.ntmps93
    go_wp2
    refine bodyPost_ret (v := .tuple #[.agg #[.int .i64 (mx 0 (s1 - hi)), .int .i64 (s2 - lo)], .int .i64 0]) (by simp [results, Try.results93, go_sem]) rfl ⟨rfl, ?_⟩
    ((repeat' (first | with_reducible exact Below.refl _ _ | with_reducible refine Below.alloc ?_ ?_ _ | with_reducible refine Below.setCell ?_ ?_ _ | with_reducible refine Below.drew ?_ | with_reducible refine below_drewN ?_ _)) <;> (first | omega | (simp; done) | (simp; omega)))
set_option maxRecDepth 100000 in
set_option maxHeartbeats 1000000 in
theorem Sent_any (t ol oh bl bh s1 s2 : Int) (w : World) : Calls Try.prog 77 #[.agg #[.int .i64 t, .int .i64 ol, .int .i64 oh, .int .i64 bl, .int .i64 bh], .agg #[.int .i64 s1, .int .i64 s2]] w fun e w' =>
    e = .returned (.tuple #[.agg #[.int .i64 (snLo ol oh bl bh s1 s2), .int .i64 (snHi ol oh bl bh s1 s2)], .int .i64 (snEr ol oh bl bh s1 s2)]) ∧ Below w.heap.size w w' := by
  cases h1 : lkB ol oh bl bh with
  | false =>
    have e1 : snEr ol oh bl bh s1 s2 = 1 := by unfold snEr snOk; rw [h1]; rfl
    have e2 : snLo ol oh bl bh s1 s2 = 0 := by unfold snLo; rw [e1]; rfl
    have e3 : snHi ol oh bl bh s1 s2 = 0 := by unfold snHi; rw [e1]; rfl
    rw [e1, e2, e3]
    clear e1 e2 e3
    go_enter Try.func77, Try.ntmps77
    go_wp2_with (go_at_call 91; refine (formed_any _ _ _ _ _ _).mono ?_; rintro e w1 ⟨rfl, b1⟩; obtain ⟨kb1_0, fb1_0, zb1_0, zab1_0, zbb1_0, zcb1_0, zdb1_0, zeb1_0⟩ := bk3 b1 (w.heap.size) (by first | omega | (simp; done) | (simp; omega)); obtain ⟨kb1_1, fb1_1, zb1_1, zab1_1, zbb1_1, zcb1_1, zdb1_1, zeb1_1⟩ := bk3 b1 (w.heap.size + 1) (by first | omega | (simp; done) | (simp; omega)); obtain ⟨kb1_2, fb1_2, zb1_2, zab1_2, zbb1_2, zcb1_2, zdb1_2, zeb1_2⟩ := bk3 b1 (w.heap.size + 1 + 1) (by first | omega | (simp; done) | (simp; omega)); rw [h1])
    refine bodyPost_ret (v := .tuple #[.agg #[.int .i64 0, .int .i64 0], .int .i64 1]) (by simp [results, Try.results77, go_sem, *]) rfl ⟨rfl, ?_⟩
    ((repeat' (first | with_reducible exact Below.refl _ _ | with_reducible exact b1 | with_reducible refine Below.alloc ?_ ?_ _ | with_reducible refine Below.setCell ?_ ?_ _ | with_reducible refine Below.drew ?_ | with_reducible refine below_drewN ?_ _ | with_reducible refine Below.trans ?_ (b1.mono ?_))) <;> (first | omega | (simp; done) | (simp; omega)))
  | true =>
    cases h2 : validB s1 s2 with
    | false =>
      have e1 : snEr ol oh bl bh s1 s2 = 1 := by unfold snEr snOk; rw [h1, h2]; rfl
      have e2 : snLo ol oh bl bh s1 s2 = 0 := by unfold snLo; rw [e1]; rfl
      have e3 : snHi ol oh bl bh s1 s2 = 0 := by unfold snHi; rw [e1]; rfl
      rw [e1, e2, e3]
      clear e1 e2 e3
      go_enter Try.func77, Try.ntmps77
      go_wp2_with (first | (go_at_call 91; refine (formed_any _ _ _ _ _ _).mono ?_; rintro e w1 ⟨rfl, b1⟩; obtain ⟨kb1_0, fb1_0, zb1_0, zab1_0, zbb1_0, zcb1_0, zdb1_0, zeb1_0⟩ := bk3 b1 (w.heap.size) (by first | omega | (simp; done) | (simp; omega)); obtain ⟨kb1_1, fb1_1, zb1_1, zab1_1, zbb1_1, zcb1_1, zdb1_1, zeb1_1⟩ := bk3 b1 (w.heap.size + 1) (by first | omega | (simp; done) | (simp; omega)); obtain ⟨kb1_2, fb1_2, zb1_2, zab1_2, zbb1_2, zcb1_2, zdb1_2, zeb1_2⟩ := bk3 b1 (w.heap.size + 1 + 1) (by first | omega | (simp; done) | (simp; omega)); rw [h1]) | (go_at_call 92; refine (Valid_any _ _ _).mono ?_; rintro e w' ⟨rfl, rfl⟩; rw [h2]))
      refine bodyPost_ret (v := .tuple #[.agg #[.int .i64 0, .int .i64 0], .int .i64 1]) (by simp [results, Try.results77, go_sem, *]) rfl ⟨rfl, ?_⟩
      have z1 := b1.size
      ((repeat' (first | with_reducible exact Below.refl _ _ | with_reducible exact b1 | with_reducible refine Below.alloc ?_ ?_ _ | with_reducible refine Below.setCell ?_ ?_ _ | with_reducible refine Below.drew ?_ | with_reducible refine below_drewN ?_ _ | with_reducible refine Below.trans ?_ (b1.mono ?_))) <;> (first | omega | (simp; done) | (simp; omega)))
    | true =>
      have hl := (lkB_iff _ _ _ _).1 h1
      have hv := (validB_iff _ _).1 h2
      have hs := before_any s1 s2 ol oh hl.1 hv
      have e1 : snEr ol oh bl bh s1 s2 = if s2 < ol then 22 else 0 := by unfold snEr snOk; rw [h1, h2]; rfl
      by_cases h3 : s2 < ol
      · rw [if_pos h3] at e1
        have e2 : snLo ol oh bl bh s1 s2 = 0 := by unfold snLo; rw [e1]; rfl
        have e3 : snHi ol oh bl bh s1 s2 = 0 := by unfold snHi; rw [e1]; rfl
        rw [e1, e2, e3]
        rw [if_pos h3] at hs
        clear e1 e2 e3
        go_enter Try.func77, Try.ntmps77
        go_wp2_with (first | (go_at_call 91; refine (formed_any _ _ _ _ _ _).mono ?_; rintro e w1 ⟨rfl, b1⟩; obtain ⟨kb1_0, fb1_0, zb1_0, zab1_0, zbb1_0, zcb1_0, zdb1_0, zeb1_0⟩ := bk3 b1 (w.heap.size) (by first | omega | (simp; done) | (simp; omega)); obtain ⟨kb1_1, fb1_1, zb1_1, zab1_1, zbb1_1, zcb1_1, zdb1_1, zeb1_1⟩ := bk3 b1 (w.heap.size + 1) (by first | omega | (simp; done) | (simp; omega)); obtain ⟨kb1_2, fb1_2, zb1_2, zab1_2, zbb1_2, zcb1_2, zdb1_2, zeb1_2⟩ := bk3 b1 (w.heap.size + 1 + 1) (by first | omega | (simp; done) | (simp; omega)); rw [h1]) | (go_at_call 92; refine (Valid_any _ _ _).mono ?_; rintro e w' ⟨rfl, rfl⟩; rw [h2]) | (go_at_call 93; refine (hs _).mono ?_; rintro e w2 ⟨rfl, b2⟩; obtain ⟨kb2_0, fb2_0, zb2_0, zab2_0, zbb2_0, zcb2_0, zdb2_0, zeb2_0⟩ := bk3 b2 (w.heap.size + 1 + 1) (by first | omega | (simp; done) | (simp; omega))))
        refine bodyPost_ret (v := .tuple #[.agg #[.int .i64 0, .int .i64 0], .int .i64 22]) (by simp [results, Try.results77, go_sem, *]) rfl ⟨rfl, ?_⟩
        have z1 := b1.size
        ((repeat' (first | with_reducible exact Below.refl _ _ | with_reducible exact b1 | with_reducible exact b2 | with_reducible refine Below.alloc ?_ ?_ _ | with_reducible refine Below.setCell ?_ ?_ _ | with_reducible refine Below.drew ?_ | with_reducible refine below_drewN ?_ _ | with_reducible refine Below.trans ?_ (b1.mono ?_) | with_reducible refine Below.trans ?_ (b2.mono ?_))) <;> (first | omega | (simp; done) | (simp; omega)))
      · rw [if_neg h3] at e1
        have e2 : snLo ol oh bl bh s1 s2 = mx 0 (s1 - oh) := by unfold snLo; rw [e1]; rfl
        have e3 : snHi ol oh bl bh s1 s2 = s2 - ol := by unfold snHi; rw [e1]; rfl
        rw [e1, e2, e3]
        rw [if_neg h3] at hs
        clear e1 e2 e3
        go_enter Try.func77, Try.ntmps77
        go_wp2_with (first | (go_at_call 91; refine (formed_any _ _ _ _ _ _).mono ?_; rintro e w1 ⟨rfl, b1⟩; obtain ⟨kb1_0, fb1_0, zb1_0, zab1_0, zbb1_0, zcb1_0, zdb1_0, zeb1_0⟩ := bk3 b1 (w.heap.size) (by first | omega | (simp; done) | (simp; omega)); obtain ⟨kb1_1, fb1_1, zb1_1, zab1_1, zbb1_1, zcb1_1, zdb1_1, zeb1_1⟩ := bk3 b1 (w.heap.size + 1) (by first | omega | (simp; done) | (simp; omega)); obtain ⟨kb1_2, fb1_2, zb1_2, zab1_2, zbb1_2, zcb1_2, zdb1_2, zeb1_2⟩ := bk3 b1 (w.heap.size + 1 + 1) (by first | omega | (simp; done) | (simp; omega)); rw [h1]) | (go_at_call 92; refine (Valid_any _ _ _).mono ?_; rintro e w' ⟨rfl, rfl⟩; rw [h2]) | (go_at_call 93; refine (hs _).mono ?_; rintro e w2 ⟨rfl, b2⟩; obtain ⟨kb2_0, fb2_0, zb2_0, zab2_0, zbb2_0, zcb2_0, zdb2_0, zeb2_0⟩ := bk3 b2 (w.heap.size + 1 + 1) (by first | omega | (simp; done) | (simp; omega))))
        refine bodyPost_ret (v := .tuple #[.agg #[.int .i64 (mx 0 (s1 - oh)), .int .i64 (s2 - ol)], .int .i64 0]) (by simp [results, Try.results77, go_sem, *]) rfl ⟨rfl, ?_⟩
        have z1 := b1.size
        ((repeat' (first | with_reducible exact Below.refl _ _ | with_reducible exact b1 | with_reducible exact b2 | with_reducible refine Below.alloc ?_ ?_ _ | with_reducible refine Below.setCell ?_ ?_ _ | with_reducible refine Below.drew ?_ | with_reducible refine below_drewN ?_ _ | with_reducible refine Below.trans ?_ (b1.mono ?_) | with_reducible refine Below.trans ?_ (b2.mono ?_))) <;> (first | omega | (simp; done) | (simp; omega)))
end Go.Proofs.Ytiaahfccebmkdaa
