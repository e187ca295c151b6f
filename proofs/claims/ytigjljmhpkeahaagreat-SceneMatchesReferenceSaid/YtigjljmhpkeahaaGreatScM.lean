
/- Package scene, the reference: what is asked of one answer; link's and belief's reference. -/
import Derived.Test.YtigjljmhpkeahaaGreatScD
import Derived.Test.YtigjljmhpkeahaaGreatGg
namespace Go.Proofs.YtigjljmhpkeahaaGreat
open Go.RowKit
attribute [local go_sem ↓] run_max_mx run_min_mn run_eql_iv run_neq_iv run_eql_an run_neq_an

set_option maxRecDepth 100000 in
set_option maxHeartbeats 1000000 in
theorem R10Sent_any (t ol oh bl bh s1 s2 : Int) (w : World) : Calls Tryz.prog 54 #[.agg #[.int .i64 t, .int .i64 ol, .int .i64 oh, .int .i64 bl, .int .i64 bh], .agg #[.int .i64 s1, .int .i64 s2]] w fun e w' =>
  e = .returned (.tuple #[.agg #[.int .i64 (snLo ol oh bl bh s1 s2), .int .i64 (snHi ol oh bl bh s1 s2)], .int .i64 (snEr ol oh bl bh s1 s2)]) ∧ Below w.heap.size w w' := by
 by_cases hk : lkB ol oh bl bh = true ∧ validB s1 s2 = true
 ·obtain ⟨h1, h2⟩ := hk
  have hl := ((lkB_iff _ _ _ _).1 h1).1
  have hv := (validB_iff _ _).1 h2
  have e1 : snEr ol oh bl bh s1 s2 = if s2 < ol then 22 else 0 := by unfold snEr snOk; rw [h1, h2]; rfl
  have wr1 : IntKind.i64.wrap (s2 - ol) = s2 - ol := IntWalk.i64_in _ (by omega)
  have wr2 : IntKind.i64.wrap (s1 - oh) = s1 - oh := IntWalk.i64_in _ (by omega)
  by_cases h3 : s2 < ol
  ·have d3 : decide (s2 - ol < 0) = true := decide_eq_true (by omega)
   rw [if_pos h3] at e1
   have e2 : snLo ol oh bl bh s1 s2 = 0 := by unfold snLo; rw [e1]; rfl
   have e3 : snHi ol oh bl bh s1 s2 = 0 := by unfold snHi; rw [e1]; rfl
   rw [e1, e2, e3]
   clear e1 e2 e3 hl hv h3
   go_enter Tryz.func54, Tryz.ntmps54
   go_wp2_with (first | (go_at_call 99; refine (R10Form_any _ _ _ _ _ _).mono ?_; rintro e w1 ⟨rfl, b1⟩; obtain ⟨kb1_0, fb1_0, zb1_0, zab1_0, zbb1_0, zcb1_0, zdb1_0, zeb1_0⟩ := bk3 b1 (w.heap.size) (by first | omega | simp <;> omega); obtain ⟨kb1_1, fb1_1, zb1_1, zab1_1, zbb1_1, zcb1_1, zdb1_1, zeb1_1⟩ := bk3 b1 (w.heap.size + 1) (by first | omega | simp <;> omega); obtain ⟨kb1_2, fb1_2, zb1_2, zab1_2, zbb1_2, zcb1_2, zdb1_2, zeb1_2⟩ := bk3 b1 (w.heap.size + 1 + 1) (by first | omega | simp <;> omega); rw [h1]) | (go_at_call 100; refine (RValid_any _ _ _).mono ?_; rintro e w' ⟨rfl, rfl⟩; rw [h2]))
   refine bodyPost_ret (v := .tuple #[.agg #[.int .i64 0, .int .i64 0], .int .i64 22]) (by simp [results, Tryz.results54, go_sem, *]) rfl ⟨rfl, ?_⟩
   have z1 := b1.size
   ((with_reducible repeat' first | exact .refl _ _ | exact b1 | refine .alloc ?_ ?_ _ | refine .setCell ?_ ?_ _ | refine .drew ?_ | refine below_drewN ?_ _ | refine Below.trans ?_ (b1.mono ?_)) <;> first | omega | simp <;> omega)
  ·have d3 : decide (s2 - ol < 0) = false := decide_eq_false (by omega)
   rw [if_neg h3] at e1
   have e2 : snLo ol oh bl bh s1 s2 = mx 0 (s1 - oh) := by unfold snLo; rw [e1]; rfl
   have e3 : snHi ol oh bl bh s1 s2 = s2 - ol := by unfold snHi; rw [e1]; rfl
   rw [e1, e2, e3]
   clear e1 e2 e3 hl hv h3
   go_enter Tryz.func54, Tryz.ntmps54
   go_wp2_with (first | (go_at_call 99; refine (R10Form_any _ _ _ _ _ _).mono ?_; rintro e w1 ⟨rfl, b1⟩; obtain ⟨kb1_0, fb1_0, zb1_0, zab1_0, zbb1_0, zcb1_0, zdb1_0, zeb1_0⟩ := bk3 b1 (w.heap.size) (by first | omega | simp <;> omega); obtain ⟨kb1_1, fb1_1, zb1_1, zab1_1, zbb1_1, zcb1_1, zdb1_1, zeb1_1⟩ := bk3 b1 (w.heap.size + 1) (by first | omega | simp <;> omega); obtain ⟨kb1_2, fb1_2, zb1_2, zab1_2, zbb1_2, zcb1_2, zdb1_2, zeb1_2⟩ := bk3 b1 (w.heap.size + 1 + 1) (by first | omega | simp <;> omega); rw [h1]) | (go_at_call 100; refine (RValid_any _ _ _).mono ?_; rintro e w' ⟨rfl, rfl⟩; rw [h2]))
   refine bodyPost_ret (v := .tuple #[.agg #[.int .i64 (mx 0 (s1 - oh)), .int .i64 (s2 - ol)], .int .i64 0]) (by simp [results, Tryz.results54, go_sem, *]) rfl ⟨rfl, ?_⟩
   have z1 := b1.size
   ((with_reducible repeat' first | exact .refl _ _ | exact b1 | refine .alloc ?_ ?_ _ | refine .setCell ?_ ?_ _ | refine .drew ?_ | refine below_drewN ?_ _ | refine Below.trans ?_ (b1.mono ?_)) <;> first | omega | simp <;> omega)
 ·have e1 : snEr ol oh bl bh s1 s2 = 1 := by unfold snEr snOk; rw [if_neg (by rw [Bool.and_eq_true]; exact hk)]
  have e2 : snLo ol oh bl bh s1 s2 = 0 := by unfold snLo; rw [e1]; rfl
  have e3 : snHi ol oh bl bh s1 s2 = 0 := by unfold snHi; rw [e1]; rfl
  rw [e1, e2, e3]
  clear e1 e2 e3
  cases h1 : lkB ol oh bl bh <;> cases h2 : validB s1 s2
  case true.true => exact absurd ⟨h1, h2⟩ hk
  all_goals
   clear hk
   go_enter Tryz.func54, Tryz.ntmps54
   go_wp2_with (first | (go_at_call 99; refine (R10Form_any _ _ _ _ _ _).mono ?_; rintro e w1 ⟨rfl, b1⟩; obtain ⟨kb1_0, fb1_0, zb1_0, zab1_0, zbb1_0, zcb1_0, zdb1_0, zeb1_0⟩ := bk3 b1 (w.heap.size) (by first | omega | simp <;> omega); obtain ⟨kb1_1, fb1_1, zb1_1, zab1_1, zbb1_1, zcb1_1, zdb1_1, zeb1_1⟩ := bk3 b1 (w.heap.size + 1) (by first | omega | simp <;> omega); obtain ⟨kb1_2, fb1_2, zb1_2, zab1_2, zbb1_2, zcb1_2, zdb1_2, zeb1_2⟩ := bk3 b1 (w.heap.size + 1 + 1) (by first | omega | simp <;> omega); rw [h1]) | (go_at_call 100; refine (RValid_any _ _ _).mono ?_; rintro e w' ⟨rfl, rfl⟩; rw [h2]))
   refine bodyPost_ret (v := .tuple #[.agg #[.int .i64 0, .int .i64 0], .int .i64 1]) (by simp [results, Tryz.results54, go_sem, *]) rfl ⟨rfl, ?_⟩
   have z1 := b1.size
   ((with_reducible repeat' first | exact .refl _ _ | exact b1 | refine .alloc ?_ ?_ _ | refine .setCell ?_ ?_ _ | refine .drew ?_ | refine below_drewN ?_ _ | refine Below.trans ?_ (b1.mono ?_)) <;> first | omega | simp <;> omega)
set_option maxRecDepth 100000 in
set_option maxHeartbeats 400000 in
theorem R8Time_any (n : Int) (w : World) : Calls Tryz.prog 110 #[.int .i64 n] w fun e w' => e = .returned (.bool (timeB n)) ∧ w = w' := by
 go_enter Tryz.func110, Tryz.ntmps110
 go_wp2
 all_goals go_ret
 all_goals exact ⟨ret_bool (by unfold timeB; rw [Bool.eq_iff_iff]; simp only [decide_eq_true_eq, Bool.false_eq_true, false_iff]; omega), rfl⟩
set_option maxRecDepth 100000 in
set_option maxHeartbeats 400000 in
theorem R8Valid_any (a lo hi : Int) (w : World) : Calls Tryz.prog 109 #[.agg #[.int .i64 a, .int .i64 lo, .int .i64 hi]] w fun e w' => e = .returned (.bool (beB a lo hi)) ∧ Below w.heap.size w w' := by
 cases h1 : timeB a <;> cases h2 : validB lo hi
 all_goals
  go_enter Tryz.func109, Tryz.ntmps109
  go_wp2_with (first | (go_at_call 110; refine (R8Time_any _ _).mono ?_; rintro e w' ⟨rfl, rfl⟩; rw [h1]) | (go_at_call 100; refine (RValid_any _ _ _).mono ?_; rintro e w' ⟨rfl, rfl⟩; rw [h2]))
  go_ret
  exact ⟨ret_bool (by unfold beB; rw [h1, h2]; rfl), (by ((with_reducible repeat' first | exact .refl _ _ | refine .alloc ?_ ?_ _ | refine .setCell ?_ ?_ _ | refine .drew ?_ | refine below_drewN ?_ _) <;> first | omega | simp <;> omega))⟩
theorem atOk_iff (a lo hi r t : Int) : atOk a lo hi r t = true ↔ beB a lo hi = true ∧ timeB t = true ∧ inB r 0 1000000 = true := by simp [atOk]
set_option maxRecDepth 100000 in
set_option maxHeartbeats 1000000 in
theorem R8At_any (a lo hi r t : Int) (w : World) : Calls Tryz.prog 60 #[.agg #[.int .i64 a, .int .i64 lo, .int .i64 hi], .int .i64 r, .int .i64 t] w fun e w' =>
  e = .returned (.tuple #[.agg #[.int .i64 (atLo a lo hi r t), .int .i64 (atHi a lo hi r t)], .int .i64 (atEr a lo hi r t)]) ∧ Below w.heap.size w w' := by
 cases h1 : atOk a lo hi r t with
 | false =>
  have e1 : atEr a lo hi r t = 1 := by unfold atEr; rw [h1]; rfl
  have e2 : atLo a lo hi r t = 0 := by unfold atLo; rw [e1]; rfl
  have e3 : atHi a lo hi r t = 0 := by unfold atHi; rw [e1]; rfl
  rw [e1, e2, e3]
  clear e1 e2 e3
  cases h2 : beB a lo hi <;> cases h3 : timeB t
  case true.true =>
   have h4 : ¬ (0 ≤ r ∧ r ≤ 1000000) := by
    intro h
    have : atOk a lo hi r t = true := (atOk_iff _ _ _ _ _).2 ⟨h2, h3, by unfold inB; exact decide_eq_true h⟩
    rw [h1] at this; cases this
   clear h1
   rcases (show r < 0 ∨ (¬ r < 0 ∧ 1000000 < r) by omega) with h5 | ⟨h5, h6⟩
   all_goals
    clear h4
    go_enter Tryz.func60, Tryz.ntmps60
    go_wp2_with (first | (go_at_call 109; refine (R8Valid_any _ _ _ _).mono ?_; rintro e w1 ⟨rfl, b1⟩; have z1 := b1.size; obtain ⟨kb1_0, fb1_0, zb1_0, zab1_0, zbb1_0, zcb1_0, zdb1_0, zeb1_0⟩ := bk3 b1 (w.heap.size) (by first | omega | simp <;> omega); obtain ⟨kb1_1, fb1_1, zb1_1, zab1_1, zbb1_1, zcb1_1, zdb1_1, zeb1_1⟩ := bk3 b1 (w.heap.size + 1) (by first | omega | simp <;> omega); rw [h2]) | (go_at_call 110; refine (R8Time_any _ _).mono ?_; rintro e w' ⟨rfl, rfl⟩; rw [h3]))
    refine bodyPost_ret (v := .tuple #[.agg #[.int .i64 0, .int .i64 0], .int .i64 1]) (by simp [results, Tryz.results60, go_sem, *]) rfl ⟨rfl, ?_⟩
    ((with_reducible repeat' first | exact .refl _ _ | exact b1 | refine .alloc ?_ ?_ _ | refine .setCell ?_ ?_ _ | refine .drew ?_ | refine below_drewN ?_ _ | refine Below.trans ?_ (b1.mono ?_)) <;> first | omega | simp <;> omega)
  all_goals
   clear h1
   go_enter Tryz.func60, Tryz.ntmps60
   go_wp2_with (first | (go_at_call 109; refine (R8Valid_any _ _ _ _).mono ?_; rintro e w1 ⟨rfl, b1⟩; have z1 := b1.size; obtain ⟨kb1_0, fb1_0, zb1_0, zab1_0, zbb1_0, zcb1_0, zdb1_0, zeb1_0⟩ := bk3 b1 (w.heap.size) (by first | omega | simp <;> omega); obtain ⟨kb1_1, fb1_1, zb1_1, zab1_1, zbb1_1, zcb1_1, zdb1_1, zeb1_1⟩ := bk3 b1 (w.heap.size + 1) (by first | omega | simp <;> omega); rw [h2]) | (go_at_call 110; refine (R8Time_any _ _).mono ?_; rintro e w' ⟨rfl, rfl⟩; rw [h3]))
   refine bodyPost_ret (v := .tuple #[.agg #[.int .i64 0, .int .i64 0], .int .i64 1]) (by simp [results, Tryz.results60, go_sem, *]) rfl ⟨rfl, ?_⟩
   ((with_reducible repeat' first | exact .refl _ _ | exact b1 | refine .alloc ?_ ?_ _ | refine .setCell ?_ ?_ _ | refine .drew ?_ | refine below_drewN ?_ _ | refine Below.trans ?_ (b1.mono ?_)) <;> first | omega | simp <;> omega)
 | true =>
  obtain ⟨h2, h3, h4⟩ := (atOk_iff _ _ _ _ _).1 h1
  have hv2 := h2
  unfold beB at hv2
  simp only [Bool.and_eq_true, timeB_iff, validB_iff] at hv2
  obtain ⟨hv1, hv⟩ := hv2
  have ht := (timeB_iff t).1 h3
  have hr : 0 ≤ r ∧ r ≤ 1000000 := by simpa [inB] using h4
  have q1 : decide (r < 0) = false := decide_eq_false (by omega)
  have q2 : decide (1000000 < r) = false := decide_eq_false (by omega)
  by_cases h5 : t < a
  ·have e1 : atEr a lo hi r t = 30 := by unfold atEr; rw [if_pos h1, if_pos h5]
   have e2 : atLo a lo hi r t = 0 := by unfold atLo; rw [e1]; rfl
   have e3 : atHi a lo hi r t = 0 := by unfold atHi; rw [e1]; rfl
   rw [e1, e2, e3]
   clear e1 e2 e3 h1
   go_enter Tryz.func60, Tryz.ntmps60
   go_wp2_with (first | (go_at_call 109; refine (R8Valid_any _ _ _ _).mono ?_; rintro e w1 ⟨rfl, b1⟩; have z1 := b1.size; obtain ⟨kb1_0, fb1_0, zb1_0, zab1_0, zbb1_0, zcb1_0, zdb1_0, zeb1_0⟩ := bk3 b1 (w.heap.size) (by first | omega | simp <;> omega); obtain ⟨kb1_1, fb1_1, zb1_1, zab1_1, zbb1_1, zcb1_1, zdb1_1, zeb1_1⟩ := bk3 b1 (w.heap.size + 1) (by first | omega | simp <;> omega); rw [h2]) | (go_at_call 110; refine (R8Time_any _ _).mono ?_; rintro e w' ⟨rfl, rfl⟩; rw [h3]))
   refine bodyPost_ret (v := .tuple #[.agg #[.int .i64 0, .int .i64 0], .int .i64 30]) (by simp [results, Tryz.results60, go_sem, *]) rfl ⟨rfl, ?_⟩
   ((with_reducible repeat' first | exact .refl _ _ | exact b1 | refine .alloc ?_ ?_ _ | refine .setCell ?_ ?_ _ | refine .drew ?_ | refine below_drewN ?_ _ | refine Below.trans ?_ (b1.mono ?_)) <;> first | omega | simp <;> omega)
  ·have w1' : IntKind.i64.wrap (t - a) = t - a := IntWalk.i64_in _ (by omega)
   cases h6 : elOk r (t - a) with
   | false =>
    have e1 : atEr a lo hi r t = 3 := by unfold atEr; rw [if_pos h1, if_neg h5, h6]; rfl
    have e2 : atLo a lo hi r t = 0 := by unfold atLo; rw [e1]; rfl
    have e3 : atHi a lo hi r t = 0 := by unfold atHi; rw [e1]; rfl
    have en := elOk_no h6
    rw [e1, e2, e3]
    clear e1 e2 e3 h1
    go_enter Tryz.func60, Tryz.ntmps60
    go_wp2_with (first | (go_at_call 109; refine (R8Valid_any _ _ _ _).mono ?_; rintro e w1 ⟨rfl, b1⟩; have z1 := b1.size; obtain ⟨kb1_0, fb1_0, zb1_0, zab1_0, zbb1_0, zcb1_0, zdb1_0, zeb1_0⟩ := bk3 b1 (w.heap.size) (by first | omega | simp <;> omega); obtain ⟨kb1_1, fb1_1, zb1_1, zab1_1, zbb1_1, zcb1_1, zdb1_1, zeb1_1⟩ := bk3 b1 (w.heap.size + 1) (by first | omega | simp <;> omega); rw [h2]) | (go_at_call 110; refine (R8Time_any _ _).mono ?_; rintro e w' ⟨rfl, rfl⟩; rw [h3]) | (go_at_call 111; refine (R7Elapsed_any _ _ _).mono ?_; rintro e w2 ⟨rfl, b2⟩; have z2 := b2.size; obtain ⟨kb2_0, fb2_0, zb2_0, zab2_0, zbb2_0, zcb2_0, zdb2_0, zeb2_0⟩ := bk3 b2 (w.heap.size) (by first | omega | simp <;> omega); obtain ⟨kb2_1, fb2_1, zb2_1, zab2_1, zbb2_1, zcb2_1, zdb2_1, zeb2_1⟩ := bk3 b2 (w.heap.size + 1) (by first | omega | simp <;> omega); rw [en.1, en.2.1, en.2.2.1]))
    refine bodyPost_ret (v := .tuple #[.agg #[.int .i64 0, .int .i64 0], .int .i64 3]) (by simp [results, Tryz.results60, go_sem, *]) rfl ⟨rfl, ?_⟩
    ((with_reducible repeat' first | exact .refl _ _ | exact b1 | exact b2 | refine .alloc ?_ ?_ _ | refine .setCell ?_ ?_ _ | refine .drew ?_ | refine below_drewN ?_ _ | refine Below.trans ?_ (b1.mono ?_) | refine Below.trans ?_ (b2.mono ?_)) <;> first | omega | simp <;> omega)
   | true =>
    have hb := el_bd h6
    have e3 : elEr r (t - a) = 0 := by unfold elEr; rw [if_pos h6]
    have e1 : atEr a lo hi r t = 0 := by unfold atEr; rw [if_pos h1, if_neg h5, if_pos h6]
    have e2 : atLo a lo hi r t = mn (lo + elLo r (t - a)) 3000000000000000 := by unfold atLo; rw [e1]; rfl
    have e4 : atHi a lo hi r t = mn (hi + elHi r (t - a)) 3000000000000000 := by unfold atHi; rw [e1]; rfl
    have mc : ∀ x y : Int, mn x y = mn y x := fun x y => by unfold mn; split <;> split <;> omega
    have hij := (elOk_iff r (t - a)).1 h6
    have hE := R7Elapsed_any r (t - a)
    rw [e1, e2, e4, mc, mc (hi + elHi r (t - a))]
    rw [e3] at hE
    generalize elLo r (t - a) = x at *
    generalize elHi r (t - a) = y at *
    have hx : 0 ≤ x ∧ x ≤ 2000000000000000 := by omega
    have hy : 0 ≤ y ∧ y ≤ 2000000000000000 := by omega
    have wr2 : IntKind.i64.wrap (lo + x) = lo + x := IntWalk.i64_in _ (by omega)
    have wr3 : IntKind.i64.wrap (hi + y) = hi + y := IntWalk.i64_in _ (by omega)
    clear e1 e2 e3 e4 h1 mc hij hb hx hy hv ht hr hv1 h4
    go_enter Tryz.func60, Tryz.ntmps60
    go_wp2_with (first | (go_at_call 109; refine (R8Valid_any _ _ _ _).mono ?_; rintro e w1 ⟨rfl, b1⟩; have z1 := b1.size; obtain ⟨kb1_0, fb1_0, zb1_0, zab1_0, zbb1_0, zcb1_0, zdb1_0, zeb1_0⟩ := bk3 b1 (w.heap.size) (by first | omega | simp <;> omega); obtain ⟨kb1_1, fb1_1, zb1_1, zab1_1, zbb1_1, zcb1_1, zdb1_1, zeb1_1⟩ := bk3 b1 (w.heap.size + 1) (by first | omega | simp <;> omega); rw [h2]) | (go_at_call 110; refine (R8Time_any _ _).mono ?_; rintro e w' ⟨rfl, rfl⟩; rw [h3]) | (go_at_call 111; refine (hE _).mono ?_; rintro e w2 ⟨rfl, b2⟩; have z2 := b2.size; obtain ⟨kb2_0, fb2_0, zb2_0, zab2_0, zbb2_0, zcb2_0, zdb2_0, zeb2_0⟩ := bk3 b2 (w.heap.size) (by first | omega | simp <;> omega); obtain ⟨kb2_1, fb2_1, zb2_1, zab2_1, zbb2_1, zcb2_1, zdb2_1, zeb2_1⟩ := bk3 b2 (w.heap.size + 1) (by first | omega | simp <;> omega)))
    refine bodyPost_ret (v := .tuple #[.agg #[.int .i64 (mn 3000000000000000 (lo + x)), .int .i64 (mn 3000000000000000 (hi + y))], .int .i64 0]) (by simp [results, Tryz.results60, go_sem, *]) rfl ⟨rfl, ?_⟩
    ((with_reducible repeat' first | exact .refl _ _ | exact b1 | exact b2 | refine .alloc ?_ ?_ _ | refine .setCell ?_ ?_ _ | refine .drew ?_ | refine below_drewN ?_ _ | refine Below.trans ?_ (b1.mono ?_) | refine Below.trans ?_ (b2.mono ?_)) <;> first | omega | simp <;> omega)
theorem anFit_au {a : An} {p : Pr} (h : a.au ≠ p.au) : anFit a p = false := by
 unfold anFit
 split
 ·exact decide_eq_false fun g => h g.1
 ·rw [decide_eq_false h, Bool.false_and]
theorem anFit_lost2 {a : An} {p : Pr} (h : a.ls = true) (g : a.au = p.au) : anFit a p = anEq ⟨a.au, a.ls, a.ou, a.bk, a.lo, a.hi⟩ ⟨a.au, true, 0, 0, 0, 0⟩ := by
 rw [anFit_lost h, g]
def valP (p : Pr) : Value := .agg #[.int .i64 p.au, .int .i64 p.er, .int .i64 p.co, .int .i64 p.at_, .int .i64 p.ol, .int .i64 p.oh, .int .i64 p.bl, .int .i64 p.bh]
set_option maxRecDepth 100000 in
set_option maxHeartbeats 1000000 in
theorem R32answer_any (a : An) (p : Pr) (w : World) : Calls Tryz.prog 71 #[valA a, valP p] w fun e w' => e = .returned (.bool (anFit a p)) ∧ Below w.heap.size w w' := by
 unfold valA valP
 by_cases h1 : a.au = p.au
 ·have d1 : (a.au != p.au) = false := by rw [h1]; simp
  cases hl : a.ls with
  | true =>
   rw [anFit_lost2 hl h1, hl]
   clear h1
   go_enter Tryz.func71, Tryz.ntmps71
   go_wp2_with fail
   go_ret
   exact ⟨rfl, (by ((with_reducible repeat' first | exact .refl _ _ | refine .alloc ?_ ?_ _ | refine .setCell ?_ ?_ _ | refine .drew ?_ | refine below_drewN ?_ _) <;> first | omega | simp <;> omega))⟩
  | false =>
   rw [anFit_some hl, decide_eq_true h1, Bool.true_and]
   clear h1
   cases h2 : inB a.ou 0 1000000 <;> cases h3 : inB a.bk 0 1000000
   all_goals
    go_enter Tryz.func71, Tryz.ntmps71
    go_wp2_with (first | (go_at_call 117; refine (R32delay_any _ _).mono ?_; rintro e w' ⟨rfl, rfl⟩) | (go_at_call 100; refine (RValid_any _ _ _).mono ?_; rintro e w' ⟨rfl, rfl⟩))
    go_ret
    exact ⟨ret_bool (by simp [*]), (by ((with_reducible repeat' first | exact .refl _ _ | refine .alloc ?_ ?_ _ | refine .setCell ?_ ?_ _ | refine .drew ?_ | refine below_drewN ?_ _) <;> first | omega | simp <;> omega))⟩
 ·have d1 : (a.au != p.au) = true := by rw [bne_iff_ne]; exact h1
  rw [anFit_au h1]
  clear h1
  go_enter Tryz.func71, Tryz.ntmps71
  go_wp2_with fail
  go_ret
  exact ⟨rfl, (by ((with_reducible repeat' first | exact .refl _ _ | refine .alloc ?_ ?_ _ | refine .setCell ?_ ?_ _ | refine .drew ?_ | refine below_drewN ?_ _) <;> first | omega | simp <;> omega))⟩
theorem hasB_inB (lo hi x : Int) : hasB lo hi x = inB x lo hi := rfl
set_option maxRecDepth 100000 in
set_option maxHeartbeats 1000000 in
theorem R32True_any (a : An) (p : Pr) (t : Int) (w : World) (h1 : 0 ≤ t ∧ t ≤ 3000000000000000) (h2 : 0 ≤ a.ou ∧ a.ou ≤ 1000000) (h3 : 0 ≤ a.lo ∧ a.lo ≤ 3000000000000000) (h4 : 0 ≤ a.hi ∧ a.hi ≤ 3000000000000000) (h5 : 0 ≤ p.er ∧ p.er ≤ 1000000) :
  Calls Tryz.prog 55 #[valA a, valP p, .int .i64 t] w fun e w' => e = .returned (.bool (hnOk a p t)) ∧ Below w.heap.size w w' := by
 unfold valA valP
 rw [hnOk_eq]
 have w1 : IntKind.i64.wrap (t + a.ou) = t + a.ou := IntWalk.i64_in _ (by omega)
 have w2 : IntKind.i64.wrap (a.hi - a.lo) = a.hi - a.lo := IntWalk.i64_in _ (by omega)
 have w3 : IntKind.i64.wrap (2 * p.er) = 2 * p.er := IntWalk.i64_in _ (by omega)
 clear h1 h2 h3 h4 h5
 cases h6 : inB (t + a.ou) a.lo a.hi
 all_goals
  go_enter Tryz.func55, Tryz.ntmps55
  go_wp2_with (go_at_call 26; refine (RHas_any _ _ _ _).mono ?_; rintro e w' ⟨rfl, rfl⟩; rw [hasB_inB, h6])
  go_ret
  exact ⟨ret_bool (by simp), (by ((with_reducible repeat' first | exact .refl _ _ | refine .alloc ?_ ?_ _ | refine .setCell ?_ ?_ _ | refine .drew ?_ | refine below_drewN ?_ _) <;> first | omega | simp <;> omega))⟩
end Go.Proofs.YtigjljmhpkeahaaGreat
