/- Package belief: At. -/
import Derived.Test.YtbgfgpjgehkdjaaGreatDrE
namespace Go.Proofs.YtbgfgpjgehkdjaaGreat
open Go.RowKit
attribute [local go_sem ↓] run_max_mx run_min_mn

def beB (a lo hi : Int) : Bool := timeB a && validB lo hi
def atOk (a lo hi r t : Int) : Bool := beB a lo hi && (timeB t && inB r 0 1000000)
def atEr (a lo hi r t : Int) : Int := if atOk a lo hi r t = true then (if t < a then 30 else if elOk r (t - a) = true then 0 else 3) else 1
def atLo (a lo hi r t : Int) : Int := if atEr a lo hi r t = 0 then mn (lo + elLo r (t - a)) 3000000000000000 else 0
def atHi (a lo hi r t : Int) : Int := if atEr a lo hi r t = 0 then mn (hi + elHi r (t - a)) 3000000000000000 else 0
theorem timeB_iff (n : Int) : timeB n = true ↔ 0 ≤ n ∧ n ≤ 3000000000000000 := by simp [timeB]
set_option maxRecDepth 100000 in
set_option maxHeartbeats 400000 in
theorem beTime_any (n : Int) (w : World) : Calls Tryz.prog 31 #[.int .i64 n] w fun e w' => e = .returned (.bool (timeB n)) ∧ w = w' := by
  go_enter Tryz.func31, Tryz.ntmps31
  go_wp2
  all_goals go_ret
  all_goals exact ⟨ret_bool (by unfold timeB; rw [Bool.eq_iff_iff]; simp only [decide_eq_true_eq, Bool.false_eq_true, false_iff]; omega), rfl⟩
set_option maxRecDepth 100000 in
set_option maxHeartbeats 400000 in
theorem beValid_any (a lo hi : Int) (w : World) : Calls Tryz.prog 30 #[.agg #[.int .i64 a, .int .i64 lo, .int .i64 hi]] w fun e w' => e = .returned (.bool (beB a lo hi)) ∧ Below w.heap.size w w' := by
  cases h1 : timeB a
  · go_enter Tryz.func30, Tryz.ntmps30
    go_wp2_with (go_at_call 31; refine (beTime_any _ _).mono ?_; rintro e w' ⟨rfl, rfl⟩; rw [h1])
    go_ret
    exact ⟨ret_bool (by unfold beB; rw [h1]; rfl), (by ((repeat' (first | with_reducible exact Below.refl _ _ | with_reducible refine Below.alloc ?_ ?_ _ | with_reducible refine Below.setCell ?_ ?_ _ | with_reducible refine Below.drew ?_ | with_reducible refine below_drewN ?_ _)) <;> (first | omega | (simp; done) | (simp; omega))))⟩
  · go_enter Tryz.func30, Tryz.ntmps30
    go_wp2_with (first | (go_at_call 31; refine (beTime_any _ _).mono ?_; rintro e w' ⟨rfl, rfl⟩; rw [h1]) | (go_at_call 46; refine (Valid_any _ _ _).mono ?_; rintro e w' ⟨rfl, rfl⟩))
    go_ret
    exact ⟨ret_bool (by unfold beB; rw [h1]; rfl), (by ((repeat' (first | with_reducible exact Below.refl _ _ | with_reducible refine Below.alloc ?_ ?_ _ | with_reducible refine Below.setCell ?_ ?_ _ | with_reducible refine Below.drew ?_ | with_reducible refine below_drewN ?_ _)) <;> (first | omega | (simp; done) | (simp; omega))))⟩
set_option maxRecDepth 100000 in
set_option maxHeartbeats 400000 in
theorem later_any (a lo hi x y : Int) (hv : 0 ≤ lo ∧ lo ≤ hi ∧ hi ≤ 3000000000000000) (hx : 0 ≤ x ∧ x ≤ 2000000000000000) (hy : 0 ≤ y ∧ y ≤ 2000000000000000) (w : World) : Calls Tryz.prog 33 #[.agg #[.int .i64 a, .int .i64 lo, .int .i64 hi], .agg #[.int .i64 x, .int .i64 y]] w fun e w' =>
    e = .returned (.agg #[.int .i64 (mn (lo + x) 3000000000000000), .int .i64 (mn (hi + y) 3000000000000000)]) ∧ Below w.heap.size w w' := by
  go_enter Tryz.func33, Tryz.ntmps33
  go_wp2
  refine bodyPost_ret (v := .agg #[.int .i64 (mn (lo + x) 3000000000000000), .int .i64 (mn (hi + y) 3000000000000000)]) (by simp [results, Tryz.results33, go_sem]) rfl ⟨rfl, ?_⟩
  ((repeat' (first | with_reducible exact Below.refl _ _ | with_reducible refine Below.alloc ?_ ?_ _ | with_reducible refine Below.setCell ?_ ?_ _ | with_reducible refine Below.drew ?_ | with_reducible refine below_drewN ?_ _)) <;> (first | omega | (simp; done) | (simp; omega)))
set_option maxRecDepth 100000 in
set_option maxHeartbeats 1000000 in
theorem after_any (a lo hi r c : Int) (hv : 0 ≤ lo ∧ lo ≤ hi ∧ hi ≤ 3000000000000000) (w : World) : Calls Tryz.prog 32 #[.int .i64 r, .int .i64 c, .func (.func 33) #[.agg #[.int .i64 a, .int .i64 lo, .int .i64 hi]] #[]] w fun e w' =>
    e = .returned (if elOk r c = true then .tuple #[.agg #[.int .i64 (mn (lo + elLo r c) 3000000000000000), .int .i64 (mn (hi + elHi r c) 3000000000000000)], .int .i64 0] else .tuple #[.agg #[.int .i64 0, .int .i64 0], .int .i64 3]) ∧ Below w.heap.size w w' := by
  cases h : elOk r c with
  | true =>
    have hb := el_bd h
    have hij := (elOk_iff r c).1 h
    have e3 : elEr r c = 0 := by unfold elEr; rw [if_pos h]
    obtain ⟨hb1, hb2, hb3, hb4⟩ := hb
    rw [if_pos rfl]
    have hE := Elapsed_any r c
    rw [e3] at hE
    generalize elLo r c = x at *
    generalize elHi r c = y at *
    have hx : 0 ≤ x ∧ x ≤ 2000000000000000 := by omega
    have hy : 0 ≤ y ∧ y ≤ 2000000000000000 := by omega
    clear e3 h
    go_enter Tryz.func32, Tryz.ntmps32
    go_wp2_with fail
    refine (hE _).mono ?_
    rintro e w1 ⟨rfl, b1⟩
    have z1 := b1.size
    obtain ⟨kb1_0, fb1_0, zb1_0, zab1_0, zbb1_0, zcb1_0, zdb1_0, zeb1_0⟩ := bk3 b1 (w.heap.size) (by first | omega | (simp; done) | (simp; omega))
    go_wp2_with fail
    refine (later_any a lo hi x y hv hx hy _).mono ?_
    rintro e w2 ⟨rfl, b2⟩
    have z2 := b2.size
    obtain ⟨kb2_0, fb2_0, zb2_0, zab2_0, zbb2_0, zcb2_0, zdb2_0, zeb2_0⟩ := bk3 b2 (w.heap.size) (by first | omega | (simp; done) | (simp; omega))
    go_wp2_with fail
    refine bodyPost_ret (v := .tuple #[.agg #[.int .i64 (mn (lo + x) 3000000000000000), .int .i64 (mn (hi + y) 3000000000000000)], .int .i64 0]) (by simp [results, Tryz.results32, go_sem, *]) rfl ⟨rfl, ?_⟩
    ((repeat' (first | with_reducible exact Below.refl _ _ | with_reducible exact b2 | with_reducible exact b1 | with_reducible refine Below.alloc ?_ ?_ _ | with_reducible refine Below.setCell ?_ ?_ _ | with_reducible refine Below.drew ?_ | with_reducible refine below_drewN ?_ _ | with_reducible refine Below.trans ?_ (b2.mono ?_) | with_reducible refine Below.trans ?_ (b1.mono ?_))) <;> (first | omega | (simp; done) | (simp; omega)))
  | false =>
    have e := elOk_no h
    rw [if_neg (by simp)]
    go_enter Tryz.func32, Tryz.ntmps32
    go_wp2_with (go_at_call 12; refine (Elapsed_any _ _ _).mono ?_; rintro e w1 ⟨rfl, b1⟩; obtain ⟨kb1_0, fb1_0, zb1_0, zab1_0, zbb1_0, zcb1_0, zdb1_0, zeb1_0⟩ := bk3 b1 (w.heap.size) (by first | omega | (simp; done) | (simp; omega)); rw [e.1, e.2.1, e.2.2.1])
    refine bodyPost_ret (v := .tuple #[.agg #[.int .i64 0, .int .i64 0], .int .i64 3]) (by simp [results, Tryz.results32, go_sem, kb1_0, zb1_0]) rfl ⟨rfl, ?_⟩
    have z1 := b1.size
    ((repeat' (first | with_reducible exact Below.refl _ _ | with_reducible exact b1 | with_reducible refine Below.alloc ?_ ?_ _ | with_reducible refine Below.setCell ?_ ?_ _ | with_reducible refine Below.drew ?_ | with_reducible refine below_drewN ?_ _ | with_reducible refine Below.trans ?_ (b1.mono ?_))) <;> (first | omega | (simp; done) | (simp; omega)))
set_option maxRecDepth 100000 in
set_option maxHeartbeats 1000000 in
theorem beAt_any (a lo hi r t : Int) (w : World) : Calls Tryz.prog 13 #[.agg #[.int .i64 a, .int .i64 lo, .int .i64 hi], .int .i64 r, .int .i64 t] w fun e w' =>
    e = .returned (.tuple #[.agg #[.int .i64 (atLo a lo hi r t), .int .i64 (atHi a lo hi r t)], .int .i64 (atEr a lo hi r t)]) ∧ Below w.heap.size w w' := by
  cases h1 : atOk a lo hi r t with
  | false =>
    have e1 : atEr a lo hi r t = 1 := by unfold atEr; rw [h1]; rfl
    have e2 : atLo a lo hi r t = 0 := by unfold atLo; rw [e1]; rfl
    have e3 : atHi a lo hi r t = 0 := by unfold atHi; rw [e1]; rfl
    rw [e1, e2, e3]
    clear e1 e2 e3
    cases h2 : beB a lo hi with
    | false =>
      clear h1
      go_enter Tryz.func13, Tryz.ntmps13
      go_wp2_with (go_at_call 30; refine (beValid_any _ _ _ _).mono ?_; rintro e w1 ⟨rfl, b1⟩; have z1 := b1.size; obtain ⟨kb1_0, fb1_0, zb1_0, zab1_0, zbb1_0, zcb1_0, zdb1_0, zeb1_0⟩ := bk3 b1 (w.heap.size) (by first | omega | (simp; done) | (simp; omega)); obtain ⟨kb1_1, fb1_1, zb1_1, zab1_1, zbb1_1, zcb1_1, zdb1_1, zeb1_1⟩ := bk3 b1 (w.heap.size + 1) (by first | omega | (simp; done) | (simp; omega)); obtain ⟨kb1_2, fb1_2, zb1_2, zab1_2, zbb1_2, zcb1_2, zdb1_2, zeb1_2⟩ := bk3 b1 (w.heap.size + 1 + 1) (by first | omega | (simp; done) | (simp; omega)); rw [h2])
      refine bodyPost_ret (v := .tuple #[.agg #[.int .i64 0, .int .i64 0], .int .i64 1]) (by simp [results, Tryz.results13, go_sem, *]) rfl ⟨rfl, ?_⟩
      ((repeat' (first | with_reducible exact Below.refl _ _ | with_reducible exact b1 | with_reducible refine Below.alloc ?_ ?_ _ | with_reducible refine Below.setCell ?_ ?_ _ | with_reducible refine Below.drew ?_ | with_reducible refine below_drewN ?_ _ | with_reducible refine Below.trans ?_ (b1.mono ?_))) <;> (first | omega | (simp; done) | (simp; omega)))
    | true =>
      cases h3 : timeB t with
      | false =>
        clear h1
        go_enter Tryz.func13, Tryz.ntmps13
        go_wp2_with (first | (go_at_call 30; refine (beValid_any _ _ _ _).mono ?_; rintro e w1 ⟨rfl, b1⟩; have z1 := b1.size; obtain ⟨kb1_0, fb1_0, zb1_0, zab1_0, zbb1_0, zcb1_0, zdb1_0, zeb1_0⟩ := bk3 b1 (w.heap.size) (by first | omega | (simp; done) | (simp; omega)); obtain ⟨kb1_1, fb1_1, zb1_1, zab1_1, zbb1_1, zcb1_1, zdb1_1, zeb1_1⟩ := bk3 b1 (w.heap.size + 1) (by first | omega | (simp; done) | (simp; omega)); obtain ⟨kb1_2, fb1_2, zb1_2, zab1_2, zbb1_2, zcb1_2, zdb1_2, zeb1_2⟩ := bk3 b1 (w.heap.size + 1 + 1) (by first | omega | (simp; done) | (simp; omega)); rw [h2]) | (go_at_call 31; refine (beTime_any _ _).mono ?_; rintro e w' ⟨rfl, rfl⟩; rw [h3]))
        refine bodyPost_ret (v := .tuple #[.agg #[.int .i64 0, .int .i64 0], .int .i64 1]) (by simp [results, Tryz.results13, go_sem, *]) rfl ⟨rfl, ?_⟩
        ((repeat' (first | with_reducible exact Below.refl _ _ | with_reducible exact b1 | with_reducible refine Below.alloc ?_ ?_ _ | with_reducible refine Below.setCell ?_ ?_ _ | with_reducible refine Below.drew ?_ | with_reducible refine below_drewN ?_ _ | with_reducible refine Below.trans ?_ (b1.mono ?_))) <;> (first | omega | (simp; done) | (simp; omega)))
      | true =>
        have h4 : ¬ (0 ≤ r ∧ r ≤ 1000000) := by
          intro h
          have : atOk a lo hi r t = true := by unfold atOk; rw [h2, h3, show inB r 0 1000000 = true from by unfold inB; exact decide_eq_true h]; rfl
          rw [h1] at this; cases this
        clear h1
        by_cases h5 : r < 0
        · clear h4
          go_enter Tryz.func13, Tryz.ntmps13
          go_wp2_with (first | (go_at_call 30; refine (beValid_any _ _ _ _).mono ?_; rintro e w1 ⟨rfl, b1⟩; have z1 := b1.size; obtain ⟨kb1_0, fb1_0, zb1_0, zab1_0, zbb1_0, zcb1_0, zdb1_0, zeb1_0⟩ := bk3 b1 (w.heap.size) (by first | omega | (simp; done) | (simp; omega)); obtain ⟨kb1_1, fb1_1, zb1_1, zab1_1, zbb1_1, zcb1_1, zdb1_1, zeb1_1⟩ := bk3 b1 (w.heap.size + 1) (by first | omega | (simp; done) | (simp; omega)); obtain ⟨kb1_2, fb1_2, zb1_2, zab1_2, zbb1_2, zcb1_2, zdb1_2, zeb1_2⟩ := bk3 b1 (w.heap.size + 1 + 1) (by first | omega | (simp; done) | (simp; omega)); rw [h2]) | (go_at_call 31; refine (beTime_any _ _).mono ?_; rintro e w' ⟨rfl, rfl⟩; rw [h3]))
          refine bodyPost_ret (v := .tuple #[.agg #[.int .i64 0, .int .i64 0], .int .i64 1]) (by simp [results, Tryz.results13, go_sem, *]) rfl ⟨rfl, ?_⟩
          ((repeat' (first | with_reducible exact Below.refl _ _ | with_reducible exact b1 | with_reducible refine Below.alloc ?_ ?_ _ | with_reducible refine Below.setCell ?_ ?_ _ | with_reducible refine Below.drew ?_ | with_reducible refine below_drewN ?_ _ | with_reducible refine Below.trans ?_ (b1.mono ?_))) <;> (first | omega | (simp; done) | (simp; omega)))
        · have h6 : 1000000 < r := by omega
          clear h4
          go_enter Tryz.func13, Tryz.ntmps13
          go_wp2_with (first | (go_at_call 30; refine (beValid_any _ _ _ _).mono ?_; rintro e w1 ⟨rfl, b1⟩; have z1 := b1.size; obtain ⟨kb1_0, fb1_0, zb1_0, zab1_0, zbb1_0, zcb1_0, zdb1_0, zeb1_0⟩ := bk3 b1 (w.heap.size) (by first | omega | (simp; done) | (simp; omega)); obtain ⟨kb1_1, fb1_1, zb1_1, zab1_1, zbb1_1, zcb1_1, zdb1_1, zeb1_1⟩ := bk3 b1 (w.heap.size + 1) (by first | omega | (simp; done) | (simp; omega)); obtain ⟨kb1_2, fb1_2, zb1_2, zab1_2, zbb1_2, zcb1_2, zdb1_2, zeb1_2⟩ := bk3 b1 (w.heap.size + 1 + 1) (by first | omega | (simp; done) | (simp; omega)); rw [h2]) | (go_at_call 31; refine (beTime_any _ _).mono ?_; rintro e w' ⟨rfl, rfl⟩; rw [h3]))
          refine bodyPost_ret (v := .tuple #[.agg #[.int .i64 0, .int .i64 0], .int .i64 1]) (by simp [results, Tryz.results13, go_sem, *]) rfl ⟨rfl, ?_⟩
          ((repeat' (first | with_reducible exact Below.refl _ _ | with_reducible exact b1 | with_reducible refine Below.alloc ?_ ?_ _ | with_reducible refine Below.setCell ?_ ?_ _ | with_reducible refine Below.drew ?_ | with_reducible refine below_drewN ?_ _ | with_reducible refine Below.trans ?_ (b1.mono ?_))) <;> (first | omega | (simp; done) | (simp; omega)))
  | true =>
    have hk := h1
    unfold atOk at hk
    simp only [Bool.and_eq_true] at hk
    obtain ⟨h2, h3, h4⟩ := hk
    have hv2 := h2
    unfold beB at hv2
    simp only [Bool.and_eq_true, timeB_iff, validB_iff] at hv2
    obtain ⟨hv1, hv⟩ := hv2
    have ht := (timeB_iff t).1 h3
    have hr : 0 ≤ r ∧ r ≤ 1000000 := by simpa [inB] using h4
    by_cases h5 : t < a
    · have e1 : atEr a lo hi r t = 30 := by unfold atEr; rw [if_pos h1, if_pos h5]
      have e2 : atLo a lo hi r t = 0 := by unfold atLo; rw [e1]; rfl
      have e3 : atHi a lo hi r t = 0 := by unfold atHi; rw [e1]; rfl
      rw [e1, e2, e3]
      clear e1 e2 e3 h1
      go_enter Tryz.func13, Tryz.ntmps13
      go_wp2_with (first | (go_at_call 30; refine (beValid_any _ _ _ _).mono ?_; rintro e w1 ⟨rfl, b1⟩; have z1 := b1.size; obtain ⟨kb1_0, fb1_0, zb1_0, zab1_0, zbb1_0, zcb1_0, zdb1_0, zeb1_0⟩ := bk3 b1 (w.heap.size) (by first | omega | (simp; done) | (simp; omega)); obtain ⟨kb1_1, fb1_1, zb1_1, zab1_1, zbb1_1, zcb1_1, zdb1_1, zeb1_1⟩ := bk3 b1 (w.heap.size + 1) (by first | omega | (simp; done) | (simp; omega)); obtain ⟨kb1_2, fb1_2, zb1_2, zab1_2, zbb1_2, zcb1_2, zdb1_2, zeb1_2⟩ := bk3 b1 (w.heap.size + 1 + 1) (by first | omega | (simp; done) | (simp; omega)); rw [h2]) | (go_at_call 31; refine (beTime_any _ _).mono ?_; rintro e w' ⟨rfl, rfl⟩; rw [h3]))
      refine bodyPost_ret (v := .tuple #[.agg #[.int .i64 0, .int .i64 0], .int .i64 30]) (by simp [results, Tryz.results13, go_sem, *]) rfl ⟨rfl, ?_⟩
      ((repeat' (first | with_reducible exact Below.refl _ _ | with_reducible exact b1 | with_reducible refine Below.alloc ?_ ?_ _ | with_reducible refine Below.setCell ?_ ?_ _ | with_reducible refine Below.drew ?_ | with_reducible refine below_drewN ?_ _ | with_reducible refine Below.trans ?_ (b1.mono ?_))) <;> (first | omega | (simp; done) | (simp; omega)))
    · have hA := after_any a lo hi r (t - a) hv
      obtain ⟨hv3, hv4, hv5⟩ := hv
      cases h6 : elOk r (t - a) with
      | true =>
        have e1 : atEr a lo hi r t = 0 := by unfold atEr; rw [if_pos h1, if_neg h5, if_pos h6]
        have e2 : atLo a lo hi r t = mn (lo + elLo r (t - a)) 3000000000000000 := by unfold atLo; rw [e1]; rfl
        have e3 : atHi a lo hi r t = mn (hi + elHi r (t - a)) 3000000000000000 := by unfold atHi; rw [e1]; rfl
        rw [e1, e2, e3]
        rw [h6, if_pos rfl] at hA
        generalize mn (lo + elLo r (t - a)) 3000000000000000 = X at *
        generalize mn (hi + elHi r (t - a)) 3000000000000000 = Y at *
        clear e1 e2 e3 h1 h6
        go_enter Tryz.func13, Tryz.ntmps13
        go_wp2_with (first | (go_at_call 30; refine (beValid_any _ _ _ _).mono ?_; rintro e w1 ⟨rfl, b1⟩; have z1 := b1.size; obtain ⟨kb1_0, fb1_0, zb1_0, zab1_0, zbb1_0, zcb1_0, zdb1_0, zeb1_0⟩ := bk3 b1 (w.heap.size) (by first | omega | (simp; done) | (simp; omega)); obtain ⟨kb1_1, fb1_1, zb1_1, zab1_1, zbb1_1, zcb1_1, zdb1_1, zeb1_1⟩ := bk3 b1 (w.heap.size + 1) (by first | omega | (simp; done) | (simp; omega)); obtain ⟨kb1_2, fb1_2, zb1_2, zab1_2, zbb1_2, zcb1_2, zdb1_2, zeb1_2⟩ := bk3 b1 (w.heap.size + 1 + 1) (by first | omega | (simp; done) | (simp; omega)); rw [h2]) | (go_at_call 31; refine (beTime_any _ _).mono ?_; rintro e w' ⟨rfl, rfl⟩; rw [h3]) | (go_at_call 32; refine (hA _).mono ?_; rintro e w2 ⟨rfl, b2⟩; have z2 := b2.size; obtain ⟨kb2_0, fb2_0, zb2_0, zab2_0, zbb2_0, zcb2_0, zdb2_0, zeb2_0⟩ := bk3 b2 (w.heap.size + 1) (by first | omega | (simp; done) | (simp; omega))))
        refine bodyPost_ret (v := .tuple #[.agg #[.int .i64 X, .int .i64 Y], .int .i64 0]) (by simp [results, Tryz.results13, go_sem, *]) rfl ⟨rfl, ?_⟩
        ((repeat' (first | with_reducible exact Below.refl _ _ | with_reducible exact b2 | with_reducible exact b1 | with_reducible refine Below.alloc ?_ ?_ _ | with_reducible refine Below.setCell ?_ ?_ _ | with_reducible refine Below.drew ?_ | with_reducible refine below_drewN ?_ _ | with_reducible refine Below.trans ?_ (b2.mono ?_) | with_reducible refine Below.trans ?_ (b1.mono ?_))) <;> (first | omega | (simp; done) | (simp; omega)))
      | false =>
        have e1 : atEr a lo hi r t = 3 := by unfold atEr; rw [if_pos h1, if_neg h5, if_neg (by simp [h6])]
        have e2 : atLo a lo hi r t = 0 := by unfold atLo; rw [e1]; rfl
        have e3 : atHi a lo hi r t = 0 := by unfold atHi; rw [e1]; rfl
        rw [e1, e2, e3]
        rw [h6, if_neg (by simp)] at hA
        clear e1 e2 e3 h1 h6
        go_enter Tryz.func13, Tryz.ntmps13
        go_wp2_with (first | (go_at_call 30; refine (beValid_any _ _ _ _).mono ?_; rintro e w1 ⟨rfl, b1⟩; have z1 := b1.size; obtain ⟨kb1_0, fb1_0, zb1_0, zab1_0, zbb1_0, zcb1_0, zdb1_0, zeb1_0⟩ := bk3 b1 (w.heap.size) (by first | omega | (simp; done) | (simp; omega)); obtain ⟨kb1_1, fb1_1, zb1_1, zab1_1, zbb1_1, zcb1_1, zdb1_1, zeb1_1⟩ := bk3 b1 (w.heap.size + 1) (by first | omega | (simp; done) | (simp; omega)); obtain ⟨kb1_2, fb1_2, zb1_2, zab1_2, zbb1_2, zcb1_2, zdb1_2, zeb1_2⟩ := bk3 b1 (w.heap.size + 1 + 1) (by first | omega | (simp; done) | (simp; omega)); rw [h2]) | (go_at_call 31; refine (beTime_any _ _).mono ?_; rintro e w' ⟨rfl, rfl⟩; rw [h3]) | (go_at_call 32; refine (hA _).mono ?_; rintro e w2 ⟨rfl, b2⟩; have z2 := b2.size; obtain ⟨kb2_0, fb2_0, zb2_0, zab2_0, zbb2_0, zcb2_0, zdb2_0, zeb2_0⟩ := bk3 b2 (w.heap.size + 1) (by first | omega | (simp; done) | (simp; omega))))
        refine bodyPost_ret (v := .tuple #[.agg #[.int .i64 0, .int .i64 0], .int .i64 3]) (by simp [results, Tryz.results13, go_sem, *]) rfl ⟨rfl, ?_⟩
        ((repeat' (first | with_reducible exact Below.refl _ _ | with_reducible exact b2 | with_reducible exact b1 | with_reducible refine Below.alloc ?_ ?_ _ | with_reducible refine Below.setCell ?_ ?_ _ | with_reducible refine Below.drew ?_ | with_reducible refine below_drewN ?_ _ | with_reducible refine Below.trans ?_ (b2.mono ?_) | with_reducible refine Below.trans ?_ (b1.mono ?_))) <;> (first | omega | (simp; done) | (simp; omega)))
end Go.Proofs.YtbgfgpjgehkdjaaGreat
