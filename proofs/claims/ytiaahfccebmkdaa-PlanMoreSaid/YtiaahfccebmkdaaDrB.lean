/- Package scale's Floor and Ceil at the numbers that package drift has, and package drift: what each call returns. -/
import Derived.Test.YtiaahfccebmkdaaDrA
namespace Go.Proofs.Ytiaahfccebmkdaa
open Go.RowKit
attribute [local go_sem ↓] run_max_mx run_min_mn
theorem mx_neg (a : Int) (m : Nat) (h : a = m ∨ a = -(m : Int)) : mx a (-a) = m := by unfold mx; split <;> omega
/-- The numbers as naturals. -/
theorem dr_nat {a n d : Int} (h : DrIn a n d) : ∃ m n' d' : Nat, n = n' ∧ d = d' ∧ (0 ≤ a → a = m) ∧ (a < 0 → a = -(m : Int)) ∧ m ≤ 1000000000000001 ∧ n' ≤ 1001000000 ∧ 999000000 ≤ d' ∧ d' ≤ 1001000000 ∧ -1 ≤ a ∧ a ≤ 1000000000000001 := by
  obtain ⟨h1, h2, h3⟩ := h
  by_cases h0 : 0 ≤ a
  · exact ⟨a.toNat, n.toNat, d.toNat, by omega, by omega, by omega, by omega, by omega, by omega, by omega, by omega, by omega, by omega⟩
  · exact ⟨(-a).toNat, n.toNat, d.toNat, by omega, by omega, by omega, by omega, by omega, by omega, by omega, by omega, by omega, by omega⟩
set_option maxRecDepth 100000 in
set_option maxHeartbeats 1000000 in
theorem scFloor_any (a : Int) (m n d q r h l : Nat) (hm : mx a (-a) = m) (ha : -1 ≤ a ∧ a ≤ 1000000000000001) (hm' : m ≤ 1000000000000001) (hn : n ≤ 1001000000) (hq : QuoN m n d q r h l) (w : World) :
    Calls Try.prog 88 #[.int .i64 a, .int .i64 n, .int .i64 d, .func (.func 89) #[] #[]] w fun e w' =>
      e = .returned (.tuple #[.int .i64 (if a < 0 then (if 0 < r then -((q : Int) + 1) else -(q : Int)) else q), .int .i64 0]) ∧ Below w.heap.size w w' := by
  have hq1 := hq.2.2.2.1
  have hd1 := hq.2.2.2.2
  have t1 := tmB_yes (n := a) (by omega)
  have t2 := tmB_yes (n := (q : Int)) (by omega)
  have t3 := tmB_yes (n := -(q : Int)) (by omega)
  have t4 := tmB_yes (n := -((q : Int) + 1)) (by omega)
  have g1 : decide ((n : Int) < 0) = false := decide_eq_false (by omega)
  have g2 : decide ((2000000000 : Int) < n) = false := decide_eq_false (by omega)
  have g2' : decide (2000000000 < n) = false := decide_eq_false (by omega)
  have g3 : decide ((d : Int) < 1) = false := decide_eq_false (by omega)
  have g3' : decide (d < 1) = false := decide_eq_false (by omega)
  have g3'' : decide (d = 0) = false := decide_eq_false (by omega)
  have g4 : decide ((2000000000 : Int) < d) = false := decide_eq_false (by omega)
  have g4' : decide (2000000000 < d) = false := decide_eq_false (by omega)
  have Hq := hide hq
  have Hm := hide hm
  clear hq hm
  by_cases h0 : a < 0
  · have e0 : decide (a < 0) = true := decide_eq_true h0
    rw [if_pos h0]
    by_cases h1 : 0 < r
    · have e1 : decide (0 < r) = true := decide_eq_true h1
      rw [if_pos h1]
      go_enter Try.func88, Try.ntmps88
      go_wp2_with (first | (go_at_call 99; refine (scTime_any _ _).mono ?_; rintro e w' ⟨rfl, rfl⟩) | (go_at_call 100; refine (divide_any a m n d q r h l Hm.out ha hm' hn Hq.out _).mono ?_; rintro e w1 ⟨rfl, b1⟩; rw [e0]) | (go_at_call 89; refine (FloorUp_any q r d _ _).mono ?_; rintro e w2 ⟨rfl, b2⟩; rw [show (true && decide (0 < r)) = true by rw [e1]; rfl]; obtain ⟨kb2_0, fb2_0, zb2_0, zab2_0, zbb2_0, zcb2_0, zdb2_0, zeb2_0⟩ := bk3 b2 (w1.heap.size) (by first | omega | (simp; done) | (simp; omega))))
      go_ret2
      have z1 := b1.size
      exact ⟨rfl, (by ((repeat' (first | with_reducible exact Below.refl _ _ | with_reducible exact b1 | with_reducible exact b2 | with_reducible refine Below.alloc ?_ ?_ _ | with_reducible refine Below.setCell ?_ ?_ _ | with_reducible refine Below.drew ?_ | with_reducible refine below_drewN ?_ _ | with_reducible refine Below.trans ?_ (b1.mono ?_) | with_reducible refine Below.trans ?_ (b2.mono ?_))) <;> (first | omega | (simp; done) | (simp; omega))))⟩
    · have e1 : decide (0 < r) = false := decide_eq_false h1
      rw [if_neg h1]
      go_enter Try.func88, Try.ntmps88
      go_wp2_with (first | (go_at_call 99; refine (scTime_any _ _).mono ?_; rintro e w' ⟨rfl, rfl⟩) | (go_at_call 100; refine (divide_any a m n d q r h l Hm.out ha hm' hn Hq.out _).mono ?_; rintro e w1 ⟨rfl, b1⟩; rw [e0]) | (go_at_call 89; refine (FloorUp_any q r d _ _).mono ?_; rintro e w2 ⟨rfl, b2⟩; rw [show (true && decide (0 < r)) = false by rw [e1]; rfl]; obtain ⟨kb2_0, fb2_0, zb2_0, zab2_0, zbb2_0, zcb2_0, zdb2_0, zeb2_0⟩ := bk3 b2 (w1.heap.size) (by first | omega | (simp; done) | (simp; omega))))
      go_ret2
      have z1 := b1.size
      exact ⟨rfl, (by ((repeat' (first | with_reducible exact Below.refl _ _ | with_reducible exact b1 | with_reducible exact b2 | with_reducible refine Below.alloc ?_ ?_ _ | with_reducible refine Below.setCell ?_ ?_ _ | with_reducible refine Below.drew ?_ | with_reducible refine below_drewN ?_ _ | with_reducible refine Below.trans ?_ (b1.mono ?_) | with_reducible refine Below.trans ?_ (b2.mono ?_))) <;> (first | omega | (simp; done) | (simp; omega))))⟩
  · have e0 : decide (a < 0) = false := decide_eq_false h0
    rw [if_neg h0]
    go_enter Try.func88, Try.ntmps88
    go_wp2_with (first | (go_at_call 99; refine (scTime_any _ _).mono ?_; rintro e w' ⟨rfl, rfl⟩) | (go_at_call 100; refine (divide_any a m n d q r h l Hm.out ha hm' hn Hq.out _).mono ?_; rintro e w1 ⟨rfl, b1⟩; rw [e0]) | (go_at_call 89; refine (FloorUp_any q r d _ _).mono ?_; rintro e w2 ⟨rfl, b2⟩; rw [Bool.false_and]; obtain ⟨kb2_0, fb2_0, zb2_0, zab2_0, zbb2_0, zcb2_0, zdb2_0, zeb2_0⟩ := bk3 b2 (w1.heap.size) (by first | omega | (simp; done) | (simp; omega))))
    go_ret2
    have z1 := b1.size
    exact ⟨rfl, (by ((repeat' (first | with_reducible exact Below.refl _ _ | with_reducible exact b1 | with_reducible exact b2 | with_reducible refine Below.alloc ?_ ?_ _ | with_reducible refine Below.setCell ?_ ?_ _ | with_reducible refine Below.drew ?_ | with_reducible refine below_drewN ?_ _ | with_reducible refine Below.trans ?_ (b1.mono ?_) | with_reducible refine Below.trans ?_ (b2.mono ?_))) <;> (first | omega | (simp; done) | (simp; omega))))⟩
set_option maxRecDepth 100000 in
set_option maxHeartbeats 1000000 in
theorem scCeil_any (a : Int) (m n d q r h l : Nat) (hm : mx a (-a) = m) (ha : -1 ≤ a ∧ a ≤ 1000000000000001) (hm' : m ≤ 1000000000000001) (hn : n ≤ 1001000000) (hq : QuoN m n d q r h l) (w : World) :
    Calls Try.prog 88 #[.int .i64 a, .int .i64 n, .int .i64 d, .func (.func 90) #[] #[]] w fun e w' =>
      e = .returned (.tuple #[.int .i64 (if a < 0 then -(q : Int) else (if 0 < r then (q : Int) + 1 else q)), .int .i64 0]) ∧ Below w.heap.size w w' := by
  have hq1 := hq.2.2.2.1
  have hd1 := hq.2.2.2.2
  have t1 := tmB_yes (n := a) (by omega)
  have t2 := tmB_yes (n := (q : Int)) (by omega)
  have t3 := tmB_yes (n := -(q : Int)) (by omega)
  have t4 := tmB_yes (n := (q : Int) + 1) (by omega)
  have g1 : decide ((n : Int) < 0) = false := decide_eq_false (by omega)
  have g2 : decide ((2000000000 : Int) < n) = false := decide_eq_false (by omega)
  have g2' : decide (2000000000 < n) = false := decide_eq_false (by omega)
  have g3 : decide ((d : Int) < 1) = false := decide_eq_false (by omega)
  have g3' : decide (d < 1) = false := decide_eq_false (by omega)
  have g3'' : decide (d = 0) = false := decide_eq_false (by omega)
  have g4 : decide ((2000000000 : Int) < d) = false := decide_eq_false (by omega)
  have g4' : decide (2000000000 < d) = false := decide_eq_false (by omega)
  have Hq := hide hq
  have Hm := hide hm
  clear hq hm
  by_cases h0 : a < 0
  · have e0 : decide (a < 0) = true := decide_eq_true h0
    rw [if_pos h0]
    go_enter Try.func88, Try.ntmps88
    go_wp2_with (first | (go_at_call 99; refine (scTime_any _ _).mono ?_; rintro e w' ⟨rfl, rfl⟩) | (go_at_call 100; refine (divide_any a m n d q r h l Hm.out ha hm' hn Hq.out _).mono ?_; rintro e w1 ⟨rfl, b1⟩; rw [e0]) | (go_at_call 90; refine (CeilUp_any q r d _ _).mono ?_; rintro e w2 ⟨rfl, b2⟩; rw [Bool.not_true, Bool.false_and]; obtain ⟨kb2_0, fb2_0, zb2_0, zab2_0, zbb2_0, zcb2_0, zdb2_0, zeb2_0⟩ := bk3 b2 (w1.heap.size) (by first | omega | (simp; done) | (simp; omega))))
    go_ret2
    have z1 := b1.size
    exact ⟨rfl, (by ((repeat' (first | with_reducible exact Below.refl _ _ | with_reducible exact b1 | with_reducible exact b2 | with_reducible refine Below.alloc ?_ ?_ _ | with_reducible refine Below.setCell ?_ ?_ _ | with_reducible refine Below.drew ?_ | with_reducible refine below_drewN ?_ _ | with_reducible refine Below.trans ?_ (b1.mono ?_) | with_reducible refine Below.trans ?_ (b2.mono ?_))) <;> (first | omega | (simp; done) | (simp; omega))))⟩
  · have e0 : decide (a < 0) = false := decide_eq_false h0
    rw [if_neg h0]
    by_cases h1 : 0 < r
    · have e1 : decide (0 < r) = true := decide_eq_true h1
      rw [if_pos h1]
      go_enter Try.func88, Try.ntmps88
      go_wp2_with (first | (go_at_call 99; refine (scTime_any _ _).mono ?_; rintro e w' ⟨rfl, rfl⟩) | (go_at_call 100; refine (divide_any a m n d q r h l Hm.out ha hm' hn Hq.out _).mono ?_; rintro e w1 ⟨rfl, b1⟩; rw [e0]) | (go_at_call 90; refine (CeilUp_any q r d _ _).mono ?_; rintro e w2 ⟨rfl, b2⟩; rw [show (!false && decide (0 < r)) = true by rw [e1]; rfl]; obtain ⟨kb2_0, fb2_0, zb2_0, zab2_0, zbb2_0, zcb2_0, zdb2_0, zeb2_0⟩ := bk3 b2 (w1.heap.size) (by first | omega | (simp; done) | (simp; omega))))
      go_ret2
      have z1 := b1.size
      exact ⟨rfl, (by ((repeat' (first | with_reducible exact Below.refl _ _ | with_reducible exact b1 | with_reducible exact b2 | with_reducible refine Below.alloc ?_ ?_ _ | with_reducible refine Below.setCell ?_ ?_ _ | with_reducible refine Below.drew ?_ | with_reducible refine below_drewN ?_ _ | with_reducible refine Below.trans ?_ (b1.mono ?_) | with_reducible refine Below.trans ?_ (b2.mono ?_))) <;> (first | omega | (simp; done) | (simp; omega))))⟩
    · have e1 : decide (0 < r) = false := decide_eq_false h1
      rw [if_neg h1]
      go_enter Try.func88, Try.ntmps88
      go_wp2_with (first | (go_at_call 99; refine (scTime_any _ _).mono ?_; rintro e w' ⟨rfl, rfl⟩) | (go_at_call 100; refine (divide_any a m n d q r h l Hm.out ha hm' hn Hq.out _).mono ?_; rintro e w1 ⟨rfl, b1⟩; rw [e0]) | (go_at_call 90; refine (CeilUp_any q r d _ _).mono ?_; rintro e w2 ⟨rfl, b2⟩; rw [show (!false && decide (0 < r)) = false by rw [e1]; rfl]; obtain ⟨kb2_0, fb2_0, zb2_0, zab2_0, zbb2_0, zcb2_0, zdb2_0, zeb2_0⟩ := bk3 b2 (w1.heap.size) (by first | omega | (simp; done) | (simp; omega))))
      go_ret2
      have z1 := b1.size
      exact ⟨rfl, (by ((repeat' (first | with_reducible exact Below.refl _ _ | with_reducible exact b1 | with_reducible exact b2 | with_reducible refine Below.alloc ?_ ?_ _ | with_reducible refine Below.setCell ?_ ?_ _ | with_reducible refine Below.drew ?_ | with_reducible refine below_drewN ?_ _ | with_reducible refine Below.trans ?_ (b1.mono ?_) | with_reducible refine Below.trans ?_ (b2.mono ?_))) <;> (first | omega | (simp; done) | (simp; omega))))⟩
theorem nat_div (m n d : Nat) : ((m * n / d : Nat) : Int) = (m : Int) * n / d := by rw [Int.natCast_ediv, Int.natCast_mul]
theorem nat_mod (m n d : Nat) : ((m * n % d : Nat) : Int) = (m : Int) * n % d := by rw [Int.natCast_emod, Int.natCast_mul]
set_option maxRecDepth 100000 in
set_option maxHeartbeats 1000000 in
theorem Floor_any (a n d : Int) (hin : DrIn a n d) (w : World) : Calls Try.prog 74 #[.int .i64 a, .int .i64 n, .int .i64 d] w fun e w' => e = .returned (.tuple #[.int .i64 (a * n / d), .int .i64 0]) ∧ Below w.heap.size w w' := by
  obtain ⟨m, n', d', rfl, rfl, h1, h2, h3, h4, h5, h6, h7, h8⟩ := dr_nat hin
  obtain ⟨h, l, hq⟩ := quo_mk h3 h4 h5 h6
  have e : a * n' / d' = if a < 0 then (if 0 < m * n' % d' then -(((m * n' / d' : Nat) : Int) + 1) else -((m * n' / d' : Nat) : Int)) else ((m * n' / d' : Nat) : Int) := by
    have hf := flo_abs (a := a) (n := n') (d := d') (by omega) (by omega)
    by_cases h0 : a < 0
    · rw [if_pos h0, hf.2 h0, h2 h0, Int.neg_neg, nat_div, ← nat_mod]
      by_cases h9 : 0 < m * n' % d'
      · rw [if_pos h9, if_pos (by omega)]
      · rw [if_neg h9, if_neg (by omega)]
    · rw [if_neg h0, h1 (by omega), nat_div]
  obtain ⟨x, hx⟩ : ∃ x : Int, x = a * n' / d' := ⟨_, rfl⟩
  rw [← hx]
  rw [e] at hx
  clear e
  have hm := mx_neg a m (by omega)
  generalize m * n' / d' = q at *
  generalize m * n' % d' = r at *
  have Hx := hide hx
  clear hx h1 h2 hin
  go_enter Try.func74, Try.ntmps74
  go_wp2_with (go_at_call 88; refine (scFloor_any a m n' d' q r h l hm ⟨h7, h8⟩ h3 h4 hq _).mono ?_; rintro e w1 ⟨rfl, b1⟩; rw [← Hx.out])
  go_ret2
  exact ⟨rfl, b1⟩
set_option maxRecDepth 100000 in
set_option maxHeartbeats 1000000 in
theorem Ceil_any (a n d : Int) (hin : DrIn a n d) (w : World) : Calls Try.prog 75 #[.int .i64 a, .int .i64 n, .int .i64 d] w fun e w' => e = .returned (.tuple #[.int .i64 (cei (a * n) d), .int .i64 0]) ∧ Below w.heap.size w w' := by
  obtain ⟨m, n', d', rfl, rfl, h1, h2, h3, h4, h5, h6, h7, h8⟩ := dr_nat hin
  obtain ⟨h, l, hq⟩ := quo_mk h3 h4 h5 h6
  have e : cei (a * n') d' = if a < 0 then -((m * n' / d' : Nat) : Int) else (if 0 < m * n' % d' then ((m * n' / d' : Nat) : Int) + 1 else ((m * n' / d' : Nat) : Int)) := by
    have hf := cei_abs (a := a) (n := n') (d := d') (by omega) (by omega)
    by_cases h0 : a < 0
    · rw [if_pos h0, hf.2 h0, h2 h0, Int.neg_neg, nat_div]
    · rw [if_neg h0, hf.1 (by omega), h1 (by omega), nat_div, ← nat_mod]
      by_cases h9 : 0 < m * n' % d'
      · rw [if_pos h9, if_pos (by omega)]
      · rw [if_neg h9, if_neg (by omega)]
  obtain ⟨x, hx⟩ : ∃ x : Int, x = cei (a * n') d' := ⟨_, rfl⟩
  rw [← hx]
  rw [e] at hx
  clear e
  have hm := mx_neg a m (by omega)
  generalize m * n' / d' = q at *
  generalize m * n' % d' = r at *
  have Hx := hide hx
  clear hx h1 h2 hin
  go_enter Try.func75, Try.ntmps75
  go_wp2_with (go_at_call 88; refine (scCeil_any a m n' d' q r h l hm ⟨h7, h8⟩ h3 h4 hq _).mono ?_; rintro e w1 ⟨rfl, b1⟩; rw [← Hx.out])
  go_ret2
  exact ⟨rfl, b1⟩
end Go.Proofs.Ytiaahfccebmkdaa
