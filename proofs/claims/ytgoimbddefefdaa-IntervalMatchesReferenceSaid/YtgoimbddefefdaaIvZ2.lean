/- IntervalMatchesReference: for every list, two intervals and four numbers the statement answers true and leaves its arguments as they were. No condition. -/
import Derived.Test.YtgoimbddefefdaaIvL
import Derived.Test.YtgoimbddefefdaaFr
namespace Go.Proofs.Ytgoimbddefefdaa
open Go.RowKit
theorem ivEq_self (a b : Int) : ivEq a b a b = true := by simp [ivEq]
attribute [local go_sem ↓] run_max_mx run_min_mn run_eql_iv run_neq_iv
attribute [local go_sem] ivEq_self
set_option maxRecDepth 100000 in
set_option maxHeartbeats 2000000 in
theorem Matches_any (w : World) (v : Value) (l : List Iv) (hv : IvRow w v l) (a1 a2 b1 b2 lf rt x need : Int) :
    Calls Try.prog 3 #[v, .agg #[.int .i64 a1, .int .i64 a2], .agg #[.int .i64 b1, .int .i64 b2], .int .i64 lf, .int .i64 rt, .int .i64 x, .int .i64 need] w fun e w' => e = .returned (.bool true) ∧ Below w.heap.size w w' := by
  have hv' := hv
  obtain ⟨a, cap, rfl, h1, h2, h3⟩ := hv
  clear h3
  by_cases hf : decide (l.length ≤ 70) = true
  case neg =>
    have hf' : decide (l.length ≤ 70) = false := by simpa using hf
    clear hf
    go_enter Try.func3, Try.ntmps3
    go_wp2_with fail
    refine (head_any _).mono ?_
    rintro e w1 ⟨rfl, hb1⟩
    obtain ⟨khb1_0, fhb1_0, zhb1_0, zahb1_0, zbhb1_0, zchb1_0, zdhb1_0, zehb1_0⟩ := bk3 hb1 (w.heap.size) (by first | omega | (simp; done) | (simp; omega)); obtain ⟨khb1_1, fhb1_1, zhb1_1, zahb1_1, zbhb1_1, zchb1_1, zdhb1_1, zehb1_1⟩ := bk3 hb1 (w.heap.size + 1) (by first | omega | (simp; done) | (simp; omega))
    have hB1 : Below w.heap.size w w1 := (by ((repeat' (first | exact Below.refl _ _ | exact hb1 | refine Below.alloc ?_ ?_ _ | refine Below.setCell ?_ ?_ _ | refine Below.drew ?_ | refine below_drewN ?_ _ | refine Below.trans ?_ (hb1.mono ?_))) <;> (first | omega | (simp; done) | (simp; omega))))
    go_wp2_with (go_at_call 11; refine (few_any _ l _ (hv'.below (Nat.le_refl _) hB1)).mono ?_; rintro e w' ⟨rfl, rfl⟩)
    go_ret
    exact ⟨rfl, (by ((repeat' (first | exact Below.refl _ _ | exact hB1 | refine Below.alloc ?_ ?_ _ | refine Below.setCell ?_ ?_ _ | refine Below.drew ?_ | refine below_drewN ?_ _ | refine Below.trans ?_ (hB1.mono ?_))) <;> (first | omega | (simp; done) | (simp; omega))))⟩
  go_enter Try.func3, Try.ntmps3
  go_wp2_with fail
  refine (head_any _).mono ?_
  rintro e w1 ⟨rfl, hb1⟩
  obtain ⟨khb1_0, fhb1_0, zhb1_0, zahb1_0, zbhb1_0, zchb1_0, zdhb1_0, zehb1_0⟩ := bk3 hb1 (w.heap.size) (by first | omega | (simp; done) | (simp; omega)); obtain ⟨khb1_1, fhb1_1, zhb1_1, zahb1_1, zbhb1_1, zchb1_1, zdhb1_1, zehb1_1⟩ := bk3 hb1 (w.heap.size + 1) (by first | omega | (simp; done) | (simp; omega))
  have hB1 : Below w.heap.size w w1 := (by ((repeat' (first | exact Below.refl _ _ | exact hb1 | refine Below.alloc ?_ ?_ _ | refine Below.setCell ?_ ?_ _ | refine Below.drew ?_ | refine below_drewN ?_ _ | refine Below.trans ?_ (hb1.mono ?_))) <;> (first | omega | (simp; done) | (simp; omega))))
  go_wp2_with (go_at_call 11; refine (few_any _ l _ (hv'.below (Nat.le_refl _) hB1)).mono ?_; rintro e w' ⟨rfl, rfl⟩)
  refine (Meet_any _ _ _ _ _).mono ?_
  rintro e w2 ⟨rfl, hb2⟩
  obtain ⟨khb2_0, fhb2_0, zhb2_0, zahb2_0, zbhb2_0, zchb2_0, zdhb2_0, zehb2_0⟩ := bk3 hb2 (w.heap.size) (by first | omega | (simp; done) | (simp; omega)); obtain ⟨khb2_1, fhb2_1, zhb2_1, zahb2_1, zbhb2_1, zchb2_1, zdhb2_1, zehb2_1⟩ := bk3 hb2 (w.heap.size + 1) (by first | omega | (simp; done) | (simp; omega))
  have hB2 : Below w.heap.size w w2 := (by ((repeat' (first | exact Below.refl _ _ | exact hB1 | exact hb2 | refine Below.alloc ?_ ?_ _ | refine Below.setCell ?_ ?_ _ | refine Below.drew ?_ | refine below_drewN ?_ _ | refine Below.trans ?_ (hB1.mono ?_) | refine Below.trans ?_ (hb2.mono ?_))) <;> (first | omega | (simp; done) | (simp; omega))))
  go_wp2_with fail
  refine (RMeet_any _ _ _ _ _).mono ?_
  rintro e w3 ⟨rfl, hb3⟩
  obtain ⟨khb3_0, fhb3_0, zhb3_0, zahb3_0, zbhb3_0, zchb3_0, zdhb3_0, zehb3_0⟩ := bk3 hb3 (w.heap.size) (by first | omega | (simp; done) | (simp; omega)); obtain ⟨khb3_1, fhb3_1, zhb3_1, zahb3_1, zbhb3_1, zchb3_1, zdhb3_1, zehb3_1⟩ := bk3 hb3 (w.heap.size + 1) (by first | omega | (simp; done) | (simp; omega)); obtain ⟨khb3_2, fhb3_2, zhb3_2, zahb3_2, zbhb3_2, zchb3_2, zdhb3_2, zehb3_2⟩ := bk3 hb3 (w2.heap.size) (by first | omega | (simp; done) | (simp; omega))
  have hB3 : Below w.heap.size w w3 := (by ((repeat' (first | exact Below.refl _ _ | exact hB2 | exact hb3 | refine Below.alloc ?_ ?_ _ | refine Below.setCell ?_ ?_ _ | refine Below.drew ?_ | refine below_drewN ?_ _ | refine Below.trans ?_ (hB2.mono ?_) | refine Below.trans ?_ (hb3.mono ?_))) <;> (first | omega | (simp; done) | (simp; omega))))
  have n1 : ¬ (w3.heap.size = w2.heap.size) := by omega
  have n2 : ¬ (w2.heap.size = w3.heap.size) := by omega
  have n3 : ¬ (w3.heap.size = w.heap.size) := by omega
  have n4 : ¬ (w2.heap.size = w.heap.size) := by omega
  have n5 : ¬ (w3.heap.size = w.heap.size + 1) := by omega
  have n6 : ¬ (w2.heap.size = w.heap.size + 1) := by omega
  go_wp2_with fail
  have x1 := ivEq_self (meetLo a1 a2 b1 b2) (meetHi a1 a2 b1 b2)
  have x2 : (w3.alloc (.cells #[.int .i64 (meetLo a1 a2 b1 b2), .int .i64 (meetHi a1 a2 b1 b2)] 24)).cell? ⟨w.heap.size, 0, none⟩ = some (.int .i64 a1) := by simp [go_sem, *]
  have x3 : (w3.alloc (.cells #[.int .i64 (meetLo a1 a2 b1 b2), .int .i64 (meetHi a1 a2 b1 b2)] 24)).cell? ⟨w.heap.size, 1, none⟩ = some (.int .i64 a2) := by simp [go_sem, *]
  have x4 : (w3.alloc (.cells #[.int .i64 (meetLo a1 a2 b1 b2), .int .i64 (meetHi a1 a2 b1 b2)] 24)).cell? ⟨w2.heap.size, 0, none⟩ = some (.int .i64 (meetLo a1 a2 b1 b2)) := by simp [go_sem, *]
  have x5 : (w3.alloc (.cells #[.int .i64 (meetLo a1 a2 b1 b2), .int .i64 (meetHi a1 a2 b1 b2)] 24)).cell? ⟨w2.heap.size, 1, none⟩ = some (.int .i64 (meetHi a1 a2 b1 b2)) := by simp [go_sem, *]
  have x6 : (w3.alloc (.cells #[.int .i64 (meetLo a1 a2 b1 b2), .int .i64 (meetHi a1 a2 b1 b2)] 24)).cell? ⟨w3.heap.size, 0, none⟩ = some (.int .i64 (meetLo a1 a2 b1 b2)) := by simp [go_sem]
  have x7 : (w3.alloc (.cells #[.int .i64 (meetLo a1 a2 b1 b2), .int .i64 (meetHi a1 a2 b1 b2)] 24)).cell? ⟨w3.heap.size, 1, none⟩ = some (.int .i64 (meetHi a1 a2 b1 b2)) := by simp [go_sem]
  go_region_held3 (fun w' => w'.cell? ⟨w.heap.size, 0, none⟩ = some (.int .i64 a1) ∧ w'.cell? ⟨w.heap.size, 1, none⟩ = some (.int .i64 a2) ∧ w'.cell? ⟨w2.heap.size, 0, none⟩ = some (.int .i64 (meetLo a1 a2 b1 b2)) ∧ w'.cell? ⟨w2.heap.size, 1, none⟩ = some (.int .i64 (meetHi a1 a2 b1 b2)) ∧
      w'.cell? ⟨w3.heap.size, 0, none⟩ = some (.int .i64 (meetLo a1 a2 b1 b2)) ∧ w'.cell? ⟨w3.heap.size, 1, none⟩ = some (.int .i64 (meetHi a1 a2 b1 b2))) (go_keep)
    (first | (go_at_call 14; refine (Valid_any _ _ _).mono ?_; rintro e w' ⟨rfl, rfl⟩) | (go_at_call 15; refine (RValid_any _ _ _).mono ?_; rintro e w' ⟨rfl, rfl⟩))
  clear x1 x2 x3 x4 x5 x6 x7
  go_wp2_with fail
  refine (Hull_any _ l _ (hv'.below (Nat.le_refl _) (by ((repeat' (first | exact Below.refl _ _ | exact hB3 | refine Below.alloc ?_ ?_ _ | refine Below.setCell ?_ ?_ _ | refine Below.drew ?_ | refine below_drewN ?_ _ | refine Below.trans ?_ (hB3.mono ?_))) <;> (first | omega | (simp; done) | (simp; omega)))))).mono ?_
  rintro e w4 ⟨rfl, hb4⟩
  obtain ⟨khb4_0, fhb4_0, zhb4_0, zahb4_0, zbhb4_0, zchb4_0, zdhb4_0, zehb4_0⟩ := bk3 hb4 (w.heap.size) (by first | omega | (simp; done) | (simp; omega)); obtain ⟨khb4_1, fhb4_1, zhb4_1, zahb4_1, zbhb4_1, zchb4_1, zdhb4_1, zehb4_1⟩ := bk3 hb4 (w.heap.size + 1) (by first | omega | (simp; done) | (simp; omega)); obtain ⟨khb4_2, fhb4_2, zhb4_2, zahb4_2, zbhb4_2, zchb4_2, zdhb4_2, zehb4_2⟩ := bk3 hb4 (w2.heap.size) (by first | omega | (simp; done) | (simp; omega)); obtain ⟨khb4_3, fhb4_3, zhb4_3, zahb4_3, zbhb4_3, zchb4_3, zdhb4_3, zehb4_3⟩ := bk3 hb4 (w3.heap.size) (by first | omega | (simp; done) | (simp; omega))
  have hB4 : Below w.heap.size w w4 := (by ((repeat' (first | exact Below.refl _ _ | exact hB3 | exact hb4 | refine Below.alloc ?_ ?_ _ | refine Below.setCell ?_ ?_ _ | refine Below.drew ?_ | refine below_drewN ?_ _ | refine Below.trans ?_ (hB3.mono ?_) | refine Below.trans ?_ (hb4.mono ?_))) <;> (first | omega | (simp; done) | (simp; omega))))
  go_wp2_with fail
  refine (RHull_any _ l _ (hv'.below (Nat.le_refl _) (by ((repeat' (first | exact Below.refl _ _ | exact hB4 | refine Below.alloc ?_ ?_ _ | refine Below.setCell ?_ ?_ _ | refine Below.drew ?_ | refine below_drewN ?_ _ | refine Below.trans ?_ (hB4.mono ?_))) <;> (first | omega | (simp; done) | (simp; omega)))))).mono ?_
  rintro e w5 ⟨rfl, hb5⟩
  obtain ⟨khb5_0, fhb5_0, zhb5_0, zahb5_0, zbhb5_0, zchb5_0, zdhb5_0, zehb5_0⟩ := bk3 hb5 (w.heap.size) (by first | omega | (simp; done) | (simp; omega)); obtain ⟨khb5_1, fhb5_1, zhb5_1, zahb5_1, zbhb5_1, zchb5_1, zdhb5_1, zehb5_1⟩ := bk3 hb5 (w.heap.size + 1) (by first | omega | (simp; done) | (simp; omega)); obtain ⟨khb5_2, fhb5_2, zhb5_2, zahb5_2, zbhb5_2, zchb5_2, zdhb5_2, zehb5_2⟩ := bk3 hb5 (w2.heap.size) (by first | omega | (simp; done) | (simp; omega)); obtain ⟨khb5_3, fhb5_3, zhb5_3, zahb5_3, zbhb5_3, zchb5_3, zdhb5_3, zehb5_3⟩ := bk3 hb5 (w3.heap.size) (by first | omega | (simp; done) | (simp; omega))
  have hB5 : Below w.heap.size w w5 := (by ((repeat' (first | exact Below.refl _ _ | exact hB4 | exact hb5 | refine Below.alloc ?_ ?_ _ | refine Below.setCell ?_ ?_ _ | refine Below.drew ?_ | refine below_drewN ?_ _ | refine Below.trans ?_ (hB4.mono ?_) | refine Below.trans ?_ (hb5.mono ?_))) <;> (first | omega | (simp; done) | (simp; omega))))
  have y0 : w5.cell? ⟨w2.heap.size, 0, none⟩ = some (.int .i64 (hullLo l)) := by simp [go_sem, *]
  have y1 : w5.cell? ⟨w2.heap.size, 1, none⟩ = some (.int .i64 (hullHi l)) := by simp [go_sem, *]
  have y2 : w5.cell? ⟨w3.heap.size, 0, none⟩ = some (.int .i64 (meetLo a1 a2 b1 b2)) := by simp [go_sem, *]
  have y3 : w5.cell? ⟨w3.heap.size, 1, none⟩ = some (.int .i64 (meetHi a1 a2 b1 b2)) := by simp [go_sem, *]
  clear khb4_2 khb4_3 khb5_2 khb5_3 khb3_2
  go_wp2_with fail
  refine (Grow_any _ _ _ _ _).mono ?_
  rintro e w6 ⟨rfl, hb6⟩
  obtain ⟨khb6_0, fhb6_0, zhb6_0, zahb6_0, zbhb6_0, zchb6_0, zdhb6_0, zehb6_0⟩ := bk3 hb6 (w.heap.size) (by first | omega | (simp; done) | (simp; omega)); obtain ⟨khb6_1, fhb6_1, zhb6_1, zahb6_1, zbhb6_1, zchb6_1, zdhb6_1, zehb6_1⟩ := bk3 hb6 (w.heap.size + 1) (by first | omega | (simp; done) | (simp; omega)); obtain ⟨khb6_2, fhb6_2, zhb6_2, zahb6_2, zbhb6_2, zchb6_2, zdhb6_2, zehb6_2⟩ := bk3 hb6 (w2.heap.size) (by first | omega | (simp; done) | (simp; omega)); obtain ⟨khb6_3, fhb6_3, zhb6_3, zahb6_3, zbhb6_3, zchb6_3, zdhb6_3, zehb6_3⟩ := bk3 hb6 (w3.heap.size) (by first | omega | (simp; done) | (simp; omega))
  have hB6 : Below w.heap.size w w6 := (by ((repeat' (first | exact Below.refl _ _ | exact hB5 | exact hb6 | refine Below.alloc ?_ ?_ _ | refine Below.setCell ?_ ?_ _ | refine Below.drew ?_ | refine below_drewN ?_ _ | refine Below.trans ?_ (hB5.mono ?_) | refine Below.trans ?_ (hb6.mono ?_))) <;> (first | omega | (simp; done) | (simp; omega))))
  go_wp2_with fail
  refine (RGrow_any _ _ _ _ _).mono ?_
  rintro e w7 ⟨rfl, hb7⟩
  obtain ⟨khb7_0, fhb7_0, zhb7_0, zahb7_0, zbhb7_0, zchb7_0, zdhb7_0, zehb7_0⟩ := bk3 hb7 (w.heap.size) (by first | omega | (simp; done) | (simp; omega)); obtain ⟨khb7_1, fhb7_1, zhb7_1, zahb7_1, zbhb7_1, zchb7_1, zdhb7_1, zehb7_1⟩ := bk3 hb7 (w.heap.size + 1) (by first | omega | (simp; done) | (simp; omega)); obtain ⟨khb7_2, fhb7_2, zhb7_2, zahb7_2, zbhb7_2, zchb7_2, zdhb7_2, zehb7_2⟩ := bk3 hb7 (w2.heap.size) (by first | omega | (simp; done) | (simp; omega)); obtain ⟨khb7_3, fhb7_3, zhb7_3, zahb7_3, zbhb7_3, zchb7_3, zdhb7_3, zehb7_3⟩ := bk3 hb7 (w3.heap.size) (by first | omega | (simp; done) | (simp; omega))
  have hB7 : Below w.heap.size w w7 := (by ((repeat' (first | exact Below.refl _ _ | exact hB6 | exact hb7 | refine Below.alloc ?_ ?_ _ | refine Below.setCell ?_ ?_ _ | refine Below.drew ?_ | refine below_drewN ?_ _ | refine Below.trans ?_ (hB6.mono ?_) | refine Below.trans ?_ (hb7.mono ?_))) <;> (first | omega | (simp; done) | (simp; omega))))
  have u0 : w7.cell? ⟨w2.heap.size, 0, none⟩ = some (.int .i64 (growLo a1 a2 lf rt)) := by simp [go_sem, *]
  have u1 : w7.cell? ⟨w2.heap.size, 1, none⟩ = some (.int .i64 (growHi a1 a2 lf rt)) := by simp [go_sem, *]
  have u2 : w7.cell? ⟨w3.heap.size, 0, none⟩ = some (.int .i64 (hullLo l)) := by simp [go_sem, *]
  have u3 : w7.cell? ⟨w3.heap.size, 1, none⟩ = some (.int .i64 (hullHi l)) := by simp [go_sem, *]
  clear khb6_2 khb7_2 khb6_3 khb7_3
  go_wp2_with fail
  refine (Depth_any _ l _ _ (hv'.below (Nat.le_refl _) (by ((repeat' (first | exact Below.refl _ _ | exact hB7 | refine Below.alloc ?_ ?_ _ | refine Below.setCell ?_ ?_ _ | refine Below.drew ?_ | refine below_drewN ?_ _ | refine Below.trans ?_ (hB7.mono ?_))) <;> (first | omega | (simp; done) | (simp; omega)))))).mono ?_
  rintro e w8 ⟨rfl, hb8⟩
  have hB8 : Below w.heap.size w w8 := (by ((repeat' (first | exact Below.refl _ _ | exact hB7 | exact hb8 | refine Below.alloc ?_ ?_ _ | refine Below.setCell ?_ ?_ _ | refine Below.drew ?_ | refine below_drewN ?_ _ | refine Below.trans ?_ (hB7.mono ?_) | refine Below.trans ?_ (hb8.mono ?_))) <;> (first | omega | (simp; done) | (simp; omega))))
  have hz8 := hB8.size
  go_wp2_with fail
  refine (RDepth_any _ l _ _ (hv'.below (Nat.le_refl _) (by ((repeat' (first | exact Below.refl _ _ | exact hB8 | refine Below.alloc ?_ ?_ _ | refine Below.setCell ?_ ?_ _ | refine Below.drew ?_ | refine below_drewN ?_ _ | refine Below.trans ?_ (hB8.mono ?_))) <;> (first | omega | (simp; done) | (simp; omega)))))).mono ?_
  rintro e w9 ⟨rfl, hb9⟩
  have hB9 : Below w.heap.size w w9 := (by ((repeat' (first | exact Below.refl _ _ | exact hB8 | exact hb9 | refine Below.alloc ?_ ?_ _ | refine Below.setCell ?_ ?_ _ | refine Below.drew ?_ | refine below_drewN ?_ _ | refine Below.trans ?_ (hB8.mono ?_) | refine Below.trans ?_ (hb9.mono ?_))) <;> (first | omega | (simp; done) | (simp; omega))))
  have hz9 := hB9.size
  go_wp2_with fail
  refine (Cover_any _ l _ _ (hv'.below (Nat.le_refl _) (by ((repeat' (first | exact Below.refl _ _ | exact hB9 | refine Below.alloc ?_ ?_ _ | refine Below.setCell ?_ ?_ _ | refine Below.drew ?_ | refine below_drewN ?_ _ | refine Below.trans ?_ (hB9.mono ?_))) <;> (first | omega | (simp; done) | (simp; omega)))))).mono ?_
  rintro e w10 ⟨v1, c1, rfl, ho1, hc1, hb10⟩
  have hB10 : Below w.heap.size w w10 := (by ((repeat' (first | exact Below.refl _ _ | exact hB9 | exact hb10 | refine Below.alloc ?_ ?_ _ | refine Below.setCell ?_ ?_ _ | refine Below.drew ?_ | refine below_drewN ?_ _ | refine Below.trans ?_ (hB9.mono ?_) | refine Below.trans ?_ (hb10.mono ?_))) <;> (first | omega | (simp; done) | (simp; omega))))
  have hz10 := hB10.size
  go_wp2_with fail
  refine (RCover_any _ l _ _ (hv'.below (Nat.le_refl _) (by ((repeat' (first | exact Below.refl _ _ | exact hB10 | refine Below.alloc ?_ ?_ _ | refine Below.setCell ?_ ?_ _ | refine Below.drew ?_ | refine below_drewN ?_ _ | refine Below.trans ?_ (hB10.mono ?_))) <;> (first | omega | (simp; done) | (simp; omega)))))).mono ?_
  rintro e w11 ⟨v2, c2, rfl, ho2, hc2, hb11⟩
  obtain rfl := hc1.unique hc2
  have hB11 : Below w.heap.size w w11 := (by ((repeat' (first | exact Below.refl _ _ | exact hB10 | exact hb11 | refine Below.alloc ?_ ?_ _ | refine Below.setCell ?_ ?_ _ | refine Below.drew ?_ | refine below_drewN ?_ _ | refine Below.trans ?_ (hB10.mono ?_) | refine Below.trans ?_ (hb11.mono ?_))) <;> (first | omega | (simp; done) | (simp; omega))))
  have hz11 := hB11.size
  have r1 := ho1.row.below (Nat.le_refl _) hb11
  have r2 := ho2.row
  clear ho1 ho2 hc1 hc2
  go_wp2_with fail
  refine (RSame_any _ _ _ _ _ r1 r2).mono ?_
  rintro e w12 ⟨rfl, hb12⟩
  rw [show decide (c1 = c1) = true from by simp]
  go_wp2_with fail
  go_ret
  exact ⟨rfl, (by ((repeat' (first | exact Below.refl _ _ | exact hB11 | exact hb12 | refine Below.alloc ?_ ?_ _ | refine Below.setCell ?_ ?_ _ | refine Below.drew ?_ | refine below_drewN ?_ _ | refine Below.trans ?_ (hB11.mono ?_) | refine Below.trans ?_ (hb12.mono ?_))) <;> (first | omega | (simp; done) | (simp; omega))))⟩
set_option maxRecDepth 100000 in
theorem intervalMatchesReference_holds : Rows.IntervalMatchesReferenceSaid :=
  OpenClaim.holds_of_wide 3 Try.f3 rfl rfl rfl rfl rfl rfl rfl ⟨rfl, rfl, rfl, rfl, rfl⟩ rfl rfl rfl rfl rfl (by kernel_rfl) Try.func3 (by kernel_rfl)
    (of_decide_eq_true (by kernel_rfl)) (by unfold Func.isWrapper; rw [if_neg (of_decide_eq_false (by kernel_rfl))]; exact ⟨rfl, rfl⟩)
    (fun os started H enc _ => law_lifted started 3 Try.f3 Try.func3 (by kernel_rfl) Rows.intervalMatchesReferenceSpec rfl rfl
      (fun ds h => by match ds, h with | [_, _, _, _, _, _, _], _ => exact ⟨rfl, rfl, rfl⟩)
      (fun t h => by
        rw [Try.params3] at h
        simp only [List.mem_cons, List.not_mem_nil, or_false] at h
        rcases h with rfl | rfl | rfl | rfl | rfl | rfl | rfl <;> exact ⟨by kernel_rfl, of_decide_eq_true (by kernel_rfl)⟩)
      (ChangeSpec.witness6 (enc := enc) (C := Try.checked) false ⟨#[], #[.slice none 0 0, .agg #[.int .i64 0, .int .i64 0], .agg #[.int .i64 0, .int .i64 0], .int .i64 0, .int .i64 0, .int .i64 0, .int .i64 0], []⟩ 8 (by kernel_rfl) (by kernel_rfl) (by kernel_rfl) (by kernel_rfl))
      (fun W base args ds p hA hok => by
        rw [Try.params3] at hA hok
        obtain ⟨v0, vs0, d0, ds0, p0, q0, hargs, rfl, rfl, h0, r0⟩ := ChangeShapes.trodAll_cons hA
        obtain ⟨v1, vs1, d1, ds1, p1, q1, rfl, rfl, rfl, h1, r1⟩ := ChangeShapes.trodAll_cons r0
        obtain ⟨v2, vs2, d2, ds2, p2, q2, rfl, rfl, rfl, h2, r2⟩ := ChangeShapes.trodAll_cons r1
        obtain ⟨v3, vs3, d3, ds3, p3, q3, rfl, rfl, rfl, h3, r3⟩ := ChangeShapes.trodAll_cons r2
        obtain ⟨v4, vs4, d4, ds4, p4, q4, rfl, rfl, rfl, h4, r4⟩ := ChangeShapes.trodAll_cons r3
        obtain ⟨v5, vs5, d5, ds5, p5, q5, rfl, rfl, rfl, h5, r5⟩ := ChangeShapes.trodAll_cons r4
        obtain ⟨v6, vs6, d6, ds6, p6, q6, rfl, rfl, rfl, h6, r6⟩ := ChangeShapes.trodAll_cons r5
        obtain ⟨rfl, rfl, rfl⟩ := ChangeShapes.trodAll_nil r6
        obtain rfl : args = #[v0, v1, v2, v3, v4, v5, v6] := by rw [← Array.toArray_toList (xs := args), hargs]
        obtain ⟨l0, hl0, wl0⟩ := open_ivs (hok 0 _ v0 rfl rfl) h0
        obtain ⟨a1, b1, rfl, ha1, hb1⟩ := open_iv (hok 1 _ v1 rfl rfl) h1
        obtain ⟨a2, b2, rfl, ha2, hb2⟩ := open_iv (hok 2 _ v2 rfl rfl) h2
        obtain ⟨x3, rfl, hx3⟩ := open_i64 Try.underlying3 (hok 3 _ v3 rfl rfl) h3
        obtain ⟨x4, rfl, hx4⟩ := open_i64 Try.underlying3 (hok 4 _ v4 rfl rfl) h4
        obtain ⟨x5, rfl, hx5⟩ := open_i64 Try.underlying3 (hok 5 _ v5 rfl rfl) h5
        obtain ⟨x6, rfl, hx6⟩ := open_i64 Try.underlying3 (hok 6 _ v6 rfl rfl) h6
        exact Matches_any W v0 l0 hl0 a1 b1 a2 b2 x3 x4 x5 x6))
end Go.Proofs.Ytgoimbddefefdaa
