/- IntervalGrows: for every interval and five numbers the statement answers true and leaves its arguments as they were. No condition. -/
import Derived.Test.YtgoimbddefefdaaIvL
import Derived.Test.YtgoimbddefefdaaFr
namespace Go.Proofs.Ytgoimbddefefdaa
open Go.RowKit
attribute [local go_sem ↓] run_max_mx run_min_mn run_eql_iv run_neq_iv
theorem growOk_of {lo hi l r : Int} (h : validB lo hi = true) (h1 : 0 ≤ l) (h2 : l ≤ 3000000000000000) (h3 : 0 ≤ r) (h4 : r ≤ 3000000000000000) : growOk lo hi l r = true := by
  simp [growOk, h, timeB]; omega
theorem grow_val {lo hi l r : Int} (h : validB lo hi = true) (h1 : 0 ≤ l) (h2 : l ≤ 3000000000000000) (h3 : 0 ≤ r) (h4 : r ≤ 3000000000000000) :
    growEr lo hi l r = 0 ∧ growLo lo hi l r = mx 0 (lo - l) ∧ growHi lo hi l r = mn 3000000000000000 (hi + r) ∧ validB (growLo lo hi l r) (growHi lo hi l r) = true := by
  have hg := growOk_of h h1 h2 h3 h4
  have a := mx_spec 0 (lo - l)
  have b := mn_spec 3000000000000000 (hi + r)
  rw [validB_iff] at h
  refine ⟨by simp [growEr, hg], by simp [growLo, hg], by simp [growHi, hg], ?_⟩
  rw [validB_iff]; simp only [growLo, growHi, hg, if_true]; omega
theorem grow_twice {lo hi a b c d : Int} (h : validB lo hi = true) (a1 : 0 ≤ a) (a2 : a < 1500000000000000) (b1 : 0 ≤ b) (b2 : b < 1500000000000000) (c1 : 0 ≤ c) (c2 : c < 1500000000000000) (d1 : 0 ≤ d) (d2 : d < 1500000000000000) :
    growEr (growLo lo hi a b) (growHi lo hi a b) c d = 0 ∧ growLo (growLo lo hi a b) (growHi lo hi a b) c d = growLo lo hi (a + c) (b + d) ∧ growHi (growLo lo hi a b) (growHi lo hi a b) c d = growHi lo hi (a + c) (b + d) := by
  have g1 := grow_val h a1 (by omega) b1 (by omega)
  have g2 := grow_val g1.2.2.2 c1 (by omega) d1 (by omega)
  have g3 := grow_val h (l := a + c) (r := b + d) (by omega) (by omega) (by omega) (by omega)
  have m1 := mx_spec 0 (lo - a)
  have m2 := mn_spec 3000000000000000 (hi + b)
  have m3 := mx_spec 0 (mx 0 (lo - a) - c)
  have m4 := mn_spec 3000000000000000 (mn 3000000000000000 (hi + b) + d)
  have m5 := mx_spec 0 (lo - (a + c))
  have m6 := mn_spec 3000000000000000 (hi + (b + d))
  rw [validB_iff] at h
  refine ⟨g2.1, ?_, ?_⟩
  · rw [g2.2.1, g1.2.1, g3.2.1]; omega
  · rw [g2.2.2.1, g1.2.2.1, g3.2.2.1]; omega
def nearB (lo hi a b x : Int) : Bool := decide (0 ≤ x ∧ x ≤ 3000000000000000 ∧ lo - a ≤ x ∧ x ≤ hi + b)
theorem grow_near {lo hi a b x : Int} (h : validB lo hi = true) (a1 : 0 ≤ a) (a2 : a < 1500000000000000) (b1 : 0 ≤ b) (b2 : b < 1500000000000000) :
    growLo lo hi a b ≤ lo ∧ hi ≤ growHi lo hi a b ∧ hasB (growLo lo hi a b) (growHi lo hi a b) x = nearB lo hi a b x := by
  have g1 := grow_val h a1 (by omega) b1 (by omega)
  have m1 := mx_spec 0 (lo - a)
  have m2 := mn_spec 3000000000000000 (hi + b)
  rw [validB_iff] at h
  rw [g1.2.1, g1.2.2.1]
  refine ⟨by omega, by omega, ?_⟩
  simp only [hasB, nearB, decide_eq_decide]; omega
set_option maxHeartbeats 2000000 in
theorem Grows_any (w : World) (a1 a2 lf : Int) (hlf : 0 ≤ lf ∧ lf ≤ 18446744073709551615) (rt : Int) (hrt : 0 ≤ rt ∧ rt ≤ 18446744073709551615) (mo : Int) (hmo : 0 ≤ mo ∧ mo ≤ 18446744073709551615) (la : Int) (hla : 0 ≤ la ∧ la ≤ 18446744073709551615) (x : Int) :
    Calls Try.prog 6 #[.agg #[.int .i64 a1, .int .i64 a2], .int .u64 lf, .int .u64 rt, .int .u64 mo, .int .u64 la, .int .i64 x] w fun e w' => e = .returned (.bool true) ∧ Below w.heap.size w w' := by
  by_cases hv : validB a1 a2 = true
  case neg =>
    have hv' : validB a1 a2 = false := by simpa using hv
    clear hv
    go_enter Try.func6, Try.ntmps6
    go_wp2_with fail
    refine (head_any _).mono ?_
    rintro e w1 ⟨rfl, hb1⟩
    obtain ⟨khb1_0, fhb1_0, zhb1_0, zahb1_0, zbhb1_0, zchb1_0, zdhb1_0, zehb1_0⟩ := bk3 hb1 (w.heap.size) (by first | omega | (simp; done) | (simp; omega))
    go_wp2_with (go_at_call 15; refine (RValid_any _ _ _).mono ?_; rintro e w' ⟨rfl, rfl⟩)
    go_ret
    exact ⟨rfl, (by ((repeat' (first | exact Below.refl _ _ | exact hb1 | refine Below.alloc ?_ ?_ _ | refine Below.setCell ?_ ?_ _ | refine Below.drew ?_ | refine below_drewN ?_ _ | refine Below.trans ?_ (hb1.mono ?_))) <;> (first | omega | (simp; done) | (simp; omega))))⟩
  go_enter Try.func6, Try.ntmps6
  go_wp2_with fail
  refine (head_any _).mono ?_
  rintro e w1 ⟨rfl, hb1⟩
  obtain ⟨khb1_0, fhb1_0, zhb1_0, zahb1_0, zbhb1_0, zchb1_0, zdhb1_0, zehb1_0⟩ := bk3 hb1 (w.heap.size) (by first | omega | (simp; done) | (simp; omega))
  have hB1 : Below w.heap.size w w1 := (by ((repeat' (first | exact Below.refl _ _ | exact hb1 | refine Below.alloc ?_ ?_ _ | refine Below.setCell ?_ ?_ _ | refine Below.drew ?_ | refine below_drewN ?_ _ | refine Below.trans ?_ (hb1.mono ?_))) <;> (first | omega | (simp; done) | (simp; omega))))
  go_wp2_with (go_at_call 15; refine (RValid_any _ _ _).mono ?_; rintro e w' ⟨rfl, rfl⟩)
  obtain ⟨A, hA, A1, A2⟩ : ∃ A, A = lf % 1500000000000000 ∧ 0 ≤ A ∧ A < 1500000000000000 := ⟨_, rfl, by omega, by omega⟩
  obtain ⟨B, hB, B1, B2⟩ : ∃ A, A = rt % 1500000000000000 ∧ 0 ≤ A ∧ A < 1500000000000000 := ⟨_, rfl, by omega, by omega⟩
  obtain ⟨C, hC, C1, C2⟩ : ∃ A, A = mo % 1500000000000000 ∧ 0 ≤ A ∧ A < 1500000000000000 := ⟨_, rfl, by omega, by omega⟩
  obtain ⟨D, hD, D1, D2⟩ : ∃ A, A = la % 1500000000000000 ∧ 0 ≤ A ∧ A < 1500000000000000 := ⟨_, rfl, by omega, by omega⟩
  rw [← hA, ← hB, ← hC, ← hD]
  clear hA hB hC hD hlf hrt hmo hla
  have t1 := grow_twice hv A1 A2 B1 B2 C1 C2 D1 D2
  have t2 := grow_val hv A1 (by omega) B1 (by omega)
  have t3 := grow_val hv (l := A + C) (r := B + D) (by omega) (by omega) (by omega) (by omega)
  have t4 := grow_near (x := x) hv A1 A2 B1 B2
  have hvb := (validB_iff a1 a2).1 hv
  obtain ⟨s1, s2, s3⟩ := t1
  obtain ⟨s4, -, -, s5⟩ := t2
  have s6 := t3.1
  clear t3
  obtain ⟨n1, n2, n3⟩ := t4
  have N3 := hide n3
  clear n3
  refine (Grow_any _ _ _ _ _).mono ?_
  rintro e w2 ⟨rfl, hb2⟩
  rw [s4]
  obtain ⟨khb2_0, fhb2_0, zhb2_0, zahb2_0, zbhb2_0, zchb2_0, zdhb2_0, zehb2_0⟩ := bk3 hb2 (w.heap.size) (by first | omega | (simp; done) | (simp; omega))
  have hB2 : Below w.heap.size w w2 := (by ((repeat' (first | exact Below.refl _ _ | exact hB1 | exact hb2 | refine Below.alloc ?_ ?_ _ | refine Below.setCell ?_ ?_ _ | refine Below.drew ?_ | refine below_drewN ?_ _ | refine Below.trans ?_ (hB1.mono ?_) | refine Below.trans ?_ (hb2.mono ?_))) <;> (first | omega | (simp; done) | (simp; omega))))
  go_wp2_with fail
  refine (Grow_any _ _ _ _ _).mono ?_
  rintro e w3 ⟨rfl, hb3⟩
  rw [s1, s2, s3]
  obtain ⟨khb3_0, fhb3_0, zhb3_0, zahb3_0, zbhb3_0, zchb3_0, zdhb3_0, zehb3_0⟩ := bk3 hb3 (w.heap.size) (by first | omega | (simp; done) | (simp; omega)); obtain ⟨khb3_1, fhb3_1, zhb3_1, zahb3_1, zbhb3_1, zchb3_1, zdhb3_1, zehb3_1⟩ := bk3 hb3 (w2.heap.size) (by first | omega | (simp; done) | (simp; omega))
  have hB3 : Below w.heap.size w w3 := (by ((repeat' (first | exact Below.refl _ _ | exact hB2 | exact hb3 | refine Below.alloc ?_ ?_ _ | refine Below.setCell ?_ ?_ _ | refine Below.drew ?_ | refine below_drewN ?_ _ | refine Below.trans ?_ (hB2.mono ?_) | refine Below.trans ?_ (hb3.mono ?_))) <;> (first | omega | (simp; done) | (simp; omega))))
  clear s1 s2 s3
  go_wp2_with fail
  refine (Grow_any _ _ _ _ _).mono ?_
  rintro e w4 ⟨rfl, hb4⟩
  rw [s6]
  obtain ⟨khb4_0, fhb4_0, zhb4_0, zahb4_0, zbhb4_0, zchb4_0, zdhb4_0, zehb4_0⟩ := bk3 hb4 (w.heap.size) (by first | omega | (simp; done) | (simp; omega)); obtain ⟨khb4_1, fhb4_1, zhb4_1, zahb4_1, zbhb4_1, zchb4_1, zdhb4_1, zehb4_1⟩ := bk3 hb4 (w2.heap.size) (by first | omega | (simp; done) | (simp; omega)); obtain ⟨khb4_2, fhb4_2, zhb4_2, zahb4_2, zbhb4_2, zchb4_2, zdhb4_2, zehb4_2⟩ := bk3 hb4 (w3.heap.size) (by first | omega | (simp; done) | (simp; omega))
  have hB4 : Below w.heap.size w w4 := (by ((repeat' (first | exact Below.refl _ _ | exact hB3 | exact hb4 | refine Below.alloc ?_ ?_ _ | refine Below.setCell ?_ ?_ _ | refine Below.drew ?_ | refine below_drewN ?_ _ | refine Below.trans ?_ (hB3.mono ?_) | refine Below.trans ?_ (hb4.mono ?_))) <;> (first | omega | (simp; done) | (simp; omega))))
  have s7 : ivEq (growLo a1 a2 (A + C) (B + D)) (growHi a1 a2 (A + C) (B + D)) (growLo a1 a2 (A + C) (B + D)) (growHi a1 a2 (A + C) (B + D)) = true := by simp [ivEq]
  clear s6
  have y0 : w4.cell? ⟨w.heap.size, 0, none⟩ = some (.int .i64 a1) := by simp [go_sem, *]
  have y1 : w4.cell? ⟨w.heap.size, 1, none⟩ = some (.int .i64 a2) := by simp [go_sem, *]
  have y2 : w4.cell? ⟨w2.heap.size, 0, none⟩ = some (.int .i64 (growLo a1 a2 A B)) := by simp [go_sem, *]
  have y3 : w4.cell? ⟨w2.heap.size, 1, none⟩ = some (.int .i64 (growHi a1 a2 A B)) := by simp [go_sem, *]
  have y4 : w4.cell? ⟨w3.heap.size, 0, none⟩ = some (.int .i64 (growLo a1 a2 (A + C) (B + D))) := by simp [go_sem, *]
  have y5 : w4.cell? ⟨w3.heap.size, 1, none⟩ = some (.int .i64 (growHi a1 a2 (A + C) (B + D))) := by simp [go_sem, *]
  clear khb1_0 khb2_0 khb3_0 khb3_1 khb4_0 khb4_1 khb4_2
  by_cases p1 : 0 ≤ x
  case neg =>
    have n4 : hasB (growLo a1 a2 A B) (growHi a1 a2 A B) x = false := by rw [N3.out]; simp [nearB]; omega
    go_wp2_with (first | (go_at_call 25; refine (RHas_any _ _ _ _).mono ?_; rintro e w' ⟨rfl, rfl⟩) | (go_at_call 14; refine (Valid_any _ _ _).mono ?_; rintro e w' ⟨rfl, rfl⟩))
    go_ret
    exact ⟨rfl, (by ((repeat' (first | exact Below.refl _ _ | exact hB4 | refine Below.alloc ?_ ?_ _ | refine Below.setCell ?_ ?_ _ | refine Below.drew ?_ | refine below_drewN ?_ _ | refine Below.trans ?_ (hB4.mono ?_))) <;> (first | omega | (simp; done) | (simp; omega))))⟩
  by_cases p2 : x ≤ 3000000000000000
  case neg =>
    have n4 : hasB (growLo a1 a2 A B) (growHi a1 a2 A B) x = false := by rw [N3.out]; simp [nearB]; omega
    go_wp2_with (first | (go_at_call 25; refine (RHas_any _ _ _ _).mono ?_; rintro e w' ⟨rfl, rfl⟩) | (go_at_call 14; refine (Valid_any _ _ _).mono ?_; rintro e w' ⟨rfl, rfl⟩))
    go_ret
    exact ⟨rfl, (by ((repeat' (first | exact Below.refl _ _ | exact hB4 | refine Below.alloc ?_ ?_ _ | refine Below.setCell ?_ ?_ _ | refine Below.drew ?_ | refine below_drewN ?_ _ | refine Below.trans ?_ (hB4.mono ?_))) <;> (first | omega | (simp; done) | (simp; omega))))⟩
  by_cases p3 : a1 - A ≤ x
  case neg =>
    have n4 : hasB (growLo a1 a2 A B) (growHi a1 a2 A B) x = false := by rw [N3.out]; simp [nearB]; omega
    go_wp2_with (first | (go_at_call 25; refine (RHas_any _ _ _ _).mono ?_; rintro e w' ⟨rfl, rfl⟩) | (go_at_call 14; refine (Valid_any _ _ _).mono ?_; rintro e w' ⟨rfl, rfl⟩))
    go_ret
    exact ⟨rfl, (by ((repeat' (first | exact Below.refl _ _ | exact hB4 | refine Below.alloc ?_ ?_ _ | refine Below.setCell ?_ ?_ _ | refine Below.drew ?_ | refine below_drewN ?_ _ | refine Below.trans ?_ (hB4.mono ?_))) <;> (first | omega | (simp; done) | (simp; omega))))⟩
  by_cases p4 : x ≤ a2 + B
  case neg =>
    have n4 : hasB (growLo a1 a2 A B) (growHi a1 a2 A B) x = false := by rw [N3.out]; simp [nearB]; omega
    go_wp2_with (first | (go_at_call 25; refine (RHas_any _ _ _ _).mono ?_; rintro e w' ⟨rfl, rfl⟩) | (go_at_call 14; refine (Valid_any _ _ _).mono ?_; rintro e w' ⟨rfl, rfl⟩))
    go_ret
    exact ⟨ret_bool (by simp; omega), (by ((repeat' (first | exact Below.refl _ _ | exact hB4 | refine Below.alloc ?_ ?_ _ | refine Below.setCell ?_ ?_ _ | refine Below.drew ?_ | refine below_drewN ?_ _ | refine Below.trans ?_ (hB4.mono ?_))) <;> (first | omega | (simp; done) | (simp; omega))))⟩
  have n4 : hasB (growLo a1 a2 A B) (growHi a1 a2 A B) x = true := by rw [N3.out]; simp [nearB]; omega
  go_wp2_with (first | (go_at_call 25; refine (RHas_any _ _ _ _).mono ?_; rintro e w' ⟨rfl, rfl⟩) | (go_at_call 14; refine (Valid_any _ _ _).mono ?_; rintro e w' ⟨rfl, rfl⟩))
  go_ret
  exact ⟨ret_bool (by first | rfl | (simp; omega)), (by ((repeat' (first | exact Below.refl _ _ | exact hB4 | refine Below.alloc ?_ ?_ _ | refine Below.setCell ?_ ?_ _ | refine Below.drew ?_ | refine below_drewN ?_ _ | refine Below.trans ?_ (hB4.mono ?_))) <;> (first | omega | (simp; done) | (simp; omega))))⟩
set_option maxRecDepth 100000 in
theorem intervalGrows_holds : Rows.IntervalGrowsSaid :=
  OpenClaim.holds_of_wide 6 Try.f6 rfl rfl rfl rfl rfl rfl rfl ⟨rfl, rfl, rfl, rfl, rfl⟩ rfl rfl rfl rfl rfl (by kernel_rfl) Try.func6 (by kernel_rfl)
    (of_decide_eq_true (by kernel_rfl)) (by unfold Func.isWrapper; rw [if_neg (of_decide_eq_false (by kernel_rfl))]; exact ⟨rfl, rfl⟩)
    (fun os started H enc _ => law_lifted started 6 Try.f6 Try.func6 (by kernel_rfl) Rows.intervalGrowsSpec rfl rfl
      (fun ds h => by match ds, h with | [_, _, _, _, _, _], _ => exact ⟨rfl, rfl, rfl⟩)
      (fun t h => by
        rw [Try.params6] at h
        simp only [List.mem_cons, List.not_mem_nil, or_false] at h
        rcases h with rfl | rfl | rfl | rfl | rfl | rfl <;> exact ⟨by kernel_rfl, of_decide_eq_true (by kernel_rfl)⟩)
      (ChangeSpec.witness6 (enc := enc) (C := Try.checked) false ⟨#[], #[.agg #[.int .i64 0, .int .i64 0], .int .u64 0, .int .u64 0, .int .u64 0, .int .u64 0, .int .i64 0], []⟩ 8 (by kernel_rfl) (by kernel_rfl) (by kernel_rfl) (by kernel_rfl))
      (fun W base args ds p hA hok => by
        rw [Try.params6] at hA hok
        obtain ⟨v0, vs0, d0, ds0, p0, q0, hargs, rfl, rfl, h0, r0⟩ := ChangeShapes.trodAll_cons hA
        obtain ⟨v1, vs1, d1, ds1, p1, q1, rfl, rfl, rfl, h1, r1⟩ := ChangeShapes.trodAll_cons r0
        obtain ⟨v2, vs2, d2, ds2, p2, q2, rfl, rfl, rfl, h2, r2⟩ := ChangeShapes.trodAll_cons r1
        obtain ⟨v3, vs3, d3, ds3, p3, q3, rfl, rfl, rfl, h3, r3⟩ := ChangeShapes.trodAll_cons r2
        obtain ⟨v4, vs4, d4, ds4, p4, q4, rfl, rfl, rfl, h4, r4⟩ := ChangeShapes.trodAll_cons r3
        obtain ⟨v5, vs5, d5, ds5, p5, q5, rfl, rfl, rfl, h5, r5⟩ := ChangeShapes.trodAll_cons r4
        obtain ⟨rfl, rfl, rfl⟩ := ChangeShapes.trodAll_nil r5
        obtain rfl : args = #[v0, v1, v2, v3, v4, v5] := by rw [← Array.toArray_toList (xs := args), hargs]
        obtain ⟨a0, b0, rfl, ha0, hb0⟩ := open_iv (hok 0 _ v0 rfl rfl) h0
        obtain ⟨x1, rfl, hx1⟩ := open_u64 Try.underlying43 (hok 1 _ v1 rfl rfl) h1
        obtain ⟨x2, rfl, hx2⟩ := open_u64 Try.underlying43 (hok 2 _ v2 rfl rfl) h2
        obtain ⟨x3, rfl, hx3⟩ := open_u64 Try.underlying43 (hok 3 _ v3 rfl rfl) h3
        obtain ⟨x4, rfl, hx4⟩ := open_u64 Try.underlying43 (hok 4 _ v4 rfl rfl) h4
        obtain ⟨x5, rfl, hx5⟩ := open_i64 Try.underlying3 (hok 5 _ v5 rfl rfl) h5
        exact Grows_any W a0 b0 x1 hx1 x2 hx2 x3 hx3 x4 hx4 x5))
end Go.Proofs.Ytgoimbddefefdaa
