/- WatchMatchesReference: for whatever round and numbers the statement answers true and leaves its arguments as they were. No condition. -/
import Derived.Test.YthklljlachljgaaWtL
import Derived.Test.YthklljlachljgaaFs
namespace Go.Proofs.Ythklljlachljgaa
open Go.RowKit
attribute [local go_sem ↓] run_max_mx run_min_mn run_eql_iv run_neq_iv run_eql_al run_neq_al
set_option maxRecDepth 100000 in
set_option maxHeartbeats 1000000 in
theorem WtMatches_any (w : World) (a b : Int) (va : Value) (au : List Int) (hva : IsRow w va au) (_wa : WfI au) (v : Value) (l : List Iv) (hv : IvRow w v l) (f lost asked promise sent every timeout at_ : Int) :
    Calls Try.prog 3 #[.agg #[.int .i64 a, .int .i64 b], va, v, .int .i64 f, .int .i64 lost, .int .i64 asked, .int .i64 promise, .int .i64 sent, .int .i64 every, .int .i64 timeout, .int .i64 at_] w fun e w' => e = .returned (.bool true) ∧ Below w.heap.size w w' := by
  obtain ⟨a1, cap1, rfl, g1, g2, g3⟩ := id hva
  obtain ⟨a2, cap2, rfl, h1, h2, h3⟩ := id hv
  clear g3 h3
  by_cases hA : 30 < au.length
  · have hA1 : decide (30 < au.length) = true := decide_eq_true hA
    go_enter Try.func3, Try.ntmps3
    go_wp2_with fail
    refine (head_any _).mono ?_
    rintro e w1 ⟨rfl, b1⟩
    go_wp2_with fail
    go_ret
    exact ⟨rfl, (by ((repeat' (first | exact Below.refl _ _ | exact b1 | refine Below.alloc ?_ ?_ _ | refine Below.setCell ?_ ?_ _ | refine Below.drew ?_ | refine below_drewN ?_ _ | refine Below.trans ?_ (b1.mono ?_))) <;> (first | omega | (simp; done) | (simp; omega))))⟩
  have hA1 : decide (30 < au.length) = false := decide_eq_false hA
  by_cases hL : 30 < l.length
  · have hL1 : decide (30 < l.length) = true := decide_eq_true hL
    go_enter Try.func3, Try.ntmps3
    go_wp2_with fail
    refine (head_any _).mono ?_
    rintro e w1 ⟨rfl, b1⟩
    go_wp2_with fail
    go_ret
    exact ⟨rfl, (by ((repeat' (first | exact Below.refl _ _ | exact b1 | refine Below.alloc ?_ ?_ _ | refine Below.setCell ?_ ?_ _ | refine Below.drew ?_ | refine below_drewN ?_ _ | refine Below.trans ?_ (b1.mono ?_))) <;> (first | omega | (simp; done) | (simp; omega))))⟩
  have hL1 : decide (30 < l.length) = false := decide_eq_false hL
  go_enter Try.func3, Try.ntmps3
  go_wp2_with fail
  refine (head_any _).mono ?_
  rintro e w1 ⟨rfl, b1⟩
  have z1 := b1.size
  simp only [World.size_alloc] at z1
  have B1 : Below w.heap.size w w1 := (by ((repeat' (first | exact Below.refl _ _ | exact b1 | refine Below.alloc ?_ ?_ _ | refine Below.setCell ?_ ?_ _ | refine Below.drew ?_ | refine below_drewN ?_ _ | refine Below.trans ?_ (b1.mono ?_))) <;> (first | omega | (simp; done) | (simp; omega))))
  obtain ⟨c0, f0⟩ := bk b1 w.heap.size (by simp)
  have d0 : w1.cell? ⟨w.heap.size, 0, none⟩ = some (.int .i64 a) := by rw [c0]; simp
  have d1 : w1.cell? ⟨w.heap.size, 1, none⟩ = some (.int .i64 b) := by rw [c0]; simp
  have hva1 := hva.below (Nat.le_refl _) B1
  have hv1 := hv.below (Nat.le_refl _) B1
  clear c0 f0 b1 hva hv
  go_wp2_with fail
  refine (Check_any _ _ _ _ au l _ _ _ _ _ hva1 hv1).mono ?_
  rintro e w2 ⟨v2, rfl, o2, b2⟩
  have z2 := b2.size
  go_upto_region 5 with fail
  have c2 : Below w1.heap.size w1 (w2.alloc (.cells #[.int .i64 (ckLo a b au l f lost asked promise), .int .i64 (ckHi a b au l f lost asked promise)] 23)) := (by ((repeat' (first | exact Below.refl _ _ | exact b2 | refine Below.alloc ?_ ?_ _ | refine Below.setCell ?_ ?_ _ | refine Below.drew ?_ | refine below_drewN ?_ _ | refine Below.trans ?_ (b2.mono ?_))) <;> (first | omega | (simp; done) | (simp; omega))))
  have r2 := o2.row.below (Nat.le_refl _) ((Below.refl _ _).alloc (Nat.le_refl _) (.cells #[.int .i64 (ckLo a b au l f lost asked promise), .int .i64 (ckHi a b au l f lost asked promise)] 23))
  have s0 : (w2.alloc (.cells #[.int .i64 (ckLo a b au l f lost asked promise), .int .i64 (ckHi a b au l f lost asked promise)] 23)).cell? ⟨w2.heap.size, 0, none⟩ = some (.int .i64 (ckLo a b au l f lost asked promise)) := by simp
  have s1 : (w2.alloc (.cells #[.int .i64 (ckLo a b au l f lost asked promise), .int .i64 (ckHi a b au l f lost asked promise)] 23)).cell? ⟨w2.heap.size, 1, none⟩ = some (.int .i64 (ckHi a b au l f lost asked promise)) := by simp
  have zs : w2.heap.size < (w2.alloc (.cells #[.int .i64 (ckLo a b au l f lost asked promise), .int .i64 (ckHi a b au l f lost asked promise)] 23)).heap.size := by simp
  generalize w2.alloc (.cells #[.int .i64 (ckLo a b au l f lost asked promise), .int .i64 (ckHi a b au l f lost asked promise)] 23) = w3 at *
  generalize w2.heap.size = q at *
  have e0 := (c2.cell (p := ⟨w.heap.size, 0, none⟩) (by show w.heap.size < w1.heap.size; omega)).trans d0
  have e1 := (c2.cell (p := ⟨w.heap.size, 1, none⟩) (by show w.heap.size < w1.heap.size; omega)).trans d1
  have hva3 := hva1.below (Nat.le_refl _) c2
  have hv3 := hv1.below (Nat.le_refl _) c2
  clear d0 d1 hva1 hv1 o2 b2
  go_wp2_with fail
  refine (RCheck_any _ _ _ _ au l _ _ _ _ _ hva3 hv3).mono ?_
  rintro e w4 ⟨v4, rfl, o4, b4⟩
  have z4 := b4.size
  have r4 := o4.row
  have r24 := r2.below (Nat.le_refl _) b4
  have t0 := (b4.cell (p := ⟨q, 0, none⟩) zs).trans s0
  have t1 := (b4.cell (p := ⟨q, 1, none⟩) zs).trans s1
  clear s0 s1 e0 e1 hva3 hv3 o4 r2
  go_upto_region 6 with fail
  have c5 : Below w4.heap.size w4 (w4.alloc (.cells #[.int .i64 (ckLo a b au l f lost asked promise), .int .i64 (ckHi a b au l f lost asked promise)] 23)) := (by ((repeat' (first | exact Below.refl _ _ | refine Below.alloc ?_ ?_ _ | refine Below.setCell ?_ ?_ _ | refine Below.drew ?_ | refine below_drewN ?_ _)) <;> (first | omega | (simp; done) | (simp; omega))))
  have r4' := r4.below (Nat.le_refl _) c5
  have r24' := r24.below (Nat.le_refl _) c5
  have u0 := (c5.cell (p := ⟨q, 0, none⟩) (by show q < w4.heap.size; omega)).trans t0
  have u1 := (c5.cell (p := ⟨q, 1, none⟩) (by show q < w4.heap.size; omega)).trans t1
  have x0 : (w4.alloc (.cells #[.int .i64 (ckLo a b au l f lost asked promise), .int .i64 (ckHi a b au l f lost asked promise)] 23)).cell? ⟨w4.heap.size, 0, none⟩ = some (.int .i64 (ckLo a b au l f lost asked promise)) := by simp
  have x1 : (w4.alloc (.cells #[.int .i64 (ckLo a b au l f lost asked promise), .int .i64 (ckHi a b au l f lost asked promise)] 23)).cell? ⟨w4.heap.size, 1, none⟩ = some (.int .i64 (ckHi a b au l f lost asked promise)) := by simp
  have zx : w4.heap.size < (w4.alloc (.cells #[.int .i64 (ckLo a b au l f lost asked promise), .int .i64 (ckHi a b au l f lost asked promise)] 23)).heap.size := by simp
  generalize w4.alloc (.cells #[.int .i64 (ckLo a b au l f lost asked promise), .int .i64 (ckHi a b au l f lost asked promise)] 23) = w5 at *
  generalize hq4 : w4.heap.size = q4 at *
  clear r4 r24 t0 t1
  have z3 := c2.size
  go_wp2_with fail
  refine (RSame40_any _ _ _ _ _ r24' r4').mono ?_
  rintro e w6 ⟨rfl, b6⟩
  rw [show decide (alL a b au l f lost asked promise = alL a b au l f lost asked promise) = true by simp]
  have y0 := (b6.cell (p := ⟨q, 0, none⟩) (by show q < w5.heap.size; omega)).trans u0
  have y1 := (b6.cell (p := ⟨q, 1, none⟩) (by show q < w5.heap.size; omega)).trans u1
  have y2 := (b6.cell (p := ⟨q4, 0, none⟩) zx).trans x0
  have y3 := (b6.cell (p := ⟨q4, 1, none⟩) zx).trans x1
  have ee : ivEq (ckLo a b au l f lost asked promise) (ckHi a b au l f lost asked promise) (ckLo a b au l f lost asked promise) (ckHi a b au l f lost asked promise) = true := by simp [ivEq]
  have e2 : (ckEr a b au l f lost asked promise == ckEr a b au l f lost asked promise) = true := by simp
  have e3 : (ckIs a b au l f lost asked promise == ckIs a b au l f lost asked promise) = true := by simp
  have B6 : Below w.heap.size w w6 := by have := b4.size; have := c5.size; exact (by ((repeat' (first | exact Below.refl _ _ | exact B1 | exact c2 | exact b4 | exact c5 | exact b6 | refine Below.alloc ?_ ?_ _ | refine Below.setCell ?_ ?_ _ | refine Below.drew ?_ | refine below_drewN ?_ _ | refine Below.trans ?_ (B1.mono ?_) | refine Below.trans ?_ (c2.mono ?_) | refine Below.trans ?_ (b4.mono ?_) | refine Below.trans ?_ (c5.mono ?_) | refine Below.trans ?_ (b6.mono ?_))) <;> (first | omega | (simp; done) | (simp; omega))))
  clear u0 u1 x0 x1 r24' r4'
  go_wp2_with fail
  refine (Missed_any _ _ _ _ _).mono ?_
  rintro e w' ⟨rfl, rfl⟩
  go_wp2_with fail
  refine (RMissed_any _ _ _ _ _).mono ?_
  rintro e w' ⟨rfl, rfl⟩
  have e4 : (missEr sent every timeout at_ == missEr sent every timeout at_) = true := by simp
  have e5 : (missIs sent every timeout at_ == missIs sent every timeout at_) = true := by simp
  go_wp2_with fail
  go_ret
  exact ⟨by first | rfl | exact ret_bool (by simp), B6⟩
set_option maxRecDepth 100000 in
theorem watchMatchesReference_holds : Rows.WatchMatchesReferenceSaid :=
  OpenClaim.holds_of_wide 3 Try.f3 rfl rfl rfl rfl rfl rfl rfl ⟨rfl, rfl, rfl, rfl, rfl⟩ rfl rfl rfl rfl rfl (by kernel_rfl) Try.func3 (by kernel_rfl)
    (of_decide_eq_true (by kernel_rfl)) (by unfold Func.isWrapper; rw [if_neg (of_decide_eq_false (by kernel_rfl))]; exact ⟨rfl, rfl⟩)
    (fun os started H enc _ => law_lifted started 3 Try.f3 Try.func3 (by kernel_rfl) Rows.watchMatchesReferenceSpec rfl rfl
      (fun ds h => by match ds, h with | [_, _, _, _, _, _, _, _, _, _, _], _ => exact ⟨rfl, rfl, rfl⟩)
      (fun t h => by
        rw [Try.params3] at h
        simp only [List.mem_cons, List.not_mem_nil, or_false] at h
        rcases h with rfl | rfl | rfl | rfl | rfl | rfl | rfl | rfl | rfl | rfl | rfl <;> exact ⟨by kernel_rfl, of_decide_eq_true (by kernel_rfl)⟩)
      (ChangeSpec.witness6 (enc := enc) (C := Try.checked) false ⟨#[], #[.agg #[.int .i64 0, .int .i64 0], .slice none 0 0, .slice none 0 0, .int .i64 0, .int .i64 0, .int .i64 0, .int .i64 0, .int .i64 0, .int .i64 0, .int .i64 0, .int .i64 0], []⟩ 8 (by kernel_rfl) (by kernel_rfl) (by kernel_rfl) (by kernel_rfl))
      (fun W base args ds p hA hok => by
        rw [Try.params3] at hA hok
        obtain ⟨v0, vs0, d0, ds0, p0, q0, hargs, rfl, rfl, h0, r0⟩ := ChangeShapes.trodAll_cons hA
        obtain ⟨v1, vs1, d1, ds1, p1, q1, rfl, rfl, rfl, h1, r1⟩ := ChangeShapes.trodAll_cons r0
        obtain ⟨v2, vs2, d2, ds2, p2, q2, rfl, rfl, rfl, h2, r2⟩ := ChangeShapes.trodAll_cons r1
        obtain ⟨v3, vs3, d3, ds3, p3, q3, rfl, rfl, rfl, h3, r3⟩ := ChangeShapes.trodAll_cons r2
        obtain ⟨v4, vs4, d4, ds4, p4, q4, rfl, rfl, rfl, h4, r4⟩ := ChangeShapes.trodAll_cons r3
        obtain ⟨v5, vs5, d5, ds5, p5, q5, rfl, rfl, rfl, h5, r5⟩ := ChangeShapes.trodAll_cons r4
        obtain ⟨v6, vs6, d6, ds6, p6, q6, rfl, rfl, rfl, h6, r6⟩ := ChangeShapes.trodAll_cons r5
        obtain ⟨v7, vs7, d7, ds7, p7, q7, rfl, rfl, rfl, h7, r7⟩ := ChangeShapes.trodAll_cons r6
        obtain ⟨v8, vs8, d8, ds8, p8, q8, rfl, rfl, rfl, h8, r8⟩ := ChangeShapes.trodAll_cons r7
        obtain ⟨v9, vs9, d9, ds9, p9, q9, rfl, rfl, rfl, h9, r9⟩ := ChangeShapes.trodAll_cons r8
        obtain ⟨v10, vs10, d10, ds10, p10, q10, rfl, rfl, rfl, h10, r10⟩ := ChangeShapes.trodAll_cons r9
        obtain ⟨rfl, rfl, rfl⟩ := ChangeShapes.trodAll_nil r10
        obtain rfl : args = #[v0, v1, v2, v3, v4, v5, v6, v7, v8, v9, v10] := by rw [← Array.toArray_toList (xs := args), hargs]
        obtain ⟨a0, b0, rfl, ha0, hb0⟩ := open_iv (hok 0 _ v0 rfl rfl) h0
        obtain ⟨l1, hl1, wl1⟩ := open_is (hok 1 _ v1 rfl rfl) h1
        obtain ⟨l2, hl2, wl2⟩ := open_ivs (hok 2 _ v2 rfl rfl) h2
        obtain ⟨x3, rfl, hx3⟩ := open_i64 Try.underlying3 (hok 3 _ v3 rfl rfl) h3
        obtain ⟨x4, rfl, hx4⟩ := open_i64 Try.underlying3 (hok 4 _ v4 rfl rfl) h4
        obtain ⟨x5, rfl, hx5⟩ := open_i64 Try.underlying3 (hok 5 _ v5 rfl rfl) h5
        obtain ⟨x6, rfl, hx6⟩ := open_i64 Try.underlying3 (hok 6 _ v6 rfl rfl) h6
        obtain ⟨x7, rfl, hx7⟩ := open_i64 Try.underlying3 (hok 7 _ v7 rfl rfl) h7
        obtain ⟨x8, rfl, hx8⟩ := open_i64 Try.underlying3 (hok 8 _ v8 rfl rfl) h8
        obtain ⟨x9, rfl, hx9⟩ := open_i64 Try.underlying3 (hok 9 _ v9 rfl rfl) h9
        obtain ⟨x10, rfl, hx10⟩ := open_i64 Try.underlying3 (hok 10 _ v10 rfl rfl) h10
        exact WtMatches_any W a0 b0 v1 l1 hl1 wl1 v2 l2 hl2 x3 x4 x5 x6 x7 x8 x9 x10))
end Go.Proofs.Ythklljlachljgaa
