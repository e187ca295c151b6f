/- The examples of the chapter on the watch: the check that stands in every statement answers true. -/
import Derived.Test.YthklljlachljgaaWtG
namespace Go.Proofs.Ythklljlachljgaa
open Go.RowKit
attribute [local go_sem ↓] run_max_mx run_min_mn run_eql_iv run_neq_iv run_eql_al run_neq_al
def AU : List Int := [1, 4, 6]
def LL : List Iv := [(150, 170), (160, 180), (300, 310)]
theorem hv1 : alL 100 200 AU LL 1 0 3 9 = [(4, 6), (5, 0)] ∧ ckLo 100 200 AU LL 1 0 3 9 = 160 ∧ ckHi 100 200 AU LL 1 0 3 9 = 170 ∧ ckIs 100 200 AU LL 1 0 3 9 = true ∧ ckEr 100 200 AU LL 1 0 3 9 = 0 := by decide
theorem hv2 : alL 0 100 AU LL 1 0 3 0 = [(3, 0), (4, 6)] ∧ ckEr 0 100 AU LL 1 0 3 0 = 0 := by decide
theorem hv3 : alL 0 100 AU LL 0 0 3 0 = [(1, 0)] ∧ ckLo 0 100 AU LL 0 0 3 0 = 0 ∧ ckHi 0 100 AU LL 0 0 3 0 = 0 ∧ ckIs 0 100 AU LL 0 0 3 0 = false ∧ ckEr 0 100 AU LL 0 0 3 0 = 0 := by decide
theorem hv4 : alL 0 100 AU LL 1 0 4 0 = [(2, 0)] ∧ ckEr 0 100 AU LL 1 0 4 0 = 0 := by decide
theorem hv5 : missIs 100 50 20 171 = true ∧ missEr 100 50 20 171 = 0 ∧ missIs 100 50 20 170 = false ∧ missEr 100 50 20 170 = 0 := by decide
set_option maxRecDepth 100000 in
set_option maxHeartbeats 2000000 in
theorem head_any (w : World) : Calls Try.prog 10 #[] w fun e w' => e = .returned (.bool true) ∧ Below w.heap.size w w' := by
  obtain ⟨x1, x2, x3, x4, x5⟩ := hv1
  obtain ⟨y1, y2⟩ := hv2
  obtain ⟨t1, t2, t3, t4, t5⟩ := hv3
  obtain ⟨u1, u2⟩ := hv4
  obtain ⟨m1, m2, m3, m4⟩ := hv5
  have hA : IsRow ((w.alloc (.cells #[.int .i64 1, .int .i64 4, .int .i64 6] 3)).alloc (.cells #[.int .i64 150, .int .i64 170, .int .i64 160, .int .i64 180, .int .i64 300, .int .i64 310] 23)) (.slice (some ⟨w.heap.size, 0, none⟩) 3 3) AU :=
    IsRow.below (w := w.alloc (.cells #[.int .i64 1, .int .i64 4, .int .i64 6] 3)) (by have := isrow_lit w AU 3 (by decide); simpa [encI, AU] using this) (Nat.le_refl _) ((Below.refl _ _).alloc (Nat.le_refl _) _)
  have hL : IvRow ((w.alloc (.cells #[.int .i64 1, .int .i64 4, .int .i64 6] 3)).alloc (.cells #[.int .i64 150, .int .i64 170, .int .i64 160, .int .i64 180, .int .i64 300, .int .i64 310] 23)) (.slice (some ⟨w.heap.size + 1, 0, none⟩) 3 3) LL := by
    have := ivrow_litA (w.alloc (.cells #[.int .i64 1, .int .i64 4, .int .i64 6] 3)) LL 23 (by decide)
    rw [World.size_alloc] at this
    exact this
  have b0 : Below w.heap.size w ((w.alloc (.cells #[.int .i64 1, .int .i64 4, .int .i64 6] 3)).alloc (.cells #[.int .i64 150, .int .i64 170, .int .i64 160, .int .i64 180, .int .i64 300, .int .i64 310] 23)) := (by ((repeat' (first | exact Below.refl _ _ | refine Below.alloc ?_ ?_ _ | refine Below.setCell ?_ ?_ _ | refine Below.drew ?_ | refine below_drewN ?_ _)) <;> (first | omega | (simp; done) | (simp; omega))))
  go_enter Try.func10, Try.ntmps10
  go_wp2_with fail
  generalize (w.alloc (.cells #[.int .i64 1, .int .i64 4, .int .i64 6] 3)).alloc (.cells #[.int .i64 150, .int .i64 170, .int .i64 160, .int .i64 180, .int .i64 300, .int .i64 310] 23) = w0 at *
  refine (Check_any _ _ _ _ AU LL _ _ _ _ _ hA hL).mono ?_
  rintro e w1 ⟨v1, rfl, o1, b1⟩
  rw [x1] at o1
  rw [x2, x3, x4, x5]
  have c1 : Below w0.heap.size w0 (w1.alloc (.cells #[.int .i64 160, .int .i64 170] 23)) := by have := b1.size; exact (by ((repeat' (first | exact Below.refl _ _ | exact b1 | refine Below.alloc ?_ ?_ _ | refine Below.setCell ?_ ?_ _ | refine Below.drew ?_ | refine below_drewN ?_ _ | refine Below.trans ?_ (b1.mono ?_))) <;> (first | omega | (simp; done) | (simp; omega))))
  have r1 := o1.row.below (Nat.le_refl _) ((Below.refl _ _).alloc (Nat.le_refl _) (.cells #[.int .i64 160, .int .i64 170] 23))
  have s0 : (w1.alloc (.cells #[.int .i64 160, .int .i64 170] 23)).cell? ⟨w1.heap.size, 0, none⟩ = some (.int .i64 160) := by simp
  have s1 : (w1.alloc (.cells #[.int .i64 160, .int .i64 170] 23)).cell? ⟨w1.heap.size, 1, none⟩ = some (.int .i64 170) := by simp
  have z1 : w1.heap.size < (w1.alloc (.cells #[.int .i64 160, .int .i64 170] 23)).heap.size := by simp
  clear x1 x2 x3 x4 x5 o1 b1
  go_upto_region 4 with fail
  generalize w1.alloc (.cells #[.int .i64 160, .int .i64 170] 23) = w2 at *
  generalize w1.heap.size = q1 at *
  have hA2 := hA.below (Nat.le_refl _) c1
  have hL2 := hL.below (Nat.le_refl _) c1
  go_wp2_with fail
  refine (Check_any _ _ _ _ AU LL _ _ _ _ _ hA2 hL2).mono ?_
  rintro e w3 ⟨v3, rfl, o3, b3⟩
  rw [y1] at o3
  rw [y2]
  have z3 := b3.size
  go_upto_region 5 with fail
  generalize hO : Obj.cells _ 23 = O3
  have c3 : Below w2.heap.size w2 (w3.alloc O3) := (by ((repeat' (first | exact Below.refl _ _ | exact b3 | refine Below.alloc ?_ ?_ _ | refine Below.setCell ?_ ?_ _ | refine Below.drew ?_ | refine below_drewN ?_ _ | refine Below.trans ?_ (b3.mono ?_))) <;> (first | omega | (simp; done) | (simp; omega))))
  have r3 := o3.row.below (Nat.le_refl _) ((Below.refl _ _).alloc (Nat.le_refl _) O3)
  clear y1 y2 o3 b3 hO
  generalize w3.alloc O3 = w4 at *
  have hA4 := hA2.below (Nat.le_refl _) c3
  have hL4 := hL2.below (Nat.le_refl _) c3
  have r1' := r1.below (Nat.le_refl _) c3
  have s0' := (c3.cell (p := ⟨q1, 0, none⟩) z1).trans s0
  have s1' := (c3.cell (p := ⟨q1, 1, none⟩) z1).trans s1
  clear hA hL hA2 hL2 r1 s0 s1
  go_wp2_with fail
  refine (Check_any _ _ _ _ AU LL _ _ _ _ _ hA4 hL4).mono ?_
  rintro e w5 ⟨v5, rfl, o5, b5⟩
  rw [t1] at o5
  rw [t2, t3, t4, t5]
  have c5 : Below w4.heap.size w4 (w5.alloc (.cells #[.int .i64 0, .int .i64 0] 23)) := by have := b5.size; exact (by ((repeat' (first | exact Below.refl _ _ | exact b5 | refine Below.alloc ?_ ?_ _ | refine Below.setCell ?_ ?_ _ | refine Below.drew ?_ | refine below_drewN ?_ _ | refine Below.trans ?_ (b5.mono ?_))) <;> (first | omega | (simp; done) | (simp; omega))))
  have r5 := o5.row.below (Nat.le_refl _) ((Below.refl _ _).alloc (Nat.le_refl _) (.cells #[.int .i64 0, .int .i64 0] 23))
  have p0 : (w5.alloc (.cells #[.int .i64 0, .int .i64 0] 23)).cell? ⟨w5.heap.size, 0, none⟩ = some (.int .i64 0) := by simp
  have p1 : (w5.alloc (.cells #[.int .i64 0, .int .i64 0] 23)).cell? ⟨w5.heap.size, 1, none⟩ = some (.int .i64 0) := by simp
  have z5 : w5.heap.size < (w5.alloc (.cells #[.int .i64 0, .int .i64 0] 23)).heap.size := by simp
  clear t1 t2 t3 t4 t5 o5 b5
  go_upto_region 6 with fail
  generalize w5.alloc (.cells #[.int .i64 0, .int .i64 0] 23) = w6 at *
  generalize w5.heap.size = q5 at *
  have hA6 := hA4.below (Nat.le_refl _) c5
  have hL6 := hL4.below (Nat.le_refl _) c5
  go_wp2_with fail
  refine (Check_any _ _ _ _ AU LL _ _ _ _ _ hA6 hL6).mono ?_
  rintro e w7 ⟨v7, rfl, o7, b7⟩
  rw [u1] at o7
  rw [u2]
  have z7 := b7.size
  go_upto_region 7 with fail
  generalize hO : Obj.cells _ 23 = O7
  have c7 : Below w6.heap.size w6 (w7.alloc O7) := (by ((repeat' (first | exact Below.refl _ _ | exact b7 | refine Below.alloc ?_ ?_ _ | refine Below.setCell ?_ ?_ _ | refine Below.drew ?_ | refine below_drewN ?_ _ | refine Below.trans ?_ (b7.mono ?_))) <;> (first | omega | (simp; done) | (simp; omega))))
  have r7 := o7.row.below (Nat.le_refl _) ((Below.refl _ _).alloc (Nat.le_refl _) O7)
  clear u1 u2 o7 b7 hO
  generalize w7.alloc O7 = w8 at *
  have z2 := c1.size
  have z4 := c3.size
  have z6 := c5.size
  have z8 := c7.size
  have b48 : Below w4.heap.size w4 w8 := (by ((repeat' (first | exact Below.refl _ _ | exact c5 | exact c7 | refine Below.alloc ?_ ?_ _ | refine Below.setCell ?_ ?_ _ | refine Below.drew ?_ | refine below_drewN ?_ _ | refine Below.trans ?_ (c5.mono ?_) | refine Below.trans ?_ (c7.mono ?_))) <;> (first | omega | (simp; done) | (simp; omega))))
  have b28 : Below w2.heap.size w2 w8 := (by ((repeat' (first | exact Below.refl _ _ | exact c3 | exact b48 | refine Below.alloc ?_ ?_ _ | refine Below.setCell ?_ ?_ _ | refine Below.drew ?_ | refine below_drewN ?_ _ | refine Below.trans ?_ (c3.mono ?_) | refine Below.trans ?_ (b48.mono ?_))) <;> (first | omega | (simp; done) | (simp; omega))))
  have bw8 : Below w.heap.size w w8 := by have := b0.size; exact (by ((repeat' (first | exact Below.refl _ _ | exact b0 | exact c1 | exact b28 | refine Below.alloc ?_ ?_ _ | refine Below.setCell ?_ ?_ _ | refine Below.drew ?_ | refine below_drewN ?_ _ | refine Below.trans ?_ (b0.mono ?_) | refine Below.trans ?_ (c1.mono ?_) | refine Below.trans ?_ (b28.mono ?_))) <;> (first | omega | (simp; done) | (simp; omega))))
  have r1 := r1'.below (Nat.le_refl _) b48
  have r3' := r3.below (Nat.le_refl _) b48
  have r5' := r5.below (Nat.le_refl _) c7
  have s0 := (b48.cell (p := ⟨q1, 0, none⟩) (by show q1 < w4.heap.size; omega)).trans s0'
  have s1 := (b48.cell (p := ⟨q1, 1, none⟩) (by show q1 < w4.heap.size; omega)).trans s1'
  have p0' := (c7.cell (p := ⟨q5, 0, none⟩) z5).trans p0
  have p1' := (c7.cell (p := ⟨q5, 1, none⟩) z5).trans p1
  clear r1' r3 r5 s0' s1' p0 p1 hA4 hL4 hA6 hL6 c1 c3 c5 c7 b48 b28 b0
  have k1 : q1 < w8.heap.size := by omega
  have k5 : q5 < w8.heap.size := by omega
  go_upto_region 7 with fail
  go_wp2_with fail
  refine (Missed_any _ _ _ _ _).mono ?_
  rintro e w' ⟨rfl, rfl⟩
  rw [m1, m2]
  clear m1 m2
  go_wp2_with fail
  refine (Missed_any _ _ _ _ _).mono ?_
  rintro e w' ⟨rfl, rfl⟩
  rw [m3, m4]
  clear m3 m4
  go_upto_region 10 with fail
  have b9 : Below w8.heap.size w8 (w8.alloc (.cells #[.int .i64 4, .int .i64 6] 39)) := (by ((repeat' (first | exact Below.refl _ _ | refine Below.alloc ?_ ?_ _ | refine Below.setCell ?_ ?_ _ | refine Below.drew ?_ | refine below_drewN ?_ _)) <;> (first | omega | (simp; done) | (simp; omega))))
  have l0 : (w8.alloc (.cells #[.int .i64 4, .int .i64 6] 39)).cell? ⟨w8.heap.size, 0, none⟩ = some (.int .i64 4) := by simp
  have l1 : (w8.alloc (.cells #[.int .i64 4, .int .i64 6] 39)).cell? ⟨w8.heap.size, 1, none⟩ = some (.int .i64 6) := by simp
  have zl : w8.heap.size < (w8.alloc (.cells #[.int .i64 4, .int .i64 6] 39)).heap.size := by simp
  have r1a := r1.below (Nat.le_refl _) b9
  have r3a := r3'.below (Nat.le_refl _) b9
  have r5a := r5'.below (Nat.le_refl _) b9
  have r7a := r7.below (Nat.le_refl _) b9
  have s0a := (b9.cell (p := ⟨q1, 0, none⟩) k1).trans s0
  have s1a := (b9.cell (p := ⟨q1, 1, none⟩) k1).trans s1
  have p0a := (b9.cell (p := ⟨q5, 0, none⟩) k5).trans p0'
  have p1a := (b9.cell (p := ⟨q5, 1, none⟩) k5).trans p1'
  have bw9 : Below w.heap.size w (w8.alloc (.cells #[.int .i64 4, .int .i64 6] 39)) := by have := bw8.size; exact (by ((repeat' (first | exact Below.refl _ _ | exact bw8 | exact b9 | refine Below.alloc ?_ ?_ _ | refine Below.setCell ?_ ?_ _ | refine Below.drew ?_ | refine below_drewN ?_ _ | refine Below.trans ?_ (bw8.mono ?_) | refine Below.trans ?_ (b9.mono ?_))) <;> (first | omega | (simp; done) | (simp; omega))))
  have k1a : q1 < (w8.alloc (.cells #[.int .i64 4, .int .i64 6] 39)).heap.size := by omega
  have k5a : q5 < (w8.alloc (.cells #[.int .i64 4, .int .i64 6] 39)).heap.size := by omega
  clear r1 r3' r5' r7 s0 s1 p0' p1' bw8 b9 k1 k5
  generalize w8.alloc (.cells #[.int .i64 4, .int .i64 6] 39) = w9 at *
  generalize w8.heap.size = q8 at *
  have e1 : ivEq 160 170 160 170 = true := by decide
  have e2 : ivEq 0 0 0 0 = true := by decide
  go_wp2_with fail
  have h1 := ivrow_litA w9 [(4, 6), (5, 0)] 39 (by decide)
  refine (RSame40_any _ _ _ [(4, 6), (5, 0)] _ (r1a.below (Nat.le_refl _) (by ((repeat' (first | exact Below.refl _ _ | refine Below.alloc ?_ ?_ _ | refine Below.setCell ?_ ?_ _ | refine Below.drew ?_ | refine below_drewN ?_ _)) <;> (first | omega | (simp; done) | (simp; omega))))) h1).mono ?_
  rintro e w10 ⟨rfl, b10⟩
  rw [show decide (([(4, 6), (5, 0)] : List Iv) = [(4, 6), (5, 0)]) = true from by decide]
  have c10 : Below w9.heap.size w9 w10 := (by ((repeat' (first | exact Below.refl _ _ | exact b10 | refine Below.alloc ?_ ?_ _ | refine Below.setCell ?_ ?_ _ | refine Below.drew ?_ | refine below_drewN ?_ _ | refine Below.trans ?_ (b10.mono ?_))) <;> (first | omega | (simp; done) | (simp; omega))))
  have l0b := (c10.cell (p := ⟨q8, 0, none⟩) zl).trans l0
  have l1b := (c10.cell (p := ⟨q8, 1, none⟩) zl).trans l1
  have r3b := r3a.below (Nat.le_refl _) c10
  clear r1a r3a b10 h1 l0 l1
  go_wp2_with fail
  have h2 := ivrow_litA w10 [(3, 0), (4, 6)] 39 (by decide)
  refine (RSame40_any _ _ _ [(3, 0), (4, 6)] _ (r3b.below (Nat.le_refl _) (by ((repeat' (first | exact Below.refl _ _ | refine Below.alloc ?_ ?_ _ | refine Below.setCell ?_ ?_ _ | refine Below.drew ?_ | refine below_drewN ?_ _)) <;> (first | omega | (simp; done) | (simp; omega))))) h2).mono ?_
  rintro e w11 ⟨rfl, b11⟩
  rw [show decide (([(3, 0), (4, 6)] : List Iv) = [(3, 0), (4, 6)]) = true from by decide]
  have c11 : Below w10.heap.size w10 w11 := (by ((repeat' (first | exact Below.refl _ _ | exact b11 | refine Below.alloc ?_ ?_ _ | refine Below.setCell ?_ ?_ _ | refine Below.drew ?_ | refine below_drewN ?_ _ | refine Below.trans ?_ (b11.mono ?_))) <;> (first | omega | (simp; done) | (simp; omega))))
  have z10 := c10.size
  have c911 : Below w9.heap.size w9 w11 := (by ((repeat' (first | exact Below.refl _ _ | exact c10 | exact c11 | refine Below.alloc ?_ ?_ _ | refine Below.setCell ?_ ?_ _ | refine Below.drew ?_ | refine below_drewN ?_ _ | refine Below.trans ?_ (c10.mono ?_) | refine Below.trans ?_ (c11.mono ?_))) <;> (first | omega | (simp; done) | (simp; omega))))
  have r5b := r5a.below (Nat.le_refl _) c911
  clear r3b r5a b11 h2 l0b l1b
  go_wp2_with fail
  have h3 := ivrow_litA w11 [(1, 0)] 39 (by decide)
  refine (RSame40_any _ _ _ [(1, 0)] _ (r5b.below (Nat.le_refl _) (by ((repeat' (first | exact Below.refl _ _ | refine Below.alloc ?_ ?_ _ | refine Below.setCell ?_ ?_ _ | refine Below.drew ?_ | refine below_drewN ?_ _)) <;> (first | omega | (simp; done) | (simp; omega))))) h3).mono ?_
  rintro e w12 ⟨rfl, b12⟩
  rw [show decide (([(1, 0)] : List Iv) = [(1, 0)]) = true from by decide]
  have c12 : Below w11.heap.size w11 w12 := (by ((repeat' (first | exact Below.refl _ _ | exact b12 | refine Below.alloc ?_ ?_ _ | refine Below.setCell ?_ ?_ _ | refine Below.drew ?_ | refine below_drewN ?_ _ | refine Below.trans ?_ (b12.mono ?_))) <;> (first | omega | (simp; done) | (simp; omega))))
  have z11 := c11.size
  have c912 : Below w9.heap.size w9 w12 := (by ((repeat' (first | exact Below.refl _ _ | exact c911 | exact c12 | refine Below.alloc ?_ ?_ _ | refine Below.setCell ?_ ?_ _ | refine Below.drew ?_ | refine below_drewN ?_ _ | refine Below.trans ?_ (c911.mono ?_) | refine Below.trans ?_ (c12.mono ?_))) <;> (first | omega | (simp; done) | (simp; omega))))
  have r7b := r7a.below (Nat.le_refl _) c912
  have p0b := (c912.cell (p := ⟨q5, 0, none⟩) k5a).trans p0a
  have p1b := (c912.cell (p := ⟨q5, 1, none⟩) k5a).trans p1a
  clear r5b r7a b12 h3 p0a p1a
  go_wp2_with fail
  have h4 := ivrow_litA w12 [(2, 0)] 39 (by decide)
  refine (RSame40_any _ _ _ [(2, 0)] _ (r7b.below (Nat.le_refl _) (by ((repeat' (first | exact Below.refl _ _ | refine Below.alloc ?_ ?_ _ | refine Below.setCell ?_ ?_ _ | refine Below.drew ?_ | refine below_drewN ?_ _)) <;> (first | omega | (simp; done) | (simp; omega))))) h4).mono ?_
  rintro e w13 ⟨rfl, b13⟩
  rw [show decide (([(2, 0)] : List Iv) = [(2, 0)]) = true from by decide]
  have c13 : Below w12.heap.size w12 w13 := (by ((repeat' (first | exact Below.refl _ _ | exact b13 | refine Below.alloc ?_ ?_ _ | refine Below.setCell ?_ ?_ _ | refine Below.drew ?_ | refine below_drewN ?_ _ | refine Below.trans ?_ (b13.mono ?_))) <;> (first | omega | (simp; done) | (simp; omega))))
  go_wp2_with fail
  go_ret
  have z9 := bw9.size
  have z12 := c912.size
  exact ⟨rfl, (by ((repeat' (first | exact Below.refl _ _ | exact bw9 | exact c912 | exact c13 | refine Below.alloc ?_ ?_ _ | refine Below.setCell ?_ ?_ _ | refine Below.drew ?_ | refine below_drewN ?_ _ | refine Below.trans ?_ (bw9.mono ?_) | refine Below.trans ?_ (c912.mono ?_) | refine Below.trans ?_ (c13.mono ?_))) <;> (first | omega | (simp; done) | (simp; omega))))⟩
end Go.Proofs.Ythklljlachljgaa
