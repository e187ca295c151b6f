/- The examples of the chapter on combine: the check that stands in every statement answers true. -/
import Derived.Test.YtbocjiepobccpaaCbD
namespace Go.Proofs.Ytbocjiepobccpaa
open Go.RowKit
attribute [local go_sem ↓] run_max_mx run_min_mn run_eql_iv run_neq_iv
theorem ivrow_lit (w : World) (c : List Iv) (t : TypeId) (hc : c.length ≤ 9223372036854775807) : IvRow (w.alloc (.cells (encL c).toArray t)) (.slice (some ⟨w.heap.size, 0, none⟩) c.length c.length) c := by
  refine ⟨_, _, rfl, Nat.le_refl _, hc, fun i hi => ⟨_, 0, rfl, by simp, ?_, ?_⟩⟩
  · rw [Nat.zero_add, World.cell?_alloc_new]; simpa using (encL_at c i hi).1
  · rw [Nat.zero_add, World.cell?_alloc_new]; simpa using (encL_at c i hi).2
def L4 : List Iv := [(10, 20), (15, 30), (18, 40), (100, 110)]
def M4 : List Iv := [(0, 5), (4, 9), (20, 30), (25, 35)]
theorem head_vals : cbLo L4 1 = 18 ∧ cbHi L4 1 = 20 ∧ cbEr L4 1 = 0 ∧ outL L4 1 = [3] ∧ cbEr L4 0 = 21 ∧ setEr M4 2 = 0 ∧ setL M4 2 = [(4, 5), (25, 30)] ∧ cbLo M4 2 = 4 ∧ cbHi M4 2 = 30 ∧ cbEr M4 2 = 0 ∧ cbEr M4 4 = 20 := by decide
set_option maxRecDepth 100000 in
set_option maxHeartbeats 2000000 in
theorem head_any (w : World) : Calls Try.prog 10 #[] w fun e w' => e = .returned (.bool true) ∧ Below w.heap.size w w' := by
  obtain ⟨v1, v2, v3, v4, v5, v6, v7, v8, v9, v10, v11⟩ := head_vals
  have hl0 : IvRow ((w.alloc (.cells #[.int .i64 10, .int .i64 20, .int .i64 15, .int .i64 30, .int .i64 18, .int .i64 40, .int .i64 100, .int .i64 110] 29)).alloc (.cells #[.int .i64 0, .int .i64 5, .int .i64 4, .int .i64 9, .int .i64 20, .int .i64 30, .int .i64 25, .int .i64 35] 29)) (.slice (some ⟨w.heap.size, 0, none⟩) 4 4) L4 :=
    (ivrow_lit w L4 _ (by decide)).below (Nat.le_refl _) ((Below.refl _ _).alloc (Nat.le_refl _) _)
  have hm0 : IvRow ((w.alloc (.cells #[.int .i64 10, .int .i64 20, .int .i64 15, .int .i64 30, .int .i64 18, .int .i64 40, .int .i64 100, .int .i64 110] 29)).alloc (.cells #[.int .i64 0, .int .i64 5, .int .i64 4, .int .i64 9, .int .i64 20, .int .i64 30, .int .i64 25, .int .i64 35] 29)) (.slice (some ⟨w.heap.size + 1, 0, none⟩) 4 4) M4 := by
    have := ivrow_lit (w.alloc (.cells #[.int .i64 10, .int .i64 20, .int .i64 15, .int .i64 30, .int .i64 18, .int .i64 40, .int .i64 100, .int .i64 110] 29)) M4 29 (by decide)
    rw [World.size_alloc] at this
    exact this
  go_enter Try.func10, Try.ntmps10
  go_wp2_with fail
  have b0 : Below w.heap.size w ((w.alloc (.cells #[.int .i64 10, .int .i64 20, .int .i64 15, .int .i64 30, .int .i64 18, .int .i64 40, .int .i64 100, .int .i64 110] 29)).alloc (.cells #[.int .i64 0, .int .i64 5, .int .i64 4, .int .i64 9, .int .i64 20, .int .i64 30, .int .i64 25, .int .i64 35] 29)) := (by ((repeat' (first | exact Below.refl _ _ | refine Below.alloc ?_ ?_ _ | refine Below.setCell ?_ ?_ _ | refine Below.drew ?_ | refine below_drewN ?_ _)) <;> (first | omega | (simp; done) | (simp; omega))))
  generalize (w.alloc (.cells #[.int .i64 10, .int .i64 20, .int .i64 15, .int .i64 30, .int .i64 18, .int .i64 40, .int .i64 100, .int .i64 110] 29)).alloc (.cells #[.int .i64 0, .int .i64 5, .int .i64 4, .int .i64 9, .int .i64 20, .int .i64 30, .int .i64 25, .int .i64 35] 29) = w0 at *
  have z0 := b0.size
  refine (Combine_any _ L4 _ _ hl0).mono ?_
  rintro e w1 ⟨rfl, b1⟩
  rw [v1, v2, v3]
  have z1 := b1.size
  go_wp2_with fail
  have b1' : Below w0.heap.size w0 (w1.alloc (.cells #[.int .i64 18, .int .i64 20] 29)) := (by ((repeat' (first | exact Below.refl _ _ | exact b1 | refine Below.alloc ?_ ?_ _ | refine Below.setCell ?_ ?_ _ | refine Below.drew ?_ | refine below_drewN ?_ _ | refine Below.trans ?_ (b1.mono ?_))) <;> (first | omega | (simp; done) | (simp; omega))))
  have hl1 := hl0.below (Nat.le_refl _) b1'
  have hm1 := hm0.below (Nat.le_refl _) b1'
  refine (Outside_any _ L4 _ _ hl1).mono ?_
  rintro e w2 ⟨ov, rfl, ho, b2⟩
  rw [v3]
  rw [v4] at ho
  have z2 := b2.size
  simp only [World.size_alloc] at z2
  have hl2 := hl1.below (Nat.le_refl _) b2
  have hm2 := hm1.below (Nat.le_refl _) b2
  have c2 := (bk b2 w1.heap.size (by simp)).1
  go_wp2_with fail
  refine (Combine_any _ L4 _ _ hl2).mono ?_
  rintro e w3 ⟨rfl, b3⟩
  rw [v5]
  have z3 := b3.size
  go_wp2_with fail
  generalize hA3 : Obj.cells #[Value.int IntKind.i64 (cbLo L4 0), Value.int IntKind.i64 (cbHi L4 0)] 29 = A3
  have b3' : Below w2.heap.size w2 (w3.alloc A3) := (by ((repeat' (first | exact Below.refl _ _ | exact b3 | refine Below.alloc ?_ ?_ _ | refine Below.setCell ?_ ?_ _ | refine Below.drew ?_ | refine below_drewN ?_ _ | refine Below.trans ?_ (b3.mono ?_))) <;> (first | omega | (simp; done) | (simp; omega))))
  have hm3 := hm2.below (Nat.le_refl _) b3'
  refine (Set_any _ M4 _ _ hm3).mono ?_
  rintro e w4 ⟨sv, rfl, hs, b4⟩
  rw [v6]
  rw [v7] at hs
  have z4 := b4.size
  simp only [World.size_alloc] at z4
  have hm4 := hm3.below (Nat.le_refl _) b4
  go_wp2_with fail
  refine (Combine_any _ M4 _ _ hm4).mono ?_
  rintro e w5 ⟨rfl, b5⟩
  rw [v8, v9, v10]
  have z5 := b5.size
  go_wp2_with fail
  have b5' : Below w4.heap.size w4 (w5.alloc (.cells #[.int .i64 4, .int .i64 30] 29)) := (by ((repeat' (first | exact Below.refl _ _ | exact b5 | refine Below.alloc ?_ ?_ _ | refine Below.setCell ?_ ?_ _ | refine Below.drew ?_ | refine below_drewN ?_ _ | refine Below.trans ?_ (b5.mono ?_))) <;> (first | omega | (simp; done) | (simp; omega))))
  have hm5 := hm4.below (Nat.le_refl _) b5'
  refine (Combine_any _ M4 _ _ hm5).mono ?_
  rintro e w6 ⟨rfl, b6⟩
  rw [v11]
  have z6 := b6.size
  simp only [World.size_alloc] at z6
  have c6 := (bk b6 w5.heap.size (by simp)).1
  -- the boxes at the end
  have b26 : Below w2.heap.size w2 w6 := (by ((repeat' (first | exact Below.refl _ _ | exact b3 | exact b4 | exact b5 | exact b6 | refine Below.alloc ?_ ?_ _ | refine Below.setCell ?_ ?_ _ | refine Below.drew ?_ | refine below_drewN ?_ _ | refine Below.trans ?_ (b3.mono ?_) | refine Below.trans ?_ (b4.mono ?_) | refine Below.trans ?_ (b5.mono ?_) | refine Below.trans ?_ (b6.mono ?_))) <;> (first | omega | (simp; done) | (simp; omega))))
  have b46 : Below w4.heap.size w4 w6 := (by ((repeat' (first | exact Below.refl _ _ | exact b5 | exact b6 | refine Below.alloc ?_ ?_ _ | refine Below.setCell ?_ ?_ _ | refine Below.drew ?_ | refine below_drewN ?_ _ | refine Below.trans ?_ (b5.mono ?_) | refine Below.trans ?_ (b6.mono ?_))) <;> (first | omega | (simp; done) | (simp; omega))))
  have ho6 := ho.row.below (Nat.le_refl _) b26
  have hs6 := hs.row.below (Nat.le_refl _) b46
  have d0 : w6.cell? ⟨w1.heap.size, 0, none⟩ = some (.int .i64 18) := by rw [(bk b26 w1.heap.size (by omega)).1, c2]; simp
  have d1 : w6.cell? ⟨w1.heap.size, 1, none⟩ = some (.int .i64 20) := by rw [(bk b26 w1.heap.size (by omega)).1, c2]; simp
  have d2 : w6.cell? ⟨w5.heap.size, 0, none⟩ = some (.int .i64 4) := by rw [c6]; simp
  have d3 : w6.cell? ⟨w5.heap.size, 1, none⟩ = some (.int .i64 30) := by rw [c6]; simp
  have bw6 : Below w.heap.size w w6 := (by ((repeat' (first | exact Below.refl _ _ | exact b0 | exact b1 | exact b2 | exact b26 | refine Below.alloc ?_ ?_ _ | refine Below.setCell ?_ ?_ _ | refine Below.drew ?_ | refine below_drewN ?_ _ | refine Below.trans ?_ (b0.mono ?_) | refine Below.trans ?_ (b1.mono ?_) | refine Below.trans ?_ (b2.mono ?_) | refine Below.trans ?_ (b26.mono ?_))) <;> (first | omega | (simp; done) | (simp; omega))))
  clear hA3 c2 c6 v1 v2 v3 v4 v5 v6 v7 v8 v9 v10 v11 hl0 hm0 hl1 hm1 hl2 hm2 hm3 hm4 hm5 b0 b1 b1' b2 b3 b3' b4 b5 b5' b6 b26 b46 ho hs
  have k15 : w1.heap.size < w6.heap.size := by omega
  have k56 : w5.heap.size < w6.heap.size := by omega
  have u1 : ivEq 18 20 18 20 = true := by decide
  have u2 : ivEq 4 30 4 30 = true := by decide
  generalize cbLo M4 4 = x6
  generalize cbHi M4 4 = y6
  go_wp2_with fail
  have bA : Below w6.heap.size w6 ((w6.alloc (.cells #[.int .i64 x6, .int .i64 y6] 29)).alloc (.cells #[.int .i64 3] 3)) := (by ((repeat' (first | exact Below.refl _ _ | refine Below.alloc ?_ ?_ _ | refine Below.setCell ?_ ?_ _ | refine Below.drew ?_ | refine below_drewN ?_ _)) <;> (first | omega | (simp; done) | (simp; omega))))
  have r1 := isrow_lit (w6.alloc (.cells #[.int .i64 x6, .int .i64 y6] 29)) [3] 3 (by decide)
  refine (RSameInts_any _ _ _ [3] _ (ho6.below (Nat.le_refl _) bA) (by simpa [encI] using r1)).mono ?_
  rintro e w7 ⟨rfl, b7⟩
  rw [show decide (([3] : List Int) = [3]) = true from by decide]
  have b7' : Below w6.heap.size w6 w7 := (by ((repeat' (first | exact Below.refl _ _ | exact bA | exact b7 | refine Below.alloc ?_ ?_ _ | refine Below.setCell ?_ ?_ _ | refine Below.drew ?_ | refine below_drewN ?_ _ | refine Below.trans ?_ (bA.mono ?_) | refine Below.trans ?_ (b7.mono ?_))) <;> (first | omega | (simp; done) | (simp; omega))))
  have z7 := b7'.size
  have e2 := (b7'.cell (p := ⟨w5.heap.size, 0, none⟩) (by show w5.heap.size < _; omega)).trans d2
  have e3 := (b7'.cell (p := ⟨w5.heap.size, 1, none⟩) (by show w5.heap.size < _; omega)).trans d3
  have hs7 := hs6.below (Nat.le_refl _) b7'
  go_wp2_with fail
  have r2 := ivrow_lit w7 [(4, 5), (25, 30)] 29 (by decide)
  refine (RSame_any _ _ _ [(4, 5), (25, 30)] _ (hs7.below (Nat.le_refl _) (by ((repeat' (first | exact Below.refl _ _ | refine Below.alloc ?_ ?_ _ | refine Below.setCell ?_ ?_ _ | refine Below.drew ?_ | refine below_drewN ?_ _)) <;> (first | omega | (simp; done) | (simp; omega))))) r2).mono ?_
  rintro e w8 ⟨rfl, b8⟩
  rw [show decide (([(4, 5), (25, 30)] : List Iv) = [(4, 5), (25, 30)]) = true from by decide]
  have b8' : Below w7.heap.size w7 w8 := (by ((repeat' (first | exact Below.refl _ _ | exact b8 | refine Below.alloc ?_ ?_ _ | refine Below.setCell ?_ ?_ _ | refine Below.drew ?_ | refine below_drewN ?_ _ | refine Below.trans ?_ (b8.mono ?_))) <;> (first | omega | (simp; done) | (simp; omega))))
  have g2 := (b8'.cell (p := ⟨w5.heap.size, 0, none⟩) (by show w5.heap.size < _; omega)).trans e2
  have g3 := (b8'.cell (p := ⟨w5.heap.size, 1, none⟩) (by show w5.heap.size < _; omega)).trans e3
  go_wp2_with fail
  go_ret
  exact ⟨rfl, (by ((repeat' (first | exact Below.refl _ _ | exact bw6 | exact b7' | exact b8' | refine Below.alloc ?_ ?_ _ | refine Below.setCell ?_ ?_ _ | refine Below.drew ?_ | refine below_drewN ?_ _ | refine Below.trans ?_ (bw6.mono ?_) | refine Below.trans ?_ (b7'.mono ?_) | refine Below.trans ?_ (b8'.mono ?_))) <;> (first | omega | (simp; done) | (simp; omega))))⟩
end Go.Proofs.Ytbocjiepobccpaa
