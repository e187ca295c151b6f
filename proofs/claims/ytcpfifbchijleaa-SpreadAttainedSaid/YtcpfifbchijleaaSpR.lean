/- The examples of the chapter on widths: the check that stands in every statement answers true. -/
import Derived.Test.YtcpfifbchijleaaSpO
import Derived.Test.YtcpfifbchijleaaSpH
namespace Go.Proofs.Ytcpfifbchijleaa
open Go.RowKit
attribute [local go_sem ↓] run_max_mx run_min_mn run_eql_iv run_neq_iv
theorem ivrow_lit (w : World) (c : List Iv) (t : TypeId) (hc : c.length ≤ 9223372036854775807) : IvRow (w.alloc (.cells (encL c).toArray t)) (.slice (some ⟨w.heap.size, 0, none⟩) c.length c.length) c := by
  refine ⟨_, _, rfl, Nat.le_refl _, hc, fun i hi => ⟨_, 0, rfl, by simp, ?_, ?_⟩⟩
  · rw [Nat.zero_add, World.cell?_alloc_new]; simpa using (encL_at c i hi).1
  · rw [Nat.zero_add, World.cell?_alloc_new]; simpa using (encL_at c i hi).2
theorem head_vals : worst [10, 20, 30] 0 1 = 20 ∧ spEr [10, 20, 30] 0 1 = 0 ∧ worst [8, 8, 8, 8] 1 0 = 8 ∧ spEr [8, 8, 8, 8] 1 0 = 0 ∧ worst [8, 8, 8] 1 0 = 16 ∧ spEr [8, 8, 8] 1 0 = 0 ∧
    worst [10, 9, 9, 0, 0, 0] 2 0 = 10 ∧ spEr [10, 9, 9, 0, 0, 0] 2 0 = 0 ∧ placeEr [8, 8, 8] 1 0 100 = 0 ∧ placeL [8, 8, 8] 1 0 100 = [(92, 100), (100, 108), (92, 108)] ∧
    spEr [5, 9, 5, 7] 1 1 = 0 ∧ spEr [8, 8] 1 0 = 20 := by decide
theorem head_picks : pickL [5, 9, 5, 7] 1 1 = [0] ∧ goneL [5, 9, 5, 7] 1 1 = [2] := by
  have h1 : spOk [5, 9, 5, 7] 1 1 = true := by decide
  have h2 : pieceI [5, 9, 5, 7] (spM [5, 9, 5, 7] 1 1) 1 = [0] := by decide
  have h3 : pieceI [5, 9, 5, 7] (spM [5, 9, 5, 7] 1 1 + 1) 1 = [2] := by decide
  constructor
  · unfold pickL; rw [if_pos h1, show (1 : Int).toNat = 1 from rfl, h2]; simp [srtI]
  · unfold goneL; rw [if_pos h1, show (1 : Int).toNat = 1 from rfl, show [(5 : Int), 9, 5, 7].length - (spM [5, 9, 5, 7] 1 1 + 1) = 1 by decide, h3]; simp [srtI]
set_option maxRecDepth 100000 in
set_option maxHeartbeats 2000000 in
theorem head_any (w : World) : Calls Try.prog 10 #[] w fun e w' => e = .returned (.bool true) ∧ Below w.heap.size w w' := by
  obtain ⟨v1, v2, v3, v4, v5, v6, v7, v8, v9, v10, v11, v12⟩ := head_vals
  obtain ⟨v13, v14⟩ := head_picks
  go_enter Try.func10, Try.ntmps10
  go_wp2_with fail
  refine (Worst_any _ [10, 20, 30] _ _ _ (by simpa [encI] using isrow_lit w [10, 20, 30] 3 (by decide))).mono ?_
  rintro e w1 ⟨rfl, b1⟩
  rw [v1, v2]
  have c1 : Below w.heap.size w w1 := (by ((repeat' (first | exact Below.refl _ _ | exact b1 | refine Below.alloc ?_ ?_ _ | refine Below.setCell ?_ ?_ _ | refine Below.drew ?_ | refine below_drewN ?_ _ | refine Below.trans ?_ (b1.mono ?_))) <;> (first | omega | (simp; done) | (simp; omega))))
  clear b1 v1 v2
  go_wp2_with fail
  refine (Worst_any _ [8, 8, 8, 8] _ _ _ (by simpa [encI] using isrow_lit w1 [8, 8, 8, 8] 3 (by decide))).mono ?_
  rintro e w2 ⟨rfl, b2⟩
  rw [v3, v4]
  have c2 : Below w1.heap.size w1 w2 := (by ((repeat' (first | exact Below.refl _ _ | exact b2 | refine Below.alloc ?_ ?_ _ | refine Below.setCell ?_ ?_ _ | refine Below.drew ?_ | refine below_drewN ?_ _ | refine Below.trans ?_ (b2.mono ?_))) <;> (first | omega | (simp; done) | (simp; omega))))
  clear b2 v3 v4
  go_wp2_with fail
  refine (Worst_any _ [8, 8, 8] _ _ _ (by simpa [encI] using isrow_lit w2 [8, 8, 8] 3 (by decide))).mono ?_
  rintro e w3 ⟨rfl, b3⟩
  rw [v5, v6]
  have c3 : Below w2.heap.size w2 w3 := (by ((repeat' (first | exact Below.refl _ _ | exact b3 | refine Below.alloc ?_ ?_ _ | refine Below.setCell ?_ ?_ _ | refine Below.drew ?_ | refine below_drewN ?_ _ | refine Below.trans ?_ (b3.mono ?_))) <;> (first | omega | (simp; done) | (simp; omega))))
  clear b3 v5 v6
  go_wp2_with fail
  refine (Worst_any _ [10, 9, 9, 0, 0, 0] _ _ _ (by simpa [encI] using isrow_lit w3 [10, 9, 9, 0, 0, 0] 3 (by decide))).mono ?_
  rintro e w4 ⟨rfl, b4⟩
  rw [v7, v8]
  have c4 : Below w3.heap.size w3 w4 := (by ((repeat' (first | exact Below.refl _ _ | exact b4 | refine Below.alloc ?_ ?_ _ | refine Below.setCell ?_ ?_ _ | refine Below.drew ?_ | refine below_drewN ?_ _ | refine Below.trans ?_ (b4.mono ?_))) <;> (first | omega | (simp; done) | (simp; omega))))
  clear b4 v7 v8
  go_wp2_with fail
  refine (Place_any _ [8, 8, 8] _ _ _ _ (by simpa [encI] using isrow_lit w4 [8, 8, 8] 3 (by decide))).mono ?_
  rintro e w5 ⟨pv, rfl, ho5, b5⟩
  rw [v10] at ho5
  rw [v9]
  have c5 : Below w4.heap.size w4 w5 := (by ((repeat' (first | exact Below.refl _ _ | exact b5 | refine Below.alloc ?_ ?_ _ | refine Below.setCell ?_ ?_ _ | refine Below.drew ?_ | refine below_drewN ?_ _ | refine Below.trans ?_ (b5.mono ?_))) <;> (first | omega | (simp; done) | (simp; omega))))
  have r5 := ho5.row
  clear b5 v9 v10 ho5
  go_wp2_with fail
  refine (Pick_any _ [5, 9, 5, 7] _ _ _ (by simpa [encI] using isrow_lit w5 [5, 9, 5, 7] 3 (by decide))).mono ?_
  rintro e w6 ⟨lv, gv, rfl, ho6, ho6', b6⟩
  rw [v13] at ho6
  rw [v14] at ho6'
  rw [v11]
  have c6 : Below w5.heap.size w5 w6 := (by ((repeat' (first | exact Below.refl _ _ | exact b6 | refine Below.alloc ?_ ?_ _ | refine Below.setCell ?_ ?_ _ | refine Below.drew ?_ | refine below_drewN ?_ _ | refine Below.trans ?_ (b6.mono ?_))) <;> (first | omega | (simp; done) | (simp; omega))))
  have r6 := ho6.row
  have s6 := ho6'.row
  clear b6 v11 v13 v14 ho6 ho6'
  go_wp2_with fail
  refine (Worst_any _ [8, 8] _ _ _ (by simpa [encI] using isrow_lit w6 [8, 8] 3 (by decide))).mono ?_
  rintro e w7 ⟨rfl, b7⟩
  rw [v12]
  have c7 : Below w6.heap.size w6 w7 := (by ((repeat' (first | exact Below.refl _ _ | exact b7 | refine Below.alloc ?_ ?_ _ | refine Below.setCell ?_ ?_ _ | refine Below.drew ?_ | refine below_drewN ?_ _ | refine Below.trans ?_ (b7.mono ?_))) <;> (first | omega | (simp; done) | (simp; omega))))
  have r7 := (r5.below (Nat.le_refl _) c6).below (Nat.le_refl _) c7
  have s7 := r6.below (Nat.le_refl _) c7
  have t7 := s6.below (Nat.le_refl _) c7
  have z1 := c1.size
  have z2 := c2.size
  have z3 := c3.size
  have z4 := c4.size
  have z5 := c5.size
  have z6 := c6.size
  have z7 := c7.size
  have cw : Below w.heap.size w w7 := (by ((repeat' (first | exact Below.refl _ _ | exact c1 | exact c2 | exact c3 | exact c4 | exact c5 | exact c6 | exact c7 | refine Below.alloc ?_ ?_ _ | refine Below.setCell ?_ ?_ _ | refine Below.drew ?_ | refine below_drewN ?_ _ | refine Below.trans ?_ (c1.mono ?_) | refine Below.trans ?_ (c2.mono ?_) | refine Below.trans ?_ (c3.mono ?_) | refine Below.trans ?_ (c4.mono ?_) | refine Below.trans ?_ (c5.mono ?_) | refine Below.trans ?_ (c6.mono ?_) | refine Below.trans ?_ (c7.mono ?_))) <;> (first | omega | (simp; done) | (simp; omega))))
  clear b7 v12 r5 r6 s6 c1 c2 c3 c4 c5 c6 c7
  generalize worst [8, 8] 1 0 = y
  go_wp2_with fail
  have q1 := ivrow_lit w7 [(92, 100), (100, 108), (92, 108)] 46 (by decide)
  refine (RSame15_any _ _ _ [(92, 100), (100, 108), (92, 108)] _ (r7.below (Nat.le_refl _) (by ((repeat' (first | exact Below.refl _ _ | refine Below.alloc ?_ ?_ _ | refine Below.setCell ?_ ?_ _ | refine Below.drew ?_ | refine below_drewN ?_ _)) <;> (first | omega | (simp; done) | (simp; omega))))) q1).mono ?_
  rintro e w8 ⟨rfl, b8⟩
  rw [show decide (([(92, 100), (100, 108), (92, 108)] : List Iv) = [(92, 100), (100, 108), (92, 108)]) = true from by decide]
  have c8 : Below w7.heap.size w7 w8 := (by ((repeat' (first | exact Below.refl _ _ | exact b8 | refine Below.alloc ?_ ?_ _ | refine Below.setCell ?_ ?_ _ | refine Below.drew ?_ | refine below_drewN ?_ _ | refine Below.trans ?_ (b8.mono ?_))) <;> (first | omega | (simp; done) | (simp; omega))))
  have s8 := s7.below (Nat.le_refl _) c8
  have t8 := t7.below (Nat.le_refl _) c8
  clear b8 q1 r7 s7 t7
  go_wp2_with fail
  have q2 := isrow_lit w8 [0] 3 (by decide)
  refine (RSameInts15_any _ _ _ [0] _ (s8.below (Nat.le_refl _) (by ((repeat' (first | exact Below.refl _ _ | refine Below.alloc ?_ ?_ _ | refine Below.setCell ?_ ?_ _ | refine Below.drew ?_ | refine below_drewN ?_ _)) <;> (first | omega | (simp; done) | (simp; omega))))) (by simpa [encI] using q2)).mono ?_
  rintro e w9 ⟨rfl, b9⟩
  rw [show decide (([0] : List Int) = [0]) = true from by decide]
  have c9 : Below w8.heap.size w8 w9 := (by ((repeat' (first | exact Below.refl _ _ | exact b9 | refine Below.alloc ?_ ?_ _ | refine Below.setCell ?_ ?_ _ | refine Below.drew ?_ | refine below_drewN ?_ _ | refine Below.trans ?_ (b9.mono ?_))) <;> (first | omega | (simp; done) | (simp; omega))))
  have t9 := t8.below (Nat.le_refl _) c9
  clear b9 q2 s8 t8
  go_wp2_with fail
  have q3 := isrow_lit w9 [2] 3 (by decide)
  refine (RSameInts15_any _ _ _ [2] _ (t9.below (Nat.le_refl _) (by ((repeat' (first | exact Below.refl _ _ | refine Below.alloc ?_ ?_ _ | refine Below.setCell ?_ ?_ _ | refine Below.drew ?_ | refine below_drewN ?_ _)) <;> (first | omega | (simp; done) | (simp; omega))))) (by simpa [encI] using q3)).mono ?_
  rintro e w10 ⟨rfl, b10⟩
  rw [show decide (([2] : List Int) = [2]) = true from by decide]
  have c10 : Below w9.heap.size w9 w10 := (by ((repeat' (first | exact Below.refl _ _ | exact b10 | refine Below.alloc ?_ ?_ _ | refine Below.setCell ?_ ?_ _ | refine Below.drew ?_ | refine below_drewN ?_ _ | refine Below.trans ?_ (b10.mono ?_))) <;> (first | omega | (simp; done) | (simp; omega))))
  go_wp2_with fail
  go_ret
  have z8 := c8.size
  have z9 := c9.size
  exact ⟨rfl, (by ((repeat' (first | exact Below.refl _ _ | exact cw | exact c8 | exact c9 | exact c10 | refine Below.alloc ?_ ?_ _ | refine Below.setCell ?_ ?_ _ | refine Below.drew ?_ | refine below_drewN ?_ _ | refine Below.trans ?_ (cw.mono ?_) | refine Below.trans ?_ (c8.mono ?_) | refine Below.trans ?_ (c9.mono ?_) | refine Below.trans ?_ (c10.mono ?_))) <;> (first | omega | (simp; done) | (simp; omega))))⟩
end Go.Proofs.Ytcpfifbchijleaa
