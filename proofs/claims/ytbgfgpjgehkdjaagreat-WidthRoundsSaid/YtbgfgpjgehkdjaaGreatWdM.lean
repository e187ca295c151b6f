/- The examples of the chapter on width: the check that stands in every statement answers true. -/
import Derived.Test.YtbgfgpjgehkdjaaGreatWdL
namespace Go.Proofs.YtbgfgpjgehkdjaaGreat
open Go.RowKit

def exS (n : Nat) : Si := ⟨0, 1, 0, 20, exL n⟩
set_option maxRecDepth 100000 in
theorem head_vals29 : (pkW (exS 4) 3 = 8 ∧ pkE (exS 4) 3 = 0) ∧ (wdt (exS 4) [0, 1, 2, 3] 1000 = 8 ∧ wdEr (exS 4) [0, 1, 2, 3] 1000 = 0) ∧ (wdt (exS 3) [0, 1, 2] 1000000000000 = 16 ∧ wdEr (exS 3) [0, 1, 2] 1000000000000 = 0) ∧ (grw 50000 1000000 = 101 ∧ elEr 50000 1000000 = 0) ∧ wdEr (exS 2) [0, 1] 1000 = 1 ∧ siB (exS 4) = true ∧ rgB (exS 3) [0, 1, 2] 20 = false := by
  refine ⟨⟨by decide, by decide⟩, ⟨by decide, by decide⟩, ⟨by decide, by decide⟩, ⟨by decide, by decide⟩, by decide, by decide, by decide⟩
set_option maxRecDepth 100000 in
set_option maxHeartbeats 2000000 in
theorem head_any (w : World) : Calls Tryz.prog 4 #[] w fun e w' => e = .returned (.bool true) ∧ Below w.heap.size w w' := by
  obtain ⟨⟨v1, v2⟩, ⟨v3, v4⟩, ⟨v5, v6⟩, ⟨v7, v8⟩, v9, v10, v11⟩ := head_vals29
  unfold exS at v1 v2 v3 v4 v5 v6 v9 v10 v11
  go_enter Tryz.func4, Tryz.ntmps4
  go_wp2_with fail
  refine (example_any 4 (by omega) _).mono ?_
  rintro e w1 ⟨pv1, rfl, r1, b1⟩
  go_wp2_with fail
  refine (wdPeer_any 0 1 0 20 pv1 (exL 4) 3 _ r1).mono ?_
  rintro e w2 ⟨rfl, b2⟩
  rw [v1, v2]
  clear r1 v1 v2
  go_wp2_with fail
  refine (example_any 4 (by omega) _).mono ?_
  rintro e w3 ⟨pv3, rfl, r3, b3⟩
  go_wp2_with fail
  refine (wdWidthS_any 0 1 0 20 pv3 (exL 4) _ [0, 1, 2, 3] 1000 _ (r3.below (Nat.le_refl _) (by ((repeat' (first | with_reducible exact Below.refl _ _ | with_reducible refine Below.alloc ?_ ?_ _ | with_reducible refine Below.setCell ?_ ?_ _ | with_reducible refine Below.drew ?_ | with_reducible refine below_drewN ?_ _)) <;> (first | omega | (simp; done) | (simp; omega))))) (by simpa [encI] using isrow_lit w3 [0, 1, 2, 3] 3 (by decide))).mono ?_
  rintro e w4 ⟨rfl, b4⟩
  rw [v3, v4]
  clear r3 v3 v4
  have z1 := b1.size
  have z2 := b2.size
  have z3 := b3.size
  have z4 := b4.size
  simp at z4
  have c4 : Below w.heap.size w w4 := (by ((repeat' (first | with_reducible exact Below.refl _ _ | with_reducible exact b4 | with_reducible exact b3 | with_reducible exact b2 | with_reducible exact b1 | with_reducible refine Below.alloc ?_ ?_ _ | with_reducible refine Below.setCell ?_ ?_ _ | with_reducible refine Below.drew ?_ | with_reducible refine below_drewN ?_ _ | with_reducible refine Below.trans ?_ (b4.mono ?_) | with_reducible refine Below.trans ?_ (b3.mono ?_) | with_reducible refine Below.trans ?_ (b2.mono ?_) | with_reducible refine Below.trans ?_ (b1.mono ?_))) <;> (first | omega | (simp; done) | (simp; omega))))
  clear b1 b2 b3 b4
  go_wp2_with fail
  refine (example_any 3 (by omega) _).mono ?_
  rintro e w5 ⟨pv5, rfl, r5, b5⟩
  go_wp2_with fail
  refine (wdWidthS_any 0 1 0 20 pv5 (exL 3) _ [0, 1, 2] 1000000000000 _ (r5.below (Nat.le_refl _) (by ((repeat' (first | with_reducible exact Below.refl _ _ | with_reducible refine Below.alloc ?_ ?_ _ | with_reducible refine Below.setCell ?_ ?_ _ | with_reducible refine Below.drew ?_ | with_reducible refine below_drewN ?_ _)) <;> (first | omega | (simp; done) | (simp; omega))))) (by simpa [encI] using isrow_lit w5 [0, 1, 2] 3 (by decide))).mono ?_
  rintro e w6 ⟨rfl, b6⟩
  rw [v5, v6]
  clear r5 v5 v6
  go_wp2_with fail
  refine (wdGrowth_any 50000 1000000 _).mono ?_
  rintro e w7 ⟨rfl, b7⟩
  rw [v7, v8]
  clear v7 v8
  have z5 := b5.size
  have z6 := b6.size
  simp at z6
  have z7 := b7.size
  have c7 : Below w.heap.size w w7 := (by ((repeat' (first | with_reducible exact Below.refl _ _ | with_reducible exact b7 | with_reducible exact b6 | with_reducible exact b5 | with_reducible exact c4 | with_reducible refine Below.alloc ?_ ?_ _ | with_reducible refine Below.setCell ?_ ?_ _ | with_reducible refine Below.drew ?_ | with_reducible refine below_drewN ?_ _ | with_reducible refine Below.trans ?_ (b7.mono ?_) | with_reducible refine Below.trans ?_ (b6.mono ?_) | with_reducible refine Below.trans ?_ (b5.mono ?_) | with_reducible refine Below.trans ?_ (c4.mono ?_))) <;> (first | omega | (simp; done) | (simp; omega))))
  clear b5 b6 b7 c4
  go_wp2_with fail
  refine (example_any 2 (by omega) _).mono ?_
  rintro e w8 ⟨pv8, rfl, r8, b8⟩
  go_wp2_with fail
  refine (wdWidthS_any 0 1 0 20 pv8 (exL 2) _ [0, 1] 1000 _ (r8.below (Nat.le_refl _) (by ((repeat' (first | with_reducible exact Below.refl _ _ | with_reducible refine Below.alloc ?_ ?_ _ | with_reducible refine Below.setCell ?_ ?_ _ | with_reducible refine Below.drew ?_ | with_reducible refine below_drewN ?_ _)) <;> (first | omega | (simp; done) | (simp; omega))))) (by simpa [encI] using isrow_lit w8 [0, 1] 3 (by decide))).mono ?_
  rintro e w9 ⟨rfl, b9⟩
  rw [v9]
  generalize wdt ⟨0, 1, 0, 20, exL 2⟩ [0, 1] 1000 = y9
  clear r8 v9
  have z8 := b8.size
  have z9 := b9.size
  simp at z9
  have c9 : Below w.heap.size w w9 := (by ((repeat' (first | with_reducible exact Below.refl _ _ | with_reducible exact b9 | with_reducible exact b8 | with_reducible exact c7 | with_reducible refine Below.alloc ?_ ?_ _ | with_reducible refine Below.setCell ?_ ?_ _ | with_reducible refine Below.drew ?_ | with_reducible refine below_drewN ?_ _ | with_reducible refine Below.trans ?_ (b9.mono ?_) | with_reducible refine Below.trans ?_ (b8.mono ?_) | with_reducible refine Below.trans ?_ (c7.mono ?_))) <;> (first | omega | (simp; done) | (simp; omega))))
  clear b8 b9 c7
  go_wp2_with fail
  refine (example_any 4 (by omega) _).mono ?_
  rintro e w10 ⟨pv10, rfl, r10, b10⟩
  go_wp2_with fail
  refine (wdValid_any 0 1 0 20 pv10 (exL 4) _ r10).mono ?_
  rintro e w11 ⟨rfl, b11⟩
  rw [v10]
  clear r10 v10
  go_wp2_with fail
  refine (example_any 3 (by omega) _).mono ?_
  rintro e w12 ⟨pv12, rfl, r12, b12⟩
  go_wp2_with fail
  refine (wdRight_any 0 1 0 20 pv12 (exL 3) _ [0, 1, 2] 20 _ (r12.below (Nat.le_refl _) (by ((repeat' (first | with_reducible exact Below.refl _ _ | with_reducible refine Below.alloc ?_ ?_ _ | with_reducible refine Below.setCell ?_ ?_ _ | with_reducible refine Below.drew ?_ | with_reducible refine below_drewN ?_ _)) <;> (first | omega | (simp; done) | (simp; omega))))) (by simpa [encI] using isrow_lit w12 [0, 1, 2] 3 (by decide))).mono ?_
  rintro e w13 ⟨rfl, b13⟩
  rw [v11]
  have z10 := b10.size
  have z11 := b11.size
  have z12 := b12.size
  go_wp2_with fail
  go_ret
  exact ⟨rfl, (by ((repeat' (first | with_reducible exact Below.refl _ _ | with_reducible exact b13 | with_reducible exact b12 | with_reducible exact b11 | with_reducible exact b10 | with_reducible exact c9 | with_reducible refine Below.alloc ?_ ?_ _ | with_reducible refine Below.setCell ?_ ?_ _ | with_reducible refine Below.drew ?_ | with_reducible refine below_drewN ?_ _ | with_reducible refine Below.trans ?_ (b13.mono ?_) | with_reducible refine Below.trans ?_ (b12.mono ?_) | with_reducible refine Below.trans ?_ (b11.mono ?_) | with_reducible refine Below.trans ?_ (b10.mono ?_) | with_reducible refine Below.trans ?_ (c9.mono ?_))) <;> (first | omega | (simp; done) | (simp; omega))))⟩
end Go.Proofs.YtbgfgpjgehkdjaaGreat
