/- CombineMatchesReference: for every list and number the statement answers true and leaves its arguments as they were. No condition. -/
import Derived.Test.YtbocjiepobccpaaCbL
import Derived.Test.YtbocjiepobccpaaFr
namespace Go.Proofs.Ytbocjiepobccpaa
open Go.RowKit
attribute [local go_sem ↓] run_max_mx run_min_mn run_eql_iv run_neq_iv
theorem ivEq_self (a b : Int) : ivEq a b a b = true := by simp [ivEq]
set_option maxRecDepth 100000 in
set_option maxHeartbeats 1000000 in
theorem CbMatches_any (w : World) (v : Value) (l : List Iv) (hv : IvRow w v l) (f : Int) :
    Calls Try.prog 3 #[v, .int .i64 f] w fun e w' => e = .returned (.bool true) ∧ Below w.heap.size w w' := by
  have hv' := hv
  obtain ⟨a, cap, rfl, h1, h2, h3⟩ := hv
  clear h3
  by_cases h70 : l.length ≤ 70
  case neg =>
    go_enter Try.func3, Try.ntmps3
    go_wp2_with fail
    refine (head_any _).mono ?_
    rintro e w1 ⟨rfl, b1⟩
    go_wp2_with fail
    go_ret
    exact ⟨rfl, b1⟩
  have q1 := ivEq_self (cbLo l f) (cbHi l f)
  go_enter Try.func3, Try.ntmps3
  go_wp2_with fail
  refine (head_any _).mono ?_
  rintro e w1 ⟨rfl, b1⟩
  have hv1 := hv'.below (Nat.le_refl _) b1
  go_wp2_with fail
  refine (Set_any _ l _ _ hv1).mono ?_
  rintro e w2 ⟨v2, rfl, o2, b2⟩
  have hv2 := hv1.below (Nat.le_refl _) b2
  go_wp2_with fail
  refine (RSet_any _ l _ _ hv2).mono ?_
  rintro e w3 ⟨v3, rfl, o3, b3⟩
  have hv3 := hv2.below (Nat.le_refl _) b3
  have r2 := o2.row.below (Nat.le_refl _) b3
  have r3 := o3.row
  go_wp2_with fail
  refine (RSame_any _ _ _ _ _ r2 r3).mono ?_
  rintro e w4 ⟨rfl, b4⟩
  rw [show decide (setL l f = setL l f) = true by simp]
  have hv4 := hv3.below (Nat.le_refl _) b4
  clear r2 r3 o2 o3
  go_wp2_with fail
  refine (Combine_any _ l _ _ hv4).mono ?_
  rintro e w5 ⟨rfl, b5⟩
  go_wp2_with fail
  have b5' : Below w4.heap.size w4 (w5.alloc (.cells #[.int .i64 (cbLo l f), .int .i64 (cbHi l f)] 29)) := by have := b5.size; exact (by ((repeat' (first | exact Below.refl _ _ | exact b5 | refine Below.alloc ?_ ?_ _ | refine Below.setCell ?_ ?_ _ | refine Below.drew ?_ | refine below_drewN ?_ _ | refine Below.trans ?_ (b5.mono ?_))) <;> (first | omega | (simp; done) | (simp; omega))))
  have hv5 := hv4.below (Nat.le_refl _) b5'
  refine (RCombine_any _ l _ _ hv5).mono ?_
  rintro e w6 ⟨rfl, b6⟩
  obtain ⟨c6, _⟩ := bk b6 w5.heap.size (by simp)
  have z1 := b1.size
  have z2 := b2.size
  have z3 := b3.size
  have z4 := b4.size
  have z5 := b5.size
  have z6 := b6.size
  simp only [World.size_alloc] at z6
  have B6 : Below w.heap.size w w6 := (by ((repeat' (first | exact Below.refl _ _ | exact b1 | exact b2 | exact b3 | exact b4 | exact b5 | exact b6 | refine Below.alloc ?_ ?_ _ | refine Below.setCell ?_ ?_ _ | refine Below.drew ?_ | refine below_drewN ?_ _ | refine Below.trans ?_ (b1.mono ?_) | refine Below.trans ?_ (b2.mono ?_) | refine Below.trans ?_ (b3.mono ?_) | refine Below.trans ?_ (b4.mono ?_) | refine Below.trans ?_ (b5.mono ?_) | refine Below.trans ?_ (b6.mono ?_))) <;> (first | omega | (simp; done) | (simp; omega))))
  have k56 : w5.heap.size < w6.heap.size := by omega
  have d0 : w6.cell? ⟨w5.heap.size, 0, none⟩ = some (.int .i64 (cbLo l f)) := by rw [c6]; simp
  have d1 : w6.cell? ⟨w5.heap.size, 1, none⟩ = some (.int .i64 (cbHi l f)) := by rw [c6]; simp
  have hv6 := hv5.below (Nat.le_refl _) b6
  clear c6 hv1 hv2 hv3 hv4 hv5 b1 b2 b3 b4 b5 b5' b6
  go_wp2_with fail
  refine (Outside_any _ l _ _ (hv6.below (Nat.le_refl _) (by ((repeat' (first | exact Below.refl _ _ | refine Below.alloc ?_ ?_ _ | refine Below.setCell ?_ ?_ _ | refine Below.drew ?_ | refine below_drewN ?_ _)) <;> (first | omega | (simp; done) | (simp; omega)))))).mono ?_
  rintro e w7 ⟨v7, rfl, o7, b7⟩
  have b7' : Below w6.heap.size w6 w7 := (by ((repeat' (first | exact Below.refl _ _ | exact b7 | refine Below.alloc ?_ ?_ _ | refine Below.setCell ?_ ?_ _ | refine Below.drew ?_ | refine below_drewN ?_ _ | refine Below.trans ?_ (b7.mono ?_))) <;> (first | omega | (simp; done) | (simp; omega))))
  have hv7 := hv6.below (Nat.le_refl _) b7'
  go_wp2_with fail
  refine (ROutside_any _ l _ _ hv7).mono ?_
  rintro e w8 ⟨v8, rfl, o8, b8⟩
  have r7 := o7.row.below (Nat.le_refl _) b8
  have r8 := o8.row
  clear o7 o8
  go_wp2_with fail
  refine (RSameInts_any _ _ _ _ _ r7 r8).mono ?_
  rintro e w9 ⟨rfl, b9⟩
  rw [show decide (outL l f = outL l f) = true by simp]
  go_wp2_with fail
  go_ret
  have z7 := b7'.size
  have z8 := b8.size
  exact ⟨ret_bool (by simp), (by ((repeat' (first | exact Below.refl _ _ | exact B6 | exact b7' | exact b8 | exact b9 | refine Below.alloc ?_ ?_ _ | refine Below.setCell ?_ ?_ _ | refine Below.drew ?_ | refine below_drewN ?_ _ | refine Below.trans ?_ (B6.mono ?_) | refine Below.trans ?_ (b7'.mono ?_) | refine Below.trans ?_ (b8.mono ?_) | refine Below.trans ?_ (b9.mono ?_))) <;> (first | omega | (simp; done) | (simp; omega))))⟩
set_option maxRecDepth 100000 in
theorem combineMatchesReference_holds : Rows.CombineMatchesReferenceSaid :=
  OpenClaim.holds_of_wide 3 Try.f3 rfl rfl rfl rfl rfl rfl rfl ⟨rfl, rfl, rfl, rfl, rfl⟩ rfl rfl rfl rfl rfl (by kernel_rfl) Try.func3 (by kernel_rfl)
    (of_decide_eq_true (by kernel_rfl)) (by unfold Func.isWrapper; rw [if_neg (of_decide_eq_false (by kernel_rfl))]; exact ⟨rfl, rfl⟩)
    (fun os started H enc _ => law_lifted started 3 Try.f3 Try.func3 (by kernel_rfl) Rows.combineMatchesReferenceSpec rfl rfl
      (fun ds h => by match ds, h with | [_, _], _ => exact ⟨rfl, rfl, rfl⟩)
      (fun t h => by
        rw [Try.params3] at h
        simp only [List.mem_cons, List.not_mem_nil, or_false] at h
        rcases h with rfl | rfl <;> exact ⟨by kernel_rfl, of_decide_eq_true (by kernel_rfl)⟩)
      (ChangeSpec.witness6 (enc := enc) (C := Try.checked) false ⟨#[], #[.slice none 0 0, .int .i64 0], []⟩ 8 (by kernel_rfl) (by kernel_rfl) (by kernel_rfl) (by kernel_rfl))
      (fun W base args ds p hA hok => by
        rw [Try.params3] at hA hok
        obtain ⟨v0, vs0, d0, ds0, p0, q0, hargs, rfl, rfl, h0, r0⟩ := ChangeShapes.trodAll_cons hA
        obtain ⟨v1, vs1, d1, ds1, p1, q1, rfl, rfl, rfl, h1, r1⟩ := ChangeShapes.trodAll_cons r0
        obtain ⟨rfl, rfl, rfl⟩ := ChangeShapes.trodAll_nil r1
        obtain rfl : args = #[v0, v1] := by rw [← Array.toArray_toList (xs := args), hargs]
        obtain ⟨l0, hl0, wl0⟩ := open_ivs (hok 0 _ v0 rfl rfl) h0
        obtain ⟨x1, rfl, hx1⟩ := open_i64 Try.underlying3 (hok 1 _ v1 rfl rfl) h1
        exact CbMatches_any W v0 l0 hl0 x1))
end Go.Proofs.Ytbocjiepobccpaa
