/- SpreadMatchesReference: for every list of widths and numbers the statement answers true and leaves its arguments as they were. No condition. -/
import Derived.Test.YtcpfifbchijleaaSpR
import Derived.Test.YtcpfifbchijleaaSpU
import Derived.Test.YtcpfifbchijleaaFs
namespace Go.Proofs.Ytcpfifbchijleaa
open Go.RowKit
attribute [local go_sem ↓] run_max_mx run_min_mn run_eql_iv run_neq_iv
set_option maxRecDepth 100000 in
set_option maxHeartbeats 1000000 in
theorem SpMatches_any (w : World) (v : Value) (l : List Int) (hv : IsRow w v l) (_wl : WfI l) (f : Int) (lost : Int) (x : Int) :
    Calls Try.prog 3 #[v, .int .i64 f, .int .i64 lost, .int .i64 x] w fun e w' => e = .returned (.bool true) ∧ Below w.heap.size w w' := by
  have hv' := hv
  obtain ⟨a, cap, rfl, g1, g2, g3⟩ := hv
  clear g3
  by_cases h40 : 40 < l.length
  · go_enter Try.func3, Try.ntmps3
    go_wp2_with fail
    refine (head_any _).mono ?_
    rintro e w1 ⟨rfl, b1⟩
    go_wp2_with fail
    go_ret
    exact ⟨rfl, b1⟩
  have hl6 : l.length ≤ 1000000 := by omega
  go_enter Try.func3, Try.ntmps3
  go_wp2_with fail
  refine (head_any _).mono ?_
  rintro e w1 ⟨rfl, b1⟩
  have hv1 := hv'.below (Nat.le_refl _) b1
  go_wp2_with fail
  refine (Worst_any _ l _ _ _ hv1).mono ?_
  rintro e w2 ⟨rfl, b2⟩
  have hv2 := hv1.below (Nat.le_refl _) b2
  go_wp2_with fail
  refine (RWorst_any _ l _ _ _ hv2 hl6).mono ?_
  rintro e w3 ⟨rfl, b3⟩
  have hv3 := hv2.below (Nat.le_refl _) b3
  have t1 : (worst l f lost == worst l f lost) = true := by simp
  have t2 : (spEr l f lost == spEr l f lost) = true := by simp
  go_wp2_with fail
  refine (Pick_any _ l _ _ _ hv3).mono ?_
  rintro e w4 ⟨p1, p2, rfl, o1, o2, b4⟩
  have hv4 := hv3.below (Nat.le_refl _) b4
  go_wp2_with fail
  refine (RPick_any _ l _ _ _ hv4 hl6).mono ?_
  rintro e w5 ⟨r1, r2, rfl, o3, o4, b5⟩
  have hv5 := hv4.below (Nat.le_refl _) b5
  have i1 := o1.row.below (Nat.le_refl _) b5
  have i2 := o2.row.below (Nat.le_refl _) b5
  have i3 := o3.row
  have i4 := o4.row
  clear o1 o2 o3 o4
  go_wp2_with fail
  refine (RSameInts15_any _ _ _ _ _ i1 i3).mono ?_
  rintro e w6 ⟨rfl, b6⟩
  rw [show decide (pickL l f lost = pickL l f lost) = true by simp]
  have hv6 := hv5.below (Nat.le_refl _) b6
  go_wp2_with fail
  refine (RSameInts15_any _ _ _ _ _ (i2.below (Nat.le_refl _) b6) (i4.below (Nat.le_refl _) b6)).mono ?_
  rintro e w7 ⟨rfl, b7⟩
  rw [show decide (goneL l f lost = goneL l f lost) = true by simp]
  have hv7 := hv6.below (Nat.le_refl _) b7
  clear i1 i2 i3 i4
  go_wp2_with fail
  refine (Place_any _ l _ _ _ _ hv7).mono ?_
  rintro e w8 ⟨q1, rfl, o5, b8⟩
  have hv8 := hv7.below (Nat.le_refl _) b8
  go_wp2_with fail
  refine (RPlace_any _ l _ _ _ _ hv8 hl6).mono ?_
  rintro e w9 ⟨q2, rfl, o6, b9⟩
  have i5 := o5.row.below (Nat.le_refl _) b9
  have i6 := o6.row
  clear o5 o6
  go_wp2_with fail
  refine (RSame15_any _ _ _ _ _ i5 i6).mono ?_
  rintro e w10 ⟨rfl, b10⟩
  rw [show decide (placeL l f lost x = placeL l f lost x) = true by simp]
  have t3 : (placeEr l f lost x == placeEr l f lost x) = true := by simp
  go_wp2_with fail
  go_ret
  have z1 := b1.size
  have z2 := b2.size
  have z3 := b3.size
  have z4 := b4.size
  have z5 := b5.size
  have z6 := b6.size
  have z7 := b7.size
  have z8 := b8.size
  have z9 := b9.size
  exact ⟨by first | rfl | (refine ret_bool ?_; simp; done), (by ((repeat' (first | exact Below.refl _ _ | exact b1 | exact b2 | exact b3 | exact b4 | exact b5 | exact b6 | exact b7 | exact b8 | exact b9 | exact b10 | refine Below.alloc ?_ ?_ _ | refine Below.setCell ?_ ?_ _ | refine Below.drew ?_ | refine below_drewN ?_ _ | refine Below.trans ?_ (b1.mono ?_) | refine Below.trans ?_ (b2.mono ?_) | refine Below.trans ?_ (b3.mono ?_) | refine Below.trans ?_ (b4.mono ?_) | refine Below.trans ?_ (b5.mono ?_) | refine Below.trans ?_ (b6.mono ?_) | refine Below.trans ?_ (b7.mono ?_) | refine Below.trans ?_ (b8.mono ?_) | refine Below.trans ?_ (b9.mono ?_) | refine Below.trans ?_ (b10.mono ?_))) <;> (first | omega | (simp; done) | (simp; omega))))⟩
set_option maxRecDepth 100000 in
theorem spreadMatchesReference_holds : Rows.SpreadMatchesReferenceSaid :=
  OpenClaim.holds_of_wide 3 Try.f3 rfl rfl rfl rfl rfl rfl rfl ⟨rfl, rfl, rfl, rfl, rfl⟩ rfl rfl rfl rfl rfl (by kernel_rfl) Try.func3 (by kernel_rfl)
    (of_decide_eq_true (by kernel_rfl)) (by unfold Func.isWrapper; rw [if_neg (of_decide_eq_false (by kernel_rfl))]; exact ⟨rfl, rfl⟩)
    (fun os started H enc _ => law_lifted started 3 Try.f3 Try.func3 (by kernel_rfl) Rows.spreadMatchesReferenceSpec rfl rfl
      (fun ds h => by match ds, h with | [_, _, _, _], _ => exact ⟨rfl, rfl, rfl⟩)
      (fun t h => by
        rw [Try.params3] at h
        simp only [List.mem_cons, List.not_mem_nil, or_false] at h
        rcases h with rfl | rfl | rfl | rfl <;> exact ⟨by kernel_rfl, of_decide_eq_true (by kernel_rfl)⟩)
      (ChangeSpec.witness6 (enc := enc) (C := Try.checked) false ⟨#[], #[.slice none 0 0, .int .i64 0, .int .i64 0, .int .i64 0], []⟩ 8 (by kernel_rfl) (by kernel_rfl) (by kernel_rfl) (by kernel_rfl))
      (fun W base args ds p hA hok => by
        rw [Try.params3] at hA hok
        obtain ⟨v0, vs0, d0, ds0, p0, q0, hargs, rfl, rfl, h0, r0⟩ := ChangeShapes.trodAll_cons hA
        obtain ⟨v1, vs1, d1, ds1, p1, q1, rfl, rfl, rfl, h1, r1⟩ := ChangeShapes.trodAll_cons r0
        obtain ⟨v2, vs2, d2, ds2, p2, q2, rfl, rfl, rfl, h2, r2⟩ := ChangeShapes.trodAll_cons r1
        obtain ⟨v3, vs3, d3, ds3, p3, q3, rfl, rfl, rfl, h3, r3⟩ := ChangeShapes.trodAll_cons r2
        obtain ⟨rfl, rfl, rfl⟩ := ChangeShapes.trodAll_nil r3
        obtain rfl : args = #[v0, v1, v2, v3] := by rw [← Array.toArray_toList (xs := args), hargs]
        obtain ⟨l0, hl0, wl0⟩ := open_is (hok 0 _ v0 rfl rfl) h0
        obtain ⟨x1, rfl, hx1⟩ := open_i64 Try.underlying3 (hok 1 _ v1 rfl rfl) h1
        obtain ⟨x2, rfl, hx2⟩ := open_i64 Try.underlying3 (hok 2 _ v2 rfl rfl) h2
        obtain ⟨x3, rfl, hx3⟩ := open_i64 Try.underlying3 (hok 3 _ v3 rfl rfl) h3
        exact SpMatches_any W v0 l0 hl0 wl0 x1 x2 x3))
end Go.Proofs.Ytcpfifbchijleaa
