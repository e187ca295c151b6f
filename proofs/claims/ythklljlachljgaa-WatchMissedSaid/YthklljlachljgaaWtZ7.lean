/- WatchMissed: for whatever round and reading the statement answers true and leaves its arguments as they were. No condition. -/
import Derived.Test.YthklljlachljgaaWtL
import Derived.Test.YthklljlachljgaaFs
namespace Go.Proofs.Ythklljlachljgaa
open Go.RowKit
attribute [local go_sem ↓] run_max_mx run_min_mn run_eql_iv run_neq_iv run_eql_al run_neq_al
theorem missEr_0 {sent every timeout at_ : Int} (h : missEr sent every timeout at_ = 0) : (0 ≤ sent ∧ sent ≤ 3000000000000000) ∧ (0 ≤ at_ ∧ at_ ≤ 3000000000000000) ∧ (1 ≤ every ∧ every ≤ 1000000000000) ∧ (1 ≤ timeout ∧ timeout ≤ 1000000000) ∧ sent ≤ at_ := by
  unfold missEr at h
  split at h
  · rename_i h1
    simp only [inB, decide_eq_true_eq] at h1
    split at h
    · cases h
    · exact ⟨h1.1, h1.2.1, h1.2.2.1, h1.2.2.2, by omega⟩
  · cases h
theorem miss_of {sent every timeout at_ : Int} (h1 : 0 ≤ sent ∧ sent ≤ 3000000000000000) (h2 : 0 ≤ at_ ∧ at_ ≤ 3000000000000000) (h3 : 1 ≤ every ∧ every ≤ 1000000000000) (h4 : 1 ≤ timeout ∧ timeout ≤ 1000000000) (h5 : sent ≤ at_) :
    missEr sent every timeout at_ = 0 ∧ missIs sent every timeout at_ = decide (at_ - sent > every + timeout) :=
  (missEr_2 (by simp only [inB, decide_eq_true_eq]; exact ⟨h1, h2, h3, h4⟩)).2 h5
set_option maxRecDepth 100000 in
set_option maxHeartbeats 1000000 in
theorem WtMissed_any (w : World) (sent : Int) (every : Int) (timeout : Int) (at_ : Int) (later : Int) (hl : 0 ≤ later ∧ later ≤ 4294967295) :
    Calls Try.prog 9 #[.int .i64 sent, .int .i64 every, .int .i64 timeout, .int .i64 at_, .int .u32 later] w fun e w' => e = .returned (.bool true) ∧ Below w.heap.size w w' := by
  by_cases he : missEr sent every timeout at_ = 0
  · obtain ⟨h1, h2, h3, h4, h5⟩ := missEr_0 he
    have m0 := miss_of h1 h2 h3 h4 h5
    have ma := mn_spec 3000000000000000 (at_ + later)
    have mb := mn_spec 1000000000000 (every + later)
    have m1 := miss_of (at_ := mn 3000000000000000 (at_ + later)) h1 (by omega) h3 h4 (by omega)
    have m2 := miss_of (every := mn 1000000000000 (every + later)) h1 h2 (by omega) h4 h5
    have M0 := hide m0
    have M1 := hide m1
    have M2 := hide m2
    by_cases hc : at_ - sent > every + timeout
    · have k0 : missIs sent every timeout at_ = true := by rw [m0.2]; exact decide_eq_true hc
      have k1 : missIs sent every timeout (mn 3000000000000000 (at_ + later)) = true := by rw [m1.2]; exact decide_eq_true (by omega)
      have kd : decide (timeout < at_ - sent - every) = true := decide_eq_true (by omega)
      clear m0 m1 m2 he
      go_enter Try.func9, Try.ntmps9
      go_wp2_with fail
      refine (head_any _).mono ?_
      rintro e w1 ⟨rfl, b1⟩
      go_wp2_with fail
      refine (Missed_any _ _ _ _ _).mono ?_
      rintro e w' ⟨rfl, rfl⟩
      rw [k0, M0.out.1]
      go_wp2_with fail
      refine (Missed_any _ _ _ _ _).mono ?_
      rintro e w' ⟨rfl, rfl⟩
      rw [k1, M1.out.1]
      go_wp2_with fail
      refine (Missed_any _ _ _ _ _).mono ?_
      rintro e w' ⟨rfl, rfl⟩
      rw [M2.out.1]
      go_wp2_with fail
      go_ret
      exact ⟨by first | rfl | exact ret_bool (by simp), b1⟩
    · have k0 : missIs sent every timeout at_ = false := by rw [m0.2]; exact decide_eq_false hc
      have k2 : missIs sent (mn 1000000000000 (every + later)) timeout at_ = false := by rw [m2.2]; exact decide_eq_false (by omega)
      have kd : decide (timeout < at_ - sent - every) = false := decide_eq_false (by omega)
      clear m0 m1 m2 he
      go_enter Try.func9, Try.ntmps9
      go_wp2_with fail
      refine (head_any _).mono ?_
      rintro e w1 ⟨rfl, b1⟩
      go_wp2_with fail
      refine (Missed_any _ _ _ _ _).mono ?_
      rintro e w' ⟨rfl, rfl⟩
      rw [k0, M0.out.1]
      go_wp2_with fail
      refine (Missed_any _ _ _ _ _).mono ?_
      rintro e w' ⟨rfl, rfl⟩
      rw [M1.out.1]
      go_wp2_with fail
      refine (Missed_any _ _ _ _ _).mono ?_
      rintro e w' ⟨rfl, rfl⟩
      rw [k2, M2.out.1]
      go_wp2_with fail
      go_ret
      exact ⟨by first | rfl | exact ret_bool (by simp), b1⟩
  · have hne : (missEr sent every timeout at_ == 0) = false := by rw [beq_eq_false_iff_ne]; exact he
    have hne2 : (missEr sent every timeout at_ != 0) = true := by rw [bne_iff_ne]; exact he
    have k0 : missIs sent every timeout at_ = false := by unfold missIs; rw [decide_eq_false he]; rfl
    clear he
    go_enter Try.func9, Try.ntmps9
    go_wp2_with fail
    refine (head_any _).mono ?_
    rintro e w1 ⟨rfl, b1⟩
    go_wp2_with fail
    refine (Missed_any _ _ _ _ _).mono ?_
    rintro e w' ⟨rfl, rfl⟩
    rw [k0]
    go_wp2_with fail
    go_ret
    exact ⟨by first | rfl | exact ret_bool (by simp), b1⟩
set_option maxRecDepth 100000 in
theorem watchMissed_holds : Rows.WatchMissedSaid :=
  OpenClaim.holds_of_wide 9 Try.f9 rfl rfl rfl rfl rfl rfl rfl ⟨rfl, rfl, rfl, rfl, rfl⟩ rfl rfl rfl rfl rfl (by kernel_rfl) Try.func9 (by kernel_rfl)
    (of_decide_eq_true (by kernel_rfl)) (by unfold Func.isWrapper; rw [if_neg (of_decide_eq_false (by kernel_rfl))]; exact ⟨rfl, rfl⟩)
    (fun os started H enc _ => law_lifted started 9 Try.f9 Try.func9 (by kernel_rfl) Rows.watchMissedSpec rfl rfl
      (fun ds h => by match ds, h with | [_, _, _, _, _], _ => exact ⟨rfl, rfl, rfl⟩)
      (fun t h => by
        rw [Try.params9] at h
        simp only [List.mem_cons, List.not_mem_nil, or_false] at h
        rcases h with rfl | rfl | rfl | rfl | rfl <;> exact ⟨by kernel_rfl, of_decide_eq_true (by kernel_rfl)⟩)
      (ChangeSpec.witness6 (enc := enc) (C := Try.checked) false ⟨#[], #[.int .i64 0, .int .i64 0, .int .i64 0, .int .i64 0, .int .u32 0], []⟩ 8 (by kernel_rfl) (by kernel_rfl) (by kernel_rfl) (by kernel_rfl))
      (fun W base args ds p hA hok => by
        rw [Try.params9] at hA hok
        obtain ⟨v0, vs0, d0, ds0, p0, q0, hargs, rfl, rfl, h0, r0⟩ := ChangeShapes.trodAll_cons hA
        obtain ⟨v1, vs1, d1, ds1, p1, q1, rfl, rfl, rfl, h1, r1⟩ := ChangeShapes.trodAll_cons r0
        obtain ⟨v2, vs2, d2, ds2, p2, q2, rfl, rfl, rfl, h2, r2⟩ := ChangeShapes.trodAll_cons r1
        obtain ⟨v3, vs3, d3, ds3, p3, q3, rfl, rfl, rfl, h3, r3⟩ := ChangeShapes.trodAll_cons r2
        obtain ⟨v4, vs4, d4, ds4, p4, q4, rfl, rfl, rfl, h4, r4⟩ := ChangeShapes.trodAll_cons r3
        obtain ⟨rfl, rfl, rfl⟩ := ChangeShapes.trodAll_nil r4
        obtain rfl : args = #[v0, v1, v2, v3, v4] := by rw [← Array.toArray_toList (xs := args), hargs]
        obtain ⟨x0, rfl, hx0⟩ := open_i64 Try.underlying3 (hok 0 _ v0 rfl rfl) h0
        obtain ⟨x1, rfl, hx1⟩ := open_i64 Try.underlying3 (hok 1 _ v1 rfl rfl) h1
        obtain ⟨x2, rfl, hx2⟩ := open_i64 Try.underlying3 (hok 2 _ v2 rfl rfl) h2
        obtain ⟨x3, rfl, hx3⟩ := open_i64 Try.underlying3 (hok 3 _ v3 rfl rfl) h3
        obtain ⟨x4, rfl, hx4⟩ := open_u32 Try.underlying45 (hok 4 _ v4 rfl rfl) h4
        exact WtMissed_any W x0 x1 x2 x3 x4 hx4))
end Go.Proofs.Ythklljlachljgaa
