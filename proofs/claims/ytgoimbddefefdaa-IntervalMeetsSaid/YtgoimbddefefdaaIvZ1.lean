/- IntervalMeets: for every two intervals and every time the statement answers true and leaves its arguments as they were. No condition. -/
import Derived.Test.YtgoimbddefefdaaIvL
import Derived.Test.YtgoimbddefefdaaFr
namespace Go.Proofs.Ytgoimbddefefdaa
open Go.RowKit
attribute [local go_sem ↓] run_max_mx run_min_mn run_eql_iv run_neq_iv

theorem meet_sym (a1 a2 b1 b2 : Int) : meetOk b1 b2 a1 a2 = meetOk a1 a2 b1 b2 ∧ meetLo b1 b2 a1 a2 = meetLo a1 a2 b1 b2 ∧ meetHi b1 b2 a1 a2 = meetHi a1 a2 b1 b2 ∧ meetEr b1 b2 a1 a2 = meetEr a1 a2 b1 b2 := by
  have h1 : mx b1 a1 = mx a1 b1 := by have := mx_spec a1 b1; have := mx_spec b1 a1; omega
  have h2 : mn b2 a2 = mn a2 b2 := by have := mn_spec a2 b2; have := mn_spec b2 a2; omega
  have h3 : meetOk b1 b2 a1 a2 = meetOk a1 a2 b1 b2 := by unfold meetOk; rw [h1, h2, Bool.and_comm (validB b1 b2)]
  refine ⟨h3, ?_, ?_, ?_⟩
  · unfold meetLo; rw [h3, h1]
  · unfold meetHi; rw [h3, h2]
  · unfold meetEr; simp only [and_comm]
theorem meet_has (a1 a2 b1 b2 x : Int) (h1 : validB a1 a2 = true) (h2 : validB b1 b2 = true) : (meetOk a1 a2 b1 b2 && hasB (meetLo a1 a2 b1 b2) (meetHi a1 a2 b1 b2) x) = (hasB a1 a2 x && hasB b1 b2 x) := by
  have h3 := mx_spec a1 b1
  have h4 := mn_spec a2 b2
  unfold meetLo meetHi
  rw [validB_iff] at h1 h2
  cases hm : meetOk a1 a2 b1 b2 with
  | true =>
    simp only [if_true, Bool.true_and, hasB]
    rw [Bool.eq_iff_iff]; simp only [Bool.and_eq_true, decide_eq_true_eq]; omega
  | false =>
    have : ¬ (mx a1 b1 ≤ mn a2 b2) := by
      intro h
      have : meetOk a1 a2 b1 b2 = true := by simp only [meetOk, Bool.and_eq_true, validB_iff]; omega
      rw [this] at hm; cases hm
    simp only [Bool.false_and, hasB]
    symm
    rw [Bool.and_eq_false_iff]; simp only [decide_eq_false_iff_not]; omega
theorem meet_val (a1 a2 b1 b2 : Int) (h : meetOk a1 a2 b1 b2 = true) : validB (meetLo a1 a2 b1 b2) (meetHi a1 a2 b1 b2) = true := by
  unfold meetLo meetHi
  rw [if_pos h, if_pos h]
  simp only [meetOk, Bool.and_eq_true] at h
  exact h.2
set_option maxHeartbeats 1000000 in
theorem Meets_any (a1 a2 b1 b2 x : Int) (w : World) :
    Calls Try.prog 4 #[.agg #[.int .i64 a1, .int .i64 a2], .agg #[.int .i64 b1, .int .i64 b2], .int .i64 x] w fun e w' => e = .returned (.bool true) ∧ Below w.heap.size w w' := by
  by_cases hv1 : validB a1 a2 = true
  case neg =>
    have hv1' : validB a1 a2 = false := by simpa using hv1
    clear hv1
    go_enter Try.func4, Try.ntmps4
    go_wp2_with fail
    refine (head_any _).mono ?_
    rintro e w1 ⟨rfl, hb1⟩
    obtain ⟨khb1_0, fhb1_0, zhb1_0, zahb1_0, zbhb1_0, zchb1_0, zdhb1_0, zehb1_0⟩ := bk3 hb1 (w.heap.size) (by first | omega | (simp; done) | (simp; omega)); obtain ⟨khb1_1, fhb1_1, zhb1_1, zahb1_1, zbhb1_1, zchb1_1, zdhb1_1, zehb1_1⟩ := bk3 hb1 (w.heap.size + 1) (by first | omega | (simp; done) | (simp; omega))
    go_wp2_with (go_at_call 15; refine (RValid_any _ _ _).mono ?_; rintro e w' ⟨rfl, rfl⟩)
    go_ret
    exact ⟨rfl, (by ((repeat' (first | exact Below.refl _ _ | exact hb1 | refine Below.alloc ?_ ?_ _ | refine Below.setCell ?_ ?_ _ | refine Below.drew ?_ | refine below_drewN ?_ _ | refine Below.trans ?_ (hb1.mono ?_))) <;> (first | omega | (simp; done) | (simp; omega))))⟩
  by_cases hv2 : validB b1 b2 = true
  case neg =>
    have hv2' : validB b1 b2 = false := by simpa using hv2
    clear hv2
    go_enter Try.func4, Try.ntmps4
    go_wp2_with fail
    refine (head_any _).mono ?_
    rintro e w1 ⟨rfl, hb1⟩
    obtain ⟨khb1_0, fhb1_0, zhb1_0, zahb1_0, zbhb1_0, zchb1_0, zdhb1_0, zehb1_0⟩ := bk3 hb1 (w.heap.size) (by first | omega | (simp; done) | (simp; omega)); obtain ⟨khb1_1, fhb1_1, zhb1_1, zahb1_1, zbhb1_1, zchb1_1, zdhb1_1, zehb1_1⟩ := bk3 hb1 (w.heap.size + 1) (by first | omega | (simp; done) | (simp; omega))
    go_wp2_with (go_at_call 15; refine (RValid_any _ _ _).mono ?_; rintro e w' ⟨rfl, rfl⟩)
    go_ret
    exact ⟨rfl, (by ((repeat' (first | exact Below.refl _ _ | exact hb1 | refine Below.alloc ?_ ?_ _ | refine Below.setCell ?_ ?_ _ | refine Below.drew ?_ | refine below_drewN ?_ _ | refine Below.trans ?_ (hb1.mono ?_))) <;> (first | omega | (simp; done) | (simp; omega))))⟩
  have hs := meet_sym a1 a2 b1 b2
  have hh := meet_has a1 a2 b1 b2 x hv1 hv2
  have hval := meet_val a1 a2 b1 b2
  have her : meetEr a1 a2 b1 b2 = 0 := by unfold meetEr; rw [if_pos ⟨hv1, hv2⟩]
  go_enter Try.func4, Try.ntmps4
  go_wp2_with fail
  refine (head_any _).mono ?_
  rintro e w1 ⟨rfl, hb1⟩
  obtain ⟨khb1_0, fhb1_0, zhb1_0, zahb1_0, zbhb1_0, zchb1_0, zdhb1_0, zehb1_0⟩ := bk3 hb1 (w.heap.size) (by first | omega | (simp; done) | (simp; omega)); obtain ⟨khb1_1, fhb1_1, zhb1_1, zahb1_1, zbhb1_1, zchb1_1, zdhb1_1, zehb1_1⟩ := bk3 hb1 (w.heap.size + 1) (by first | omega | (simp; done) | (simp; omega))
  go_wp2_with (go_at_call 15; refine (RValid_any _ _ _).mono ?_; rintro e w' ⟨rfl, rfl⟩)
  obtain ⟨s1, s2, s3, s4⟩ := hs
  refine (Meet_any _ _ _ _ _).mono ?_
  rintro e w2 ⟨rfl, hb2⟩
  obtain ⟨khb2_0, fhb2_0, zhb2_0, zahb2_0, zbhb2_0, zchb2_0, zdhb2_0, zehb2_0⟩ := bk3 hb2 (w.heap.size) (by first | omega | (simp; done) | (simp; omega)); obtain ⟨khb2_1, fhb2_1, zhb2_1, zahb2_1, zbhb2_1, zchb2_1, zdhb2_1, zehb2_1⟩ := bk3 hb2 (w.heap.size + 1) (by first | omega | (simp; done) | (simp; omega))
  go_wp2_with fail
  refine (Meet_any _ _ _ _ _).mono ?_
  rintro e w3 ⟨rfl, hb3⟩
  obtain ⟨khb3_0, fhb3_0, zhb3_0, zahb3_0, zbhb3_0, zchb3_0, zdhb3_0, zehb3_0⟩ := bk3 hb3 (w.heap.size) (by first | omega | (simp; done) | (simp; omega)); obtain ⟨khb3_1, fhb3_1, zhb3_1, zahb3_1, zbhb3_1, zchb3_1, zdhb3_1, zehb3_1⟩ := bk3 hb3 (w.heap.size + 1) (by first | omega | (simp; done) | (simp; omega)); obtain ⟨khb3_2, fhb3_2, zhb3_2, zahb3_2, zbhb3_2, zchb3_2, zdhb3_2, zehb3_2⟩ := bk3 hb3 (w2.heap.size) (by first | omega | (simp; done) | (simp; omega))
  rw [s1, s2, s3, s4, her]
  have hB : Below w.heap.size w w3 := (by ((repeat' (first | exact Below.refl _ _ | exact hb1 | exact hb2 | exact hb3 | refine Below.alloc ?_ ?_ _ | refine Below.setCell ?_ ?_ _ | refine Below.drew ?_ | refine below_drewN ?_ _ | refine Below.trans ?_ (hb1.mono ?_) | refine Below.trans ?_ (hb2.mono ?_) | refine Below.trans ?_ (hb3.mono ?_))) <;> (first | omega | (simp; done) | (simp; omega))))
  have Hself : ivEq (meetLo a1 a2 b1 b2) (meetHi a1 a2 b1 b2) (meetLo a1 a2 b1 b2) (meetHi a1 a2 b1 b2) = true := by simp [ivEq]
  clear s1 s2 s3 s4 her
  cases hm : meetOk a1 a2 b1 b2 <;> cases h5 : hasB a1 a2 x <;> cases h6 : hasB b1 b2 x
  all_goals (rw [hm, h5, h6] at hh; simp at hh)
  all_goals try (have hval' := hval hm)
  all_goals clear hval
  all_goals go_wp2_with (first | (go_at_call 25; refine (RHas_any _ _ _ _).mono ?_; rintro e w' ⟨rfl, rfl⟩) | (go_at_call 14; refine (Valid_any _ _ _).mono ?_; rintro e w' ⟨rfl, rfl⟩))
  all_goals go_ret
  all_goals exact ⟨rfl, (by ((repeat' (first | exact Below.refl _ _ | exact hB | refine Below.alloc ?_ ?_ _ | refine Below.setCell ?_ ?_ _ | refine Below.drew ?_ | refine below_drewN ?_ _ | refine Below.trans ?_ (hB.mono ?_))) <;> (first | omega | (simp; done) | (simp; omega))))⟩
set_option maxRecDepth 100000 in
theorem intervalMeets_holds : Rows.IntervalMeetsSaid :=
  OpenClaim.holds_of_wide 4 Try.f4 rfl rfl rfl rfl rfl rfl rfl ⟨rfl, rfl, rfl, rfl, rfl⟩ rfl rfl rfl rfl rfl (by kernel_rfl) Try.func4 (by kernel_rfl)
    (of_decide_eq_true (by kernel_rfl)) (by unfold Func.isWrapper; rw [if_neg (of_decide_eq_false (by kernel_rfl))]; exact ⟨rfl, rfl⟩)
    (fun os started H enc _ => law_lifted started 4 Try.f4 Try.func4 (by kernel_rfl) Rows.intervalMeetsSpec rfl rfl
      (fun ds h => by match ds, h with | [_, _, _], _ => exact ⟨rfl, rfl, rfl⟩)
      (fun t h => by
        rw [Try.params4] at h
        simp only [List.mem_cons, List.not_mem_nil, or_false] at h
        rcases h with rfl | rfl | rfl <;> exact ⟨by kernel_rfl, of_decide_eq_true (by kernel_rfl)⟩)
      (ChangeSpec.witness6 (enc := enc) (C := Try.checked) false ⟨#[], #[.agg #[.int .i64 0, .int .i64 0], .agg #[.int .i64 0, .int .i64 0], .int .i64 0], []⟩ 8 (by kernel_rfl) (by kernel_rfl) (by kernel_rfl) (by kernel_rfl))
      (fun W base args ds p hA hok => by
        rw [Try.params4] at hA hok
        obtain ⟨v0, vs0, d0, ds0, p0, q0, hargs, rfl, rfl, h0, r0⟩ := ChangeShapes.trodAll_cons hA
        obtain ⟨v1, vs1, d1, ds1, p1, q1, rfl, rfl, rfl, h1, r1⟩ := ChangeShapes.trodAll_cons r0
        obtain ⟨v2, vs2, d2, ds2, p2, q2, rfl, rfl, rfl, h2, r2⟩ := ChangeShapes.trodAll_cons r1
        obtain ⟨rfl, rfl, rfl⟩ := ChangeShapes.trodAll_nil r2
        obtain rfl : args = #[v0, v1, v2] := by rw [← Array.toArray_toList (xs := args), hargs]
        obtain ⟨a1, a2, rfl, _⟩ := open_iv (hok 0 _ v0 rfl rfl) h0
        obtain ⟨b1, b2, rfl, _⟩ := open_iv (hok 1 _ v1 rfl rfl) h1
        obtain ⟨x, rfl, _⟩ := open_i64 Try.underlying3 (hok 2 _ v2 rfl rfl) h2
        exact Meets_any a1 a2 b1 b2 x W))
end Go.Proofs.Ytgoimbddefefdaa
