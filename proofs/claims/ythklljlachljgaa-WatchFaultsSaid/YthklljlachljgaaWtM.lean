/- The small functions of the statements about the watch. -/
import Derived.Test.YthklljlachljgaaWtZ5
namespace Go.Proofs.Ythklljlachljgaa
open Go.RowKit
attribute [local go_sem ↓] run_max_mx run_min_mn run_eql_iv run_neq_iv run_eql_al run_neq_al
set_option maxRecDepth 100000 in
set_option maxHeartbeats 400000 in
theorem in_any (lo hi x : Int) (w : World) :
    Calls Try.prog 17 #[.int .i64 x, .agg #[.int .i64 lo, .int .i64 hi]] w fun e w' => e = .returned (.bool (hasB lo hi x)) ∧ w' = w.alloc (.cells #[.int .i64 lo, .int .i64 hi] 23) := by
  go_enter Try.func17, Try.ntmps17
  go_wp2
  all_goals go_ret
  all_goals exact ⟨ret_bool (by unfold hasB; rw [Bool.eq_iff_iff]; simp only [decide_eq_true_eq, Bool.false_eq_true, false_iff]; omega), rfl⟩
set_option maxRecDepth 100000 in
set_option maxHeartbeats 400000 in
theorem wrong_any (v : Value) (l : List Iv) (x : Int) (w : World) (hv : IvRow w v l) (_hl : l.length ≤ 1000) :
    Calls Try.prog 18 #[v, .int .i64 x] w fun e w' => e = .returned (.int .i64 (missTo l x l.length)) ∧ Below w.heap.size w w' := by
  obtain ⟨a, cap, rfl, h1, h2, h3⟩ := hv
  go_enter Try.func18, Try.ntmps18
  go_wp2
  go_loopw [5, 10] (fun n i wr => ∃ k : Nat, k ≤ l.length ∧ i = .int .i64 k ∧ n = .int .i64 (missTo l x k) ∧ Below w.heap.size w wr) (fun _ i _ => l.length - (intOf i).toNat)
  case atStart => exact ⟨0, Nat.zero_le _, rfl, rfl, Below.refl _ _⟩
  case round =>
    obtain ⟨k, hk, rfl, rfl, hB⟩ := hrel
    have hd := missTo_bd l x k
    by_cases hlt : k < l.length
    · obtain ⟨b, off, rfl, h4, h5, h6⟩ := h3 k hlt
      have h5' := (hB.cell (p := ⟨b, off + k * 2, none⟩) h4).trans h5
      have h6' := (hB.cell (p := ⟨b, off + k * 2 + 1, none⟩) h4).trans h6
      clear h5 h6 h3
      have hz := hB.size
      have Hs := hide (show missTo l x (k + 1) = if hasB (iLo l k) (iHi l k) x = true then missTo l x k else missTo l x k + 1 from rfl)
      cases hh : hasB (iLo l k) (iHi l k) x with
      | true =>
        go_wp2_with (go_at_call 17; refine (in_any _ _ _ _).mono ?_; rintro e w' ⟨rfl, rfl⟩; rw [hh])
        go_roundw
        case rel => exact ⟨k + 1, by omega, by go_num, by rw [Hs.out, if_pos hh], (by ((repeat' (first | exact Below.refl _ _ | exact hB | refine Below.alloc ?_ ?_ _ | refine Below.setCell ?_ ?_ _ | refine Below.drew ?_ | refine below_drewN ?_ _ | refine Below.trans ?_ (hB.mono ?_))) <;> (first | omega | (simp; done) | (simp; omega))))⟩
        case measure => simp [intOf]; omega
      | false =>
        go_wp2_with (go_at_call 17; refine (in_any _ _ _ _).mono ?_; rintro e w' ⟨rfl, rfl⟩; rw [hh])
        go_roundw
        case rel => exact ⟨k + 1, by omega, by go_num, by rw [Hs.out, if_neg (by simp [hh])], (by ((repeat' (first | exact Below.refl _ _ | exact hB | refine Below.alloc ?_ ?_ _ | refine Below.setCell ?_ ?_ _ | refine Below.drew ?_ | refine below_drewN ?_ _ | refine Below.trans ?_ (hB.mono ?_))) <;> (first | omega | (simp; done) | (simp; omega))))⟩
        case measure => simp [intOf]; omega
    · go_wp2
      go_ret
      exact ⟨ret_int (by rw [show k = l.length by omega]), hB⟩
end Go.Proofs.Ythklljlachljgaa
