/- Package width: what is made of one peer. -/
import Derived.Test.YtiaahfccebmkdaaWdA
import Derived.Test.YtiaahfccebmkdaaDrE
namespace Go.Proofs.Ytiaahfccebmkdaa
open Go.RowKit
attribute [local go_sem ↓] run_max_mx run_min_mn

set_option maxRecDepth 100000 in
set_option maxHeartbeats 400000 in
theorem wdAuth_any (p : Pr) (r f lo tm : Int) (pv : Value) (w : World) : Calls Try.prog 57 #[.agg #[.int .i64 p.au, .int .i64 p.er, .int .i64 p.co, .int .i64 p.at_, .int .i64 p.ol, .int .i64 p.oh, .int .i64 p.bl, .int .i64 p.bh, .int .i64 r, .int .i64 f, .int .i64 lo, .int .i64 tm, pv]] w fun e w' =>
    e = .returned (.int .i64 p.au) ∧ Below w.heap.size w w' := by
  go_enter Try.func57, Try.ntmps57
  go_wp2
  go_ret
  exact ⟨rfl, (by ((repeat' (first | with_reducible exact Below.refl _ _ | with_reducible refine Below.alloc ?_ ?_ _ | with_reducible refine Below.setCell ?_ ?_ _ | with_reducible refine Below.drew ?_ | with_reducible refine below_drewN ?_ _)) <;> (first | omega | (simp; done) | (simp; omega))))⟩
set_option maxRecDepth 100000 in
set_option maxHeartbeats 400000 in
theorem wdWidth_any (p : Pr) (r f lo tm : Int) (pv : Value) (w : World) (he : 0 ≤ p.er ∧ p.er ≤ 1000000) (hl : 0 ≤ p.ol ∧ p.ol ≤ 1000000) (hh : 0 ≤ p.oh ∧ p.oh ≤ 1000000) : Calls Try.prog 29 #[.agg #[.int .i64 p.au, .int .i64 p.er, .int .i64 p.co, .int .i64 p.at_, .int .i64 p.ol, .int .i64 p.oh, .int .i64 p.bl, .int .i64 p.bh, .int .i64 r, .int .i64 f, .int .i64 lo, .int .i64 tm, pv]] w fun e w' =>
    e = .returned (.int .i64 (pWd p)) ∧ Below w.heap.size w w' := by
  go_enter Try.func29, Try.ntmps29
  go_wp2
  go_ret
  exact ⟨ret_int rfl, (by ((repeat' (first | with_reducible exact Below.refl _ _ | with_reducible refine Below.alloc ?_ ?_ _ | with_reducible refine Below.setCell ?_ ?_ _ | with_reducible refine Below.drew ?_ | with_reducible refine below_drewN ?_ _)) <;> (first | omega | (simp; done) | (simp; omega))))⟩
theorem sn_max (ol oh bl bh : Int) : (lkB ol oh bl bh = true → snEr ol oh bl bh 3000000000000000 3000000000000000 = 0) ∧ (lkB ol oh bl bh = false → snEr ol oh bl bh 3000000000000000 3000000000000000 = 1) := by
  have hv : validB 3000000000000000 3000000000000000 = true := by rw [validB_iff]; omega
  constructor
  · intro h
    have hl := (lkB_iff _ _ _ _).1 h
    unfold snEr snOk
    rw [h, hv, if_pos (by rfl), if_neg (by omega)]
  · intro h; unfold snEr snOk; rw [h]; rfl
set_option maxRecDepth 100000 in
set_option maxHeartbeats 1000000 in
theorem wdWrong_any (p : Pr) (r f lo tm : Int) (pv : Value) (w : World) (hr : 0 ≤ r ∧ r ≤ 1000000) : Calls Try.prog 56 #[.agg #[.int .i64 p.au, .int .i64 p.er, .int .i64 p.co, .int .i64 p.at_, .int .i64 p.ol, .int .i64 p.oh, .int .i64 p.bl, .int .i64 p.bh, .int .i64 r, .int .i64 f, .int .i64 lo, .int .i64 tm, pv]] w fun e w' =>
    e = .returned (.bool (!prB r tm p)) ∧ Below w.heap.size w w' := by
  cases h1 : lkB p.ol p.oh p.bl p.bh with
  | false =>
    have e1 : prB r tm p = false := by unfold prB; rw [h1]; rfl
    have e2 := (sn_max p.ol p.oh p.bl p.bh).2 h1
    rw [e1]
    clear e1
    go_enter Try.func56, Try.ntmps56
    go_wp2_with (go_at_call 77; refine (Sent_any _ _ _ _ _ _ _ _).mono ?_; rintro e w1 ⟨rfl, b1⟩; obtain ⟨kb1_0, fb1_0, zb1_0, zab1_0, zbb1_0, zcb1_0, zdb1_0, zeb1_0⟩ := bk3 b1 (w.heap.size) (by first | omega | (simp; done) | (simp; omega)); rw [e2])
    go_ret
    exact ⟨rfl, (by ((repeat' (first | with_reducible exact Below.refl _ _ | with_reducible exact b1 | with_reducible refine Below.alloc ?_ ?_ _ | with_reducible refine Below.setCell ?_ ?_ _ | with_reducible refine Below.drew ?_ | with_reducible refine below_drewN ?_ _ | with_reducible refine Below.trans ?_ (b1.mono ?_))) <;> (first | omega | (simp; done) | (simp; omega))))⟩
  | true =>
    have hl := (lkB_iff _ _ _ _).1 h1
    have e2 := (sn_max p.ol p.oh p.bl p.bh).1 h1
    have hel : elEr r (p.oh + p.bh) = 0 := by unfold elEr; rw [if_pos ((elOk_iff _ _).2 (by omega))]
    have e1 : prB r tm p = (inB p.au 1 16 && inB p.er 0 1000000 && inB p.co 0 1000000 && decide (ctHi r (p.oh + p.bh) ≤ tm)) := by unfold prB; rw [h1, Bool.true_and]
    rw [e1]
    generalize hc : ctHi r (p.oh + p.bh) = c
    by_cases h5 : c ≤ tm
    · have d5 : decide (c ≤ tm) = true := decide_eq_true h5
      cases h2 : inB p.au 1 16 <;> cases h3 : inB p.er 0 1000000 <;> cases h4 : inB p.co 0 1000000
      all_goals
        have Hc := hide hc
        have He := hide e1
        clear hc e1 h5
        go_enter Try.func56, Try.ntmps56
        go_wp2_with (first | (go_at_call 77; refine (Sent_any _ _ _ _ _ _ _ _).mono ?_; rintro e w1 ⟨rfl, b1⟩; obtain ⟨kb1_0, fb1_0, zb1_0, zab1_0, zbb1_0, zcb1_0, zdb1_0, zeb1_0⟩ := bk3 b1 (w.heap.size) (by first | omega | (simp; done) | (simp; omega)); rw [e2]) | (go_at_call 78; refine (Counts_any _ _ _).mono ?_; rintro e w2 ⟨rfl, b2⟩; obtain ⟨kb2_0, fb2_0, zb2_0, zab2_0, zbb2_0, zcb2_0, zdb2_0, zeb2_0⟩ := bk3 b2 (w.heap.size) (by first | omega | (simp; done) | (simp; omega)); rw [hel, Hc.out]) | (go_at_call 33; refine (wdWithin_any _ _ _ _).mono ?_; rintro e w' ⟨rfl, rfl⟩))
        go_ret
        have z1 := b1.size
        exact ⟨ret_bool (by simp [d5]), (by ((repeat' (first | with_reducible exact Below.refl _ _ | with_reducible exact b1 | with_reducible exact b2 | with_reducible refine Below.alloc ?_ ?_ _ | with_reducible refine Below.setCell ?_ ?_ _ | with_reducible refine Below.drew ?_ | with_reducible refine below_drewN ?_ _ | with_reducible refine Below.trans ?_ (b1.mono ?_) | with_reducible refine Below.trans ?_ (b2.mono ?_))) <;> (first | omega | (simp; done) | (simp; omega))))⟩
    · have d5 : decide (c ≤ tm) = false := decide_eq_false h5
      have Hc := hide hc
      have He := hide e1
      clear hc e1 h5
      go_enter Try.func56, Try.ntmps56
      go_wp2_with (first | (go_at_call 77; refine (Sent_any _ _ _ _ _ _ _ _).mono ?_; rintro e w1 ⟨rfl, b1⟩; obtain ⟨kb1_0, fb1_0, zb1_0, zab1_0, zbb1_0, zcb1_0, zdb1_0, zeb1_0⟩ := bk3 b1 (w.heap.size) (by first | omega | (simp; done) | (simp; omega)); rw [e2]) | (go_at_call 78; refine (Counts_any _ _ _).mono ?_; rintro e w2 ⟨rfl, b2⟩; obtain ⟨kb2_0, fb2_0, zb2_0, zab2_0, zbb2_0, zcb2_0, zdb2_0, zeb2_0⟩ := bk3 b2 (w.heap.size) (by first | omega | (simp; done) | (simp; omega)); rw [hel, Hc.out]) | (go_at_call 33; refine (wdWithin_any _ _ _ _).mono ?_; rintro e w' ⟨rfl, rfl⟩))
      go_ret
      have z1 := b1.size
      exact ⟨ret_bool (by simp [d5]), (by ((repeat' (first | with_reducible exact Below.refl _ _ | with_reducible exact b1 | with_reducible exact b2 | with_reducible refine Below.alloc ?_ ?_ _ | with_reducible refine Below.setCell ?_ ?_ _ | with_reducible refine Below.drew ?_ | with_reducible refine below_drewN ?_ _ | with_reducible refine Below.trans ?_ (b1.mono ?_) | with_reducible refine Below.trans ?_ (b2.mono ?_))) <;> (first | omega | (simp; done) | (simp; omega))))⟩
end Go.Proofs.Ytiaahfccebmkdaa
