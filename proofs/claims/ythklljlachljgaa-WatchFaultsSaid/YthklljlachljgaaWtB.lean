/- Package watch: isRound, Missed; the reference's Missed. -/
import Derived.Test.YthklljlachljgaaWtA
namespace Go.Proofs.Ythklljlachljgaa
open Go.RowKit
attribute [local go_sem ↓] run_max_mx run_min_mn run_eql_iv run_neq_iv run_eql_al run_neq_al
set_option maxRecDepth 100000 in
set_option maxHeartbeats 1000000 in
theorem isRound_any (a b : Int) (va v vc : Value) (au : List Int) (l : List Iv) (promise : Int) (c : List Int) (w : World) (hva : IsRow w va au) (hv : IvRow w v l) (hvc : IsRow w vc c) :
    Calls Try.prog 21 #[.agg #[.int .i64 a, .int .i64 b], va, v, .int .i64 promise, vc] w fun e w' =>
      e = .returned (.bool (auB au au.length && (validB a b && decide (au.length = l.length) && allV l l.length && allO c c.length && inB promise 0 3000000000000000))) ∧ Below w.heap.size w w' := by
  have b0 : Below w.heap.size w (w.alloc (.cells #[.int .i64 a, .int .i64 b] 23)) := (by ((repeat' (first | exact Below.refl _ _ | refine Below.alloc ?_ ?_ _ | refine Below.setCell ?_ ?_ _ | refine Below.drew ?_ | refine below_drewN ?_ _)) <;> (first | omega | (simp; done) | (simp; omega))))
  have hv0 := hv.below (Nat.le_refl _) b0
  have hc0 := hvc.below (Nat.le_refl _) b0
  obtain ⟨a1, cap1, rfl, g1, g2, g3⟩ := hva
  obtain ⟨a2, cap2, rfl, h1, h2, h3⟩ := hv
  clear h3 hvc
  have y0 : (w.alloc (.cells #[.int .i64 a, .int .i64 b] 23)).cell? ⟨w.heap.size, 0, none⟩ = some (.int .i64 a) := by simp
  have y1 : (w.alloc (.cells #[.int .i64 a, .int .i64 b] 23)).cell? ⟨w.heap.size, 1, none⟩ = some (.int .i64 b) := by simp
  have zs : (w.alloc (.cells #[.int .i64 a, .int .i64 b] 23)).heap.size = w.heap.size + 1 := by simp
  go_enter Try.func21, Try.ntmps21
  go_wp2_with fail
  generalize w.alloc (.cells #[.int .i64 a, .int .i64 b] 23) = W0 at *
  go_loopw [12, 18] (fun s12 s18 wr => ∃ k : Nat, k ≤ au.length ∧ s18 = .int .i64 k ∧ s12 = .int .i64 (lastA au k) ∧ Hid (auB au k = true) ∧ W0 = wr) (fun _ i _ => au.length - (intOf i).toNat)
  case atStart => exact ⟨0, Nat.zero_le _, rfl, rfl, hide rfl, rfl⟩
  case round =>
    obtain ⟨k, hk, rfl, rfl, Hall, rfl⟩ := hrel
    have hbd := lastA_bd au k Hall.out
    by_cases hlt : k < au.length
    · obtain ⟨bb, off, rfl, h4, h5⟩ := g3 k hlt
      have h5' := (b0.cell (p := ⟨bb, off + k, none⟩) h4).trans h5
      clear h5 g3
      cases q1 : inB (iAt au k) (lastA au k + 1) 16 with
      | false =>
        have HF := hide (auB_false au k q1 _ hlt)
        go_wp2_with (go_at_call 27; refine (within_any _ _ _ _).mono ?_; rintro e w' ⟨rfl, rfl⟩; rw [q1])
        go_ret
        exact ⟨ret_bool (by rw [HF.out, Bool.false_and]), b0⟩
      | true =>
        go_wp2_with (go_at_call 27; refine (within_any _ _ _ _).mono ?_; rintro e w' ⟨rfl, rfl⟩; rw [q1])
        go_roundw
        case rel => exact ⟨k + 1, by omega, by go_num, rfl, hide (by rw [auB, Hall.out, q1]; rfl), by first | rfl | trivial⟩
        case measure => simp [intOf]; omega
    · obtain rfl : k = au.length := by omega
      clear g3
      cases p1 : validB a b with
      | false =>
        go_wp2_with (go_at_call 35; refine (wrongIv_any _ _ _).mono ?_; rintro e w1 ⟨rfl, b1⟩; rw [p1])
        go_ret
        exact ⟨ret_bool (by rw [p1]; simp), (by ((repeat' (first | exact Below.refl _ _ | exact b0 | exact b1 | refine Below.alloc ?_ ?_ _ | refine Below.setCell ?_ ?_ _ | refine Below.drew ?_ | refine below_drewN ?_ _ | refine Below.trans ?_ (b0.mono ?_) | refine Below.trans ?_ (b1.mono ?_))) <;> (first | omega | (simp; done) | (simp; omega))))⟩
      | true =>
      by_cases h3' : au.length = l.length
      case neg =>
        have p3 : ((au.length : Int) == (l.length : Int)) = false := by rw [beq_eq_false_iff_ne]; omega
        have HD := hide (show decide (au.length = l.length) = false from decide_eq_false h3')
        clear h3'
        go_wp2_with (go_at_call 35; refine (wrongIv_any _ _ _).mono ?_; rintro e w1 ⟨rfl, b1⟩; rw [p1])
        go_ret
        exact ⟨ret_bool (by rw [HD.out]; simp), (by ((repeat' (first | exact Below.refl _ _ | exact b0 | exact b1 | refine Below.alloc ?_ ?_ _ | refine Below.setCell ?_ ?_ _ | refine Below.drew ?_ | refine below_drewN ?_ _ | refine Below.trans ?_ (b0.mono ?_) | refine Below.trans ?_ (b1.mono ?_))) <;> (first | omega | (simp; done) | (simp; omega))))⟩
      have p3 : ((au.length : Int) == (l.length : Int)) = true := by rw [beq_iff_eq]; omega
      have HD := hide (show decide (au.length = l.length) = true from decide_eq_true h3')
      clear h3'
      cases p4 : allV l l.length with
      | false =>
        go_wp2_with (first | (go_at_call 35; refine (wrongIv_any _ _ _).mono ?_; rintro e w1 ⟨rfl, b1⟩; rw [p1]) | (go_at_call 38; refine (ContainsR_any _ l _ (hv0.below (Nat.le_refl _) b1)).mono ?_; rintro e w2 ⟨rfl, b2⟩; rw [p4]))
        go_ret
        have z1 := b1.size
        exact ⟨ret_bool (by rw [p4]; simp), (by ((repeat' (first | exact Below.refl _ _ | exact b0 | exact b1 | exact b2 | refine Below.alloc ?_ ?_ _ | refine Below.setCell ?_ ?_ _ | refine Below.drew ?_ | refine below_drewN ?_ _ | refine Below.trans ?_ (b0.mono ?_) | refine Below.trans ?_ (b1.mono ?_) | refine Below.trans ?_ (b2.mono ?_))) <;> (first | omega | (simp; done) | (simp; omega))))⟩
      | true =>
      cases p5 : allO c c.length with
      | false =>
        go_wp2_with (first | (go_at_call 35; refine (wrongIv_any _ _ _).mono ?_; rintro e w1 ⟨rfl, b1⟩; rw [p1]) | (go_at_call 38; refine (ContainsR_any _ l _ (hv0.below (Nat.le_refl _) b1)).mono ?_; rintro e w2 ⟨rfl, b2⟩; rw [p4]) |
          (go_at_call 39; refine (ContainsO_any _ c _ ((hc0.below (Nat.le_refl _) b1).below (Nat.le_refl _) b2)).mono ?_; rintro e w3 ⟨rfl, b3⟩; rw [p5]))
        go_ret
        have z1 := b1.size
        have z2 := b2.size
        exact ⟨ret_bool (by rw [p5]; simp), (by ((repeat' (first | exact Below.refl _ _ | exact b0 | exact b1 | exact b2 | exact b3 | refine Below.alloc ?_ ?_ _ | refine Below.setCell ?_ ?_ _ | refine Below.drew ?_ | refine below_drewN ?_ _ | refine Below.trans ?_ (b0.mono ?_) | refine Below.trans ?_ (b1.mono ?_) | refine Below.trans ?_ (b2.mono ?_) | refine Below.trans ?_ (b3.mono ?_))) <;> (first | omega | (simp; done) | (simp; omega))))⟩
      | true =>
        go_wp2_with (first | (go_at_call 35; refine (wrongIv_any _ _ _).mono ?_; rintro e w1 ⟨rfl, b1⟩; rw [p1]) | (go_at_call 38; refine (ContainsR_any _ l _ (hv0.below (Nat.le_refl _) b1)).mono ?_; rintro e w2 ⟨rfl, b2⟩; rw [p4]) |
          (go_at_call 39; refine (ContainsO_any _ c _ ((hc0.below (Nat.le_refl _) b1).below (Nat.le_refl _) b2)).mono ?_; rintro e w3 ⟨rfl, b3⟩; rw [p5]) | (go_at_call 27; refine (within_any _ _ _ _).mono ?_; rintro e w' ⟨rfl, rfl⟩))
        go_ret
        have z1 := b1.size
        have z2 := b2.size
        exact ⟨ret_bool (by rw [HD.out, Hall.out, p1, p4, p5]; simp), (by ((repeat' (first | exact Below.refl _ _ | exact b0 | exact b1 | exact b2 | exact b3 | refine Below.alloc ?_ ?_ _ | refine Below.setCell ?_ ?_ _ | refine Below.drew ?_ | refine below_drewN ?_ _ | refine Below.trans ?_ (b0.mono ?_) | refine Below.trans ?_ (b1.mono ?_) | refine Below.trans ?_ (b2.mono ?_) | refine Below.trans ?_ (b3.mono ?_))) <;> (first | omega | (simp; done) | (simp; omega))))⟩
theorem missEr_1 {sent every timeout at_ : Int} (h : ¬ (inB sent 0 3000000000000000 = true ∧ inB at_ 0 3000000000000000 = true ∧ inB every 1 1000000000000 = true ∧ inB timeout 1 1000000000 = true)) : missEr sent every timeout at_ = 1 ∧ missIs sent every timeout at_ = false := by
  have e : missEr sent every timeout at_ = 1 := by unfold missEr; rw [if_neg h]
  exact ⟨e, by unfold missIs; rw [e]; rfl⟩
theorem missEr_2 {sent every timeout at_ : Int} (h : inB sent 0 3000000000000000 = true ∧ inB at_ 0 3000000000000000 = true ∧ inB every 1 1000000000000 = true ∧ inB timeout 1 1000000000 = true) :
    (at_ < sent → missEr sent every timeout at_ = 30 ∧ missIs sent every timeout at_ = false) ∧ (sent ≤ at_ → missEr sent every timeout at_ = 0 ∧ missIs sent every timeout at_ = decide (at_ - sent > every + timeout)) := by
  constructor
  · intro h1
    have e : missEr sent every timeout at_ = 30 := by unfold missEr; rw [if_pos h, if_pos h1]
    exact ⟨e, by unfold missIs; rw [e]; rfl⟩
  · intro h1
    have e : missEr sent every timeout at_ = 0 := by unfold missEr; rw [if_pos h, if_neg (by omega)]
    exact ⟨e, by unfold missIs; rw [e]; rfl⟩
set_option maxRecDepth 100000 in
set_option maxHeartbeats 1000000 in
theorem Missed_any (sent every timeout at_ : Int) (w : World) :
    Calls Try.prog 14 #[.int .i64 sent, .int .i64 every, .int .i64 timeout, .int .i64 at_] w fun e w' => e = .returned (.tuple #[.bool (missIs sent every timeout at_), .int .i64 (missEr sent every timeout at_)]) ∧ w = w' := by
  cases q1 : inB sent 0 3000000000000000 with
  | false =>
    obtain ⟨e1, e2⟩ := missEr_1 (sent := sent) (every := every) (timeout := timeout) (at_ := at_) (by rintro ⟨r1, r2, r3, r4⟩; rw [r1] at q1; cases q1)
    rw [e1, e2]
    clear e1 e2
    go_enter Try.func14, Try.ntmps14
    go_wp2_with (go_at_call 27; refine (within_any _ _ _ _).mono ?_; rintro e w' ⟨rfl, rfl⟩; first | rw [q1] | rw [q2] | rw [q3] | rw [q4] | skip)
    go_ret2
    exact ⟨rfl, rfl⟩
  | true =>
  cases q2 : inB at_ 0 3000000000000000 with
  | false =>
    obtain ⟨e1, e2⟩ := missEr_1 (sent := sent) (every := every) (timeout := timeout) (at_ := at_) (by rintro ⟨r1, r2, r3, r4⟩; rw [r2] at q2; cases q2)
    rw [e1, e2]
    clear e1 e2
    go_enter Try.func14, Try.ntmps14
    go_wp2_with (go_at_call 27; refine (within_any _ _ _ _).mono ?_; rintro e w' ⟨rfl, rfl⟩; first | rw [q1] | rw [q2] | rw [q3] | rw [q4] | skip)
    go_ret2
    exact ⟨rfl, rfl⟩
  | true =>
  cases q3 : inB every 1 1000000000000 with
  | false =>
    obtain ⟨e1, e2⟩ := missEr_1 (sent := sent) (every := every) (timeout := timeout) (at_ := at_) (by rintro ⟨r1, r2, r3, r4⟩; rw [r3] at q3; cases q3)
    rw [e1, e2]
    clear e1 e2
    go_enter Try.func14, Try.ntmps14
    go_wp2_with (go_at_call 27; refine (within_any _ _ _ _).mono ?_; rintro e w' ⟨rfl, rfl⟩; first | rw [q1] | rw [q2] | rw [q3] | rw [q4] | skip)
    go_ret2
    exact ⟨rfl, rfl⟩
  | true =>
  cases q4 : inB timeout 1 1000000000 with
  | false =>
    obtain ⟨e1, e2⟩ := missEr_1 (sent := sent) (every := every) (timeout := timeout) (at_ := at_) (by rintro ⟨r1, r2, r3, r4⟩; rw [r4] at q4; cases q4)
    rw [e1, e2]
    clear e1 e2
    go_enter Try.func14, Try.ntmps14
    go_wp2_with (go_at_call 27; refine (within_any _ _ _ _).mono ?_; rintro e w' ⟨rfl, rfl⟩; first | rw [q1] | rw [q2] | rw [q3] | rw [q4] | skip)
    go_ret2
    exact ⟨rfl, rfl⟩
  | true =>
  obtain ⟨e1, e2⟩ := missEr_2 ⟨q1, q2, q3, q4⟩
  have r1 := q1
  have r2 := q2
  have r3 := q3
  have r4 := q4
  simp only [inB, decide_eq_true_eq] at r1 r2 r3 r4
  by_cases h : at_ < sent
  · rw [(e1 h).1, (e1 h).2]
    clear e1 e2
    go_enter Try.func14, Try.ntmps14
    go_wp2_with (go_at_call 27; refine (within_any _ _ _ _).mono ?_; rintro e w' ⟨rfl, rfl⟩; first | rw [q1] | rw [q2] | rw [q3] | rw [q4] | skip)
    go_ret2
    exact ⟨rfl, rfl⟩
  · rw [(e2 (by omega)).1, (e2 (by omega)).2]
    clear e1 e2
    go_enter Try.func14, Try.ntmps14
    go_wp2_with (go_at_call 27; refine (within_any _ _ _ _).mono ?_; rintro e w' ⟨rfl, rfl⟩; first | rw [q1] | rw [q2] | rw [q3] | rw [q4] | skip)
    go_ret2
    exact ⟨congrArg (fun b => Ending.returned (.tuple #[.bool b, .int .i64 0])) (by first | rfl | (rw [decide_eq_decide]; omega)), rfl⟩
set_option maxRecDepth 100000 in
set_option maxHeartbeats 1000000 in
theorem RMissed_any (sent every timeout at_ : Int) (w : World) :
    Calls Try.prog 15 #[.int .i64 sent, .int .i64 every, .int .i64 timeout, .int .i64 at_] w fun e w' => e = .returned (.tuple #[.bool (missIs sent every timeout at_), .int .i64 (missEr sent every timeout at_)]) ∧ w = w' := by
  cases q1 : inB sent 0 3000000000000000 with
  | false =>
    obtain ⟨e1, e2⟩ := missEr_1 (sent := sent) (every := every) (timeout := timeout) (at_ := at_) (by rintro ⟨r1, r2, r3, r4⟩; rw [r1] at q1; cases q1)
    rw [e1, e2]
    clear e1 e2
    go_enter Try.func15, Try.ntmps15
    go_wp2_with (go_at_call 28; refine (Rwithin_any _ _ _ _).mono ?_; rintro e w' ⟨rfl, rfl⟩; first | rw [q1] | rw [q2] | rw [q3] | rw [q4] | skip)
    go_ret2
    exact ⟨rfl, rfl⟩
  | true =>
  cases q2 : inB at_ 0 3000000000000000 with
  | false =>
    obtain ⟨e1, e2⟩ := missEr_1 (sent := sent) (every := every) (timeout := timeout) (at_ := at_) (by rintro ⟨r1, r2, r3, r4⟩; rw [r2] at q2; cases q2)
    rw [e1, e2]
    clear e1 e2
    go_enter Try.func15, Try.ntmps15
    go_wp2_with (go_at_call 28; refine (Rwithin_any _ _ _ _).mono ?_; rintro e w' ⟨rfl, rfl⟩; first | rw [q1] | rw [q2] | rw [q3] | rw [q4] | skip)
    go_ret2
    exact ⟨rfl, rfl⟩
  | true =>
  cases q3 : inB every 1 1000000000000 with
  | false =>
    obtain ⟨e1, e2⟩ := missEr_1 (sent := sent) (every := every) (timeout := timeout) (at_ := at_) (by rintro ⟨r1, r2, r3, r4⟩; rw [r3] at q3; cases q3)
    rw [e1, e2]
    clear e1 e2
    go_enter Try.func15, Try.ntmps15
    go_wp2_with (go_at_call 28; refine (Rwithin_any _ _ _ _).mono ?_; rintro e w' ⟨rfl, rfl⟩; first | rw [q1] | rw [q2] | rw [q3] | rw [q4] | skip)
    go_ret2
    exact ⟨rfl, rfl⟩
  | true =>
  cases q4 : inB timeout 1 1000000000 with
  | false =>
    obtain ⟨e1, e2⟩ := missEr_1 (sent := sent) (every := every) (timeout := timeout) (at_ := at_) (by rintro ⟨r1, r2, r3, r4⟩; rw [r4] at q4; cases q4)
    rw [e1, e2]
    clear e1 e2
    go_enter Try.func15, Try.ntmps15
    go_wp2_with (go_at_call 28; refine (Rwithin_any _ _ _ _).mono ?_; rintro e w' ⟨rfl, rfl⟩; first | rw [q1] | rw [q2] | rw [q3] | rw [q4] | skip)
    go_ret2
    exact ⟨rfl, rfl⟩
  | true =>
  obtain ⟨e1, e2⟩ := missEr_2 ⟨q1, q2, q3, q4⟩
  have r1 := q1
  have r2 := q2
  have r3 := q3
  have r4 := q4
  simp only [inB, decide_eq_true_eq] at r1 r2 r3 r4
  by_cases h : at_ < sent
  · rw [(e1 h).1, (e1 h).2]
    clear e1 e2
    go_enter Try.func15, Try.ntmps15
    go_wp2_with (go_at_call 28; refine (Rwithin_any _ _ _ _).mono ?_; rintro e w' ⟨rfl, rfl⟩; first | rw [q1] | rw [q2] | rw [q3] | rw [q4] | skip)
    go_ret2
    exact ⟨rfl, rfl⟩
  · rw [(e2 (by omega)).1, (e2 (by omega)).2]
    clear e1 e2
    go_enter Try.func15, Try.ntmps15
    go_wp2_with (go_at_call 28; refine (Rwithin_any _ _ _ _).mono ?_; rintro e w' ⟨rfl, rfl⟩; first | rw [q1] | rw [q2] | rw [q3] | rw [q4] | skip)
    go_ret2
    exact ⟨congrArg (fun b => Ending.returned (.tuple #[.bool b, .int .i64 0])) (by first | rfl | (rw [decide_eq_decide]; omega)), rfl⟩
end Go.Proofs.Ythklljlachljgaa
