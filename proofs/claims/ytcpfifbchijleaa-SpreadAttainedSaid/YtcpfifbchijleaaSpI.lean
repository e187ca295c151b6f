/- The reference of layer 15: the checks, the value for a number, the best number. -/
import Derived.Test.YtcpfifbchijleaaSpB
namespace Go.Proofs.Ytcpfifbchijleaa
open Go.RowKit
attribute [local go_sem ↓] run_max_mx run_min_mn

set_option maxRecDepth 100000 in
set_option maxHeartbeats 400000 in
theorem RWidths_any (v : Value) (l : List Int) (w : World) (hv : IsRow w v l) :
    Calls Try.prog 19 #[v] w fun e w' => e = .returned (.bool (inB l.length 1 16 && allW l l.length)) ∧ Below w.heap.size w w' := by
  obtain ⟨a, cap, rfl, h1, h2, h3⟩ := hv
  by_cases p1 : 1 ≤ l.length ∧ l.length ≤ 16
  · obtain ⟨p2, p3⟩ := p1
    have hp : inB l.length 1 16 = true := by simp [inB]; omega
    rw [hp]
    go_enter Try.func19, Try.ntmps19
    go_wp2
    go_loopw [3] (fun i wr => ∃ k : Nat, k ≤ l.length ∧ i = .int .i64 k ∧ Hid (allW l k = true) ∧ wr = w) (fun i _ => l.length - (intOf i).toNat)
    case atStart => exact ⟨0, Nat.zero_le _, rfl, hide rfl, rfl⟩
    case round =>
      obtain ⟨k, hk, rfl, Hall, rfl⟩ := hrel
      by_cases hlt : k < l.length
      · obtain ⟨b, off, rfl, h4, h5⟩ := h3 k hlt
        clear h3
        by_cases hval : inB (iAt l k) 0 1000000000000 = true
        · have hb := hval
          simp only [inB, decide_eq_true_eq] at hb
          go_wp2
          go_roundw
          case rel => exact ⟨k + 1, by omega, by go_num, hide (by rw [allW, Hall.out, hval]; rfl), by first | rfl | trivial⟩
          case measure => simp [intOf]; omega
        · have hval' : inB (iAt l k) 0 1000000000000 = false := by simpa using hval
          have hf := hide (allW_false l k hval' l.length hlt)
          have hb := hval'
          simp only [inB, decide_eq_false_iff_not] at hb
          clear hval hval'
          by_cases hneg : iAt l k < 0
          · clear hb
            go_wp2
            go_ret
            exact ⟨ret_bool (by simp [hf.out]), Below.refl _ _⟩
          · have hbig : 1000000000000 < iAt l k := by omega
            clear hb
            go_wp2
            go_ret
            exact ⟨ret_bool (by simp [hf.out]), Below.refl _ _⟩
      · go_wp2
        go_ret
        exact ⟨ret_bool (by have := Hall.out; rw [show k = l.length by omega] at this; simp [this]), Below.refl _ _⟩
  · have hp : inB l.length 1 16 = false := by first | (simp [inB]; done) | (simp [inB]; omega)
    rw [hp]
    clear h3
    by_cases p2 : l.length < 1
    · clear p1
      go_enter Try.func19, Try.ntmps19
      go_wp2
      go_ret
      exact ⟨rfl, Below.refl _ _⟩
    · have p3 : 16 < l.length := by omega
      clear p1
      go_enter Try.func19, Try.ntmps19
      go_wp2
      go_ret
      exact ⟨rfl, Below.refl _ _⟩
set_option maxRecDepth 100000 in
set_option maxHeartbeats 400000 in
theorem Rcheck_any (v : Value) (l : List Int) (f lost : Int) (w : World) (hv : IsRow w v l) (hlen : l.length ≤ 1000000) :
    Calls Try.prog 23 #[v, .int .i64 f, .int .i64 lost] w fun e w' => e = .returned (.int .i64 (spEr l f lost)) ∧ Below w.heap.size w w' := by
  have hv' := hv
  obtain ⟨a, cap, rfl, h1, h2, h3⟩ := hv
  clear h3
  cases hA : spA l f lost with
  | false =>
    rw [spA_false hA]
    by_cases p1 : (inB l.length 1 16 && allW l l.length) = true
    case neg =>
      have p1' : (inB l.length 1 16 && allW l l.length) = false := by simpa using p1
      clear p1 hA
      go_enter Try.func23, Try.ntmps23
      go_wp2_with (go_at_call 19; refine (RWidths_any _ l _ hv').mono ?_; rintro e w1 ⟨rfl, b1⟩; rw [p1'])
      go_ret
      exact ⟨rfl, b1⟩
    by_cases p2 : f < 0
    · clear hA
      go_enter Try.func23, Try.ntmps23
      go_wp2_with (go_at_call 19; refine (RWidths_any _ l _ hv').mono ?_; rintro e w1 ⟨rfl, b1⟩; rw [p1])
      go_ret
      exact ⟨rfl, b1⟩
    by_cases p3 : 16 < f
    · clear hA
      go_enter Try.func23, Try.ntmps23
      go_wp2_with (go_at_call 19; refine (RWidths_any _ l _ hv').mono ?_; rintro e w1 ⟨rfl, b1⟩; rw [p1])
      go_ret
      exact ⟨rfl, b1⟩
    by_cases p4 : lost < 0
    · clear hA
      go_enter Try.func23, Try.ntmps23
      go_wp2_with (go_at_call 19; refine (RWidths_any _ l _ hv').mono ?_; rintro e w1 ⟨rfl, b1⟩; rw [p1])
      go_ret
      exact ⟨rfl, b1⟩
    have p5 : 16 < lost := by
      rcases Int.lt_or_le 16 lost with h | h
      · exact h
      · exfalso
        have e3 : inB f 0 16 = true := by simp [inB]; omega
        have e4 : inB lost 0 16 = true := by simp [inB]; omega
        have : spA l f lost = true := by unfold spA; rw [p1, e3, e4]; rfl
        rw [this] at hA; cases hA
    clear hA
    go_enter Try.func23, Try.ntmps23
    go_wp2_with (go_at_call 19; refine (RWidths_any _ l _ hv').mono ?_; rintro e w1 ⟨rfl, b1⟩; rw [p1])
    go_ret
    exact ⟨rfl, b1⟩
  | true =>
    have hA' := hA
    simp only [spA, Bool.and_eq_true] at hA'
    obtain ⟨⟨⟨q1, q2⟩, q3⟩, q4⟩ := hA'
    have p1 : (inB l.length 1 16 && allW l l.length) = true := by rw [q1, q2]; rfl
    simp only [inB, decide_eq_true_eq] at q1 q3 q4
    by_cases hf : 2 * f < (l.length : Int) - lost
    · have e : spEr l f lost = 0 := by unfold spEr; rw [if_pos hA, if_pos hf]
      rw [e]
      clear e hA
      go_enter Try.func23, Try.ntmps23
      go_wp2_with (go_at_call 19; refine (RWidths_any _ l _ hv').mono ?_; rintro e w1 ⟨rfl, b1⟩; rw [p1])
      go_ret
      exact ⟨rfl, b1⟩
    · have e : spEr l f lost = 20 := by unfold spEr; rw [if_pos hA, if_neg hf]
      have hle : (l.length : Int) - lost ≤ 2 * f := by omega
      rw [e]
      clear e hA hf
      go_enter Try.func23, Try.ntmps23
      go_wp2_with (go_at_call 19; refine (RWidths_any _ l _ hv').mono ?_; rintro e w1 ⟨rfl, b1⟩; rw [p1])
      go_ret
      exact ⟨rfl, b1⟩
set_option maxRecDepth 100000 in
set_option maxHeartbeats 400000 in
theorem Rvalue_any (v : Value) (D : List Int) (k j : Nat) (w : World) (hv : IsRow w v D) (hk1 : 1 ≤ k) (hjk : j ≤ k) (hj : 2 * k - D.length ≤ j) (hkD : k ≤ D.length) (hD : D.length ≤ 100) (hwd : ∀ i, 0 ≤ iAt D i ∧ iAt D i ≤ 1000000000000) :
    Calls Try.prog 40 #[v, .int .i64 k, .int .i64 j] w fun e w' => e = .returned (.int .i64 (vJ D k j)) ∧ Below w.heap.size w w' := by
  obtain ⟨a, cap, rfl, h1, h2, h3⟩ := hv
  obtain ⟨i1, hi1⟩ : ∃ i, k = i + 1 := ⟨k - 1, by omega⟩
  obtain ⟨i2, hi2⟩ : ∃ i, 2 * k - j = i + 1 := ⟨2 * k - j - 1, by omega⟩
  obtain ⟨b, off, rfl, h4, h5⟩ := h3 i1 (by omega)
  obtain ⟨b', off', hb, _, h7⟩ := h3 i2 (by omega)
  cases hb
  have d1 := hwd i1
  have d2 := hwd i2
  have w1 : IntKind.i64.wrap ((k : Int) - 1) = i1 := by rw [IntWalk.i64_in _ (by omega)]; omega
  have w2 : IntKind.i64.wrap (2 * (k : Int)) = 2 * k := IntWalk.i64_in _ (by omega)
  have w3 : IntKind.i64.wrap (2 * (k : Int) - j) = 2 * k - j := IntWalk.i64_in _ (by omega)
  have w4 : IntKind.i64.wrap (2 * (k : Int) - j - 1) = i2 := by rw [IntWalk.i64_in _ (by omega)]; omega
  have w5 : IntKind.i64.wrap (iAt D i1 + iAt D i2) = iAt D i1 + iAt D i2 := IntWalk.i64_in _ (by omega)
  have hi1l : i1 < D.length := by omega
  have hi2l : i2 < D.length := by omega
  have e1 : k - 1 = i1 := by omega
  have e2 : 2 * k - j - 1 = i2 := by omega
  by_cases hjp : 0 < j
  · obtain ⟨i3, hi3⟩ : ∃ i, j = i + 1 := ⟨j - 1, by omega⟩
    obtain ⟨b', off', hb, _, h8⟩ := h3 i3 (by omega)
    cases hb
    have w6 : IntKind.i64.wrap ((j : Int) - 1) = i3 := by rw [IntWalk.i64_in _ (by omega)]; omega
    have hi3l : i3 < D.length := by omega
    have e3 : j - 1 = i3 := by omega
    have hV : vJ D k j = mn (iAt D i1 + iAt D i2) (iAt D i3) := by unfold vJ; rw [if_pos hjp, e1, e2, e3]
    have HV := hide hV
    clear hV e1 e2 e3 hi1 hi2 hi3 h3
    have w7 : (j : Int) - 1 = i3 := by rw [← w6, IntWalk.i64_in _ (by omega)]
    by_cases hc : iAt D i3 < iAt D i1 + iAt D i2
    · go_enter Try.func40, Try.ntmps40
      go_wp2
      go_quiet (fail)
      go_wp2
      go_ret
      exact ⟨ret_int (by rw [HV.out]; unfold mn; rw [if_pos hc]), (by ((repeat' (first | exact Below.refl _ _ | refine Below.alloc ?_ ?_ _ | refine Below.setCell ?_ ?_ _ | refine Below.drew ?_ | refine below_drewN ?_ _)) <;> (first | omega | (simp; done) | (simp; omega))))⟩
    · go_enter Try.func40, Try.ntmps40
      go_wp2
      go_quiet (fail)
      go_wp2
      go_ret
      exact ⟨ret_int (by rw [HV.out]; unfold mn; rw [if_neg (by omega)]), (by ((repeat' (first | exact Below.refl _ _ | refine Below.alloc ?_ ?_ _ | refine Below.setCell ?_ ?_ _ | refine Below.drew ?_ | refine below_drewN ?_ _)) <;> (first | omega | (simp; done) | (simp; omega))))⟩
  · have hV : vJ D k j = iAt D i1 + iAt D i2 := by unfold vJ; rw [if_neg hjp, e1, e2]
    have HV := hide hV
    have hjz : decide (0 < j) = false := decide_eq_false hjp
    have hjz2 : decide ((0 : Int) < j) = false := decide_eq_false (by omega)
    clear hV e1 e2 hi1 hi2 h3
    go_enter Try.func40, Try.ntmps40
    go_wp2
    go_quiet (fail)
    go_wp2
    go_ret
    exact ⟨ret_int (by rw [HV.out]), (by ((repeat' (first | exact Below.refl _ _ | refine Below.alloc ?_ ?_ _ | refine Below.setCell ?_ ?_ _ | refine Below.drew ?_ | refine below_drewN ?_ _)) <;> (first | omega | (simp; done) | (simp; omega))))⟩
end Go.Proofs.Ytcpfifbchijleaa
