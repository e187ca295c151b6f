/- The reference of layer 29: Right, Growth, Peer. -/
import Derived.Test.YtiaahfccebmkdaaWdH
import Derived.Test.YtiaahfccebmkdaaWdF
namespace Go.Proofs.Ytiaahfccebmkdaa
open Go.RowKit

set_option maxRecDepth 100000 in
set_option maxHeartbeats 1000000 in
theorem R29Right_any (r f lo tm : Int) (pv : Value) (ps : List Pr) (uv : Value) (use : List Int) (ev : Int) (w : World) (hp : PrRow w pv ps) (hu : IsRow w uv use) (hun : use.length ≤ 1000000) :
    Calls Try.prog 19 #[.agg #[.int .i64 r, .int .i64 f, .int .i64 lo, .int .i64 tm, pv], .agg #[uv, .int .i64 ev]] w fun e w' => e = .returned (.bool (rgB ⟨r, f, lo, tm, ps⟩ use ev)) ∧ Below w.heap.size w w' := by
  obtain ⟨pa, pc, rfl, q1, q2⟩ := hp.len
  have hP : ∀ W : World, Below w.heap.size w W → PrRow W (.slice pa ps.length pc) ps := fun W hW => hp.below (Nat.le_refl _) hW
  have HP := hide hP
  obtain ⟨ua, uc, rfl, u1, u2, u3⟩ := hu
  have Hu3 := hide u3
  clear hP u3
  cases h1 : siB ⟨r, f, lo, tm, ps⟩ with
  | false =>
    have e : rgB ⟨r, f, lo, tm, ps⟩ use ev = false := by unfold rgB; rw [h1]; rfl
    rw [e]
    clear e
    go_enter Try.func19, Try.ntmps19
    go_wp2_with (go_at_call 23; (with_reducible refine (R29Valid_any r f lo tm _ ps _ (HP.out _ (by ((repeat' (first | with_reducible exact Below.refl _ _ | with_reducible refine Below.alloc ?_ ?_ _ | with_reducible refine Below.setCell ?_ ?_ _ | with_reducible refine Below.drew ?_ | with_reducible refine below_drewN ?_ _)) <;> (first | omega | (simp; done) | (simp; omega)))))).mono ?_); rintro e w1 ⟨rfl, b1⟩; rw [h1])
    go_ret
    exact ⟨rfl, (by ((repeat' (first | with_reducible exact Below.refl _ _ | with_reducible exact b1 | with_reducible refine Below.alloc ?_ ?_ _ | with_reducible refine Below.setCell ?_ ?_ _ | with_reducible refine Below.drew ?_ | with_reducible refine below_drewN ?_ _ | with_reducible refine Below.trans ?_ (b1.mono ?_))) <;> (first | omega | (simp; done) | (simp; omega))))⟩
  | true =>
    have hsi := (siN_iff _).1 ((siB_iff _).1 h1).1
    simp only at hsi
    obtain ⟨hi1, hi2, hi3, hi4, hi5⟩ := hsi
    have hS : ∀ W : World, Below (w.heap.size + 2) ((w.alloc (.cells #[.int .i64 r, .int .i64 f, .int .i64 lo, .int .i64 tm, .slice pa ps.length pc] 24)).alloc (.cells #[.slice ua use.length uc, .int .i64 ev] 29)) W → W.cell? ⟨w.heap.size, 0, none⟩ = some (.int .i64 r) ∧ W.cell? ⟨w.heap.size, 1, none⟩ = some (.int .i64 f) ∧ W.cell? ⟨w.heap.size, 2, none⟩ = some (.int .i64 lo) ∧ W.cell? ⟨w.heap.size, 3, none⟩ = some (.int .i64 tm) ∧ W.cell? ⟨w.heap.size, 4, none⟩ = some (.slice pa ps.length pc) ∧ W.cell? ⟨w.heap.size + 1, 0, none⟩ = some (.slice ua use.length uc) ∧ W.cell? ⟨w.heap.size + 1, 1, none⟩ = some (.int .i64 ev) := by
      intro W hW
      have hc := (bk hW w.heap.size (by omega)).1
      have hd := (bk hW (w.heap.size + 1) (by omega)).1
      exact ⟨(hc 0).trans (by simp), (hc 1).trans (by simp), (hc 2).trans (by simp), (hc 3).trans (by simp), (hc 4).trans (by simp), (hd 0).trans (by simp), (hd 1).trans (by simp)⟩
    have HS := hide hS
    clear hS
    by_cases hev : tm + 1 ≤ ev ∧ ev ≤ 1000000000000
    case neg =>
      have e : rgB ⟨r, f, lo, tm, ps⟩ use ev = false := by
        have e2 : inB ev (tm + 1) 1000000000000 = false := by unfold inB; exact decide_eq_false hev
        unfold rgB; simp only; rw [e2, Bool.and_false]; rfl
      rw [e]
      clear e
      by_cases c1 : ev < 1
      · clear hev
        go_enter Try.func19, Try.ntmps19
        go_wp2_with (go_at_call 23; (with_reducible refine (R29Valid_any r f lo tm _ ps _ (HP.out _ (by ((repeat' (first | with_reducible exact Below.refl _ _ | with_reducible refine Below.alloc ?_ ?_ _ | with_reducible refine Below.setCell ?_ ?_ _ | with_reducible refine Below.drew ?_ | with_reducible refine below_drewN ?_ _)) <;> (first | omega | (simp; done) | (simp; omega)))))).mono ?_); rintro e w1 ⟨rfl, b1⟩; obtain ⟨kb1_0, fb1_0, zb1_0, zab1_0, zbb1_0, zcb1_0, zdb1_0, zeb1_0⟩ := bk3 b1 (w.heap.size) (by first | omega | (simp; done) | (simp; omega)); obtain ⟨kb1_1, fb1_1, zb1_1, zab1_1, zbb1_1, zcb1_1, zdb1_1, zeb1_1⟩ := bk3 b1 (w.heap.size + 1) (by first | omega | (simp; done) | (simp; omega)); rw [h1])
        go_ret
        exact ⟨rfl, (by ((repeat' (first | with_reducible exact Below.refl _ _ | with_reducible exact b1 | with_reducible refine Below.alloc ?_ ?_ _ | with_reducible refine Below.setCell ?_ ?_ _ | with_reducible refine Below.drew ?_ | with_reducible refine below_drewN ?_ _ | with_reducible refine Below.trans ?_ (b1.mono ?_))) <;> (first | omega | (simp; done) | (simp; omega))))⟩
      · by_cases c2 : 1000000000000 < ev
        · clear hev
          go_enter Try.func19, Try.ntmps19
          go_wp2_with (go_at_call 23; (with_reducible refine (R29Valid_any r f lo tm _ ps _ (HP.out _ (by ((repeat' (first | with_reducible exact Below.refl _ _ | with_reducible refine Below.alloc ?_ ?_ _ | with_reducible refine Below.setCell ?_ ?_ _ | with_reducible refine Below.drew ?_ | with_reducible refine below_drewN ?_ _)) <;> (first | omega | (simp; done) | (simp; omega)))))).mono ?_); rintro e w1 ⟨rfl, b1⟩; obtain ⟨kb1_0, fb1_0, zb1_0, zab1_0, zbb1_0, zcb1_0, zdb1_0, zeb1_0⟩ := bk3 b1 (w.heap.size) (by first | omega | (simp; done) | (simp; omega)); obtain ⟨kb1_1, fb1_1, zb1_1, zab1_1, zbb1_1, zcb1_1, zdb1_1, zeb1_1⟩ := bk3 b1 (w.heap.size + 1) (by first | omega | (simp; done) | (simp; omega)); rw [h1])
          go_ret
          exact ⟨rfl, (by ((repeat' (first | with_reducible exact Below.refl _ _ | with_reducible exact b1 | with_reducible refine Below.alloc ?_ ?_ _ | with_reducible refine Below.setCell ?_ ?_ _ | with_reducible refine Below.drew ?_ | with_reducible refine below_drewN ?_ _ | with_reducible refine Below.trans ?_ (b1.mono ?_))) <;> (first | omega | (simp; done) | (simp; omega))))⟩
        · have c3 : ev ≤ tm := by omega
          clear hev
          go_enter Try.func19, Try.ntmps19
          go_wp2_with (go_at_call 23; (with_reducible refine (R29Valid_any r f lo tm _ ps _ (HP.out _ (by ((repeat' (first | with_reducible exact Below.refl _ _ | with_reducible refine Below.alloc ?_ ?_ _ | with_reducible refine Below.setCell ?_ ?_ _ | with_reducible refine Below.drew ?_ | with_reducible refine below_drewN ?_ _)) <;> (first | omega | (simp; done) | (simp; omega)))))).mono ?_); rintro e w1 ⟨rfl, b1⟩; obtain ⟨kb1_0, fb1_0, zb1_0, zab1_0, zbb1_0, zcb1_0, zdb1_0, zeb1_0⟩ := bk3 b1 (w.heap.size) (by first | omega | (simp; done) | (simp; omega)); obtain ⟨kb1_1, fb1_1, zb1_1, zab1_1, zbb1_1, zcb1_1, zdb1_1, zeb1_1⟩ := bk3 b1 (w.heap.size + 1) (by first | omega | (simp; done) | (simp; omega)); rw [h1])
          go_ret
          exact ⟨rfl, (by ((repeat' (first | with_reducible exact Below.refl _ _ | with_reducible exact b1 | with_reducible refine Below.alloc ?_ ?_ _ | with_reducible refine Below.setCell ?_ ?_ _ | with_reducible refine Below.drew ?_ | with_reducible refine below_drewN ?_ _ | with_reducible refine Below.trans ?_ (b1.mono ?_))) <;> (first | omega | (simp; done) | (simp; omega))))⟩
    case pos =>
      have e : rgB ⟨r, f, lo, tm, ps⟩ use ev = (inAll ps.length use use.length && risB use && decide (2 * f + lo < use.length)) := by
        have e2 : inB ev (tm + 1) 1000000000000 = true := by unfold inB; exact decide_eq_true hev
        unfold rgB; simp only; rw [h1, e2]; rfl
      rw [e]
      clear e
      obtain ⟨hev1, hev2⟩ := hev
      go_enter Try.func19, Try.ntmps19
      go_wp2_with (go_at_call 23; (with_reducible refine (R29Valid_any r f lo tm _ ps _ (HP.out _ (by ((repeat' (first | with_reducible exact Below.refl _ _ | with_reducible refine Below.alloc ?_ ?_ _ | with_reducible refine Below.setCell ?_ ?_ _ | with_reducible refine Below.drew ?_ | with_reducible refine below_drewN ?_ _)) <;> (first | omega | (simp; done) | (simp; omega)))))).mono ?_); rintro e w1 ⟨rfl, b1⟩; have B1 : Below (w.heap.size + 2) ((w.alloc (.cells #[.int .i64 r, .int .i64 f, .int .i64 lo, .int .i64 tm, .slice pa ps.length pc] 24)).alloc (.cells #[.slice ua use.length uc, .int .i64 ev] 29)) w1 := b1.mono (by simp); obtain ⟨y0, y1, y2, y3, y4, x0, x1⟩ := HS.out w1 B1; rw [h1])
      clear y0 y1 y2 y3 y4 x0 x1
      go_loopw [6] (fun i wx => ∃ k : Nat, k ≤ use.length ∧ i = .int .i64 k ∧ Hid (inAll ps.length use k = true ∧ risTo use k = true) ∧ Below (w.heap.size + 2) ((w.alloc (.cells #[.int .i64 r, .int .i64 f, .int .i64 lo, .int .i64 tm, .slice pa ps.length pc] 24)).alloc (.cells #[.slice ua use.length uc, .int .i64 ev] 29)) wx) (fun i _ => use.length - (intOf i).toNat)
      case atStart => exact ⟨0, Nat.zero_le _, rfl, hide ⟨rfl, rfl⟩, B1⟩
      case round =>
        obtain ⟨k, hk, rfl, Hall, hB⟩ := hrel
        obtain ⟨y0, y1, y2, y3, y4, x0, x1⟩ := HS.out wr hB
        have hzr : w.heap.size + 2 ≤ wr.heap.size := by have := hB.size; simpa using this
        have hBw : Below w.heap.size w wr := (((Below.refl _ _).alloc (Nat.le_refl _) _).alloc (by simp) _).trans (hB.mono (by omega))
        clear b1 B1
        by_cases hlt : k < use.length
        · obtain ⟨ub, uo, rfl, u4, u5⟩ := Hu3.out k hlt
          have u5' := (hBw.cell (p := ⟨ub, uo + k, none⟩) u4).trans u5
          have I1 : (0 : Int) ≤ (k : Int) := by omega
          have I2 : (k : Int) < (use.length : Int) := by omega
          clear u5
          obtain ⟨a, ha⟩ : ∃ a, a = iAt use k := ⟨_, rfl⟩
          rw [← ha] at u5'
          have Ha := hide ha
          clear ha
          by_cases c1 : a < 0
          · have d1 : decide (a < 0) = true := decide_eq_true c1
            go_wp2_with fail
            go_quiet (fail)
            go_wp2_with fail
            go_ret
            have HB := inAll_false (n := ps.length) (l := use) (k := k) (by have := Ha.out; omega) use.length hlt
            exact ⟨ret_bool (by rw [HB]; rfl), (by ((repeat' (first | with_reducible exact Below.refl _ _ | with_reducible exact hBw | with_reducible refine Below.alloc ?_ ?_ _ | with_reducible refine Below.setCell ?_ ?_ _ | with_reducible refine Below.drew ?_ | with_reducible refine below_drewN ?_ _ | with_reducible refine Below.trans ?_ (hBw.mono ?_))) <;> (first | omega | (simp; done) | (simp; omega))))⟩
          · have d1 : decide (a < 0) = false := decide_eq_false c1
            by_cases c2 : (ps.length : Int) ≤ a
            · have d2 : decide ((ps.length : Int) ≤ a) = true := decide_eq_true c2
              go_wp2_with fail
              go_quiet (fail)
              go_wp2_with fail
              go_ret
              have HB := inAll_false (n := ps.length) (l := use) (k := k) (by have := Ha.out; omega) use.length hlt
              exact ⟨ret_bool (by rw [HB]; rfl), (by ((repeat' (first | with_reducible exact Below.refl _ _ | with_reducible exact hBw | with_reducible refine Below.alloc ?_ ?_ _ | with_reducible refine Below.setCell ?_ ?_ _ | with_reducible refine Below.drew ?_ | with_reducible refine below_drewN ?_ _ | with_reducible refine Below.trans ?_ (hBw.mono ?_))) <;> (first | omega | (simp; done) | (simp; omega))))⟩
            · have d2 : decide ((ps.length : Int) ≤ a) = false := decide_eq_false c2
              have hin : decide (0 ≤ iAt use k ∧ iAt use k < ps.length) = true := decide_eq_true (by have := Ha.out; omega)
              have Hin := hide hin
              clear hin
              rcases Nat.eq_zero_or_pos k with h0 | h0
              · have d0 : decide ((0 : Int) < k) = false := decide_eq_false (by omega)
                have d0' : decide (0 < k) = false := decide_eq_false (by omega)
                have H0 := hide h0
                clear h0
                go_wp2_with fail
                go_quiet (fail)
                go_wp2_with fail
                go_roundw
                case rel => exact ⟨k + 1, by omega, by go_num, hide ⟨by rw [inAll, Hall.out.1, Hin.out]; rfl, by have := Ha.out; rw [risTo, Hall.out.2, if_pos H0.out, decide_eq_true (by omega)]; rfl⟩, (by ((repeat' (first | with_reducible exact Below.refl _ _ | with_reducible exact hB | with_reducible refine Below.alloc ?_ ?_ _ | with_reducible refine Below.setCell ?_ ?_ _ | with_reducible refine Below.drew ?_ | with_reducible refine below_drewN ?_ _ | with_reducible refine Below.trans ?_ (hB.mono ?_))) <;> (first | omega | (simp; done) | (simp; omega))))⟩
                case measure => simp [intOf]; omega
              · have d0 : decide ((0 : Int) < k) = true := decide_eq_true (by omega)
                have d0' : decide (0 < k) = true := decide_eq_true (by omega)
                obtain ⟨j, hj⟩ : ∃ j, k = j + 1 := ⟨k - 1, by omega⟩
                have hjl : j < use.length := by omega
                have hk1 : (k : Int) - 1 = j := by omega
                have hk1' : IntKind.i64.wrap ((k : Int) - 1) = j := by rw [hk1]; exact IntWalk.i64_in _ (by omega)
                have I3 : (0 : Int) ≤ (j : Int) := by omega
                have I4 : (j : Int) < (use.length : Int) := by omega
                have v5 : wr.cell? ⟨ub, uo + j, none⟩ = some (.int .i64 (iAt use j)) := by
                  obtain ⟨b', o', e, _, hx⟩ := Hu3.out j hjl
                  cases e
                  exact (hBw.cell (p := ⟨ub, uo + j, none⟩) u4).trans hx
                have Hj := hide hj
                clear hj h0
                by_cases hle : a ≤ iAt use j
                · have d5 : decide (a ≤ iAt use j) = true := decide_eq_true hle
                  have Hle := hide hle
                  clear hle
                  go_wp2_with fail
                  go_quiet (fail)
                  go_wp2_with fail
                  go_ret
                  have HB := risTo_false (l := use) (k := k) (by have := Hj.out; rw [if_neg (by omega), show k - 1 = j by omega, ← Ha.out]; exact Hle.out) use.length hlt
                  exact ⟨ret_bool (by unfold risB; rw [HB, Bool.and_false]; rfl), (by ((repeat' (first | with_reducible exact Below.refl _ _ | with_reducible exact hBw | with_reducible refine Below.alloc ?_ ?_ _ | with_reducible refine Below.setCell ?_ ?_ _ | with_reducible refine Below.drew ?_ | with_reducible refine below_drewN ?_ _ | with_reducible refine Below.trans ?_ (hBw.mono ?_))) <;> (first | omega | (simp; done) | (simp; omega))))⟩
                · have d5 : decide (a ≤ iAt use j) = false := decide_eq_false hle
                  have Hle := hide hle
                  clear hle
                  go_wp2_with fail
                  go_quiet (fail)
                  go_wp2_with fail
                  go_roundw
                  case rel => exact ⟨k + 1, by omega, by go_num, hide ⟨by rw [inAll, Hall.out.1, Hin.out]; rfl, by have := Hj.out; have hle := Hle.out; have ha := Ha.out; rw [risTo, Hall.out.2, if_neg (by omega), show k - 1 = j by omega, decide_eq_true (by omega)]; rfl⟩, (by ((repeat' (first | with_reducible exact Below.refl _ _ | with_reducible exact hB | with_reducible refine Below.alloc ?_ ?_ _ | with_reducible refine Below.setCell ?_ ?_ _ | with_reducible refine Below.drew ?_ | with_reducible refine below_drewN ?_ _ | with_reducible refine Below.trans ?_ (hB.mono ?_))) <;> (first | omega | (simp; done) | (simp; omega))))⟩
                  case measure => simp [intOf]; omega
        · go_wp2_with fail
          go_ret
          obtain ⟨a1, a2⟩ := Hall.out
          have hke : k = use.length := by omega
          rw [hke] at a1 a2
          refine ⟨ret_bool ?_, hBw⟩
          unfold risB
          rw [a1, a2]; rfl
set_option maxRecDepth 100000 in
set_option maxHeartbeats 1000000 in
theorem R29Few_any (r f lo tm : Int) (pv : Value) (ps : List Pr) (uv : Value) (use : List Int) (ev : Int) (w : World) (hp : PrRow w pv ps) (hu : IsRow w uv use) :
    Calls Try.prog 18 #[.agg #[.int .i64 r, .int .i64 f, .int .i64 lo, .int .i64 tm, pv], .agg #[uv, .int .i64 ev]] w fun e w' => e = .returned (.bool (decide (ps.length ≤ 20 ∧ use.length ≤ 20))) ∧ Below w.heap.size w w' := by
  obtain ⟨pa, pc, rfl, q1, q2⟩ := hp.len
  obtain ⟨ua, uc, rfl, u1, u2, u3⟩ := hu
  clear u3
  by_cases h1 : ps.length ≤ 20
  · by_cases h2 : use.length ≤ 20
    · have d1 : decide ((ps.length : Int) ≤ 20) = true := decide_eq_true (by omega)
      have d2 : decide ((use.length : Int) ≤ 20) = true := decide_eq_true (by omega)
      go_enter Try.func18, Try.ntmps18
      go_wp2_with fail
      go_ret
      exact ⟨ret_bool (by simp [h1, h2]), (by ((repeat' (first | with_reducible exact Below.refl _ _ | with_reducible refine Below.alloc ?_ ?_ _ | with_reducible refine Below.setCell ?_ ?_ _ | with_reducible refine Below.drew ?_ | with_reducible refine below_drewN ?_ _)) <;> (first | omega | (simp; done) | (simp; omega))))⟩
    · have d1 : decide ((ps.length : Int) ≤ 20) = true := decide_eq_true (by omega)
      have d2 : decide ((use.length : Int) ≤ 20) = false := decide_eq_false (by omega)
      go_enter Try.func18, Try.ntmps18
      go_wp2_with fail
      go_ret
      exact ⟨ret_bool (by simp [h1, h2]), (by ((repeat' (first | with_reducible exact Below.refl _ _ | with_reducible refine Below.alloc ?_ ?_ _ | with_reducible refine Below.setCell ?_ ?_ _ | with_reducible refine Below.drew ?_ | with_reducible refine below_drewN ?_ _)) <;> (first | omega | (simp; done) | (simp; omega))))⟩
  · have d1 : decide ((ps.length : Int) ≤ 20) = false := decide_eq_false (by omega)
    go_enter Try.func18, Try.ntmps18
    go_wp2_with fail
    go_ret
    exact ⟨ret_bool (by simp [h1]), (by ((repeat' (first | with_reducible exact Below.refl _ _ | with_reducible refine Below.alloc ?_ ?_ _ | with_reducible refine Below.setCell ?_ ?_ _ | with_reducible refine Below.drew ?_ | with_reducible refine below_drewN ?_ _)) <;> (first | omega | (simp; done) | (simp; omega))))⟩
end Go.Proofs.Ytiaahfccebmkdaa
