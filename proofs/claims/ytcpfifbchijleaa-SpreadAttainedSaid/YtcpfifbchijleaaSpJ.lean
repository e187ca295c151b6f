/- The reference of layer 15: the best number, the order of widths, and Worst. -/
import Derived.Test.YtcpfifbchijleaaSpI
namespace Go.Proofs.Ytcpfifbchijleaa
open Go.RowKit
attribute [local go_sem ↓] run_max_mx run_min_mn

theorem vJ_nonneg {D : List Int} (hwd : ∀ i, 0 ≤ iAt D i ∧ iAt D i ≤ 1000000000000) (k j : Nat) : 0 ≤ vJ D k j ∧ vJ D k j ≤ 2000000000000 := by
  have a := hwd (k - 1)
  have b := hwd (2 * k - j - 1)
  have c := hwd (j - 1)
  have m := mn_spec (iAt D (k - 1) + iAt D (2 * k - j - 1)) (iAt D (j - 1))
  unfold vJ; split <;> omega
theorem bst_one {D : List Int} (hwd : ∀ i, 0 ≤ iAt D i ∧ iAt D i ≤ 1000000000000) (k j0 : Nat) : bst D k j0 1 = ((j0 : Int), vJ D k j0) := by
  have := vJ_nonneg hwd k (j0 + 0)
  show (if vJ D k (j0 + 0) > (bst D k j0 0).2 then (((j0 + 0 : Nat) : Int), vJ D k (j0 + 0)) else bst D k j0 0) = _
  rw [if_pos (by show (-1 : Int) < _; omega)]; rfl
set_option maxRecDepth 100000 in
set_option maxHeartbeats 400000 in
theorem RBest_any (v : Value) (D : List Int) (k : Nat) (w : World) (hv : IsRow w v D) (hk1 : 1 ≤ k) (hkD : k ≤ D.length) (hD : D.length ≤ 100) (hwd : ∀ i, 0 ≤ iAt D i ∧ iAt D i ≤ 1000000000000) :
    Calls Try.prog 24 #[v, .int .i64 k] w fun e w' => e = .returned (.tuple #[.int .i64 (bestP D D.length k).1, .int .i64 (bestP D D.length k).2]) ∧ Below w.heap.size w w' := by
  have hv' := hv
  obtain ⟨a, cap, rfl, h1, h2, h3⟩ := hv
  have ww1 : IntKind.i64.wrap (2 * (k : Int)) = 2 * k := IntWalk.i64_in _ (by omega)
  have ww2 : IntKind.i64.wrap (2 * (k : Int) - D.length) = 2 * k - D.length := IntWalk.i64_in _ (by omega)
  have hj0 : mx 0 (2 * (k : Int) - D.length) = (jLo D.length k : Nat) := by unfold jLo; have := mx_spec 0 (2 * (k : Int) - D.length); omega
  have hjk : jLo D.length k ≤ k := by unfold jLo; omega
  have hjm : 2 * k - D.length ≤ jLo D.length k := by unfold jLo; omega
  have hb1 := bst_one hwd k (jLo D.length k)
  have hfin : bestP D D.length k = bst D k (jLo D.length k) (k - jLo D.length k + 1) := rfl
  have Hfin := hide hfin
  have Hb1 := hide hb1
  have Hwd := hide hwd
  generalize jLo D.length k = j0 at *
  clear h3 hfin hb1 hwd
  go_enter Try.func24, Try.ntmps24
  go_wp2_with fail
  refine (Rvalue_any _ D k j0 _ hv' hk1 hjk hjm hkD hD Hwd.out).mono ?_
  rintro e w1 ⟨rfl, b1⟩
  go_wp2_with fail
  clear hj0 ww1 ww2
  go_loopw [6, 7, 8] (fun s6 s7 s8 wr => ∃ t : Nat, 1 ≤ t ∧ j0 + t ≤ k + 1 ∧ s6 = .int .i64 ((j0 + t : Nat) : Int) ∧ s7 = .int .i64 (bst D k j0 t).1 ∧ s8 = .int .i64 (bst D k j0 t).2 ∧ Below w.heap.size w wr) (fun s6 _ _ _ => k + 1 - (intOf s6).toNat)
  case atStart => exact ⟨1, Nat.le_refl _, by omega, by go_num, by rw [Hb1.out], by rw [Hb1.out], b1⟩
  case round =>
    obtain ⟨t, ht1, ht2, rfl, rfl, rfl, hB⟩ := hrel
    have hz := hB.size
    obtain ⟨j, hj⟩ : ∃ j, j = j0 + t := ⟨_, rfl⟩
    rw [← hj]
    have Hj := hide hj
    by_cases hlt : j ≤ k
    · have hjm2 : 2 * k - D.length ≤ j := by omega
      have hs : Hid (bst D k j0 (t + 1) = if vJ D k j > (bst D k j0 t).2 then ((j : Int), vJ D k j) else bst D k j0 t) := by
        show bst D k j0 (t + 1) = _
        rw [hj]; rfl
      clear hj
      go_wp2_with fail
      refine (Rvalue_any _ D k j _ (hv'.below (Nat.le_refl _) hB) hk1 hlt hjm2 hkD hD Hwd.out).mono ?_
      rintro e w2 ⟨rfl, b2⟩
      have hB2 : Below w.heap.size w w2 := (by ((repeat' (first | exact Below.refl _ _ | exact hB | exact b2 | refine Below.alloc ?_ ?_ _ | refine Below.setCell ?_ ?_ _ | refine Below.drew ?_ | refine below_drewN ?_ _ | refine Below.trans ?_ (hB.mono ?_) | refine Below.trans ?_ (b2.mono ?_))) <;> (first | omega | (simp; done) | (simp; omega))))
      by_cases hgt : (bst D k j0 t).2 < vJ D k j
      · have hs2 := hs.out
        rw [if_pos hgt] at hs2
        have Hs2 := hide hs2
        clear hs2
        go_wp2
        go_roundw
        case rel =>
          have := Hj.out
          exact ⟨t + 1, by omega, by omega, congrArg (Value.int .i64) (by omega), by rw [Hs2.out], by rw [Hs2.out], hB2⟩
        case measure => simp [intOf]; omega
      · have hs2 := hs.out
        rw [if_neg (by omega)] at hs2
        have Hs2 := hide hs2
        clear hs2
        go_wp2
        go_roundw
        case rel =>
          have := Hj.out
          exact ⟨t + 1, by omega, by omega, congrArg (Value.int .i64) (by omega), by rw [Hs2.out], by rw [Hs2.out], hB2⟩
        case measure => simp [intOf]; omega
    · have ht3 : t = k - j0 + 1 := by omega
      clear hj
      go_wp2
      go_ret2
      exact ⟨by rw [Hfin.out, ← ht3]; rfl, hB⟩
def aheadB (l : List Int) (i k : Nat) : Bool := decide (iAt l k < iAt l i) || (decide (iAt l i = iAt l k) && decide (i < k))
set_option maxRecDepth 100000 in
set_option maxHeartbeats 400000 in
theorem Rahead_any (v : Value) (l : List Int) (i k : Nat) (w : World) (hv : IsRow w v l) (hi : i < l.length) (hk : k < l.length) :
    Calls Try.prog 44 #[v, .int .i64 i, .int .i64 k] w fun e w' => e = .returned (.bool (aheadB l i k)) ∧ ∃ n, w' = w.drewN n := by
  obtain ⟨a, cap, rfl, h1, h2, h3⟩ := hv
  obtain ⟨b, off, rfl, h4, h5⟩ := h3 i hi
  obtain ⟨b', off', hb, h4', h5'⟩ := h3 k hk
  cases hb
  clear h3
  by_cases q1 : iAt l k < iAt l i
  · go_enter Try.func44, Try.ntmps44
    go_wp2
    go_quiet (fail)
    go_wp2
    go_ret
    exact ⟨ret_bool (by simp [aheadB, q1]), _, rfl⟩
  · have q1' : decide (iAt l k < iAt l i) = false := decide_eq_false q1
    by_cases q2 : iAt l i = iAt l k
    · have q3 : (iAt l i == iAt l k) = true := by rw [beq_iff_eq]; exact q2
      have Q2 := hide q2
      clear q2
      by_cases q4 : i < k
      · have q4' : decide (i < k) = true := decide_eq_true q4
        go_enter Try.func44, Try.ntmps44
        go_wp2
        go_quiet (fail)
        go_wp2
        go_ret
        exact ⟨ret_bool (by simp [aheadB, Q2.out, q4]), _, rfl⟩
      · have q4' : decide (i < k) = false := decide_eq_false q4
        go_enter Try.func44, Try.ntmps44
        go_wp2
        go_quiet (fail)
        go_wp2
        go_ret
        exact ⟨ret_bool (by simp [aheadB, Q2.out, q4]), _, rfl⟩
    · have q3 : (iAt l i == iAt l k) = false := by rw [beq_eq_false_iff_ne]; exact q2
      go_enter Try.func44, Try.ntmps44
      go_wp2
      go_quiet (fail)
      go_wp2
      go_ret
      exact ⟨ret_bool (by simp [aheadB, q1, q2]), _, rfl⟩
end Go.Proofs.Ytcpfifbchijleaa
