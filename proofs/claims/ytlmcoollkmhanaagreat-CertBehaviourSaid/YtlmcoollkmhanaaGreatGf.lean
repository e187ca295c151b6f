
/- Parts SpI SpJ SpK SpL of the proof, joined. -/
import Derived.Test.YtlmcoollkmhanaaGreatGb
import Derived.Laws.MakeOwn
import Derived.Laws.OwnMore
/- The reference of layer 15: the checks, the value for a number, the best number. -/
namespace Go.Proofs.YtlmcoollkmhanaaGreat
open Go.RowKit
attribute [local go_sem ↓] run_max_mx run_min_mn

set_option maxRecDepth 100000 in
set_option maxHeartbeats 400000 in
theorem RWidths_any (v : Value) (l : List Int) (w : World) (hv : IsRow w v l) :
  Calls Tryz.prog 114 #[v] w fun e w' => e = .returned (.bool (inB l.length 1 16 && allW l l.length)) ∧ Below w.heap.size w w' := by
 obtain ⟨a, cap, rfl, h1, h2, h3⟩ := hv
 by_cases p1 : 1 ≤ l.length ∧ l.length ≤ 16
 ·obtain ⟨p2, p3⟩ := p1
  have hp : inB l.length 1 16 = true := by simp [inB]; omega
  rw [hp]
  go_enter Tryz.func114, Tryz.ntmps114
  go_wp2
  go_loopw [3] (fun i wr => ∃ k : Nat, k ≤ l.length ∧ i = .int .i64 k ∧ Hid (allW l k = true) ∧ wr = w) (fun i _ => l.length - (intOf i).toNat)
  case atStart => exact ⟨0, Nat.zero_le _, rfl, hide rfl, rfl⟩
  case round =>
   obtain ⟨k, hk, rfl, Hall, rfl⟩ := hrel
   by_cases hlt : k < l.length
   ·obtain ⟨b, off, rfl, h4, h5⟩ := h3 k hlt
    clear h3
    by_cases hval : inB (iAt l k) 0 1000000000000 = true
    ·have hb := hval
     simp only [inB, decide_eq_true_eq] at hb
     go_wp2
     go_roundw
     case rel => exact ⟨k + 1, by omega, by go_num, hide (by rw [allW, Hall.out, hval]; rfl), by first | rfl | trivial⟩
     case measure => simp [intOf]; omega
    ·have hval' : inB (iAt l k) 0 1000000000000 = false := by simpa using hval
     have hf := hide (allW_false l k hval' l.length hlt)
     have hb := hval'
     simp only [inB, decide_eq_false_iff_not] at hb
     clear hval hval'
     by_cases hneg : iAt l k < 0
     ·clear hb
      go_wp2
      go_ret
      exact ⟨ret_bool (by simp [hf.out]), Below.refl _ _⟩
     ·have hbig : 1000000000000 < iAt l k := by omega
      clear hb
      go_wp2
      go_ret
      exact ⟨ret_bool (by simp [hf.out]), Below.refl _ _⟩
   ·go_wp2
    go_ret
    exact ⟨ret_bool (by have := Hall.out; rw [show k = l.length by omega] at this; simp [this]), Below.refl _ _⟩
 ·have hp : inB l.length 1 16 = false := by first | (simp [inB]; done) | (simp [inB]; omega)
  rw [hp]
  clear h3
  by_cases p2 : l.length < 1
  ·clear p1
   go_enter Tryz.func114, Tryz.ntmps114
   go_wp2
   go_ret
   exact ⟨rfl, Below.refl _ _⟩
  ·have p3 : 16 < l.length := by omega
   clear p1
   go_enter Tryz.func114, Tryz.ntmps114
   go_wp2
   go_ret
   exact ⟨rfl, Below.refl _ _⟩
set_option maxRecDepth 100000 in
set_option maxHeartbeats 400000 in
theorem Rcheck_any (v : Value) (l : List Int) (f lost : Int) (w : World) (hv : IsRow w v l) (hlen : l.length ≤ 1000000) :
  Calls Tryz.prog 94 #[v, .int .i64 f, .int .i64 lost] w fun e w' => e = .returned (.int .i64 (spEr l f lost)) ∧ Below w.heap.size w w' := by
 have hv' := hv
 obtain ⟨a, cap, rfl, h1, h2, h3⟩ := hv
 clear h3
 cases hA : spA l f lost with
 | false =>
  rw [spA_false hA]
  by_cases p1 : (inB l.length 1 16 && allW l l.length) = true
  case neg =>
   have p1' : (inB l.length 1 16 && allW l l.length) = false := by simpa using p1
   clear p1 hA
   go_enter Tryz.func94, Tryz.ntmps94
   go_wp2_with (go_at_call 114; refine (RWidths_any _ l _ hv').mono ?_; rintro e w1 ⟨rfl, b1⟩; rw [p1'])
   go_ret
   exact ⟨rfl, b1⟩
  by_cases p2 : f < 0
  ·clear hA
   go_enter Tryz.func94, Tryz.ntmps94
   go_wp2_with (go_at_call 114; refine (RWidths_any _ l _ hv').mono ?_; rintro e w1 ⟨rfl, b1⟩; rw [p1])
   go_ret
   exact ⟨rfl, b1⟩
  by_cases p3 : 16 < f
  ·clear hA
   go_enter Tryz.func94, Tryz.ntmps94
   go_wp2_with (go_at_call 114; refine (RWidths_any _ l _ hv').mono ?_; rintro e w1 ⟨rfl, b1⟩; rw [p1])
   go_ret
   exact ⟨rfl, b1⟩
  by_cases p4 : lost < 0
  ·clear hA
   go_enter Tryz.func94, Tryz.ntmps94
   go_wp2_with (go_at_call 114; refine (RWidths_any _ l _ hv').mono ?_; rintro e w1 ⟨rfl, b1⟩; rw [p1])
   go_ret
   exact ⟨rfl, b1⟩
  have p5 : 16 < lost := by
   rcases Int.lt_or_le 16 lost with h | h
   ·exact h
   ·exfalso
    have e3 : inB f 0 16 = true := by simp [inB]; omega
    have e4 : inB lost 0 16 = true := by simp [inB]; omega
    have : spA l f lost = true := by unfold spA; rw [p1, e3, e4]; rfl
    rw [this] at hA; cases hA
  clear hA
  go_enter Tryz.func94, Tryz.ntmps94
  go_wp2_with (go_at_call 114; refine (RWidths_any _ l _ hv').mono ?_; rintro e w1 ⟨rfl, b1⟩; rw [p1])
  go_ret
  exact ⟨rfl, b1⟩
 | true =>
  have hA' := hA
  simp only [spA, Bool.and_eq_true] at hA'
  obtain ⟨⟨⟨q1, q2⟩, q3⟩, q4⟩ := hA'
  have p1 : (inB l.length 1 16 && allW l l.length) = true := by rw [q1, q2]; rfl
  simp only [inB, decide_eq_true_eq] at q1 q3 q4
  by_cases hf : 2 * f < (l.length : Int) - lost
  ·have e : spEr l f lost = 0 := by unfold spEr; rw [if_pos hA, if_pos hf]
   rw [e]
   clear e hA
   go_enter Tryz.func94, Tryz.ntmps94
   go_wp2_with (go_at_call 114; refine (RWidths_any _ l _ hv').mono ?_; rintro e w1 ⟨rfl, b1⟩; rw [p1])
   go_ret
   exact ⟨rfl, b1⟩
  ·have e : spEr l f lost = 20 := by unfold spEr; rw [if_pos hA, if_neg hf]
   have hle : (l.length : Int) - lost ≤ 2 * f := by omega
   rw [e]
   clear e hA hf
   go_enter Tryz.func94, Tryz.ntmps94
   go_wp2_with (go_at_call 114; refine (RWidths_any _ l _ hv').mono ?_; rintro e w1 ⟨rfl, b1⟩; rw [p1])
   go_ret
   exact ⟨rfl, b1⟩
set_option maxRecDepth 100000 in
set_option maxHeartbeats 400000 in
theorem Rvalue_any (v : Value) (D : List Int) (k j : Nat) (w : World) (hv : IsRow w v D) (hk1 : 1 ≤ k) (hjk : j ≤ k) (hj : 2 * k - D.length ≤ j) (hkD : k ≤ D.length) (hD : D.length ≤ 100) (hwd : ∀ i, 0 ≤ iAt D i ∧ iAt D i ≤ 1000000000000) :
  Calls Tryz.prog 115 #[v, .int .i64 k, .int .i64 j] w fun e w' => e = .returned (.int .i64 (vJ D k j)) ∧ Below w.heap.size w w' := by
 obtain ⟨a, cap, rfl, h1, h2, h3⟩ := hv
 obtain ⟨i1, hi1⟩ : ∃ i, k = i + 1 := ⟨k - 1, by omega⟩
 obtain ⟨i2, hi2⟩ : ∃ i, 2 * k - j = i + 1 := ⟨2 * k - j - 1, by omega⟩
 obtain ⟨b, off, rfl, h4, h5⟩ := h3 i1 (by omega)
 obtain ⟨b', off', hb, _, h7⟩ := h3 i2 (by omega)
 cases hb
 have d1 := hwd i1
 have d2 := hwd i2
 have w1 : IntKind.i64.wrap ((k : Int) - 1) = i1 := by rw [IntWalk.i64_in _ (by omega)]; omega
 have w2 : IntKind.i64.wrap (2 * (k : Int)) = 2 * k := IntWalk.i64_in _ (by omega)
 have w3 : IntKind.i64.wrap (2 * (k : Int) - j) = 2 * k - j := IntWalk.i64_in _ (by omega)
 have w4 : IntKind.i64.wrap (2 * (k : Int) - j - 1) = i2 := by rw [IntWalk.i64_in _ (by omega)]; omega
 have w5 : IntKind.i64.wrap (iAt D i1 + iAt D i2) = iAt D i1 + iAt D i2 := IntWalk.i64_in _ (by omega)
 have hi1l : i1 < D.length := by omega
 have hi2l : i2 < D.length := by omega
 have e1 : k - 1 = i1 := by omega
 have e2 : 2 * k - j - 1 = i2 := by omega
 by_cases hjp : 0 < j
 ·obtain ⟨i3, hi3⟩ : ∃ i, j = i + 1 := ⟨j - 1, by omega⟩
  obtain ⟨b', off', hb, _, h8⟩ := h3 i3 (by omega)
  cases hb
  have w6 : IntKind.i64.wrap ((j : Int) - 1) = i3 := by rw [IntWalk.i64_in _ (by omega)]; omega
  have hi3l : i3 < D.length := by omega
  have e3 : j - 1 = i3 := by omega
  have hV : vJ D k j = mn (iAt D i1 + iAt D i2) (iAt D i3) := by unfold vJ; rw [if_pos hjp, e1, e2, e3]
  have HV := hide hV
  clear hV e1 e2 e3 hi1 hi2 hi3 h3
  have w7 : (j : Int) - 1 = i3 := by rw [← w6, IntWalk.i64_in _ (by omega)]
  by_cases hc : iAt D i3 < iAt D i1 + iAt D i2
  ·go_enter Tryz.func115, Tryz.ntmps115
   go_wp2
   go_quiet (fail)
   go_wp2
   go_ret
   exact ⟨ret_int (by rw [HV.out]; unfold mn; rw [if_pos hc]), (by ((repeat' (first | exact Below.refl _ _ | refine Below.alloc ?_ ?_ _ | refine Below.setCell ?_ ?_ _ | refine Below.drew ?_ | refine below_drewN ?_ _)) <;> (first | omega | (simp; done) | (simp; omega))))⟩
  ·go_enter Tryz.func115, Tryz.ntmps115
   go_wp2
   go_quiet (fail)
   go_wp2
   go_ret
   exact ⟨ret_int (by rw [HV.out]; unfold mn; rw [if_neg (by omega)]), (by ((repeat' (first | exact Below.refl _ _ | refine Below.alloc ?_ ?_ _ | refine Below.setCell ?_ ?_ _ | refine Below.drew ?_ | refine below_drewN ?_ _)) <;> (first | omega | (simp; done) | (simp; omega))))⟩
 ·have hV : vJ D k j = iAt D i1 + iAt D i2 := by unfold vJ; rw [if_neg hjp, e1, e2]
  have HV := hide hV
  have hjz : decide (0 < j) = false := decide_eq_false hjp
  have hjz2 : decide ((0 : Int) < j) = false := decide_eq_false (by omega)
  clear hV e1 e2 hi1 hi2 h3
  go_enter Tryz.func115, Tryz.ntmps115
  go_wp2
  go_quiet (fail)
  go_wp2
  go_ret
  exact ⟨ret_int (by rw [HV.out]), (by ((repeat' (first | exact Below.refl _ _ | refine Below.alloc ?_ ?_ _ | refine Below.setCell ?_ ?_ _ | refine Below.drew ?_ | refine below_drewN ?_ _)) <;> (first | omega | (simp; done) | (simp; omega))))⟩
end Go.Proofs.YtlmcoollkmhanaaGreat
/- The reference of layer 15: the best number, the order of widths, and Worst. -/
namespace Go.Proofs.YtlmcoollkmhanaaGreat
open Go.RowKit
attribute [local go_sem ↓] run_max_mx run_min_mn

theorem vJ_nonneg {D : List Int} (hwd : ∀ i, 0 ≤ iAt D i ∧ iAt D i ≤ 1000000000000) (k j : Nat) : 0 ≤ vJ D k j ∧ vJ D k j ≤ 2000000000000 := by
 have a := hwd (k - 1)
 have b := hwd (2 * k - j - 1)
 have c := hwd (j - 1)
 have m := mn_spec (iAt D (k - 1) + iAt D (2 * k - j - 1)) (iAt D (j - 1))
 unfold vJ; split <;> omega
theorem bst_one {D : List Int} (hwd : ∀ i, 0 ≤ iAt D i ∧ iAt D i ≤ 1000000000000) (k j0 : Nat) : bst D k j0 1 = ((j0 : Int), vJ D k j0) := by
 have := vJ_nonneg hwd k (j0 + 0)
 show (if vJ D k (j0 + 0) > (bst D k j0 0).2 then (((j0 + 0 : Nat) : Int), vJ D k (j0 + 0)) else bst D k j0 0) = _
 rw [if_pos (by show (-1 : Int) < _; omega)]; rfl
set_option maxRecDepth 100000 in
set_option maxHeartbeats 400000 in
theorem RBest_any (v : Value) (D : List Int) (k : Nat) (w : World) (hv : IsRow w v D) (hk1 : 1 ≤ k) (hkD : k ≤ D.length) (hD : D.length ≤ 100) (hwd : ∀ i, 0 ≤ iAt D i ∧ iAt D i ≤ 1000000000000) :
  Calls Tryz.prog 95 #[v, .int .i64 k] w fun e w' => e = .returned (.tuple #[.int .i64 (bestP D D.length k).1, .int .i64 (bestP D D.length k).2]) ∧ Below w.heap.size w w' := by
 have hv' := hv
 obtain ⟨a, cap, rfl, h1, h2, h3⟩ := hv
 have ww1 : IntKind.i64.wrap (2 * (k : Int)) = 2 * k := IntWalk.i64_in _ (by omega)
 have ww2 : IntKind.i64.wrap (2 * (k : Int) - D.length) = 2 * k - D.length := IntWalk.i64_in _ (by omega)
 have hj0 : mx 0 (2 * (k : Int) - D.length) = (jLo D.length k : Nat) := by unfold jLo; have := mx_spec 0 (2 * (k : Int) - D.length); omega
 have hjk : jLo D.length k ≤ k := by unfold jLo; omega
 have hjm : 2 * k - D.length ≤ jLo D.length k := by unfold jLo; omega
 have hb1 := bst_one hwd k (jLo D.length k)
 have hfin : bestP D D.length k = bst D k (jLo D.length k) (k - jLo D.length k + 1) := rfl
 have Hfin := hide hfin
 have Hb1 := hide hb1
 have Hwd := hide hwd
 generalize jLo D.length k = j0 at *
 clear h3 hfin hb1 hwd
 go_enter Tryz.func95, Tryz.ntmps95
 go_wp2_with fail
 refine (Rvalue_any _ D k j0 _ hv' hk1 hjk hjm hkD hD Hwd.out).mono ?_
 rintro e w1 ⟨rfl, b1⟩
 go_wp2_with fail
 clear hj0 ww1 ww2
 go_loopw [6, 7, 8] (fun s6 s7 s8 wr => ∃ t : Nat, 1 ≤ t ∧ j0 + t ≤ k + 1 ∧ s6 = .int .i64 ((j0 + t : Nat) : Int) ∧ s7 = .int .i64 (bst D k j0 t).1 ∧ s8 = .int .i64 (bst D k j0 t).2 ∧ Below w.heap.size w wr) (fun s6 _ _ _ => k + 1 - (intOf s6).toNat)
 case atStart => exact ⟨1, Nat.le_refl _, by omega, by go_num, by rw [Hb1.out], by rw [Hb1.out], b1⟩
 case round =>
  obtain ⟨t, ht1, ht2, rfl, rfl, rfl, hB⟩ := hrel
  have hz := hB.size
  obtain ⟨j, hj⟩ : ∃ j, j = j0 + t := ⟨_, rfl⟩
  rw [← hj]
  have Hj := hide hj
  by_cases hlt : j ≤ k
  ·have hjm2 : 2 * k - D.length ≤ j := by omega
   have hs : Hid (bst D k j0 (t + 1) = if vJ D k j > (bst D k j0 t).2 then ((j : Int), vJ D k j) else bst D k j0 t) := by
    show bst D k j0 (t + 1) = _
    rw [hj]; rfl
   clear hj
   go_wp2_with fail
   refine (Rvalue_any _ D k j _ (hv'.below (Nat.le_refl _) hB) hk1 hlt hjm2 hkD hD Hwd.out).mono ?_
   rintro e w2 ⟨rfl, b2⟩
   have hB2 : Below w.heap.size w w2 := (by ((repeat' (first | exact Below.refl _ _ | exact hB | exact b2 | refine Below.alloc ?_ ?_ _ | refine Below.setCell ?_ ?_ _ | refine Below.drew ?_ | refine below_drewN ?_ _ | refine Below.trans ?_ (hB.mono ?_) | refine Below.trans ?_ (b2.mono ?_))) <;> (first | omega | (simp; done) | (simp; omega))))
   by_cases hgt : (bst D k j0 t).2 < vJ D k j
   ·have hs2 := hs.out
    rw [if_pos hgt] at hs2
    have Hs2 := hide hs2
    clear hs2
    go_wp2
    go_roundw
    case rel =>
     have := Hj.out
     exact ⟨t + 1, by omega, by omega, congrArg (Value.int .i64) (by omega), by rw [Hs2.out], by rw [Hs2.out], hB2⟩
    case measure => simp [intOf]; omega
   ·have hs2 := hs.out
    rw [if_neg (by omega)] at hs2
    have Hs2 := hide hs2
    clear hs2
    go_wp2
    go_roundw
    case rel =>
     have := Hj.out
     exact ⟨t + 1, by omega, by omega, congrArg (Value.int .i64) (by omega), by rw [Hs2.out], by rw [Hs2.out], hB2⟩
    case measure => simp [intOf]; omega
  ·have ht3 : t = k - j0 + 1 := by omega
   clear hj
   go_wp2
   go_ret2
   exact ⟨by rw [Hfin.out, ← ht3]; rfl, hB⟩
def aheadB (l : List Int) (i k : Nat) : Bool := decide (iAt l k < iAt l i) || (decide (iAt l i = iAt l k) && decide (i < k))
set_option maxRecDepth 100000 in
set_option maxHeartbeats 400000 in
theorem Rahead_any (v : Value) (l : List Int) (i k : Nat) (w : World) (hv : IsRow w v l) (hi : i < l.length) (hk : k < l.length) :
  Calls Tryz.prog 143 #[v, .int .i64 i, .int .i64 k] w fun e w' => e = .returned (.bool (aheadB l i k)) ∧ ∃ n, w' = w.drewN n := by
 obtain ⟨a, cap, rfl, h1, h2, h3⟩ := hv
 obtain ⟨b, off, rfl, h4, h5⟩ := h3 i hi
 obtain ⟨b', off', hb, h4', h5'⟩ := h3 k hk
 cases hb
 clear h3
 by_cases q1 : iAt l k < iAt l i
 ·go_enter Tryz.func143, Tryz.ntmps143
  go_wp2
  go_quiet (fail)
  go_wp2
  go_ret
  exact ⟨ret_bool (by simp [aheadB, q1]), _, rfl⟩
 ·have q1' : decide (iAt l k < iAt l i) = false := decide_eq_false q1
  by_cases q2 : iAt l i = iAt l k
  ·have q3 : (iAt l i == iAt l k) = true := by rw [beq_iff_eq]; exact q2
   have Q2 := hide q2
   clear q2
   by_cases q4 : i < k
   ·have q4' : decide (i < k) = true := decide_eq_true q4
    go_enter Tryz.func143, Tryz.ntmps143
    go_wp2
    go_quiet (fail)
    go_wp2
    go_ret
    exact ⟨ret_bool (by simp [aheadB, Q2.out, q4]), _, rfl⟩
   ·have q4' : decide (i < k) = false := decide_eq_false q4
    go_enter Tryz.func143, Tryz.ntmps143
    go_wp2
    go_quiet (fail)
    go_wp2
    go_ret
    exact ⟨ret_bool (by simp [aheadB, Q2.out, q4]), _, rfl⟩
  ·have q3 : (iAt l i == iAt l k) = false := by rw [beq_eq_false_iff_ne]; exact q2
   go_enter Tryz.func143, Tryz.ntmps143
   go_wp2
   go_quiet (fail)
   go_wp2
   go_ret
   exact ⟨ret_bool (by simp [aheadB, q1, q2]), _, rfl⟩
end Go.Proofs.YtlmcoollkmhanaaGreat
/- Where each index stands in the order of widths: behind as many as are ahead of it. -/
namespace Go.Proofs.YtlmcoollkmhanaaGreat
open Go.RowKit
def Ahd (l : List Int) (i k : Nat) : Prop := iAt l k < iAt l i ∨ (iAt l i = iAt l k ∧ i < k)
theorem aheadB_iff (l : List Int) (i k : Nat) : aheadB l i k = true ↔ Ahd l i k := by simp [aheadB, Ahd]
theorem insW_ahd (l : List Int) (x : Nat) : ∀ o, o.Pairwise (Ahd l) → (∀ y, y ∈ o → y < x) → (insW l x o).Pairwise (Ahd l)
 | [], _, _ => List.pairwise_singleton _ _
 | y :: r, h, hx => by
  have h' := List.pairwise_cons.1 h
  have hy := hx y List.mem_cons_self
  unfold insW
  split
  ·rename_i hlt
   refine List.pairwise_cons.2 ⟨fun z hz => ?_, h⟩
   rcases List.mem_cons.1 hz with rfl | hz
   ·exact .inl hlt
   ·rcases h'.1 z hz with h1 | h1
    ·exact .inl (by omega)
    ·exact .inl (by omega)
  ·rename_i hlt
   refine List.pairwise_cons.2 ⟨fun z hz => ?_, insW_ahd l x r h'.2 (fun z hz => hx z (List.mem_cons_of_mem _ hz))⟩
   rcases List.mem_cons.1 ((insW_perm l x r).mem_iff.1 hz) with rfl | hz
   ·unfold Ahd; omega
   ·exact h'.1 z hz
theorem ordTo_ahd (l : List Int) : ∀ k, (ordTo l k).Pairwise (Ahd l)
 | 0 => List.Pairwise.nil
 | k + 1 => insW_ahd l k _ (ordTo_ahd l k) (fun _y hy => ordTo_lt hy)
def plc (l : List Int) (i : Nat) : Nat → Nat
 | 0 => 0
 | k + 1 => if aheadB l k i = true then plc l i k + 1 else plc l i k
theorem plc_count (l : List Int) (i : Nat) : ∀ k, plc l i k = (List.range k).countP fun j => aheadB l j i
 | 0 => rfl
 | k + 1 => by
  rw [plc, List.range_succ, List.countP_append, plc_count l i k]
  simp only [List.countP_cons, List.countP_nil]
  split <;> simp
theorem plc_le (l : List Int) (i k : Nat) : plc l i k ≤ k := by
 induction k with
 | zero => exact Nat.le_refl _
 | succ k ih => unfold plc; split <;> omega
theorem plc_at {l : List Int} {i : Nat} (hi : i < l.length) : plc l i l.length < l.length ∧ nAt (ordL l) (plc l i l.length) = i := by
 have hm : i ∈ ordL l := (ordTo_perm l l.length).mem_iff.2 (List.mem_range.2 hi)
 obtain ⟨A, B, hAB⟩ := List.append_of_mem hm
 have hp := ordTo_ahd l l.length
 have hl : (ordL l).length = l.length := ordL_length l
 have hcount : plc l i l.length = A.length := by
  rw [plc_count, ← (ordTo_perm l l.length).countP_eq]
  show (ordL l).countP _ = _
  have hp' : (A ++ i :: B).Pairwise (Ahd l) := hAB ▸ hp
  rw [List.pairwise_append] at hp'
  obtain ⟨_, p2, p3⟩ := hp'
  have p2' := List.pairwise_cons.1 p2
  rw [hAB, List.countP_append, List.countP_cons]
  have c1 : A.countP (fun j => aheadB l j i) = A.length := List.countP_eq_length.2 fun a ha => (aheadB_iff l a i).2 (p3 a ha i List.mem_cons_self)
  have c2 : B.countP (fun j => aheadB l j i) = 0 := List.countP_eq_zero.2 fun b hb h => by
   have h1 := p2'.1 b hb
   have h2 := (aheadB_iff l b i).1 h
   unfold Ahd at h1 h2; omega
  have c3 : aheadB l i i = false := by
   cases h : aheadB l i i with
   | false => rfl
   | true => have := (aheadB_iff l i i).1 h; unfold Ahd at this; omega
  rw [c1, c2, c3]; simp
 constructor
 ·rw [hcount, ← hl, hAB]; simp
 ·rw [hcount, hAB]; simp [nAt, List.getD_eq_getElem?_getD]
theorem plc_inj {l : List Int} {i j : Nat} (hi : i < l.length) (hj : j < l.length) (h : plc l i l.length = plc l j l.length) : i = j := by
 have h1 := (plc_at hi).2
 have h2 := (plc_at hj).2
 rw [h] at h1
 omega
theorem plc_onto {l : List Int} {p : Nat} (hp : p < l.length) : ∃ i, i < l.length ∧ plc l i l.length = p ∧ nAt (ordL l) p = i := by
 have hb := ordL_bd l p hp
 refine ⟨nAt (ordL l) p, hb, ?_, rfl⟩
 have h := plc_at hb
 have hnd : (ordL l).Nodup := (ordTo_perm l l.length).nodup_iff.2 List.nodup_range
 have hl : (ordL l).length = l.length := ordL_length l
 obtain ⟨q, hq⟩ : ∃ q, q = plc l (nAt (ordL l) p) l.length := ⟨_, rfl⟩
 rw [← hq] at h ⊢
 obtain ⟨h1, h2⟩ := h
 rw [nAt_lt _ _ (show q < (ordL l).length by omega), nAt_lt _ _ (show p < (ordL l).length by omega)] at h2
 exact (List.getElem_inj hnd).1 h2
end Go.Proofs.YtlmcoollkmhanaaGreat
/- The reference's Order, right and Worst. -/
namespace Go.Proofs.YtlmcoollkmhanaaGreat
open Go.RowKit
attribute [local go_sem ↓] run_max_mx run_min_mn

theorem ownIs_made (w : World) (base n : Nat) (hb : base ≤ w.heap.size) (hn : n ≤ 9223372036854775807) :
  OwnIs (w.alloc (.cells (madeCells #[.int .i64 0] n) 3)) base (.slice (some ⟨w.heap.size, 0, none⟩) n n) (List.replicate n 0) := by
 unfold OwnIs
 rw [List.length_replicate]
 refine ⟨by simp [encI], .inr ⟨w.heap.size, n, madeCells #[.int .i64 0] n, rfl, hb, World.alloc_heap_new w _, Nat.le_refl _, hn, by rw [size_madeCells]; simp, ?_⟩⟩
 rw [toList_madeCells_one]
 simp [encI]
theorem OwnIs.set {w : World} {base g cap : Nat} {c : List Int} (h : OwnIs w base (.slice (some ⟨g, 0, none⟩) c.length cap) c) (i : Nat) (a : Int) :
  OwnIs (w.setCell ⟨g, i, none⟩ (.int .i64 a)) base (.slice (some ⟨g, 0, none⟩) (c.set i a).length cap) (c.set i a) := by
 unfold OwnIs
 rw [List.length_set]
 have hs := (World.ownsRow.stored h i (.int .i64 a)).1
 have e : (encI c).set i (.int .i64 a) = encI (c.set i a) := by simp [encI, List.map_set]
 rw [← e]
 exact hs
theorem iAt_set (c : List Int) (i j : Nat) (a : Int) (hi : i < c.length) : iAt (c.set i a) j = if i = j then a else iAt c j := by
 by_cases h : i = j
 ·subst h; rw [if_pos rfl]; simp [iAt, List.getD_eq_getElem?_getD, hi]
 ·rw [if_neg h]; simp [iAt, List.getD_eq_getElem?_getD, List.getElem?_set_ne h]
set_option maxRecDepth 100000 in
set_option maxHeartbeats 1000000 in
theorem ROrder_any (v : Value) (l : List Int) (w : World) (hv : IsRow w v l) (hl : l.length ≤ 100) :
  Calls Tryz.prog 116 #[v] w fun e w' => ∃ ov, e = .returned ov ∧ OwnIs w' w.heap.size ov (toI (ordL l)) ∧ Below w.heap.size w w' := by
 have hv' := hv
 obtain ⟨a, cap, rfl, h1, h2, h3⟩ := hv
 obtain ⟨i0, hi, hz0, hz1, hz2⟩ := info_parts infoIs
 have hmk : (Instr.makeSlice 25 (.int .i64 l.length) (.int .i64 l.length)).run Tryz.prog w = .ok (.slice (some ⟨w.heap.size, 0, none⟩) l.length l.length) (w.alloc (.cells (madeCells #[.int .i64 0] l.length) 3)) := by
  have := run_makeSlice (P := Tryz.prog) w 25 3 i0 (.int .i64 0) Tryz.underlying25 hi hz0 .i64 .i64 l.length l.length (by omega) (Int.le_refl _) (by rw [hz1]; omega) (by rw [hz2]; omega) (by omega)
  rw [hz1] at this
  simpa [Value.cells] using this
 have hb0 : Below w.heap.size w (w.alloc (.cells (madeCells #[.int .i64 0] l.length) 3)) := (by ((repeat' (first | exact Below.refl _ _ | refine Below.alloc ?_ ?_ _ | refine Below.setCell ?_ ?_ _ | refine Below.drew ?_ | refine below_drewN ?_ _)) <;> (first | omega | (simp; done) | (simp; omega))))
 have ho0 := ownIs_made w w.heap.size l.length (Nat.le_refl _) (by omega)
 clear h3
 go_enter Tryz.func116, Tryz.ntmps116
 go_wp2
 clear hmk
 go_loopw [4] (fun s4 wr => ∃ (i : Nat) (xs : List Int), i ≤ l.length ∧ s4 = .int .i64 i ∧ Hid (xs.length = l.length) ∧ OwnIs wr w.heap.size (.slice (some ⟨w.heap.size, 0, none⟩) xs.length l.length) xs ∧ Hid (∀ j, j < i → iAt xs (plc l j l.length) = j) ∧ Below w.heap.size w wr) (fun s4 _ => l.length - (intOf s4).toNat)
 case atStart => exact ⟨0, List.replicate l.length 0, Nat.zero_le _, rfl, hide (by simp), by rw [List.length_replicate]; exact ho0, hide (fun j hj => by omega), hb0⟩
 case round =>
  obtain ⟨i, xs, hi', rfl, Hl, hown, Hx, hB⟩ := hrel
  have hz := hB.size
  by_cases hlt : i < l.length
  ·go_wp2
   obtain ⟨wo, hwo⟩ : ∃ wo : World, wo = wr := ⟨_, rfl⟩
   subst hwo
   go_loopw [5, 6] (fun s5 s6 wx => ∃ k : Nat, k ≤ l.length ∧ s6 = .int .i64 k ∧ s5 = .int .i64 (plc l i k : Nat) ∧ ∃ nq, wx = wo.drewN nq) (fun _ s6 _ => l.length - (intOf s6).toNat)
   case atStart => exact ⟨0, Nat.zero_le _, rfl, rfl, 0, rfl⟩
   case round =>
    obtain ⟨k, hk, rfl, rfl, nq, rfl⟩ := hrel
    have hpl := plc_le l i k
    by_cases hkl : k < l.length
    ·have hst := hide (show plc l i (k + 1) = if aheadB l k i = true then plc l i k + 1 else plc l i k from rfl)
     have hrow := (hv'.below (Nat.le_refl _) hB).below (Nat.le_refl _) (below_drewN (Below.refl _ _) nq)
     by_cases hah : aheadB l k i = true
     ·go_wp2_with (go_at_call 143; refine (Rahead_any _ l k i _ hrow hkl hlt).mono ?_; rintro e w' ⟨rfl, n2, rfl⟩; rw [hah])
      go_roundw
      case rel => exact ⟨k + 1, by omega, by go_num, by rw [hst.out, if_pos hah]; go_num, _, rfl⟩
      case measure => simp [intOf]; omega
     ·have hah' : aheadB l k i = false := by simpa using hah
      clear hah
      go_wp2_with (go_at_call 143; refine (Rahead_any _ l k i _ hrow hkl hlt).mono ?_; rintro e w' ⟨rfl, n2, rfl⟩; rw [hah'])
      go_roundw
      case rel => exact ⟨k + 1, by omega, by go_num, by rw [hst.out, if_neg (by simp [hah'])], _, rfl⟩
      case measure => simp [intOf]; omega
    ·obtain rfl : k = l.length := by omega
     have hp := plc_at hlt
     have Hp := hide hp
     have hp1 := hp.1
     clear hp
     have ho2 : OwnIs (wo.drewN nq) w.heap.size (.slice (some ⟨w.heap.size, 0, none⟩) xs.length l.length) xs := hown.below (Nat.le_refl _) (below_drewN (Below.refl _ _) nq)
     have hB2 : Below w.heap.size w (wo.drewN nq) := below_drewN hB nq
     have hcell : (wo.drewN nq).cell? ⟨w.heap.size, plc l i l.length, none⟩ = some (.int .i64 (iAt xs (plc l i l.length))) := by
      have := World.ownsRow.cellAt ho2 (plc l i l.length) (by rw [Hl.out]; omega)
      rw [this]
      exact encI_at xs _ (by rw [Hl.out]; exact hp1)
     have hfz : (wo.drewN nq).frozen? ⟨w.heap.size, plc l i l.length, none⟩ = false := World.ownsRow.frozenAt ho2 _
     have hxl : plc l i l.length < xs.length := by rw [Hl.out]; exact hp1
     clear hown hB
     generalize wo.drewN nq = wz at *
     go_wp2
     go_roundw
     case rel =>
      refine ⟨i + 1, xs.set (plc l i l.length) i, by omega, by go_num, hide (by rw [List.length_set]; exact Hl.out), ho2.set _ _, hide (fun j hj => ?_), hB2.setCell (p := ⟨w.heap.size, plc l i l.length, none⟩) (Nat.le_refl _) _⟩
      rw [iAt_set _ _ _ _ hxl]
      by_cases hji : j = i
      ·subst hji; rw [if_pos rfl]
      ·rw [if_neg (fun e => hji (plc_inj hlt (by omega) e).symm)]
       exact Hx.out j (by omega)
     case measure => simp [intOf]; omega
  ·obtain rfl : i = l.length := by omega
   have hfin : xs = toI (ordL l) := by
    refine ints_ext (by rw [Hl.out, toI_length, ordL_length]) fun p hp => ?_
    rw [Hl.out] at hp
    obtain ⟨i, h1, h2, h3⟩ := plc_onto hp
    have := Hx.out i h1
    rw [h2] at this
    rw [this, toI_at _ _ (by rw [ordL_length]; exact hp), h3]
   have Hfin := hide hfin
   have hown2 : OwnIs wr w.heap.size (.slice (some ⟨w.heap.size, 0, none⟩) l.length l.length) xs := by have h := hown; rwa [Hl.out] at h
   clear hfin hown
   go_wp2
   go_ret
   exact ⟨_, rfl, by rw [← Hfin.out]; exact hown2, hB⟩

theorem take_at (D : List Int) (m i : Nat) (h : i < m) : iAt (D.take m) i = iAt D i := by simp [iAt, List.getD_eq_getElem?_getD, h]
set_option maxRecDepth 100000 in
set_option maxHeartbeats 1000000 in
theorem Rright_any (v : Value) (l : List Int) (f lost : Int) (w : World) (hv : IsRow w v l) (hok : spOk l f lost = true) :
  Calls Tryz.prog 96 #[v, .int .i64 f, .int .i64 lost] w fun e w' => ∃ ov, e = .returned ov ∧ OwnIs w' w.heap.size ov ((srt l).take (spM l f lost)) ∧ Below w.heap.size w w' := by
 have hv' := hv
 obtain ⟨a, cap, rfl, h1, h2, h3⟩ := hv
 obtain ⟨m1, m2, m3, m4, m5, m6⟩ := sp_mk hok
 have hb := (spOk_iff l f lost).1 hok
 have hb1 := hb.2.1
 have hb2 := hb.2.2.1
 obtain ⟨i0, hi, hz0, hz1, hz2⟩ := info_parts infoIs
 generalize spM l f lost = m at *
 clear hok hb m2 m3 m4
 go_enter Tryz.func96, Tryz.ntmps96
 go_wp2_with fail
 refine (ROrder_any _ l _ hv' (by omega)).mono ?_
 rintro e w1 ⟨ov, rfl, ho, b1⟩
 have hro := ho.row
 obtain ⟨oa, ocap, hov, o1, o2, o3⟩ := hro
 rw [toI_length, ordL_length] at hov o3
 subst hov
 clear ho o1
 have z1 := b1.size
 go_wp2_with fail
 have M1 := hide m1
 have hmm : (l.length : Int) - lost - f = m := m1.symm
 have hlf : 0 ≤ (l.length : Int) - lost - f := by omega
 clear m1
 go_loopw [8, 9] (fun s8 s9 wr => ∃ i : Nat, i ≤ m ∧ s9 = .int .i64 i ∧ OwnIs wr w1.heap.size s8 ((srt l).take i) ∧ Below w1.heap.size w1 wr) (fun _ s9 _ => m - (intOf s9).toNat)
 case atStart => exact ⟨0, Nat.zero_le _, rfl, by rw [List.take_zero]; exact OwnIs.nil _ _, Below.refl _ _⟩
 case round =>
  obtain ⟨i, him, rfl, hown, hB⟩ := hrel
  have hlen : ((srt l).take i).length = i := by rw [List.length_take, srt_length]; omega
  have hBw : Below w.heap.size w wr := (by ((repeat' (first | exact Below.refl _ _ | exact b1 | exact hB | refine Below.alloc ?_ ?_ _ | refine Below.setCell ?_ ?_ _ | refine Below.drew ?_ | refine below_drewN ?_ _ | refine Below.trans ?_ (b1.mono ?_) | refine Below.trans ?_ (hB.mono ?_))) <;> (first | omega | (simp; done) | (simp; omega))))
  by_cases hlt : i < m
  ·obtain ⟨b, off, rfl, r1, r2⟩ := o3 i (by omega)
   rw [toI_at _ _ (by rw [ordL_length]; omega)] at r2
   have r2' := (hB.cell (p := ⟨b, off + i, none⟩) r1).trans r2
   have hod := ordL_bd l i (by omega)
   obtain ⟨b2, off2, rfl, t1, t2⟩ := h3 (nAt (ordL l) i) hod
   have t2' := (hBw.cell (p := ⟨b2, off2 + nAt (ordL l) i, none⟩) t1).trans t2
   have hsn : (srt l).take (i + 1) = (srt l).take i ++ [iAt l (nAt (ordL l) i)] := by
    rw [take_snoc_is _ _ (by rw [srt_length]; omega), srt_at l i (by omega)]
   have Hsn := hide hsn
   generalize nAt (ordL l) i = x at *
   have hil : i < l.length := by omega
   obtain ⟨ua, ucap, hu, u1, u2⟩ := hown.val
   have hlow := World.ownsRow.lt hown
   have hown' := hown
   unfold OwnIs at hown'
   rw [hlen] at hown' hu
   subst hu
   have Hlen := hide hlen
   have hz := hB.size
   clear hlen hsn r2 t2 o3 h3 hown
   go_wp2_with (at_builtin; refine wpList_append_own _ rfl _ _ 25 rfl w1.heap.size 3 i0 (.int .i64 0) 1 8 Tryz.underlying25 hi hz0 hz1 hz2 rfl (by decide) _ i (encI ((srt l).take i)) rfl (World.ownsRow.alloc hown' _) ⟨wr.heap.size, 0, none⟩ 1 1 [.int .i64 (iAt l x)] rfl rfl (cells_new wr [.int .i64 (iAt l x)] _) (by simp [Value.oneCell']) (by unfold maxLen; omega) (by omega) (by simp; omega) ?_; intro v3 w3 hown3 hg3 _)
   go_roundw
   case rel =>
    refine ⟨i + 1, by omega, by go_num, by rw [Hsn.out]; exact OwnIs.app (by rw [Hlen.out]; exact hown3), ?_⟩
    exact (hB.alloc (by omega) _).grown hg3 (by simp; omega) (fun r h => (hlow r h).1)
   case measure => simp [intOf]; omega
  ·obtain rfl : i = m := by omega
   clear o3 h3
   go_wp2
   go_ret
   exact ⟨_, rfl, hown.mono z1, hBw⟩
theorem best_take (D : List Int) (m k : Nat) (hk : 1 ≤ k) (hkm : k ≤ m) : ∀ t, t ≤ k - jLo m k + 1 → bst (D.take m) k (jLo m k) t = bst D k (jLo m k) t
 | 0, _ => rfl
 | t + 1, h => by
  have e : vJ (D.take m) k (jLo m k + t) = vJ D k (jLo m k + t) := by
   have h1 : 2 * k - m ≤ jLo m k := by unfold jLo; omega
   unfold vJ
   rw [take_at D m (k - 1) (by omega), take_at D m (2 * k - (jLo m k + t) - 1) (by omega)]
   by_cases hj : 0 < jLo m k + t
   ·rw [if_pos hj, if_pos hj, take_at D m _ (by unfold jLo at *; omega)]
   ·rw [if_neg hj, if_neg hj]
  show (if vJ (D.take m) k (jLo m k + t) > (bst (D.take m) k (jLo m k) t).2 then _ else _) = (if vJ D k (jLo m k + t) > (bst D k (jLo m k) t).2 then _ else _)
  rw [e, best_take D m k hk hkm t (by omega)]
theorem bestP_take (D : List Int) (m k : Nat) (hk : 1 ≤ k) (hkm : k ≤ m) (hm : m ≤ D.length) : bestP (D.take m) (D.take m).length k = bestP D m k := by
 have e : (D.take m).length = m := by rw [List.length_take]; omega
 rw [e]
 exact best_take D m k hk hkm _ (Nat.le_refl _)
set_option maxRecDepth 100000 in
set_option maxHeartbeats 400000 in
theorem RWorst_any (v : Value) (l : List Int) (f lost : Int) (w : World) (hv : IsRow w v l) (hlen : l.length ≤ 1000000) :
  Calls Tryz.prog 66 #[v, .int .i64 f, .int .i64 lost] w fun e w' => e = .returned (.tuple #[.int .i64 (worst l f lost), .int .i64 (spEr l f lost)]) ∧ Below w.heap.size w w' := by
 have hv' := hv
 obtain ⟨a, cap, rfl, h1, h2, h3⟩ := hv
 clear h3
 cases hok : spOk l f lost with
 | true =>
  have he := spEr_ok hok
  obtain ⟨m1, m2, m3, m4, m5, m6⟩ := sp_mk hok
  have hb := (spOk_iff l f lost).1 hok
  have hb1 := hb.2.1
  have hb2 := hb.2.2.1
  have hd := srt_bd l hb.1.2
  have hbt := bestP_take (srt l) (spM l f lost) (spK l f lost) m3 m4 (by rw [srt_length]; exact m5)
  have hml : ((srt l).take (spM l f lost)).length = spM l f lost := by rw [List.length_take, srt_length]; omega
  have hwd : ∀ i, 0 ≤ iAt ((srt l).take (spM l f lost)) i ∧ iAt ((srt l).take (spM l f lost)) i ≤ 1000000000000 := fun i => by
   rcases Nat.lt_or_ge i (spM l f lost) with h | h
   ·rw [take_at _ _ _ h]; exact hd i
   ·have : iAt ((srt l).take (spM l f lost)) i = 0 := by simp [iAt, List.getD_eq_getElem?_getD, List.getElem?_take, show ¬ i < spM l f lost by omega]
    omega
  rw [he, worst_ok hok, ← hbt]
  have Hok := hide hok
  have Hwd := hide hwd
  have Hml := hide hml
  have hk : (l.length : Int) - lost - 2 * f = (spK l f lost : Nat) := m2.symm
  have He := hide he
  have hk1 : IntKind.i64.wrap (2 * f) = 2 * f := IntWalk.i64_in _ (by omega)
  generalize hkq : spK l f lost = k at *
  generalize hDq : (srt l).take (spM l f lost) = D at *
  have HD := hide hDq
  clear hok hd hb hbt m2 hwd hml he hkq hDq
  go_enter Tryz.func66, Tryz.ntmps66
  go_wp2_with fail
  refine (Rcheck_any _ l f lost _ hv' hlen).mono ?_
  rintro e w1 ⟨rfl, b1⟩
  rw [He.out]
  go_wp2_with fail
  refine (Rright_any _ l f lost _ (hv'.below (Nat.le_refl _) b1) Hok.out).mono ?_
  rintro e w2 ⟨ov, rfl, ho, b2⟩
  rw [HD.out] at ho
  have hr := ho.row
  have z1 := b1.size
  have hB2 : Below w.heap.size w w2 := (by ((repeat' (first | exact Below.refl _ _ | exact b1 | exact b2 | refine Below.alloc ?_ ?_ _ | refine Below.setCell ?_ ?_ _ | refine Below.drew ?_ | refine below_drewN ?_ _ | refine Below.trans ?_ (b1.mono ?_) | refine Below.trans ?_ (b2.mono ?_))) <;> (first | omega | (simp; done) | (simp; omega))))
  have z2 := hB2.size
  clear ho
  go_wp2_with fail
  refine (RBest_any _ D k _ hr m3 (by rw [Hml.out]; exact m4) (by rw [Hml.out]; omega) Hwd.out).mono ?_
  rintro e w3 ⟨rfl, b3⟩
  go_wp2_with fail
  go_ret2
  exact ⟨rfl, (by ((repeat' (first | exact Below.refl _ _ | exact hB2 | exact b3 | refine Below.alloc ?_ ?_ _ | refine Below.setCell ?_ ?_ _ | refine Below.drew ?_ | refine below_drewN ?_ _ | refine Below.trans ?_ (hB2.mono ?_) | refine Below.trans ?_ (b3.mono ?_))) <;> (first | omega | (simp; done) | (simp; omega))))⟩
 | false =>
  rw [worst_no hok]
  have hne : (spEr l f lost == 0) = false := by rw [beq_eq_false_iff_ne]; rcases spEr_no hok with h | h <;> omega
  have hne2 : (spEr l f lost != 0) = true := by rw [bne_iff_ne]; rcases spEr_no hok with h | h <;> omega
  clear hok
  go_enter Tryz.func66, Tryz.ntmps66
  go_wp2_with fail
  refine (Rcheck_any _ l f lost _ hv' hlen).mono ?_
  rintro e w1 ⟨rfl, b1⟩
  go_wp2_with fail
  go_ret2
  exact ⟨rfl, b1⟩
end Go.Proofs.YtlmcoollkmhanaaGreat
