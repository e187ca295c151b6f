
/- The reference of cert: rising. -/
import Derived.Test.YtlmcoollkmhanaaGreatCtJ
namespace Go.Proofs.YtlmcoollkmhanaaGreat
open Go.RowKit

set_option maxRecDepth 100000 in
set_option maxHeartbeats 1000000 in
theorem R31rising_any (v : Value) (l : List Int) (k : Int) (n : Nat) (w : World) (hv : IsRow w v l) :
  Calls Tryz.prog 64 #[v, .int .i64 k, .int .i64 n] w fun e w' => e = .returned (.bool (isB l k n)) ∧ Below w.heap.size w w' := by
 have HV := hide (fun (W : World) (hW : Below w.heap.size w W) => hv.below (Nat.le_refl _) hW)
 obtain ⟨a, cap, rfl, g1, g2, -⟩ := hv
 obtain ⟨N, hN⟩ : ∃ N : Int, N = n := ⟨_, rfl⟩
 rw [← hN]
 have HN := hide hN
 clear hN
 go_enter Tryz.func64, Tryz.ntmps64
 go_wp2_with fail
 go_loopw [7] (fun s11 wr => ∃ j : Nat, j ≤ l.length ∧ s11 = .int .i64 j ∧ Hid (IsTo l n j) ∧ Below w.heap.size w wr) (fun s11 _ => l.length - (intOf s11).toNat)
 case atStart => exact ⟨0, Nat.zero_le _, rfl, hide (fun j hj => by omega), Below.refl _ _⟩
 case round =>
  obtain ⟨j, hj, rfl, Hr, hB⟩ := hrel
  obtain ⟨a', cap', e', -, -, g3⟩ := HV.out _ hB
  cases e'
  have HB := hide hB
  clear hB
  by_cases hlt : j < l.length
  ·obtain ⟨b, off, rfl, h4, h5⟩ := g3 j hlt
   have I1 : (0 : Int) ≤ (j : Int) := by omega
   have I2 : (j : Int) < (l.length : Int) := by omega
   by_cases c1 : iAt l j < 0
   ·have d1 : decide (iAt l j < 0) = true := decide_eq_true c1
    have hb := isB_no (k := k) (n := n) hlt (.inl (by omega))
    have Hb := hide hb
    clear g3 hb c1
    generalize iAt l j = q at *
    go_wp2_with fail
    go_region
    go_wp2_with fail
    go_ret
    exact ⟨by rw [Hb.out]; rfl, (by ((with_reducible repeat' first | exact .refl _ _ | exact HB.out | refine .alloc ?_ ?_ _ | refine .setCell ?_ ?_ _ | refine .drew ?_ | refine below_drewN ?_ _ | refine Below.trans ?_ (HB.out.mono ?_)) <;> first | omega | simp <;> omega))⟩
   ·by_cases c2 : N ≤ iAt l j
    ·have d1 : decide (iAt l j < 0) = false := decide_eq_false c1
     have d2 : decide (N ≤ iAt l j) = true := decide_eq_true c2
     have hb := isB_no (k := k) (n := n) hlt (.inl (by have := HN.out; omega))
     have Hb := hide hb
     clear g3 hb c1 c2
     generalize iAt l j = q at *
     go_wp2_with fail
     go_region
     go_wp2_with fail
     go_ret
     exact ⟨by rw [Hb.out]; rfl, (by ((with_reducible repeat' first | exact .refl _ _ | exact HB.out | refine .alloc ?_ ?_ _ | refine .setCell ?_ ?_ _ | refine .drew ?_ | refine below_drewN ?_ _ | refine Below.trans ?_ (HB.out.mono ?_)) <;> first | omega | simp <;> omega))⟩
    ·have d1 : decide (iAt l j < 0) = false := decide_eq_false c1
     have d2 : decide (N ≤ iAt l j) = false := decide_eq_false c2
     by_cases hj0 : j = 0
     ·have d3 : decide ((0 : Int) < (j : Int)) = false := decide_eq_false (by omega)
      have d3' : decide (0 < j) = false := decide_eq_false (by omega)
      have d3n : ¬ (0 < j) := by omega
      have hs := Hr.out.step (by have := HN.out; omega) (by rw [if_pos hj0]; omega)
      have Hs := hide hs
      clear g3 hs c1 c2 Hr hj0
      generalize iAt l j = q at *
      go_wp2_with fail
      go_region
      go_wp2_with fail
      go_roundw
      case rel => exact ⟨j + 1, by omega, by go_num, Hs, (by ((with_reducible repeat' first | exact .refl _ _ | exact HB.out | refine .alloc ?_ ?_ _ | refine .setCell ?_ ?_ _ | refine .drew ?_ | refine below_drewN ?_ _ | refine Below.trans ?_ (HB.out.mono ?_)) <;> first | omega | simp <;> omega))⟩
      case measure => simp [intOf]; omega
     ·obtain ⟨b', off', e, h6, h7⟩ := g3 (j - 1) (by omega)
      cases e
      have I3 : (0 : Int) ≤ ((j - 1 : Nat) : Int) := by omega
      have I4 : ((j - 1 : Nat) : Int) < (l.length : Int) := by omega
      have d3 : decide ((0 : Int) < (j : Int)) = true := decide_eq_true (by omega)
      have d3' : decide (0 < j) = true := decide_eq_true (by omega)
      have d3n : 0 < j := by omega
      have wj : IntKind.i64.wrap ((j : Int) - 1) = ((j - 1 : Nat) : Int) := by
       rw [show (j : Int) - 1 = ((j - 1 : Nat) : Int) by omega]; exact IntWalk.i64_in _ (by omega)
      by_cases c3 : iAt l j ≤ iAt l (j - 1)
      ·have d4 : decide (iAt l j ≤ iAt l (j - 1)) = true := decide_eq_true c3
       have hb := isB_no (k := k) (n := n) hlt (.inr (by rw [if_neg hj0]; exact c3))
       have Hb := hide hb
       clear g3 hb c1 c2 c3
       generalize iAt l j = q at *
       generalize iAt l (j - 1) = q' at *
       generalize j - 1 = jp at *
       go_wp2_with fail
       go_region
       go_wp2_with fail
       go_ret
       exact ⟨by rw [Hb.out]; rfl, (by ((with_reducible repeat' first | exact .refl _ _ | exact HB.out | refine .alloc ?_ ?_ _ | refine .setCell ?_ ?_ _ | refine .drew ?_ | refine below_drewN ?_ _ | refine Below.trans ?_ (HB.out.mono ?_)) <;> first | omega | simp <;> omega))⟩
      ·have d4 : decide (iAt l j ≤ iAt l (j - 1)) = false := decide_eq_false c3
       have hs := Hr.out.step (by have := HN.out; omega) (by rw [if_neg hj0]; omega)
       have Hs := hide hs
       clear g3 hs c1 c2 c3 Hr
       generalize iAt l j = q at *
       generalize iAt l (j - 1) = q' at *
       generalize j - 1 = jp at *
       go_wp2_with fail
       go_region
       go_wp2_with fail
       go_roundw
       case rel => exact ⟨j + 1, by omega, by go_num, Hs, (by ((with_reducible repeat' first | exact .refl _ _ | exact HB.out | refine .alloc ?_ ?_ _ | refine .setCell ?_ ?_ _ | refine .drew ?_ | refine below_drewN ?_ _ | refine Below.trans ?_ (HB.out.mono ?_)) <;> first | omega | simp <;> omega))⟩
       case measure => simp [intOf]; omega
  ·obtain rfl : j = l.length := by omega
   have hb := isB_end Hr.out k
   have Hb := hide hb
   clear g3 hb
   go_wp2_with fail
   go_ret
   exact ⟨by rw [Hb.out]; rfl, (by ((with_reducible repeat' first | exact .refl _ _ | exact HB.out | refine .alloc ?_ ?_ _ | refine .setCell ?_ ?_ _ | refine .drew ?_ | refine below_drewN ?_ _ | refine Below.trans ?_ (HB.out.mono ?_)) <;> first | omega | simp <;> omega))⟩
end Go.Proofs.YtlmcoollkmhanaaGreat
