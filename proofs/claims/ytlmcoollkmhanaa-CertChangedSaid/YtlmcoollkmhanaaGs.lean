
/- Parts SpH SpN SpO of the proof, joined. -/
import Derived.Test.YtlmcoollkmhanaaGr
import Derived.Test.YtlmcoollkmhanaaGb
import Derived.Deep.RegionHeld3
import Derived.Deep.DeepCutAuto
import Derived.Deep.CutBlock
import Derived.StillTailTactics
/- Package spread: Pick at whatever arguments. -/
namespace Go.Proofs.Ytlmcoollkmhanaa
open Go.RowKit
end Go.Proofs.Ytlmcoollkmhanaa
/- Package spread: Place. -/
namespace Go.Proofs.Ytlmcoollkmhanaa
open Go.RowKit
attribute [local go_sem ↓] run_max_mx run_min_mn
end Go.Proofs.Ytlmcoollkmhanaa
/- Package spread: Place at whatever arguments; the reference's Same and SameInts. -/
namespace Go.Proofs.Ytlmcoollkmhanaa
open Go.RowKit
attribute [local go_sem ↓] run_max_mx run_min_mn run_eql_iv run_neq_iv
set_option maxRecDepth 100000 in
set_option maxHeartbeats 400000 in
theorem RSameInts15_any (v1 v2 : Value) (l1 l2 : List Int) (w : World) (hv1 : IsRow w v1 l1) (hv2 : IsRow w v2 l2) :
  Calls Try.prog 25 #[v1, v2] w fun e w' => e = .returned (.bool (decide (l1 = l2))) ∧ Below w.heap.size w w' := by
 obtain ⟨a, cap, rfl, h1, h2, h3⟩ := hv1
 obtain ⟨a', cap', rfl, h1', h2', h3'⟩ := hv2
 by_cases hlen : l1.length = l2.length
 ·have hne : ((l1.length : Int) != (l2.length : Int)) = false := by simp [hlen]
  have hlen' := hide hlen; clear hlen
  go_enter Try.func25, Try.ntmps25
  go_wp2
  go_loopw [5] (fun i wr => ∃ k : Nat, k ≤ l1.length ∧ i = .int .i64 k ∧ (∀ j, j < k → iAt l1 j = iAt l2 j) ∧ Below w.heap.size w wr) (fun i _ => l1.length - (intOf i).toNat)
  case atStart => exact ⟨0, Nat.zero_le _, rfl, fun j hj => by omega, Below.refl _ _⟩
  case round =>
   obtain ⟨k, hk, rfl, hall, hB⟩ := hrel
   have Hall := hide hall; clear hall
   by_cases hlt : k < l1.length
   ·obtain ⟨b, off, rfl, h4, h5⟩ := h3 k hlt
    obtain ⟨b', off', rfl, h4', h5'⟩ := h3' k (by have := hlen'.out; omega)
    have g5 := (hB.cell (p := ⟨b, off + k, none⟩) h4).trans h5
    have g5' := (hB.cell (p := ⟨b', off' + k, none⟩) h4').trans h5'
    have hlt' : k < l2.length := by have := hlen'.out; omega
    clear h5 h3 h5' h3'
    by_cases heq : iAt l1 k = iAt l2 k
    ·have heq' : (iAt l1 k != iAt l2 k) = false := by simp [heq]
     have Heq := hide heq
     clear heq
     go_wp2_with fail
     go_quiet (fail)
     go_wp2
     go_roundw
     case rel =>
      refine ⟨k + 1, by omega, by go_num, ?_, (by ((repeat' (first | exact Below.refl _ _ | exact hB | refine Below.alloc ?_ ?_ _ | refine Below.setCell ?_ ?_ _ | refine Below.drew ?_ | refine below_drewN ?_ _ | refine Below.trans ?_ (hB.mono ?_))) <;> (first | omega | (simp; done) | (simp; omega))))⟩
      intro j hj
      rcases Nat.lt_or_ge j k with h | h
      ·exact Hall.out j h
      ·obtain rfl : j = k := by omega
       exact Heq.out
     case measure => simp [intOf]; omega
    ·have heq' : (iAt l1 k != iAt l2 k) = true := by rw [bne_iff_ne]; exact heq
     have Heq := hide heq
     clear heq
     go_wp2_with fail
     go_quiet (fail)
     go_wp2
     go_ret
     refine ⟨ret_bool ?_, (by ((repeat' (first | exact Below.refl _ _ | exact hB | refine Below.alloc ?_ ?_ _ | refine Below.setCell ?_ ?_ _ | refine Below.drew ?_ | refine below_drewN ?_ _ | refine Below.trans ?_ (hB.mono ?_))) <;> (first | omega | (simp; done) | (simp; omega))))⟩
     symm; rw [decide_eq_false_iff_not]
     rintro rfl
     exact Heq.out rfl
   ·go_wp2
    go_ret
    refine ⟨ret_bool ?_, hB⟩
    symm; rw [decide_eq_true_iff]
    exact ints_ext hlen'.out fun j hj => Hall.out j (by omega)
 ·have hne : ((l1.length : Int) != (l2.length : Int)) = true := by rw [bne_iff_ne]; omega
  have hlen' := hide hlen; clear hlen
  go_enter Try.func25, Try.ntmps25
  go_wp2
  go_ret
  refine ⟨ret_bool ?_, Below.refl _ _⟩
  symm; rw [decide_eq_false_iff_not]
  rintro rfl
  exact hlen'.out rfl
end Go.Proofs.Ytlmcoollkmhanaa
