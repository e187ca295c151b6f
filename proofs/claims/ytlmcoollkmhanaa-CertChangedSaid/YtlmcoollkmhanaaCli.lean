
/- Lists of integers: Index, Contains; cells of a row. (As in ScE.) -/
import Derived.Test.YtlmcoollkmhanaaGs
import Derived.Test.YtlmcoollkmhanaaApp
namespace Go.Proofs.Ytlmcoollkmhanaa
open Go.RowKit

set_option maxRecDepth 100000 in
set_option maxHeartbeats 400000 in
theorem IndexN_any (v : Value) (l : List Int) (x : Int) (w : World) (hv : IsRow w v l) :
  Calls Try.prog 42 #[v, .int .i64 x] w fun e w' => (∃ r : Int, e = .returned (.int .i64 r) ∧ (r < 0 ∧ x ∉ l ∨ 0 ≤ r ∧ x ∈ l)) ∧ w = w' := by
 obtain ⟨a, cap, rfl, h1, h2, h3⟩ := hv
 go_enter Try.func42, Try.ntmps42
 go_wp2
 go_loop [5, 8] (fun _ i => ∃ k : Nat, k ≤ l.length ∧ i = .int .i64 k ∧ Hid (∀ j, j < k → iAt l j ≠ x)) (fun _ i => l.length - (intOf i).toNat)
 case atStart => exact ⟨0, Nat.zero_le _, rfl, hide (fun j hj => by omega)⟩
 case round =>
  obtain ⟨k, hk, rfl, Hall⟩ := hrel
  by_cases hlt : k < l.length
  ·obtain ⟨b, off, rfl, h4, h5⟩ := h3 k hlt
   have hm := iAt_mem hlt
   clear h3
   by_cases hb : iAt l k = x
   ·rw [hb] at h5 hm
    have Hm := hide hm
    have d1 : (x == x) = true := by simp
    clear hm hb
    go_wp2
    go_ret
    exact ⟨⟨_, rfl, .inr ⟨by omega, Hm.out⟩⟩, rfl⟩
   ·have d1 : (x == iAt l k) = false := by rw [beq_eq_false_iff_ne]; exact fun h => hb h.symm
    have Hb := hide hb
    clear hb hm
    go_wp2
    go_round
    case rel => exact ⟨k + 1, by omega, by go_num, hide (fun j hj => by
     rcases Nat.lt_or_ge j k with h | h
     ·exact Hall.out j h
     ·obtain rfl : j = k := by omega
      exact Hb.out)⟩
    case measure => simp [intOf]; omega
  ·clear h3
   go_wp2
   go_ret
   refine ⟨⟨_, rfl, .inl ⟨by omega, fun hx => ?_⟩⟩, rfl⟩
   obtain ⟨j, hj, e⟩ := List.mem_iff_getElem.1 hx
   exact Hall.out j (by omega) (by rw [iAt_lt l j hj]; exact e)
set_option maxRecDepth 100000 in
set_option maxHeartbeats 400000 in
theorem ContainsN_any (v : Value) (l : List Int) (x : Int) (w : World) (hv : IsRow w v l) :
  Calls Try.prog 28 #[v, .int .i64 x] w fun e w' => e = .returned (.bool (decide (x ∈ l))) ∧ w = w' := by
 go_enter Try.func28, Try.ntmps28
 go_wp2_with (go_at_call 42; refine (IndexN_any v l x _ hv).mono ?_; rintro e w' ⟨⟨r, rfl, hr⟩, rfl⟩; have Hr := hide hr; clear hr)
 go_ret
 refine ⟨ret_bool ?_, rfl⟩
 rcases Hr.out with ⟨h1, h2⟩ | ⟨h1, h2⟩ <;> simp [h2] <;> omega
theorem owns_newI {w : World} {base q : Nat} (hh : w.heap[q]? = some (.cells #[] 3)) (h : base ≤ q) : w.ownsRow base 3 1 (.slice (some ⟨q, 0, none⟩) 0 0) 0 [] :=
 ⟨rfl, .inr ⟨q, 0, #[], rfl, h, hh, Nat.le_refl _, Nat.zero_le _, rfl, rfl⟩⟩
end Go.Proofs.Ytlmcoollkmhanaa
