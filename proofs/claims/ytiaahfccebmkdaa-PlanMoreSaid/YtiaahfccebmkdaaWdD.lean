/- Package width: whether numbers rise, and whether a site is well-formed. -/
import Derived.Test.YtiaahfccebmkdaaWdC
namespace Go.Proofs.Ytiaahfccebmkdaa
open Go.RowKit

set_option maxRecDepth 100000 in
set_option maxHeartbeats 400000 in
theorem wdIndexB_any (v : Value) (base : Nat) (c : List Bool) (w : World) (hv : OwnBs w base v c) :
    Calls Try.prog 76 #[v, .bool true] w fun e w' => (∃ r : Int, e = .returned (.int .i64 r) ∧ (r < 0 ∧ (∀ j, j < c.length → bAt c j = false) ∨ 0 ≤ r ∧ ∃ j, j < c.length ∧ bAt c j = true)) ∧ w = w' := by
  rcases Nat.eq_zero_or_pos c.length with h0 | h0
  · obtain ⟨a, cap, rfl, h1, h2⟩ := hv.val
    go_enter Try.func76, Try.ntmps76
    go_wp2
    go_loop [5, 8] (fun _ i => i = .int .i64 0) (fun _ i => 0)
    case atStart => rfl
    case round =>
      subst hrel
      go_wp2
      go_ret
      exact ⟨⟨_, rfl, by first | omega | simp⟩, rfl⟩
  · obtain ⟨g, cap, rfl, h1, h2, h3, h4, h5⟩ := hv.form h0
    go_enter Try.func76, Try.ntmps76
    go_wp2
    go_loop [5, 8] (fun _ i => ∃ k : Nat, k ≤ c.length ∧ i = .int .i64 k ∧ Hid (∀ j, j < k → bAt c j = false)) (fun _ i => c.length - (intOf i).toNat)
    case atStart => exact ⟨0, Nat.zero_le _, rfl, hide (fun j hj => by omega)⟩
    case round =>
      obtain ⟨k, hk, rfl, Hall⟩ := hrel
      by_cases hlt : k < c.length
      · have h6 := h5 k hlt
        clear h5
        cases hb : bAt c k with
        | true =>
          rw [hb] at h6
          have Hb := hide hb
          clear hb
          go_wp2
          go_ret
          exact ⟨⟨_, rfl, .inr ⟨by omega, k, hlt, Hb.out⟩⟩, rfl⟩
        | false =>
          rw [hb] at h6
          have Hb := hide hb
          clear hb
          go_wp2
          go_round
          case rel => exact ⟨k + 1, by omega, by go_num, hide (fun j hj => by
            rcases Nat.lt_or_ge j k with h | h
            · exact Hall.out j h
            · obtain rfl : j = k := by omega
              exact Hb.out)⟩
          case measure => simp [intOf]; omega
      · clear h5
        go_wp2
        go_ret
        exact ⟨⟨_, rfl, .inl ⟨by omega, fun j hj => Hall.out j (by omega)⟩⟩, rfl⟩
set_option maxRecDepth 100000 in
set_option maxHeartbeats 400000 in
theorem wdContainsB_any (v : Value) (base : Nat) (c : List Bool) (b : Bool) (w : World) (hv : OwnBs w base v c) (hb : b = true ↔ ∃ j, j < c.length ∧ bAt c j = true) :
    Calls Try.prog 53 #[v, .bool true] w fun e w' => e = .returned (.bool b) ∧ w = w' := by
  have Hb := hide hb
  clear hb
  go_enter Try.func53, Try.ntmps53
  go_wp2_with (go_at_call 76; refine (wdIndexB_any v base c _ hv).mono ?_; rintro e w' ⟨⟨r, rfl, hr⟩, rfl⟩; have Hr := hide hr; clear hr)
  go_ret
  refine ⟨ret_bool ?_, rfl⟩
  have hb := Hb.out
  rcases Hr.out with ⟨h1, h2⟩ | ⟨h1, h2⟩
  · rw [decide_eq_false (by omega)]
    cases b with
    | false => rfl
    | true => obtain ⟨j, h3, h4⟩ := hb.1 rfl; rw [h2 j h3] at h4; cases h4
  · rw [decide_eq_true (by omega), hb.2 h2]
set_option maxRecDepth 100000 in
set_option maxHeartbeats 400000 in
theorem rising1_any (n last : Int) (lb : Nat) (w : World) (hc : w.cell? ⟨lb, 0, none⟩ = some (.int .i64 last)) (hf : w.frozen? ⟨lb, 0, none⟩ = false) :
    Calls Try.prog 59 #[.int .i64 n, .pointer (some ⟨lb, 0, none⟩)] w fun e w' => e = .returned (.bool (decide (n ≤ last))) ∧ w' = w.setCell ⟨lb, 0, none⟩ (.int .i64 n) := by
  go_enter Try.func59, Try.ntmps59
  go_wp2
  go_ret
  exact ⟨rfl, rfl⟩
set_option maxRecDepth 100000 in
set_option maxHeartbeats 1000000 in
theorem IndexR_any (v : Value) (l : List Int) (w0 w : World) (hv : IsRow w0 v l) (hb0 : Below w0.heap.size w0 w) (hc : w.cell? ⟨w0.heap.size, 0, none⟩ = some (.int .i64 (-1))) (hf : w.frozen? ⟨w0.heap.size, 0, none⟩ = false) :
    Calls Try.prog 58 #[v, .func (.func 59) #[] #[.pointer (some ⟨w0.heap.size, 0, none⟩)]] w fun e w' => (∃ r : Int, e = .returned (.int .i64 r) ∧ (r < 0 ∧ risB l = true ∨ 0 ≤ r ∧ risB l = false)) ∧ Below w0.heap.size w0 w' := by
  obtain ⟨a, cap, rfl, h1, h2, h3⟩ := hv
  go_enter Try.func58, Try.ntmps58
  go_wp2
  go_loopw [5, 8] (fun _ i wr => ∃ k : Nat, k ≤ l.length ∧ i = .int .i64 k ∧ Hid (risTo l k = true) ∧ wr.cell? ⟨w0.heap.size, 0, none⟩ = some (.int .i64 (if k = 0 then -1 else iAt l (k - 1))) ∧ wr.frozen? ⟨w0.heap.size, 0, none⟩ = false ∧ Below w0.heap.size w0 wr) (fun _ i _ => l.length - (intOf i).toNat)
  case atStart => exact ⟨0, Nat.zero_le _, rfl, hide rfl, hc, hf, hb0⟩
  case round =>
    obtain ⟨k, hk, rfl, Hall, hcr, hfr, hB⟩ := hrel
    by_cases hlt : k < l.length
    · obtain ⟨b, off, rfl, h4, h5⟩ := h3 k hlt
      have h5' := (hB.cell (p := ⟨b, off + k, none⟩) h4).trans h5
      clear h5 h3 hc hf
      obtain ⟨la, hla⟩ : ∃ la : Int, la = (if k = 0 then -1 else iAt l (k - 1)) := ⟨_, rfl⟩
      rw [← hla] at hcr
      have Hla := hide hla
      clear hla
      by_cases hval : iAt l k ≤ la
      · go_wp2_with (go_at_call 59; refine (rising1_any _ la w0.heap.size _ hcr hfr).mono ?_; rintro e w' ⟨rfl, rfl⟩)
        go_ret
        exact ⟨⟨_, rfl, .inr ⟨by omega, risTo_false (by rw [← Hla.out]; exact hval) _ hlt⟩⟩, hB.setCell (Nat.le_refl _) _⟩
      · go_wp2_with (go_at_call 59; refine (rising1_any _ la w0.heap.size _ hcr hfr).mono ?_; rintro e w' ⟨rfl, rfl⟩)
        go_roundw
        case rel => exact ⟨k + 1, by omega, by go_num, hide (by rw [risTo, Hall.out, ← Hla.out]; simp; omega), by rw [if_neg (by omega), Nat.add_sub_cancel]; exact World.cell?_setCell_same' _ _ _ (by simp [hcr]), by rw [World.frozen?_setCell]; exact hfr, hB.setCell (Nat.le_refl _) _⟩
        case measure => simp [intOf]; omega
    · clear h3 hc hf hcr
      go_wp2
      go_ret
      exact ⟨⟨_, rfl, .inl ⟨by omega, by rw [← Hall.out, show k = l.length by omega]; rfl⟩⟩, hB⟩
set_option maxRecDepth 100000 in
set_option maxHeartbeats 400000 in
theorem ContainsR_any (v : Value) (l : List Int) (w0 w : World) (hv : IsRow w0 v l) (hb0 : Below w0.heap.size w0 w) (hc : w.cell? ⟨w0.heap.size, 0, none⟩ = some (.int .i64 (-1))) (hf : w.frozen? ⟨w0.heap.size, 0, none⟩ = false) :
    Calls Try.prog 34 #[v, .func (.func 59) #[] #[.pointer (some ⟨w0.heap.size, 0, none⟩)]] w fun e w' => e = .returned (.bool (!risB l)) ∧ Below w0.heap.size w0 w' := by
  go_enter Try.func34, Try.ntmps34
  go_wp2_with (go_at_call 58; refine (IndexR_any v l w0 _ hv hb0 hc hf).mono ?_; rintro e w' ⟨⟨r, rfl, hr⟩, hb⟩; have Hr := hide hr; clear hr)
  go_ret
  refine ⟨ret_bool ?_, hb⟩
  rcases Hr.out with ⟨h1, h2⟩ | ⟨h1, h2⟩ <;> simp [h2] <;> omega
set_option maxRecDepth 100000 in
set_option maxHeartbeats 400000 in
theorem wdRising_any (v : Value) (l : List Int) (w : World) (hv : IsRow w v l) : Calls Try.prog 35 #[v] w fun e w' => e = .returned (.bool (risB l)) ∧ Below w.heap.size w w' := by
  go_enter Try.func35, Try.ntmps35
  go_wp2_with (go_at_call 34; refine (ContainsR_any v l w _ hv (by ((repeat' (first | with_reducible exact Below.refl _ _ | with_reducible refine Below.alloc ?_ ?_ _ | with_reducible refine Below.setCell ?_ ?_ _ | with_reducible refine Below.drew ?_ | with_reducible refine below_drewN ?_ _)) <;> (first | omega | (simp; done) | (simp; omega)))) (by simp) (by simp)).mono ?_; rintro e w' ⟨rfl, hb⟩)
  go_ret
  exact ⟨ret_bool (by simp), hb⟩
end Go.Proofs.Ytiaahfccebmkdaa
