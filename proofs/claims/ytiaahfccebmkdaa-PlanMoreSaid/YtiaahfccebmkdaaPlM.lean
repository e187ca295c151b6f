/- The reference's small functions of chapter 30, and those of the laws: Use, lists, Same, in, three. -/
import Derived.Test.YtiaahfccebmkdaaPlG
import Derived.Test.YtiaahfccebmkdaaPlH
import Derived.Test.YtiaahfccebmkdaaWdH
import Derived.OwnWalk
namespace Go.Proofs.Ytiaahfccebmkdaa
open Go.RowKit

theorem cmpI_self : ∀ a, cmpI a a = 0
  | [] => rfl
  | x :: a => by simp [cmpI, cmpI_self a]
theorem cmpI_eq : ∀ {a b}, cmpI a b = 0 → a = b
  | [], [], _ => rfl
  | [], _ :: _, h => by simp [cmpI] at h
  | _ :: _, [], h => by simp [cmpI] at h
  | x :: a, y :: b, h => by
    unfold cmpI at h
    split at h
    · omega
    · split at h
      · omega
      · rw [cmpI_eq h, show x = y by omega]
set_option maxRecDepth 100000 in
set_option maxHeartbeats 1000000 in
theorem Use_any (m n : Nat) (hm : m < 9223372036854775808) (hn : n ≤ 63) (w : World) :
    Calls Try.prog 15 #[.int .i64 (m : Int), .int .i64 (n : Int)] w fun e w' => ∃ ov, e = .returned ov ∧ OwnIs w' w.heap.size ov (mkL m n) ∧ Below w.heap.size w w' := by
  obtain ⟨i0, hi, hz0, hz1, hz2⟩ := info_parts infoIs
  go_enter Try.func15, Try.ntmps15
  go_wp2
  go_loopw [5, 6] (fun out i wr => ∃ k : Nat, k ≤ n ∧ i = .int .i64 k ∧ OwnIs wr w.heap.size out (mkL m k) ∧ Below w.heap.size w wr) (fun _ i _ => n - (intOf i).toNat)
  case atStart => exact ⟨0, Nat.zero_le _, rfl, OwnIs.nil _ _, Below.refl _ _⟩
  case round =>
    obtain ⟨k, hk, rfl, hown, hB⟩ := hrel
    obtain ⟨oa, ocap, hov, hc1, hc2⟩ := hown.val
    have hlen := mkL_len m k
    have hz := hB.size
    have hmk : mkL m (k + 1) = if m / 2 ^ k % 2 = 1 then mkL m k ++ [(k : Int)] else mkL m k := rfl
    have Hmk := hide hmk
    have hown' := hown
    unfold OwnIs at hown'
    have hlow := World.ownsRow.lt hown'
    subst hov
    clear hmk
    by_cases hlt : k < n
    · have hb := bits_one m k hm
      have hmin : min k 64 = k := by omega
      have I1 : (0 : Int) ≤ (k : Int) := by omega
      by_cases hbit : m / 2 ^ k % 2 = 1
      · rw [hbit] at hb
        have Hbit := hide hbit
        clear hbit
        go_wp2_with (at_builtin; refine wpList_append_own _ rfl _ _ 25 rfl w.heap.size 3 i0 (.int .i64 0) 1 8 Try.underlying25 hi hz0 hz1 hz2 rfl (by decide) _ _ (encI (mkL m k)) rfl (World.ownsRow.alloc hown' _) ⟨wr.heap.size, 0, none⟩ 1 1 [.int .i64 k] rfl rfl (cells_new wr [.int .i64 k] _) (by simp [Value.oneCell']) (by unfold maxLen; omega) (by omega) (by simp; omega) ?_; intro v3 w3 hown3 hg3 _; obtain ⟨a3, cap3, rfl⟩ := ownsRow_val hown3)
        go_roundw
        case rel => exact ⟨k + 1, by omega, by go_num, by rw [Hmk.out, if_pos Hbit.out]; exact OwnIs.app hown3, ((hB.alloc (by omega) _).grown hg3 (by simp; omega) (fun r h => (hlow r h).1))⟩
        case measure => simp [intOf]; omega
      · have hb0 : m / 2 ^ k % 2 = 0 := by omega
        rw [hb0] at hb
        have Hbit := hide hbit
        clear hbit hb0
        go_wp2_with fail
        go_roundw
        case rel => exact ⟨k + 1, by omega, by go_num, by rw [Hmk.out, if_neg Hbit.out]; exact hown, hB⟩
        case measure => simp [intOf]; omega
    · obtain rfl : k = n := by omega
      go_wp2
      go_ret
      exact ⟨_, rfl, hown, hB⟩
set_option maxRecDepth 100000 in
set_option maxHeartbeats 400000 in
theorem sign_any (x y : Int) (w : World) : Calls Try.prog 62 #[.int .i64 x, .int .i64 y] w fun e w' => e = .returned (.int .i64 (Lib.compareInt x y)) ∧ w' = w := by
  go_enter Try.func62, Try.ntmps62
  go_wp2
  all_goals go_ret
  all_goals exact ⟨ret_int (by unfold Lib.compareInt; first | (rw [if_pos (by omega)]; done) | (rw [if_neg (by omega), if_pos (by omega)]; done) | (rw [if_neg (by omega), if_neg (by omega)]; done)), rfl⟩
set_option maxRecDepth 100000 in
set_option maxHeartbeats 1000000 in
theorem lists_any (v1 v2 : Value) (l1 l2 : List Int) (w : World) (h1 : IsRow w v1 l1) (h2 : IsRow w v2 l2) (hl : l1.length = l2.length) :
    Calls Try.prog 37 #[v1, v2] w fun e w' => e = .returned (.int .i64 (cmpI l1 l2)) ∧ ∃ n, w' = w.drewN n := by
  obtain ⟨a, cap, rfl, q1, q2, q3⟩ := h1
  obtain ⟨a', cap', rfl, q1', q2', q3'⟩ := h2
  have Q3 := hide q3
  have Q3' := hide q3'
  have Hl := hide hl
  clear q3 q3' hl
  go_enter Try.func37, Try.ntmps37
  go_wp2
  go_loopw [5] (fun i wr => ∃ (k n : Nat), k ≤ l1.length ∧ i = .int .i64 k ∧ Hid (∀ j, j < k → iAt l1 j = iAt l2 j) ∧ Hid (wr = w.drewN n)) (fun i _ => l1.length - (intOf i).toNat)
  case atStart => exact ⟨0, 0, Nat.zero_le _, rfl, hide (fun j hj => by omega), hide rfl⟩
  case round =>
    obtain ⟨k, n, hk, rfl, Hall, Hn⟩ := hrel
    by_cases hlt : k < l1.length
    · have hlt2 : k < l2.length := by have := Hl.out; omega
      obtain ⟨b, off, rfl, h4, h5⟩ := Q3.out k hlt
      obtain ⟨b', off', rfl, h4', h5'⟩ := Q3'.out k hlt2
      have g5 : wr.cell? ⟨b, off + k, none⟩ = some (.int .i64 (iAt l1 k)) := by rw [Hn.out, World.cell?_drewN]; exact h5
      have g5' : wr.cell? ⟨b', off' + k, none⟩ = some (.int .i64 (iAt l2 k)) := by rw [Hn.out, World.cell?_drewN]; exact h5'
      have Hat := hide (cmpI_at hlt hlt2 Hall.out)
      have I1 : (0 : Int) ≤ (k : Int) := by omega
      have I2 : (k : Int) < (l1.length : Int) := by omega
      have I3 : (k : Int) < (l2.length : Int) := by omega
      clear h5 h5'
      by_cases hc : iAt l1 k = iAt l2 k
      · have Hk := hide (fun j (hj : j < k + 1) => (by
          rcases Nat.lt_or_ge j k with h | h
          · exact Hall.out j h
          · obtain rfl : j = k := by omega
            exact hc : iAt l1 j = iAt l2 j))
        have d1 : (iAt l1 k != iAt l2 k) = false := by rw [hc]; simp
        clear hc
        go_wp2_with fail
        go_quiet (fail)
        go_wp2_with fail
        go_roundw
        case rel => exact ⟨k + 1, n + nq, by omega, by go_num, Hk, hide (by rw [Hn.out, World.drewN_drewN])⟩
        case measure => simp [intOf]; omega
      · have hcm : cmpI l1 l2 = Lib.compareInt (iAt l1 k) (iAt l2 k) := by
          rw [Hat.out]; unfold Lib.compareInt
          by_cases e1 : iAt l1 k < iAt l2 k
          · rw [if_pos e1, if_pos e1]
          · rw [if_neg e1, if_pos (by omega), if_neg e1, if_pos (by omega)]
        have d1 : (iAt l1 k != iAt l2 k) = true := by rw [bne_iff_ne]; exact hc
        have Hcm := hide hcm
        clear hc hcm
        go_wp2_with fail
        go_quiet (fail)
        have Hn2 : Hid (wr.drewN nq = w.drewN (n + nq)) := hide (by rw [Hn.out, World.drewN_drewN])
        have g6 : (wr.drewN nq).cell? ⟨b, off + k, none⟩ = some (.int .i64 (iAt l1 k)) := by rw [World.cell?_drewN]; exact g5
        have g6' : (wr.drewN nq).cell? ⟨b', off' + k, none⟩ = some (.int .i64 (iAt l2 k)) := by rw [World.cell?_drewN]; exact g5'
        clear g5 g5'
        generalize wr.drewN nq = wq at *
        go_wp2_with fail
        go_quiet ((go_at_call 62; exact Calls.quiet_of_same ((sign_any _ _ _).mono (by rintro e w' ⟨rfl, rfl⟩; exact ⟨rfl, rfl⟩))))
        go_wp2_with fail
        go_ret
        exact ⟨ret_int Hcm.out.symm, _, by rw [Hn2.out]; exact World.drewN_drewN _ _ _⟩
    · have He := hide (cmpI_end (a := l1) (b := l2) hk (by have := Hl.out; omega) (.inl (by omega)) Hall.out)
      go_wp2_with fail
      go_ret
      exact ⟨ret_int (by rw [He.out, if_neg (by have := Hl.out; omega), if_neg (by have := Hl.out; omega)]), _, Hn.out⟩
set_option maxRecDepth 100000 in
set_option maxHeartbeats 1000000 in
theorem lin_any (v : Value) (l : List Int) (x : Int) (w : World) (hv : IsRow w v l) : Calls Try.prog 14 #[v, .int .i64 x] w fun e w' => e = .returned (.bool (decide (x ∈ l))) ∧ w = w' := by
  obtain ⟨a, cap, rfl, q1, q2, q3⟩ := hv
  have Q3 := hide q3
  clear q3
  go_enter Try.func14, Try.ntmps14
  go_wp2
  go_loop [5, 10] (fun s5 s10 => ∃ k : Nat, k ≤ l.length ∧ s10 = .int .i64 k ∧ s5 = .bool (decide (x ∈ l.take k))) (fun _ s10 => l.length - (intOf s10).toNat)
  case atStart => exact ⟨0, Nat.zero_le _, rfl, by simp⟩
  case round =>
    obtain ⟨k, hk, rfl, rfl⟩ := hrel
    by_cases hlt : k < l.length
    · obtain ⟨b, off, rfl, h4, h5⟩ := Q3.out k hlt
      have hs : x ∈ l.take (k + 1) ↔ x ∈ l.take k ∨ iAt l k = x := by rw [take_snoc_is l k hlt, List.mem_append, List.mem_singleton]; exact or_congr Iff.rfl eq_comm
      have Hs := hide hs
      have I1 : (0 : Int) ≤ (k : Int) := by omega
      have I2 : (k : Int) < (l.length : Int) := by omega
      clear hs
      generalize iAt l k = y at *
      by_cases hin : x ∈ l.take k
      · have d1 : decide (x ∈ l.take k) = true := decide_eq_true hin
        rw [d1]
        have Hin := hide hin
        clear hin d1
        go_wp2_with fail
        go_round
        case rel => exact ⟨k + 1, by omega, by go_num, by rw [decide_eq_true (Hs.out.2 (.inl Hin.out))]⟩
        case measure => simp [intOf]; omega
      · have d1 : decide (x ∈ l.take k) = false := decide_eq_false hin
        rw [d1]
        have Hin := hide hin
        clear hin d1
        by_cases hyx : y = x
        · have d2 : (y == x) = true := by rw [beq_iff_eq]; exact hyx
          have Hyx := hide hyx
          clear hyx
          go_wp2_with fail
          go_round
          case rel => exact ⟨k + 1, by omega, by go_num, by rw [decide_eq_true (Hs.out.2 (.inr Hyx.out))]⟩
          case measure => simp [intOf]; omega
        · have d2 : (y == x) = false := by rw [beq_eq_false_iff_ne]; exact hyx
          have Hyx := hide hyx
          clear hyx
          go_wp2_with fail
          go_round
          case rel => exact ⟨k + 1, by omega, by go_num, by rw [decide_eq_false (fun h => (Hs.out.1 h).elim Hin.out Hyx.out)]⟩
          case measure => simp [intOf]; omega
    · obtain rfl : k = l.length := by omega
      have e : l.take l.length = l := List.take_length
      rw [e]
      clear e
      go_wp2_with fail
      go_ret
      exact ⟨rfl, rfl⟩
def thr : List Pr := [⟨1, 5, 5, 0, 0, 0, 0, 0⟩, ⟨2, 10, 1, 0, 0, 0, 0, 0⟩, ⟨3, 15, 1, 0, 0, 0, 0, 0⟩]
set_option maxRecDepth 100000 in
set_option maxHeartbeats 1000000 in
theorem three_any (w : World) : Calls Try.prog 21 #[] w fun e w' => ∃ pv, e = .returned (.agg #[.int .i64 0, .int .i64 0, .int .i64 0, .int .i64 1, pv]) ∧ PrRow w' pv thr ∧ Below w.heap.size w w' := by
  go_enter Try.func21, Try.ntmps21
  go_wp2_with fail
  refine bodyPost_ret (v := .agg #[.int .i64 0, .int .i64 0, .int .i64 0, .int .i64 1, .slice (some ⟨w.heap.size + 1, 0, none⟩) 3 3]) (by simp [results, Try.results21, go_sem]) rfl ⟨_, rfl, ⟨_, _, rfl, by decide, by decide, fun i hi => ⟨_, _, rfl, by simp, ?_⟩⟩, (by ((repeat' (first | with_reducible exact Below.refl _ _ | with_reducible refine Below.alloc ?_ ?_ _ | with_reducible refine Below.setCell ?_ ?_ _ | with_reducible refine Below.drew ?_ | with_reducible refine below_drewN ?_ _)) <;> (first | omega | (simp; done) | (simp; omega))))⟩
  have hi3 : i < 3 := hi
  rcases (by omega : i = 0 ∨ i = 1 ∨ i = 2) with rfl | rfl | rfl
  all_goals (refine ⟨?_, ?_, ?_, ?_, ?_, ?_, ?_, ?_⟩ <;> simp [thr, pAt])
end Go.Proofs.Ytiaahfccebmkdaa
