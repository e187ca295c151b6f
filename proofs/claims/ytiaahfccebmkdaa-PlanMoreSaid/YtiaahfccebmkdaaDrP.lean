/- Plain mathematics of scales: a quotient out of its absolute value, and out of the divided number. -/
import Derived.Test.YtiaahfccebmkdaaWdP
namespace Go.Proofs.Ytiaahfccebmkdaa
open Go.RowKit

/-- The numbers that package drift has scaled. -/
def DrIn (a n d : Int) : Prop := (-1 ≤ a ∧ a ≤ 1000000000000001) ∧ (999000000 ≤ n ∧ n ≤ 1001000000) ∧ 999000000 ≤ d ∧ d ≤ 1001000000
theorem dr_bd {a n d : Int} (h : DrIn a n d) : -1001000000 ≤ a * n ∧ a * n ≤ 1001000000000002002000000 := by
  obtain ⟨h1, h2, h3⟩ := h
  have e1 : (a + 1) * n ≤ 1000000000000002 * 1001000000 := Int.mul_le_mul (by omega) (by omega) (by omega) (by omega)
  have e2 : 0 ≤ (a + 1) * n := Int.mul_nonneg (by omega) (by omega)
  have e3 : (a + 1) * 999000000 ≤ (a + 1) * n := Int.mul_le_mul_of_nonneg_left (by omega) (by omega)
  have e4 : (a + 1) * n ≤ (a + 1) * 1001000000 := Int.mul_le_mul_of_nonneg_left (by omega) (by omega)
  rw [Int.add_mul] at e1 e2 e3 e4
  omega
theorem dr_abs {a n : Int} (ha : -1 ≤ a) (_h1 : 999000000 ≤ n) : (a < 0 → a = -1) := by omega
/-- The quotient out of the absolute value: rounded down. -/
theorem flo_abs {a n d : Int} (hd : 0 < d) (_hn : 0 ≤ n) : (0 ≤ a → (a * n) / d = (a * n) / d) ∧ (a < 0 → (a * n) / d = if 0 < (-a * n) % d then -((-a * n) / d + 1) else -((-a * n) / d)) := by
  refine ⟨fun _ => rfl, fun h => ?_⟩
  have e : a * n = -(-a * n) := by rw [Int.neg_mul, Int.neg_neg]
  have h1 := Int.emod_nonneg (-a * n) (show d ≠ 0 by omega)
  have h2 := Int.emod_lt_of_pos (-a * n) hd
  have h3 := Int.mul_ediv_add_emod (-a * n) d
  rw [e]
  generalize -a * n = N at *
  rw [Int.mul_comm] at h3
  split
  · refine flo_eq hd ?_ ?_
    · rw [Int.neg_mul, Int.add_mul]; omega
    · rw [show -(N / d + 1) + 1 = -(N / d) by omega, Int.neg_mul]; omega
  · refine flo_eq hd ?_ ?_
    · rw [Int.neg_mul]; omega
    · rw [Int.add_mul, Int.neg_mul]; omega
/-- Rounded up. -/
theorem cei_abs {a n d : Int} (hd : 0 < d) (_hn : 0 ≤ n) : (0 ≤ a → cei (a * n) d = if 0 < (a * n) % d then (a * n) / d + 1 else (a * n) / d) ∧ (a < 0 → cei (a * n) d = -((-a * n) / d)) := by
  refine ⟨fun h => ?_, fun h => ?_⟩
  · have h1 := Int.emod_nonneg (a * n) (show d ≠ 0 by omega)
    have h2 := Int.emod_lt_of_pos (a * n) hd
    have h3 := Int.mul_ediv_add_emod (a * n) d
    generalize a * n = N at *
    rw [Int.mul_comm] at h3
    split
    · refine cei_eq hd ?_ ?_
      · rw [show N / d + 1 - 1 = N / d by omega]; omega
      · rw [Int.add_mul]; omega
    · refine cei_eq hd ?_ ?_
      · rw [Int.sub_mul]; omega
      · omega
  · have e : a * n = -(-a * n) := by rw [Int.neg_mul, Int.neg_neg]
    have h1 := Int.emod_nonneg (-a * n) (show d ≠ 0 by omega)
    have h2 := Int.emod_lt_of_pos (-a * n) hd
    have h3 := Int.mul_ediv_add_emod (-a * n) d
    rw [e]
    generalize -a * n = N at *
    rw [Int.mul_comm] at h3
    refine cei_eq hd ?_ ?_
    · rw [Int.sub_mul, Int.neg_mul]; omega
    · rw [Int.neg_mul]; omega
/-- The quotient out of the number divided first. -/
theorem flo_split {a n d : Int} (hd : 0 < d) : (a * n) / d = a / d * n + a % d * n / d ∧ (a * n) % d = a % d * n % d := by
  have h3 := Int.mul_ediv_add_emod a d
  have e : a * n = d * (a / d * n) + a % d * n := by
    conv => lhs; rw [← h3]
    rw [Int.add_mul, Int.mul_assoc]
  rw [e]
  constructor
  · rw [Int.add_comm, Int.add_mul_ediv_left _ _ (show d ≠ 0 by omega), Int.add_comm]
  · rw [Int.add_comm, Int.add_mul_emod_self_left]
theorem cei_mod {N d : Int} (hd : 0 < d) : cei N d = if 0 < N % d then N / d + 1 else N / d := by
  have := (cei_abs (a := N) (n := 1) hd (by omega))
  rw [Int.mul_one] at this
  have h1 := Int.emod_nonneg N (show d ≠ 0 by omega)
  have h2 := Int.emod_lt_of_pos N hd
  have h3 := Int.mul_ediv_add_emod N d
  rw [Int.mul_comm] at h3
  split
  · refine cei_eq hd ?_ ?_
    · rw [show N / d + 1 - 1 = N / d by omega]; omega
    · rw [Int.add_mul]; omega
  · refine cei_eq hd ?_ ?_
    · rw [Int.sub_mul]; omega
    · omega
/-- How great these quotients are. -/
theorem dr_quo {a n d : Int} (h : DrIn a n d) : (-2 ≤ a * n / d ∧ a * n / d ≤ 1003000000000000) ∧ (-2 ≤ cei (a * n) d ∧ cei (a * n) d ≤ 1003000000000000) ∧ (-1 ≤ a / d ∧ a / d ≤ 1002000) ∧ (0 ≤ a % d ∧ a % d < d) := by
  have hb := dr_bd h
  obtain ⟨h1, h2, h3⟩ := h
  have hd : 0 < d := by omega
  refine ⟨⟨le_flo hd (by omega), flo_le hd (by omega)⟩, ⟨le_cei hd (by omega), cei_le hd (by omega)⟩, ⟨le_flo hd (by omega), flo_le hd (by omega)⟩, Int.emod_nonneg _ (by omega), Int.emod_lt_of_pos _ hd⟩
end Go.Proofs.Ytiaahfccebmkdaa
