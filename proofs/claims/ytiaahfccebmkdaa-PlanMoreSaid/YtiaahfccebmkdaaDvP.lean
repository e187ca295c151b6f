/- Plain mathematics of a quotient of a number of two words by one word: no program in sight. -/
import Derived.Test.YtiaahfccebmkdaaIvP
namespace Go.Proofs.Ytiaahfccebmkdaa
open Go.RowKit

theorem dv_mod (x z v : Nat) (hz : z < 4294967296) (hv : 0 < v) : (x * 4294967296 + z) % (v * 4294967296) = x % v * 4294967296 + z := by
  have h3 := Nat.div_add_mod x v
  have h4 := Nat.mod_lt x hv
  have e : x * 4294967296 + z = v * 4294967296 * (x / v) + (x % v * 4294967296 + z) := by
    conv => lhs; rw [← h3]
    rw [Nat.add_mul, Nat.mul_right_comm]; omega
  rw [e, Nat.mul_add_mod, Nat.mod_eq_of_lt]
  omega
/-- A number of two words, moved up by P, in parts of 32 bits. -/
theorem dv_parts {y hi lo P R v : Nat} (hPR : P * R = 18446744073709551616) (_hR : 0 < R) (hv : y * P = v * 4294967296) (hyP : 0 < y * P) :
    ((hi * P + lo / R) / v * 4294967296 + ((hi * P + lo / R) % v * 4294967296 + lo % R * P / 4294967296) / v = (hi * 18446744073709551616 + lo) / y) ∧
    (((hi * P + lo / R) % v * 4294967296 + lo % R * P / 4294967296) % v * 4294967296 + lo % R * P % 4294967296) / P = (hi * 18446744073709551616 + lo) % y := by
  have hP : 0 < P := Nat.pos_of_mul_pos_left hyP
  have hv0 : 0 < v := by
    rcases Nat.eq_zero_or_pos v with h | h
    · subst h; omega
    · exact h
  generalize hu : hi * P + lo / R = u
  generalize hz : lo % R * P = z
  have hN : (hi * 18446744073709551616 + lo) * P = (u * 4294967296 + z / 4294967296) * 4294967296 + z % 4294967296 := by
    have h1 : lo = R * (lo / R) + lo % R := (Nat.div_add_mod lo R).symm
    have h2 : lo * P = lo / R * 18446744073709551616 + z := by
      rw [← hz, ← hPR]
      conv => lhs; rw [h1]
      rw [Nat.add_mul, Nat.mul_comm R (lo / R), Nat.mul_assoc, Nat.mul_comm R P]
    have h3 : hi * 18446744073709551616 * P = hi * P * 18446744073709551616 := by rw [Nat.mul_right_comm]
    rw [Nat.add_mul, h2, h3, ← hu]
    omega
  generalize hz1 : z / 4294967296 = z1 at *
  generalize hz0 : z % 4294967296 = z0 at *
  have hz0lt : z0 < 4294967296 := by omega
  have hdiv : (hi * 18446744073709551616 + lo) / y = (u * 4294967296 + z1) / v := by
    rw [← Nat.mul_div_mul_right _ _ hP, hN, hv, Nat.mul_comm v, ← Nat.div_div_eq_div_mul]
    congr 1
    omega
  have hq : (u * 4294967296 + z1) = u / v * 4294967296 * v + (u % v * 4294967296 + z1) := by
    have h1 := Nat.div_add_mod u v
    generalize u / v = a at *
    generalize u % v = b at *
    have e : a * 4294967296 * v = v * a * 4294967296 := by rw [Nat.mul_right_comm, Nat.mul_comm a v]
    rw [e, ← h1]
    omega
  have hq2 : (u * 4294967296 + z1) / v = u / v * 4294967296 + (u % v * 4294967296 + z1) / v := by
    rw [hq, Nat.mul_comm _ v, Nat.mul_add_div hv0]
  have hq3 : (u * 4294967296 + z1) % v = (u % v * 4294967296 + z1) % v := by
    rw [hq, Nat.mul_comm _ v, Nat.mul_add_mod]
  refine ⟨by rw [hdiv, hq2], ?_⟩
  rw [← hq3]
  have hmod : (hi * 18446744073709551616 + lo) % y * P = (u * 4294967296 + z1) % v * 4294967296 + z0 := by
    have e0 : (hi * 18446744073709551616 + lo) % y * P = ((u * 4294967296 + z1) * 4294967296 + z0) % (v * 4294967296) := by
      rw [← hN, ← hv, Nat.mul_mod_mul_right]
    rw [e0]
    exact dv_mod (u * 4294967296 + z1) z0 v hz0lt hv0
  rw [← hmod, Nat.mul_div_cancel _ hP]
end Go.Proofs.Ytiaahfccebmkdaa
