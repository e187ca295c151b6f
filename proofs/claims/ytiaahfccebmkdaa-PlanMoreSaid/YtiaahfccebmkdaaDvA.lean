/- math/bits.Mul64, and Div64 by a number of 30 bits: what each call returns. -/
import Derived.Test.YtiaahfccebmkdaaIvA
import Derived.Test.YtiaahfccebmkdaaDvP
import Derived.Lib.Mul64
import Derived.Laws.Bits64b
import Derived.Lib.Strings
import Derived.Lib.Slices
import Derived.Lib.Small
import Derived.Lib.Walk
import Derived.Lib.BitFns
namespace Go.Proofs.Ytiaahfccebmkdaa
open Go.RowKit Go.Lib
theorem dv_maskN (a : Nat) (ha : a < 18446744073709551616) : bits .and .u64 (a : Int) 4294967295 = ((a % 4294967296 : Nat) : Int) := by
  have h := bits_and_u64_nat a 4294967295 ha (by omega)
  have e : a &&& 4294967295 = a % 4294967296 := Nat.and_two_pow_sub_one_eq_mod a 32
  rw [e] at h
  exact h
theorem dv_divN (a : Nat) : (a : Int) / 4294967296 = ((a / 4294967296 : Nat) : Int) := by omega
theorem dv_mulN (a b : Nat) : (a : Int) * (b : Int) = ((a * b : Nat) : Int) := (Int.natCast_mul a b).symm
theorem dv_addN (a b : Nat) : (a : Int) + (b : Int) = ((a + b : Nat) : Int) := (Int.natCast_add a b).symm
theorem dv_wrapN (a : Nat) (ha : a < 18446744073709551616) : IntKind.u64.wrap (a : Int) = (a : Int) := by rw [IntKind.wrap_u64]; omega
theorem dv_wrapM (a : Nat) : IntKind.u64.wrap (a : Int) = ((a % 18446744073709551616 : Nat) : Int) := by rw [IntKind.wrap_u64]; omega
set_option maxHeartbeats 1000000 in
theorem Mul64_any (x y : Nat) (hx : x < 18446744073709551616) (hy : y < 18446744073709551616) (w : World) :
    Calls Try.prog 105 #[.int .u64 x, .int .u64 y] w fun e w' => e = .returned (.tuple #[.int .u64 ((x * y / 18446744073709551616 : Nat) : Int), .int .u64 ((x * y % 18446744073709551616 : Nat) : Int)]) ∧ w' = w := by
  obtain ⟨bd, bt, bw, hhi⟩ := Lib.mul64_hi x y hx hy
  have ba := Lib.half_mul_le (a := x / 4294967296) (b := y / 4294967296) (by omega) (by omega)
  have bb := Lib.half_mul_le (a := x / 4294967296) (b := y % 4294967296) (by omega) (by omega)
  have bc := Lib.half_mul_le (a := x % 4294967296) (b := y / 4294967296) (by omega) (by omega)
  have ba' : x / 4294967296 * (y / 4294967296) < 18446744073709551616 := by omega
  have bb' : x / 4294967296 * (y % 4294967296) < 18446744073709551616 := by omega
  have bc' : x % 4294967296 * (y / 4294967296) < 18446744073709551616 := by omega
  have bh1 : x / 4294967296 * (y / 4294967296) + (x / 4294967296 * (y % 4294967296) + x % 4294967296 * (y % 4294967296) / 4294967296) / 4294967296 < 18446744073709551616 := by omega
  have bh : x / 4294967296 * (y / 4294967296) + (x / 4294967296 * (y % 4294967296) + x % 4294967296 * (y % 4294967296) / 4294967296) / 4294967296 + ((x / 4294967296 * (y % 4294967296) + x % 4294967296 * (y % 4294967296) / 4294967296) % 4294967296 + x % 4294967296 * (y / 4294967296)) / 4294967296 < 18446744073709551616 := by omega
  go_enter Try.func105, Try.ntmps105
  go_wp2
  simp only [dv_maskN x hx, dv_maskN y hy, dv_divN, dv_mulN, dv_addN, dv_wrapN _ bd, dv_wrapN _ bb', dv_wrapN _ bt, dv_maskN _ bt, dv_wrapN _ bc', dv_wrapN _ bw, dv_wrapN _ ba', dv_wrapN _ bh1, dv_wrapN _ bh, dv_wrapM (x * y)]
  rw [hhi]
  go_ret2
  exact ⟨rfl, rfl⟩
theorem dv_len (x : Nat) (h1 : 536870912 ≤ x) (h2 : x < 1073741824) : Lib.bitLen x = 30 := by
  rw [Lib.bitLen_shift24 x (by omega) (by omega)]
  have : ∀ k : Fin 32, Lib.bitLen (32 + k.val) = 6 := by decide +kernel
  have e := this ⟨x / 16777216 - 32, by omega⟩
  simp only at e
  rw [show 32 + (x / 16777216 - 32) = x / 16777216 by omega] at e
  omega
set_option maxHeartbeats 4000000 in
set_option maxRecDepth 100000 in
theorem Len64_any (x : Int) (h1 : 536870912 ≤ x) (h2 : x < 1073741824) (w : World) : Calls Try.prog 109 #[.int .u64 x] w fun e w' => e = .returned (.int .i64 30) ∧ w' = w := by
  have d1 : decide (4294967296 ≤ x) = false := decide_eq_false (by omega)
  have d2 : decide (65536 ≤ x) = true := decide_eq_true (by omega)
  have d3 : decide (256 ≤ x / 65536) = true := decide_eq_true (by omega)
  have H2 := hide h2
  have H1 := hide h1
  have h0 : 0 ≤ x := by omega
  clear h2 h1
  go_enter Try.func109, Try.ntmps109
  go_wp2
  go_ret
  refine ⟨ret_int ?_, rfl⟩
  have h1 := H1.out
  have h2 := H2.out
  have hb := dv_len x.toNat (by omega) (by omega)
  have s := Lib.bitLen_shift24 x.toNat (by omega) (by omega)
  have l := Lib.len8_of (x / 65536 / 256 % 256) (by omega) (by omega)
  rw [show (x / 65536 / 256 % 256).toNat = x.toNat / 16777216 by omega] at l
  rw [l]
  have hb2 : Lib.bitLen (x.toNat / 16777216) = 6 := by omega
  rw [hb2]
  simp [wrap64]
set_option maxRecDepth 100000 in
set_option maxHeartbeats 400000 in
theorem LeadingZeros64_any (x : Int) (h1 : 536870912 ≤ x) (h2 : x < 1073741824) (w : World) : Calls Try.prog 108 #[.int .u64 x] w fun e w' => e = .returned (.int .i64 34) ∧ w' = w := by
  go_enter Try.func108, Try.ntmps108
  go_wp2_with (go_at_call 109; refine (Len64_any x h1 h2 _).mono ?_; rintro e w' ⟨rfl, rfl⟩)
  go_ret
  exact ⟨rfl, rfl⟩
theorem dv_tdiv (a b : Nat) : ((a : Int).tdiv (b : Int)) = ((a / b : Nat) : Int) := (Int.ofNat_tdiv a b).symm
theorem dv_or (hi lo : Nat) (hh : hi < 1073741824) (hl : lo < 18446744073709551616) : bits .or .u64 ((hi : Int) * 17179869184) ((lo : Int) / 1073741824) = ((hi * 17179869184 + lo / 1073741824 : Nat) : Int) := by
  have h := bits_or_u64_nat (hi * 17179869184) (lo / 1073741824) (by omega) (by omega)
  have e : hi * 17179869184 ||| lo / 1073741824 = hi * 17179869184 + lo / 1073741824 := by
    have := Nat.shiftLeft_add_eq_or_of_lt (i := 34) (a := hi) (b := lo / 1073741824) (by omega)
    rw [Nat.shiftLeft_eq] at this
    exact this.symm
  rw [e] at h
  rw [← h]
  congr 1
set_option maxRecDepth 100000 in
set_option maxHeartbeats 1000000 in
theorem Div64_any (hi lo y : Nat) (hy1 : 536870912 ≤ y) (hy2 : y < 1073741824) (hh : hi < y) (hl : lo < 18446744073709551616) (w : World) :
    Calls Try.prog 106 #[.int .u64 hi, .int .u64 lo, .int .u64 y] w fun e w' => e = .returned (.tuple #[.int .u64 (((hi * 18446744073709551616 + lo) / y : Nat) : Int), .int .u64 (((hi * 18446744073709551616 + lo) % y : Nat) : Int)]) ∧ Below w.heap.size w w' := by
  have p1 : ((y : Int) == 0) = false := by rw [beq_eq_false_iff_ne]; omega
  have p2 : decide ((y : Int) ≤ hi) = false := decide_eq_false (by omega)
  have p2' : decide (y ≤ hi) = false := decide_eq_false (by omega)
  rcases Nat.eq_zero_or_pos hi with h0 | h0
  · subst h0
    have f1 : IntKind.u64.wrap ((lo : Int) / (y : Int)) = ((lo / y : Nat) : Int) := by
      rw [← Int.natCast_ediv]
      exact dv_wrapN _ (Nat.lt_of_le_of_lt (Nat.div_le_self _ _) hl)
    have f2 : ((lo : Int) % (y : Int)) = ((lo % y : Nat) : Int) := (Int.natCast_emod lo y).symm
    have Hl := hide hl
    clear hl
    go_enter Try.func106, Try.ntmps106
    go_wp2_with fail
    go_quiet (fail)
    go_wp2_with fail
    go_ret2
    rw [Nat.zero_mul, Nat.zero_add]
    exact ⟨rfl, (by ((repeat' (first | exact Below.refl _ _ | refine Below.alloc ?_ ?_ _ | refine Below.setCell ?_ ?_ _ | refine Below.drew ?_ | refine below_drewN ?_ _)) <;> (first | omega | (simp; done) | (simp; omega))))⟩
  · have p3 : ((hi : Int) == 0) = false := by rw [beq_eq_false_iff_ne]; omega
    obtain ⟨u, hu⟩ : ∃ u, u = hi * 17179869184 + lo / 1073741824 := ⟨_, rfl⟩
    obtain ⟨v, hv⟩ : ∃ v, v = y * 4 := ⟨_, rfl⟩
    obtain ⟨z, hz⟩ : ∃ z, z = lo % 1073741824 * 17179869184 := ⟨_, rfl⟩
    obtain ⟨z1, hz1⟩ : ∃ z1, z1 = z / 4294967296 := ⟨_, rfl⟩
    obtain ⟨z0, hz0⟩ : ∃ z0, z0 = z % 4294967296 := ⟨_, rfl⟩
    have hv0 : 0 < v := by omega
    have hul : u < v * 4294967296 := by omega
    obtain ⟨q1, hq1⟩ : ∃ q1, q1 = u / v := ⟨_, rfl⟩
    obtain ⟨r1, hr1⟩ : ∃ r1, r1 = u % v := ⟨_, rfl⟩
    have hr1v : r1 < v := by rw [hr1]; exact Nat.mod_lt _ hv0
    have hq1l : q1 < 4294967296 := by rw [hq1]; exact (Nat.div_lt_iff_lt_mul hv0).2 (by rw [Nat.mul_comm]; exact hul)
    obtain ⟨x, hx⟩ : ∃ x, x = r1 * 4294967296 + z1 := ⟨_, rfl⟩
    have hxl : x < v * 4294967296 := by omega
    obtain ⟨q0, hq0⟩ : ∃ q0, q0 = x / v := ⟨_, rfl⟩
    obtain ⟨r0, hr0⟩ : ∃ r0, r0 = x % v := ⟨_, rfl⟩
    have hr0v : r0 < v := by rw [hr0]; exact Nat.mod_lt _ hv0
    have hq0l : q0 < 4294967296 := by rw [hq0]; exact (Nat.div_lt_iff_lt_mul hv0).2 (by rw [Nat.mul_comm]; exact hxl)
    have F1 : (y : Int) * 17179869184 / 4294967296 = v := by omega
    have F2 : bits .and .u64 ((y : Int) * 17179869184) 4294967295 = 0 := by
      have := dv_maskN (y * 17179869184) (by omega)
      rw [show y * 17179869184 % 4294967296 = 0 by omega] at this
      exact this
    have F3 : bits .or .u64 ((hi : Int) * 17179869184) ((lo : Int) / 1073741824) = u := by rw [dv_or hi lo (by omega) hl, hu]
    have F4 : IntKind.u64.wrap ((lo : Int) * 17179869184) = z := by
      rw [show (17179869184 : Int) = ((17179869184 : Nat) : Int) from rfl, dv_mulN, dv_wrapM, hz]; omega
    have F5 : (z : Int) / 4294967296 = z1 := by omega
    have F6 : bits .and .u64 (z : Int) 4294967295 = z0 := by rw [dv_maskN z (by omega), hz0]
    have F7 : IntKind.u64.wrap ((u : Int) / v) = q1 := by rw [← Int.natCast_ediv, ← hq1]; exact dv_wrapN _ (by omega)
    have hz1l : z1 < 4294967296 := by omega
    have hvl : v < 4294967296 := by omega
    obtain ⟨c1, hc1⟩ : ∃ c1, c1 = q1 * v := ⟨_, rfl⟩
    have hc1u : c1 + r1 = u := by rw [hc1, hq1, hr1, Nat.mul_comm]; exact Nat.div_add_mod u v
    obtain ⟨c0, hc0⟩ : ∃ c0, c0 = q0 * v := ⟨_, rfl⟩
    have hc0x : c0 + r0 = x := by rw [hc0, hq0, hr0, Nat.mul_comm]; exact Nat.div_add_mod x v
    have e1 : q1 * (y * 17179869184) = c1 * 4294967296 := by rw [hc1, hv, show (17179869184 : Nat) = 4 * 4294967296 from rfl, ← Nat.mul_assoc, ← Nat.mul_assoc, ← Nat.mul_assoc]
    have e0 : q0 * (y * 17179869184) = c0 * 4294967296 := by rw [hc0, hv, show (17179869184 : Nat) = 4 * 4294967296 from rfl, ← Nat.mul_assoc, ← Nat.mul_assoc, ← Nat.mul_assoc]
    obtain ⟨A, hA⟩ : ∃ A, A = u * 4294967296 % 18446744073709551616 := ⟨_, rfl⟩
    obtain ⟨B, hB⟩ : ∃ B, B = (A + z1) % 18446744073709551616 := ⟨_, rfl⟩
    obtain ⟨C, hC⟩ : ∃ C, C = c1 * 4294967296 % 18446744073709551616 := ⟨_, rfl⟩
    obtain ⟨D, hD⟩ : ∃ D, D = x * 4294967296 % 18446744073709551616 := ⟨_, rfl⟩
    obtain ⟨E, hE⟩ : ∃ E, E = (D + z0) % 18446744073709551616 := ⟨_, rfl⟩
    obtain ⟨F, hF⟩ : ∃ F, F = c0 * 4294967296 % 18446744073709551616 := ⟨_, rfl⟩
    obtain ⟨G, hG⟩ : ∃ G, G = r0 * 4294967296 + z0 := ⟨_, rfl⟩
    have G1 : IntKind.u64.wrap ((q1 : Int) * v) = c1 := by rw [dv_mulN, ← hc1]; exact dv_wrapN _ (by omega)
    have G2 : IntKind.u64.wrap ((u : Int) - c1) = r1 := by rw [show (u : Int) - c1 = r1 by omega]; exact dv_wrapN _ (by omega)
    have G3 : IntKind.u64.wrap ((u : Int) * 4294967296) = A := by rw [show (4294967296 : Int) = ((4294967296 : Nat) : Int) from rfl, dv_mulN, dv_wrapM, hA]
    have G4 : IntKind.u64.wrap ((A : Int) + z1) = B := by rw [dv_addN, dv_wrapM, hB]
    have G5 : IntKind.u64.wrap ((q1 : Int) * ((y : Int) * 17179869184)) = C := by rw [show (17179869184 : Int) = ((17179869184 : Nat) : Int) from rfl, dv_mulN, dv_mulN, dv_wrapM, e1, hC]
    have G6 : IntKind.u64.wrap ((B : Int) - C) = x := by rw [IntKind.wrap_u64]; omega
    have G7 : IntKind.u64.wrap ((x : Int) / v) = q0 := by rw [← Int.natCast_ediv, ← hq0]; exact dv_wrapN _ (by omega)
    have G8 : IntKind.u64.wrap ((q0 : Int) * v) = c0 := by rw [dv_mulN, ← hc0]; exact dv_wrapN _ (by omega)
    have G9 : IntKind.u64.wrap ((x : Int) - c0) = r0 := by rw [show (x : Int) - c0 = r0 by omega]; exact dv_wrapN _ (by omega)
    have K1 : IntKind.u64.wrap ((x : Int) * 4294967296) = D := by rw [show (4294967296 : Int) = ((4294967296 : Nat) : Int) from rfl, dv_mulN, dv_wrapM, hD]
    have K2 : IntKind.u64.wrap ((D : Int) + z0) = E := by rw [dv_addN, dv_wrapM, hE]
    have K3 : IntKind.u64.wrap ((q0 : Int) * ((y : Int) * 17179869184)) = F := by rw [show (17179869184 : Int) = ((17179869184 : Nat) : Int) from rfl, dv_mulN, dv_mulN, dv_wrapM, e0, hF]
    have K4 : IntKind.u64.wrap ((E : Int) - F) = G := by rw [IntKind.wrap_u64]; omega
    have hz0l : z0 < 4294967296 := by omega
    have hfin : q1 * 4294967296 + q0 = (hi * 18446744073709551616 + lo) / y ∧ G / 17179869184 = (hi * 18446744073709551616 + lo) % y := by
      have hd := dv_parts (y := y) (hi := hi) (lo := lo) (P := 17179869184) (R := 1073741824) (v := v) (by decide) (by omega) (by omega) (by omega)
      rw [← hu, ← hz, ← hz1, ← hz0, ← hq1, ← hr1, ← hx, ← hq0, ← hr0, ← hG] at hd
      exact hd
    have Hfin := hide hfin
    have L1 : decide (4294967296 ≤ (q1 : Int)) = false := decide_eq_false (by omega)
    have L0 : decide (4294967296 ≤ (q0 : Int)) = false := decide_eq_false (by omega)
    have L2 : decide (4294967296 * (r1 : Int) + z1 < 0) = false := decide_eq_false (by omega)
    have L3 : decide (4294967296 * (r0 : Int) + z0 < 0) = false := decide_eq_false (by omega)
    have m1 : IntKind.u64.wrap ((q1 : Int) * 4294967296) = (q1 : Int) * 4294967296 := by rw [IntKind.wrap_u64]; omega
    have m2 : IntKind.u64.wrap ((q1 : Int) * 4294967296 + q0) = (q1 : Int) * 4294967296 + q0 := by rw [IntKind.wrap_u64]; omega
    have m3 : IntKind.u64.wrap (4294967296 * (r1 : Int)) = 4294967296 * (r1 : Int) := by rw [IntKind.wrap_u64]; omega
    have m4 : IntKind.u64.wrap (4294967296 * (r1 : Int) + z1) = 4294967296 * (r1 : Int) + z1 := by rw [IntKind.wrap_u64]; omega
    have m5 : IntKind.u64.wrap (4294967296 * (r0 : Int)) = 4294967296 * (r0 : Int) := by rw [IntKind.wrap_u64]; omega
    have m6 : IntKind.u64.wrap (4294967296 * (r0 : Int) + z0) = 4294967296 * (r0 : Int) + z0 := by rw [IntKind.wrap_u64]; omega
    clear hl hu hv hz hz1 hz0 hq1 hr1 hx hq0 hr0 hA hB hC hD hE hF hG hfin e0 e1 hc0 hc1 hc1u hc0x hul hxl
    go_enter Try.func106, Try.ntmps106
    go_wp2_with (go_at_call 108; refine (LeadingZeros64_any y (by omega) (by omega) _).mono ?_; rintro e w' ⟨rfl, rfl⟩)
    refine wp_loop_rounds 1 ?_
    rw [rounds_succ]
    go_wp2_with fail
    refine wp_loop_rounds 1 ?_
    rw [rounds_succ]
    go_wp2_with fail
    go_ret2
    obtain ⟨r1, r2⟩ := Hfin.out
    rw [← r1, ← r2]
    exact ⟨by simp, (by ((repeat' (first | exact Below.refl _ _ | refine Below.alloc ?_ ?_ _ | refine Below.setCell ?_ ?_ _ | refine Below.drew ?_ | refine below_drewN ?_ _)) <;> (first | omega | (simp; done) | (simp; omega))))⟩
/-- The same, with the product's words and the quotient under names. -/
theorem Mul64_at (x y h l : Nat) (hx : x < 18446744073709551616) (hy : y < 18446744073709551616) (hl : l < 18446744073709551616) (H : x * y = h * 18446744073709551616 + l) (w : World) :
    Calls Try.prog 105 #[.int .u64 x, .int .u64 y] w fun e w' => e = .returned (.tuple #[.int .u64 h, .int .u64 l]) ∧ w' = w := by
  have e1 : x * y / 18446744073709551616 = h := by rw [H]; omega
  have e2 : x * y % 18446744073709551616 = l := by rw [H]; omega
  have := Mul64_any x y hx hy w
  rw [e1, e2] at this
  exact this
theorem Div64_at (hi lo y q r : Nat) (hy1 : 536870912 ≤ y) (hy2 : y < 1073741824) (hh : hi < y) (hl : lo < 18446744073709551616) (hr : r < y) (H : hi * 18446744073709551616 + lo = y * q + r) (w : World) :
    Calls Try.prog 106 #[.int .u64 hi, .int .u64 lo, .int .u64 y] w fun e w' => e = .returned (.tuple #[.int .u64 q, .int .u64 r]) ∧ Below w.heap.size w w' := by
  have e1 : (hi * 18446744073709551616 + lo) / y = q := by rw [H, Nat.mul_add_div (by omega), Nat.div_eq_of_lt hr, Nat.add_zero]
  have e2 : (hi * 18446744073709551616 + lo) % y = r := by rw [H, Nat.mul_add_mod, Nat.mod_eq_of_lt hr]
  have := Div64_any hi lo y hy1 hy2 hh hl w
  rw [e1, e2] at this
  exact this
end Go.Proofs.Ytiaahfccebmkdaa
