/- Package math/bits: the number of set bits, the place of the lowest one. -/
import Derived.Test.YtodkmbjhdckjiaaDoorOuA
namespace Go.Proofs.YtodkmbjhdckjiaaDoor
open Go.RowKit
attribute [local go_sem ↓] run_max_mx run_min_mn
set_option maxRecDepth 100000 in
set_option maxHeartbeats 1000000 in
theorem trail_core (x k idx : Nat) (w : World) (hx0 : ((x : Int) == 0) = false) (key : bits BinOp.and IntKind.u32 (x : Int) (-(x : Int) % 4294967296) * 125613361 % 4294967296 / 134217728 = (idx : Int)) (hi : idx < 32) (hk : k < 32)
    (hcell : w.cell? ⟨0, idx, none⟩ = some (.int .u8 k)) :
    Calls Tryd.prog 46 #[.int .u32 x] w fun e w' => e = .returned (.int .i64 k) ∧ w' = w := by
  go_enter Tryd.func46, Tryd.ntmps46
  go_wp2_with (simp only [key])
  go_ret
  exact ⟨rfl, rfl⟩
theorem Trail_any (x : Nat) (w : World) (hx : x < 4294967296) (hx0 : x ≠ 0) (hT : TabAt 0 Lib.deBruijn32tab w) :
    Calls Tryd.prog 46 #[.int .u32 x] w fun e w' => e = .returned (.int .i64 (Lib.ctz 32 x)) ∧ w' = w := by
  obtain ⟨hlow, hk⟩ := Lib.lowest_bit 32 x hx0 hx
  obtain ⟨hi, htab⟩ := Lib.deBruijn32_at _ hk
  have hcell := hT _ hi
  rw [htab] at hcell
  exact trail_core x _ _ w (by simp; omega) (tz32_key x _ hx hx0 hlow) hi hk hcell
theorem bitsTo_split (x m : Nat) : ∀ n, (bitsTo x (m + n)).length = (bitsTo x m).length + (bitsTo (x / 2 ^ m) n).length
  | 0 => by simp [bitsTo]
  | n + 1 => by
    have ih := bitsTo_split x m n
    rw [← Nat.add_assoc, bitsTo, bitsTo, Nat.testBit_div_two_pow, Nat.add_comm n m]
    split
    · simp [ih]; omega
    · exact ih
def cn8 (b : Nat) : Nat := (bitsTo b 8).length
theorem cn8_le (b : Nat) : cn8 b ≤ 8 := bitsTo_length b 8
theorem cn8_mod (x : Nat) : (bitsTo x 8).length = cn8 (x % 256) := by
  unfold cn8
  rw [bitsTo_eq 8 fun i hi => ?_]
  rw [show (256 : Nat) = 2 ^ 8 by decide, Nat.testBit_mod_two_pow]; simp [hi]
theorem bits_four {x : Nat} (hx : x < 4294967296) : (bitsL x).length = cn8 (x / 16777216) + cn8 (x / 65536 % 256) + cn8 (x / 256 % 256) + cn8 (x % 256) := by
  unfold bitsL
  rw [show 32 = 24 + 8 by rfl, bitsTo_split, show 24 = 16 + 8 by rfl, bitsTo_split, show 16 = 8 + 8 by rfl, bitsTo_split, cn8_mod, cn8_mod, cn8_mod, cn8_mod]
  have e1 : x / 2 ^ 8 % 256 = x / 256 % 256 := rfl
  have e2 : x / 2 ^ (8 + 8) % 256 = x / 65536 % 256 := rfl
  have e3 : x / 2 ^ (8 + 8 + 8) % 256 = x / 16777216 := by
    rw [show (2 ^ (8 + 8 + 8) : Nat) = 16777216 by decide]; omega
  rw [e1, e2, e3]; omega
def popB : ByteArray := ByteArray.mk #[0, 1, 1, 2, 1, 2, 2, 3, 1, 2, 2, 3, 2, 3, 3, 4, 1, 2, 2, 3, 2, 3, 3, 4, 2, 3, 3, 4, 3, 4, 4, 5, 1, 2, 2, 3, 2, 3, 3, 4, 2, 3, 3, 4, 3, 4, 4, 5, 2, 3, 3, 4, 3, 4, 4, 5, 3, 4, 4, 5, 4, 5, 5, 6, 1, 2, 2, 3, 2, 3, 3, 4, 2, 3, 3, 4, 3, 4, 4, 5, 2, 3, 3, 4, 3, 4, 4, 5, 3, 4, 4, 5, 4, 5, 5, 6, 2, 3, 3, 4, 3, 4, 4, 5, 3, 4, 4, 5, 4, 5, 5, 6, 3, 4, 4, 5, 4, 5, 5, 6, 4, 5, 5, 6, 5, 6, 6, 7, 1, 2, 2, 3, 2, 3, 3, 4, 2, 3, 3, 4, 3, 4, 4, 5, 2, 3, 3, 4, 3, 4, 4, 5, 3, 4, 4, 5, 4, 5, 5, 6, 2, 3, 3, 4, 3, 4, 4, 5, 3, 4, 4, 5, 4, 5, 5, 6, 3, 4, 4, 5, 4, 5, 5, 6, 4, 5, 5, 6, 5, 6, 6, 7, 2, 3, 3, 4, 3, 4, 4, 5, 3, 4, 4, 5, 4, 5, 5, 6, 3, 4, 4, 5, 4, 5, 5, 6, 4, 5, 5, 6, 5, 6, 6, 7, 3, 4, 4, 5, 4, 5, 5, 6, 4, 5, 5, 6, 5, 6, 6, 7, 4, 5, 5, 6, 5, 6, 6, 7, 5, 6, 6, 7, 6, 7, 7, 8]
theorem popB_size : popB.size = 256 := by kernel_rfl
theorem popB_key : ∀ b : Fin 256, (popB[b.val]'(Nat.lt_of_lt_of_eq b.isLt popB_size.symm)).toNat = cn8 b.val := by decide +kernel
theorem popB_at (b : Nat) (h : b < popB.size) : (popB[b]'h).toNat = cn8 b := popB_key ⟨b, Nat.lt_of_lt_of_eq h popB_size⟩
theorem popt_at : ∀ (b : Nat) (h : b < (ByteArray.mk #[0, 1, 1, 2, 1, 2, 2, 3, 1, 2, 2, 3, 2, 3, 3, 4, 1, 2, 2, 3, 2, 3, 3, 4, 2, 3, 3, 4, 3, 4, 4, 5, 1, 2, 2, 3, 2, 3, 3, 4, 2, 3, 3, 4, 3, 4, 4, 5, 2, 3, 3, 4, 3, 4, 4, 5, 3, 4, 4, 5, 4, 5, 5, 6, 1, 2, 2, 3, 2, 3, 3, 4, 2, 3, 3, 4, 3, 4, 4, 5, 2, 3, 3, 4, 3, 4, 4, 5, 3, 4, 4, 5, 4, 5, 5, 6, 2, 3, 3, 4, 3, 4, 4, 5, 3, 4, 4, 5, 4, 5, 5, 6, 3, 4, 4, 5, 4, 5, 5, 6, 4, 5, 5, 6, 5, 6, 6, 7, 1, 2, 2, 3, 2, 3, 3, 4, 2, 3, 3, 4, 3, 4, 4, 5, 2, 3, 3, 4, 3, 4, 4, 5, 3, 4, 4, 5, 4, 5, 5, 6, 2, 3, 3, 4, 3, 4, 4, 5, 3, 4, 4, 5, 4, 5, 5, 6, 3, 4, 4, 5, 4, 5, 5, 6, 4, 5, 5, 6, 5, 6, 6, 7, 2, 3, 3, 4, 3, 4, 4, 5, 3, 4, 4, 5, 4, 5, 5, 6, 3, 4, 4, 5, 4, 5, 5, 6, 4, 5, 5, 6, 5, 6, 6, 7, 3, 4, 4, 5, 4, 5, 5, 6, 4, 5, 5, 6, 5, 6, 6, 7, 4, 5, 5, 6, 5, 6, 6, 7, 5, 6, 6, 7, 6, 7, 7, 8]).size), ((ByteArray.mk #[0, 1, 1, 2, 1, 2, 2, 3, 1, 2, 2, 3, 2, 3, 3, 4, 1, 2, 2, 3, 2, 3, 3, 4, 2, 3, 3, 4, 3, 4, 4, 5, 1, 2, 2, 3, 2, 3, 3, 4, 2, 3, 3, 4, 3, 4, 4, 5, 2, 3, 3, 4, 3, 4, 4, 5, 3, 4, 4, 5, 4, 5, 5, 6, 1, 2, 2, 3, 2, 3, 3, 4, 2, 3, 3, 4, 3, 4, 4, 5, 2, 3, 3, 4, 3, 4, 4, 5, 3, 4, 4, 5, 4, 5, 5, 6, 2, 3, 3, 4, 3, 4, 4, 5, 3, 4, 4, 5, 4, 5, 5, 6, 3, 4, 4, 5, 4, 5, 5, 6, 4, 5, 5, 6, 5, 6, 6, 7, 1, 2, 2, 3, 2, 3, 3, 4, 2, 3, 3, 4, 3, 4, 4, 5, 2, 3, 3, 4, 3, 4, 4, 5, 3, 4, 4, 5, 4, 5, 5, 6, 2, 3, 3, 4, 3, 4, 4, 5, 3, 4, 4, 5, 4, 5, 5, 6, 3, 4, 4, 5, 4, 5, 5, 6, 4, 5, 5, 6, 5, 6, 6, 7, 2, 3, 3, 4, 3, 4, 4, 5, 3, 4, 4, 5, 4, 5, 5, 6, 3, 4, 4, 5, 4, 5, 5, 6, 4, 5, 5, 6, 5, 6, 6, 7, 3, 4, 4, 5, 4, 5, 5, 6, 4, 5, 5, 6, 5, 6, 6, 7, 4, 5, 5, 6, 5, 6, 6, 7, 5, 6, 6, 7, 6, 7, 7, 8])[b]'h).toNat = cn8 b := popB_at
set_option maxRecDepth 100000 in
set_option maxHeartbeats 1000000 in
theorem ones_core (x a0 a1 a2 a3 : Nat) (w : World) (hx : (bitsL x).length = cn8 a3 + cn8 a2 + cn8 a1 + cn8 a0) (h3 : (x : Int) / 16777216 = a3) (h2 : bits BinOp.and IntKind.u32 ((x : Int) / 65536) 255 = (a2 : Int)) (h1 : bits BinOp.and IntKind.u32 ((x : Int) / 256) 255 = (a1 : Int)) (h0 : bits BinOp.and IntKind.u32 (x : Int) 255 = (a0 : Int))
    (b0 : (a0 : Int) < 256) (b1 : (a1 : Int) < 256) (b2 : (a2 : Int) < 256) (b3 : (a3 : Int) < 256) :
    Calls Tryd.prog 26 #[.int .u32 x] w fun e w' => e = .returned (.int .i64 (bitsL x).length) ∧ w' = w.drew := by
  have Hx := hide hx
  clear hx
  go_enter Tryd.func26, Tryd.ntmps26
  go_wp2
  go_region
  go_wp2
  go_ret
  refine ⟨?_, rfl⟩
  have := cn8_le a0; have := cn8_le a1; have := cn8_le a2; have := cn8_le a3
  refine ret_int ?_
  simp only [popt_at]
  rw [Hx.out]
  omega
theorem Ones_any (x : Nat) (w : World) (hx : x < 4294967296) :
    Calls Tryd.prog 26 #[.int .u32 x] w fun e w' => e = .returned (.int .i64 (bitsL x).length) ∧ w' = w.drew := by
  have e2 : ((x : Int) / 65536) = ((x / 65536 : Nat) : Int) := by omega
  have e1 : ((x : Int) / 256) = ((x / 256 : Nat) : Int) := by omega
  have an : ∀ y : Nat, y < 4294967296 → bits BinOp.and IntKind.u32 (y : Int) 255 = ((y % 256 : Nat) : Int) := fun y hy => by
    have := bits_and_u32_nat y 255 hy (by omega)
    rw [show ((255 : Nat) : Int) = 255 by rfl] at this
    rw [this, show 255 = 2 ^ 8 - 1 by decide, Nat.and_two_pow_sub_one_eq_mod]
  exact ones_core x (x % 256) (x / 256 % 256) (x / 65536 % 256) (x / 16777216) w (bits_four hx) (by omega) (by rw [e2]; exact an _ (by omega)) (by rw [e1]; exact an _ (by omega)) (an _ hx) (by omega) (by omega) (by omega) (by omega)
end Go.Proofs.YtodkmbjhdckjiaaDoor
