/- Package codec: need, reader.int. -/
import Derived.Test.YthkoaecafmhlcaaGreatJ09
import Derived.Test.YthkoaecafmhlcaaGreatTsO
namespace Go.Proofs.YthkoaecafmhlcaaGreat
open Go.RowKit
set_option maxRecDepth 100000 in
set_option maxHeartbeats 400000 in
theorem need_any (w : World) : Calls Tryz.prog 131 #[.bool true] w fun e w' => e = .returned (.tuple #[]) ∧ w = w' := by
 go_enter Tryz.func131, Tryz.ntmps131
 go_wp2_with fail
 go_end0
 exact ⟨rfl, rfl⟩
set_option maxRecDepth 100000 in
set_option maxHeartbeats 400000 in
theorem need_same (w : World) : Calls Tryz.prog 131 #[.bool true] w fun e w' => e = .returned (.tuple #[]) ∧ w' = w := (need_any w).mono (by rintro e w' ⟨rfl, rfl⟩; exact ⟨rfl, rfl⟩)
theorem bits_and127 (c : Int) (h : 0 ≤ c ∧ c ≤ 255) : bits .and .u8 c 127 = c % 128 := by
 have := bits_mask .u8 8 (Nat.le_refl _) (fun n h1 h2 => by rw [wrap_u8_mod]; omega) 7 (by omega) c h.1 (by omega)
 simpa using this
theorem or_digit (u y k : Nat) (hu : u < 128 ^ k) (hk : k ≤ 8) : bits .or .u64 (u : Int) (IntKind.u64.wrap ((y : Int) % 128 * 2 ^ (7 * k))) = ((u + y % 128 * 128 ^ k : Nat) : Int) := by
 have hp : (128 : Nat) ^ k = 2 ^ (7 * k) := by rw [show (128 : Nat) = 2 ^ 7 from rfl, ← Nat.pow_mul]
 have hle : 2 ^ (7 * k) ≤ 2 ^ 56 := Nat.pow_le_pow_right (by omega) (by omega)
 rw [hp] at hu ⊢
 have e1 : ((y : Int) % 128 * 2 ^ (7 * k)) = ((2 ^ (7 * k) * (y % 128) : Nat) : Int) := by
  push_cast; exact Int.mul_comm _ _
 rw [e1]
 have h2 : 2 ^ (7 * k) * (y % 128) ≤ 2 ^ 56 * 127 := Nat.mul_le_mul hle (by omega)
 rw [Nat.mul_comm (y % 128)]
 have h3 := Nat.two_pow_add_eq_or_of_lt hu (y % 128)
 generalize 2 ^ (7 * k) * (y % 128) = m at *
 have e2 : IntKind.u64.wrap (m : Int) = (m : Int) := by rw [wrap_u64_mod]; omega
 have h4 := (bits_nat .u64 64 (Nat.le_refl _) (fun n h1 h2 => by rw [wrap_u64_mod]; omega) u m (by omega) (by omega)).2
 rw [e2, h4, Nat.or_comm, ← h3, Nat.add_comm]
theorem and_one (z : Nat) (h : z < 18446744073709551616) (h2 : z % 2 = 0) : bits .and .u64 (z : Int) 1 = 0 := by
 have := bits_mask .u64 64 (Nat.le_refl _) (fun n h1 h2 => by rw [wrap_u64_mod]; omega) 1 (by omega) (z : Int) (by omega) (by omega)
 have e : bits .and .u64 (z : Int) 1 = (z : Int) % 2 := by simpa using this
 rw [e]; omega
theorem xor_zero_i64 (n : Int) (h : 0 ≤ n ∧ n ≤ 2000000000000000000) : bits .xor .i64 n 0 = n := by
 obtain ⟨m, rfl⟩ := Int.eq_ofNat_of_zero_le h.1
 have h1 : (BitVec.ofInt 64 (m : Int)).toNat = m := by
  rw [BitVec.ofInt_natCast, BitVec.toNat_ofNat]; exact Nat.mod_eq_of_lt (by omega)
 show IntKind.i64.wrap ((BitVec.ofInt 64 (m : Int) ^^^ BitVec.ofInt 64 0).toNat : Int) = _
 rw [BitVec.toNat_xor, h1, show (BitVec.ofInt 64 0).toNat = 0 from rfl, Nat.xor_zero, IntKind.wrap_i64]
 omega
theorem grown_set (W : World) (b i : Nat) (v : Value) : W.grownBy (W.setCell ⟨b, i, none⟩ v) (some b) := ⟨rfl, rfl, rfl, by simp [World.setCell], fun k _ hk => Below.heap_setCell _ _ _ k (fun e => hk (by rw [e]))⟩
theorem digit_step {u y k z U : Nat} {_rest : List Int} (h1 : u + y * 128 ^ k = z) (h2 : u < 128 ^ k) (hU : U = u + y % 128 * 128 ^ k) (hy : 128 ≤ y) (hk : k ≤ 8) (hz : z < 9000000000000000000) : k + 1 ≤ 8 ∧ U + y / 128 * 128 ^ (k + 1) = z ∧ U < 128 ^ (k + 1) ∧ 0 < y / 128 ∧ True := by
 have e1 : (128 : Nat) ^ (k + 1) = 128 * 128 ^ k := by rw [Nat.pow_succ, Nat.mul_comm]
 refine ⟨?_, ?_, ?_, by omega, trivial⟩
 ·by_cases h7 : k ≤ 7
  ·omega
  ·obtain rfl : k = 8 := by omega
   omega
 ·rw [e1, hU, ← h1]
  have : y / 128 * (128 * 128 ^ k) = y / 128 * 128 * 128 ^ k := by rw [Nat.mul_assoc]
  rw [this, Nat.add_assoc, ← Nat.add_mul]
  congr 2
  omega
 ·rw [e1, hU]
  have : y % 128 * 128 ^ k ≤ 127 * 128 ^ k := Nat.mul_le_mul_right _ (by omega)
  omega
theorem drop_cons_at {bs r : List Int} {i : Nat} {c : Int} (h : bs.drop i = c :: r) : i < bs.length ∧ bs.getD i 0 = c ∧ bs.drop (i + 1) = r := by
 have hi : i < bs.length := by
  refine Nat.lt_of_not_le fun hl => ?_
  rw [List.drop_eq_nil_of_le hl] at h
  cases h
 rw [List.drop_eq_getElem_cons hi] at h
 injection h with h1 h2
 exact ⟨hi, by rw [getD_lt0 hi, h1], h2⟩
theorem vint_head (y : Nat) (rest : List Int) : ∃ (c : Nat) (r : List Int), vint y ++ rest = (c : Int) :: r ∧ c ≤ 255 ∧ (0 < y → 0 < c) ∧ c % 128 = y % 128 ∧ (c < 128 ↔ y < 128) ∧ (y < 128 → r = rest ∧ (vint y).length = 1) ∧ (128 ≤ y → r = vint (y / 128) ++ rest ∧ (vint y).length = (vint (y / 128)).length + 1) := by
 by_cases hy : y < 128
 ·exact ⟨y, rest, by rw [vint_lt hy]; rfl, by omega, fun h => h, rfl, Iff.rfl, fun _ => ⟨rfl, by rw [vint_lt hy]; rfl⟩, fun h => by omega⟩
 ·exact ⟨y % 128 + 128, vint (y / 128) ++ rest, by rw [vint_ge (by omega)]; rfl, by omega, fun _ => by omega, by omega, by omega, fun h => by omega, fun _ => ⟨rfl, by rw [vint_ge (by omega)]; rfl⟩⟩
set_option maxHeartbeats 1000000 in
set_option maxRecDepth 100000 in
set_option maxHeartbeats 400000 in
theorem rint_any (rb : Nat) (bv : Value) (bs rest : List Int) (at_ : Nat) (n : Int) (w : World) (hb : BxC w rb [bv, .int .i64 at_]) (h : BRow w bv bs) (hv : ∀ q, bv.ownBlock = some q → q ≠ rb) (hbs : bs.length ≤ 1000000) (hd : bs.drop at_ = putI n ++ rest) (hn : 0 ≤ n ∧ n ≤ 2000000000000000000) :
  Calls Tryz.prog 130 #[.pointer (some ⟨rb, 0, none⟩)] w fun e w' => e = .returned (.int .i64 n) ∧ BxC w' rb [bv, .int .i64 (at_ + (putI n).length)] ∧ w.grownBy w' (some rb) ∧ w'.heap.size = w.heap.size := by
 obtain ⟨a1, cap1, rfl, -⟩ := h.len
 have hz := zig_pos hn.1
 unfold putI at *
 generalize zig n = z at *
 have hlen : (vint z).length ≤ 10 := vint_len 9 z (by omega)
 have hlz : z < 9000000000000000000 := by omega
 go_enter Tryz.func130, Tryz.ntmps130
 go_wp2_with fail
 go_loopw [3, 4] (fun s3 s4 wx => ∃ (k u y : Nat), k ≤ 8 ∧ s4 = .int .i64 k ∧ s3 = .int .u64 u ∧ Hid (bs.drop (at_ + k) = vint y ++ rest ∧ u + y * 128 ^ k = z ∧ u < 128 ^ k ∧ (0 < k → 0 < y) ∧ k + (vint y).length = (vint z).length) ∧ Hid (BxC wx rb [.slice a1 bs.length cap1, .int .i64 ((at_ + k : Nat) : Int)]) ∧ Hid (w.grownBy wx (some rb)) ∧ wx.heap.size = w.heap.size) (fun _ s4 _ => 20 - (intOf s4).toNat)
 case atStart => exact ⟨0, 0, z, by omega, rfl, rfl, hide ⟨hd, by omega, by omega, fun h => by omega, by omega⟩, hide hb, hide (World.grownBy.refl _ _), rfl⟩
 case round =>
  obtain ⟨k, u, y, hk, rfl, rfl, HI, HB, HG, hzw⟩ := hrel
  obtain ⟨i1, i2, i3, i4, i5⟩ := HI.out
  have hbx := HB.out
  have hrow : BRow wr (.slice a1 bs.length cap1) bs := h.same HG.out.size (fun _ q hq => HG.out.block q (by
   obtain ⟨b, off, cap', hb', hlt0, -⟩ := BRow.at_ h (i := 0) (by
    refine Nat.lt_of_not_le fun h0 => ?_
    have : bs = [] := List.eq_nil_of_length_eq_zero (by omega)
    subst this; simp_all)
   cases hb'; cases hq; exact hlt0) (fun e => hv q hq (by cases e; rfl)))
  obtain ⟨c, r, hcr, hc1, hc2, hc3, hc4, hc5, hc6⟩ := vint_head y rest
  have hdc := i1
  rw [hcr] at hdc
  obtain ⟨j1, j2, j3⟩ := drop_cons_at hdc
  obtain ⟨b, off, cap', hb', hlt0, x0⟩ := BRow.at_ hrow j1
  cases hb'
  rw [j2] at x0
  generalize hp : at_ + k = p at *
  have c0 := hbx.1 0 _ rfl
  have c1 := hbx.1 1 _ rfl
  have cf := hbx.2.1
  have cz := hbx.2.2
  have HF := hide (And.intro hc2 (And.intro hc3 (And.intro hc4 (And.intro hc5 (And.intro hc6 (And.intro i2 (And.intro i3 (And.intro i4 i5))))))))
  have I1 : (0 : Int) ≤ (p : Int) := by omega
  have I2 : (p : Int) < (bs.length : Int) := by omega
  have g1 : decide ((p : Int) < (bs.length : Int)) = true := decide_eq_true I2
  have g2 : decide ((k : Int) < 10) = true := decide_eq_true (by omega)
  have HD := hide j3
  have HP := hide hp
  clear i1 i2 i3 i4 i5 hdc hrow hbx hcr j1 j2 j3 hp h hb hd hc2 hc3 hc4 hc5 hc6
  have mixed : Tryz.prog.follows Departure.mixedOrders = true := by kernel_rfl
  go_upto_region 4 with fail
  go_quiet ((go_at_call 131; exact Calls.quiet_of_same (need_same _)))
  go_upto_region 5 with fail
  go_quiet ((fail))
  have g3 : decide ((k : Int) < 9) = true := decide_eq_true (by omega)
  have hkc : k = 0 ∨ (0 < k ∧ 0 < c) := by
   rcases Nat.eq_zero_or_pos k with h0 | h0
   ·exact .inl h0
   ·exact .inr ⟨h0, HF.out.1 (HF.out.2.2.2.2.2.2.2.1 h0)⟩
  have gk : (((k : Int) == 0) || decide ((0 : Int) < (c : Int))) = true := by
   rcases hkc with h0 | h0
   ·subst h0; rfl
   ·rw [decide_eq_true (by omega)]; simp
  have gk0 : ((k : Int) == 0) = false → decide ((0 : Int) < (c : Int)) = true := fun h => by rw [h] at gk; exact gk
  clear hkc gk
  have GK := hide gk0
  clear gk0
  cases hk1 : ((k : Int) == 0)
  all_goals (try (have g5 : decide (0 < c) = true := by have := GK.out hk1; simpa using this))
  all_goals go_upto_region 7 with (go_at_call 131; (with_reducible refine (need_any _).mono ?_); rintro e w2 ⟨rfl, rfl⟩)
  all_goals clear hk1 GK g1 g2 g3 mixed
  ·have a1 := bits_and127 (c : Int) (by omega)
   rw [show ((c : Int) % 128) = ((c % 128 : Nat) : Int) by omega, HF.out.2.1] at a1
   go_upto_region 8 with fail
   rw [or_digit u y k HF.out.2.2.2.2.2.2.1 hk]
   obtain ⟨U, hU⟩ : ∃ U, U = u + y % 128 * 128 ^ k := ⟨_, rfl⟩
   rw [← hU]
   have HU := hide hU
   clear hU a1
   have hpn : ((p + 1 : Nat) : Int) = (p : Int) + 1 := by omega
   have hB2 := HB.out.set 1 (.int .i64 ((p : Int) + 1)) (by simp)
   dsimp only [List.set] at hB2
   have HB2 := hide hB2
   have HG2 := hide (HG.out.trans (grown_set wr rb 1 (.int .i64 ((p : Int) + 1))))
   clear hB2 hpn
   by_cases hy : y < 128
   ·have hc : decide ((c : Int) < 128) = true := decide_eq_true (by have := HF.out.2.2.1.2 hy; omega)
    obtain ⟨-, -, -, hf5, -, hf6, -, -, hf7⟩ := HF.out
    have hzz : U = z := by rw [HU.out, Nat.mod_eq_of_lt hy]; exact hf6
    have hl : (vint z).length = k + 1 := by rw [← hf7, (hf5 hy).2]
    have HL := hide hl
    have HE := hide (and_one z (by omega) (by omega))
    have HX := hide (xor_zero_i64 n hn)
    have HZ := hide (show (z : Int) / 2 = n by omega)
    subst hzz
    clear hf5 hf6 hf7 hl hz hlen
    have q1 := HE.out
    have q2 := HX.out
    have q3 := HZ.out
    go_wp2_with fail
    go_ret
    refine ⟨rfl, ?_, ⟨HG2.out.os, HG2.out.tape, HG2.out.output, HG2.out.size, HG2.out.block⟩, by simp [World.setCell]; exact hzw⟩
    rw [show ((at_ : Int) + ((vint U).length : Int)) = (p : Int) + 1 by have := HL.out; have := HP.out; omega]
    exact HB2.out.same (Nat.le_refl _) rfl
   ·have hc : decide ((c : Int) < 128) = false := decide_eq_false (fun h => hy (HF.out.2.2.1.1 (by omega)))
    obtain ⟨r1, r2, r3, r4, r5⟩ := digit_step (_rest := rest) HF.out.2.2.2.2.2.1 HF.out.2.2.2.2.2.2.1 HU.out (by omega) hk hlz
    have hr := HF.out.2.2.2.2.1 (by omega)
    have HN : Hid (bs.drop (at_ + (k + 1)) = vint (y / 128) ++ rest ∧ U + y / 128 * 128 ^ (k + 1) = z ∧ U < 128 ^ (k + 1) ∧ (0 < k + 1 → 0 < y / 128) ∧ k + 1 + (vint (y / 128)).length = (vint z).length) :=
     ⟨by rw [← hr.1, ← HD.out, ← HP.out, Nat.add_assoc], r2, r3, fun _ => r4, by rw [← HF.out.2.2.2.2.2.2.2.2, hr.2]; omega⟩
    have HK := hide r1
    have hpk : ((at_ + (k + 1) : Nat) : Int) = (p : Int) + 1 := by have := HP.out; omega
    have HPK := hide hpk
    clear r1 r2 r3 r4 r5 hr hpk
    go_wp2_with fail
    go_roundw
    case rel => exact ⟨k + 1, U, y / 128, HK.out, by go_num, rfl, HN, hide (by rw [HPK.out]; exact HB2.out.same (Nat.le_refl _) rfl), hide ⟨HG2.out.os, HG2.out.tape, HG2.out.output, HG2.out.size, HG2.out.block⟩, by simp [World.setCell]; exact hzw⟩
    case measure => simp [intOf]; omega
  ·have a1 := bits_and127 (c : Int) (by omega)
   rw [show ((c : Int) % 128) = ((c % 128 : Nat) : Int) by omega, HF.out.2.1] at a1
   go_upto_region 8 with fail
   rw [or_digit u y k HF.out.2.2.2.2.2.2.1 hk]
   obtain ⟨U, hU⟩ : ∃ U, U = u + y % 128 * 128 ^ k := ⟨_, rfl⟩
   rw [← hU]
   have HU := hide hU
   clear hU a1
   have hpn : ((p + 1 : Nat) : Int) = (p : Int) + 1 := by omega
   have hB2 := HB.out.set 1 (.int .i64 ((p : Int) + 1)) (by simp)
   dsimp only [List.set] at hB2
   have HB2 := hide hB2
   have HG2 := hide (HG.out.trans (grown_set wr rb 1 (.int .i64 ((p : Int) + 1))))
   clear hB2 hpn
   by_cases hy : y < 128
   ·have hc : decide ((c : Int) < 128) = true := decide_eq_true (by have := HF.out.2.2.1.2 hy; omega)
    obtain ⟨-, -, -, hf5, -, hf6, -, -, hf7⟩ := HF.out
    have hzz : U = z := by rw [HU.out, Nat.mod_eq_of_lt hy]; exact hf6
    have hl : (vint z).length = k + 1 := by rw [← hf7, (hf5 hy).2]
    have HL := hide hl
    have HE := hide (and_one z (by omega) (by omega))
    have HX := hide (xor_zero_i64 n hn)
    have HZ := hide (show (z : Int) / 2 = n by omega)
    subst hzz
    clear hf5 hf6 hf7 hl hz hlen
    have q1 := HE.out
    have q2 := HX.out
    have q3 := HZ.out
    go_wp2_with fail
    go_ret
    refine ⟨rfl, ?_, ⟨HG2.out.os, HG2.out.tape, HG2.out.output, HG2.out.size, HG2.out.block⟩, by simp [World.setCell]; exact hzw⟩
    rw [show ((at_ : Int) + ((vint U).length : Int)) = (p : Int) + 1 by have := HL.out; have := HP.out; omega]
    exact HB2.out.same (Nat.le_refl _) rfl
   ·have hc : decide ((c : Int) < 128) = false := decide_eq_false (fun h => hy (HF.out.2.2.1.1 (by omega)))
    obtain ⟨r1, r2, r3, r4, r5⟩ := digit_step (_rest := rest) HF.out.2.2.2.2.2.1 HF.out.2.2.2.2.2.2.1 HU.out (by omega) hk hlz
    have hr := HF.out.2.2.2.2.1 (by omega)
    have HN : Hid (bs.drop (at_ + (k + 1)) = vint (y / 128) ++ rest ∧ U + y / 128 * 128 ^ (k + 1) = z ∧ U < 128 ^ (k + 1) ∧ (0 < k + 1 → 0 < y / 128) ∧ k + 1 + (vint (y / 128)).length = (vint z).length) :=
     ⟨by rw [← hr.1, ← HD.out, ← HP.out, Nat.add_assoc], r2, r3, fun _ => r4, by rw [← HF.out.2.2.2.2.2.2.2.2, hr.2]; omega⟩
    have HK := hide r1
    have hpk : ((at_ + (k + 1) : Nat) : Int) = (p : Int) + 1 := by have := HP.out; omega
    have HPK := hide hpk
    clear r1 r2 r3 r4 r5 hr hpk
    go_wp2_with fail
    go_roundw
    case rel => exact ⟨k + 1, U, y / 128, HK.out, by go_num, rfl, HN, hide (by rw [HPK.out]; exact HB2.out.same (Nat.le_refl _) rfl), hide ⟨HG2.out.os, HG2.out.tape, HG2.out.output, HG2.out.size, HG2.out.block⟩, by simp [World.setCell]; exact hzw⟩
    case measure => simp [intOf]; omega
end Go.Proofs.YthkoaecafmhlcaaGreat
