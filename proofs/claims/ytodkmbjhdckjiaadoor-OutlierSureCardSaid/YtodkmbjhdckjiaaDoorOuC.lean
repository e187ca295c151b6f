/- Package outlier and its reference: in which intervals a time is not. -/
import Derived.Test.YtodkmbjhdckjiaaDoorOuB
import Derived.Lib.SliceRun
namespace Go.Proofs.YtodkmbjhdckjiaaDoor
open Go.RowKit
attribute [local go_sem ↓] run_max_mx run_min_mn
theorem wrap32_pow {k : Nat} (h : k < 16) : IntKind.u32.wrap (2 ^ k) = ((2 ^ k : Nat) : Int) := by
  have h2 : 2 ^ k < 2 ^ 16 := Nat.pow_lt_pow_right (by decide) h
  rw [wrap_u32']
  have e : ((2 ^ k : Nat) : Int) = (2 : Int) ^ k := by push_cast; rfl
  rw [← e]
  exact Int.emod_eq_of_lt (Int.natCast_nonneg _) (by have : ((2 ^ k : Nat) : Int) < ((2 ^ 16 : Nat) : Int) := Int.ofNat_lt.2 h2; omega)
theorem mskTo_lt16 {l : List Iv} (x : Int) (h : l.length ≤ 16) {k : Nat} (hk : k ≤ l.length) : mskTo l x k < 65536 := by
  have := mskTo_lt l x k
  have h2 : 2 ^ k ≤ 2 ^ 16 := Nat.pow_le_pow_right (by decide) (by omega)
  omega
set_option maxRecDepth 100000 in
set_option maxHeartbeats 1000000 in
theorem without_any (v : Value) (l : List Iv) (x : Int) (w : World) (hv : IvRow w v l) (hl : l.length ≤ 16) :
    Calls Tryd.prog 37 #[v, .int .i64 x] w fun e w' => e = .returned (.int .u32 (msk l x)) ∧ Below w.heap.size w w' := by
  obtain ⟨a, cap, rfl, h1, h2, h3⟩ := hv
  go_enter Tryd.func37, Tryd.ntmps37
  go_wp2
  go_loopw [5, 10] (fun s i wr => ∃ k : Nat, k ≤ l.length ∧ i = .int .i64 k ∧ s = .int .u32 (mskTo l x k) ∧ Below w.heap.size w wr) (fun _ i _ => l.length - (intOf i).toNat)
  case atStart => exact ⟨0, Nat.zero_le _, rfl, rfl, Below.refl _ _⟩
  case round =>
    obtain ⟨k, hk, rfl, rfl, hB⟩ := hrel
    by_cases hlt : k < l.length
    · obtain ⟨b, off, rfl, h4, h5, h6⟩ := h3 k hlt
      have h5' := (hB.cell (p := ⟨b, off + k * 2, none⟩) h4).trans h5
      have h6' := (hB.cell (p := ⟨b, off + k * 2 + 1, none⟩) h4).trans h6
      clear h5 h6 h3
      have hz := hB.size
      cases hval : hasB (iLo l k) (iHi l k) x with
      | true =>
        have Hn := hide (show mskTo l x (k + 1) = mskTo l x k by simp [mskTo, hval])
        rw [hasB_iff] at hval
        have q1 : ¬ x < iLo l k := by omega
        have q2 : ¬ x > iHi l k := by omega
        go_wp2_with fail
        go_roundw
        case rel => exact ⟨k + 1, by omega, by go_num, by rw [Hn.out], (by ((repeat' (first | exact Below.refl _ _ | exact hB | refine Below.alloc ?_ ?_ _ | refine Below.setCell ?_ ?_ _ | refine Below.drew ?_ | refine below_drewN ?_ _ | refine Below.trans ?_ (hB.mono ?_))) <;> (first | omega | (simp; done) | (simp; omega))))⟩
        case measure => simp [intOf]; omega
      | false =>
        have hm := mskTo_lt16 (l := l) x hl hk
        have hn := mskTo_lt16 (l := l) x hl hlt
        have e1 : mskTo l x (k + 1) = mskTo l x k ||| 2 ^ k := by simp [mskTo, hval]
        have hw := wrap32_pow (k := k) (by omega)
        have hp : 2 ^ k < 65536 := Nat.pow_lt_pow_right (by decide) (show k < 16 by omega)
        have hor := u32_or_nat (mskTo l x k) (2 ^ k) (by omega) (by omega)
        rw [← e1] at hor
        obtain ⟨m', hm'⟩ : ∃ m', m' = mskTo l x (k + 1) := ⟨_, rfl⟩
        rw [← hm'] at hor hn
        have Hm' := hide hm'
        clear hm'
        generalize mskTo l x k = m at *
        rw [← Bool.not_eq_true, hasB_iff] at hval
        clear e1
        obtain ⟨p, hp2⟩ : ∃ p : Nat, p = 2 ^ k := ⟨_, rfl⟩
        rw [← hp2] at hw hor
        clear hp2 hp
        by_cases q1 : x < iLo l k
        · go_wp2_with fail
          go_roundw
          case rel => exact ⟨k + 1, by omega, by go_num, by rw [← Hm'.out], (by ((repeat' (first | exact Below.refl _ _ | exact hB | refine Below.alloc ?_ ?_ _ | refine Below.setCell ?_ ?_ _ | refine Below.drew ?_ | refine below_drewN ?_ _ | refine Below.trans ?_ (hB.mono ?_))) <;> (first | omega | (simp; done) | (simp; omega))))⟩
          case measure => simp [intOf]; omega
        · have q2 : x > iHi l k := by omega
          go_wp2_with fail
          go_roundw
          case rel => exact ⟨k + 1, by omega, by go_num, by rw [← Hm'.out], (by ((repeat' (first | exact Below.refl _ _ | exact hB | refine Below.alloc ?_ ?_ _ | refine Below.setCell ?_ ?_ _ | refine Below.drew ?_ | refine below_drewN ?_ _ | refine Below.trans ?_ (hB.mono ?_))) <;> (first | omega | (simp; done) | (simp; omega))))⟩
          case measure => simp [intOf]; omega
    · obtain rfl : k = l.length := by omega
      go_wp2
      go_ret
      exact ⟨rfl, hB⟩
set_option maxRecDepth 100000 in
set_option maxHeartbeats 1000000 in
theorem RWithout_any (v : Value) (l : List Iv) (x : Int) (w : World) (hv : IvRow w v l) (hl : l.length ≤ 1000) :
    Calls Tryd.prog 22 #[v, .int .i64 x] w fun e w' => ∃ ov, e = .returned ov ∧ OwnIs w' w.heap.size ov (woL l x) ∧ Below w.heap.size w w' := by
  obtain ⟨i0, hi, hz0, hz1, hz2⟩ := info_parts infoInt
  obtain ⟨a, cap, rfl, h1, h2, h3⟩ := hv
  go_enter Tryd.func22, Tryd.ntmps22
  go_wp2
  go_loopw [5, 6] (fun out i wr => ∃ k : Nat, k ≤ l.length ∧ i = .int .i64 k ∧ OwnIs wr w.heap.size out (woTo l x k) ∧ Below w.heap.size w wr) (fun _ i _ => l.length - (intOf i).toNat)
  case atStart => exact ⟨0, Nat.zero_le _, rfl, OwnIs.nil _ _, Below.refl _ _⟩
  case round =>
    obtain ⟨k, hk, rfl, hown, hB⟩ := hrel
    obtain ⟨oa, ocap, rfl, hc1, hc2⟩ := hown.val
    have hlen := woTo_length l x k
    by_cases hlt : k < l.length
    · obtain ⟨b, off, rfl, h4, h5, h6⟩ := h3 k hlt
      have h5' := (hB.cell (p := ⟨b, off + k * 2, none⟩) h4).trans h5
      have h6' := (hB.cell (p := ⟨b, off + k * 2 + 1, none⟩) h4).trans h6
      clear h5 h6 h3
      have hz := hB.size
      cases hval : hasB (iLo l k) (iHi l k) x with
      | true =>
        have Hn := hide (show woTo l x (k + 1) = woTo l x k by simp [woTo, hval])
        rw [hasB_iff] at hval
        have q1 : ¬ x < iLo l k := by omega
        have q2 : ¬ x > iHi l k := by omega
        go_wp2_with fail
        go_roundw
        case rel => exact ⟨k + 1, by omega, by go_num, by rw [Hn.out]; exact hown, (by ((repeat' (first | exact Below.refl _ _ | exact hB | refine Below.alloc ?_ ?_ _ | refine Below.setCell ?_ ?_ _ | refine Below.drew ?_ | refine below_drewN ?_ _ | refine Below.trans ?_ (hB.mono ?_))) <;> (first | omega | (simp; done) | (simp; omega))))⟩
        case measure => simp [intOf]; omega
      | false =>
        have Hn := hide (show woTo l x (k + 1) = woTo l x k ++ [(k : Int)] by simp [woTo, hval])
        rw [← Bool.not_eq_true, hasB_iff] at hval
        have hown' := hown
        unfold OwnIs at hown'
        have hlow := World.ownsRow.lt hown'
        by_cases q1 : x < iLo l k
        · go_wp2_with (at_builtin; refine wpList_append_own _ rfl _ _ 31 rfl w.heap.size 3 i0 (.int .i64 0) 1 8 Tryd.underlying31 hi hz0 hz1 hz2 rfl (by decide) _ _ (encI (woTo l x k)) rfl (World.ownsRow.alloc hown' _) ⟨wr.heap.size, 0, none⟩ 1 1 [.int .i64 k] rfl rfl (cells_new wr [.int .i64 k] _) (by simp [Value.oneCell']) (by unfold maxLen; omega) (by omega) (by simp; omega) ?_; intro v3 w3 hown3 hg3 _)
          go_roundw
          case rel => exact ⟨k + 1, by omega, by go_num, by rw [Hn.out]; exact OwnIs.app hown3, ((hB.alloc (by omega) _).grown hg3 (by simp; omega) (fun r h => (hlow r h).1))⟩
          case measure => simp [intOf]; omega
        · have q2 : x > iHi l k := by omega
          go_wp2_with (at_builtin; refine wpList_append_own _ rfl _ _ 31 rfl w.heap.size 3 i0 (.int .i64 0) 1 8 Tryd.underlying31 hi hz0 hz1 hz2 rfl (by decide) _ _ (encI (woTo l x k)) rfl (World.ownsRow.alloc hown' _) ⟨wr.heap.size, 0, none⟩ 1 1 [.int .i64 k] rfl rfl (cells_new wr [.int .i64 k] _) (by simp [Value.oneCell']) (by unfold maxLen; omega) (by omega) (by simp; omega) ?_; intro v3 w3 hown3 hg3 _)
          go_roundw
          case rel => exact ⟨k + 1, by omega, by go_num, by rw [Hn.out]; exact OwnIs.app hown3, ((hB.alloc (by omega) _).grown hg3 (by simp; omega) (fun r h => (hlow r h).1))⟩
          case measure => simp [intOf]; omega
    · obtain rfl : k = l.length := by omega
      go_wp2
      go_ret
      exact ⟨_, rfl, hown, hB⟩
end Go.Proofs.YtodkmbjhdckjiaaDoor
