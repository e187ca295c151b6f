/- Package plan: periods, costs. -/
import Derived.Test.YtiaahfccebmkdaaPlP
import Derived.Test.YtiaahfccebmkdaaWdA
namespace Go.Proofs.Ytiaahfccebmkdaa
open Go.RowKit

set_option maxRecDepth 100000 in
set_option maxHeartbeats 1000000 in
theorem isPeriods_any (r f lo tm : Int) (pv v : Value) (pl : List Int) (w : World) (hv : IsRow w v pl) :
    Calls Try.prog 40 #[.agg #[.int .i64 r, .int .i64 f, .int .i64 lo, .int .i64 tm, pv], v] w fun e w' => e = .returned (.bool (prdB tm pl)) ∧ Below w.heap.size w w' := by
  obtain ⟨a, cap, rfl, q1, q2, q3⟩ := hv
  have Q3 := hide q3
  clear q3
  obtain ⟨R, hR⟩ : ∃ R, R = prdB tm pl := ⟨_, rfl⟩
  rw [← hR]
  have HR := hide hR
  clear hR
  go_enter Try.func40, Try.ntmps40
  go_wp2_with fail
  go_loop [5, 12] (fun s5 s12 => ∃ k : Nat, k ≤ pl.length ∧ s12 = .int .i64 k ∧ s5 = .int .i64 (if k = 0 then tm else iAt pl (k - 1)) ∧ Hid (perB tm pl k = true)) (fun _ s12 => pl.length - (intOf s12).toNat)
  case atStart => exact ⟨0, Nat.zero_le _, rfl, rfl, hide rfl⟩
  case round =>
    obtain ⟨k, hk, rfl, rfl, Hp⟩ := hrel
    obtain ⟨la, hla⟩ : ∃ la, la = (if k = 0 then tm else iAt pl (k - 1)) := ⟨_, rfl⟩
    rw [← hla]
    by_cases hlt : k < pl.length
    · obtain ⟨b, off, rfl, h4, h5⟩ := Q3.out k hlt
      have h6 : (w.alloc (.cells #[.int .i64 r, .int .i64 f, .int .i64 lo, .int .i64 tm, pv] 24)).cell? ⟨b, off + k, none⟩ = some (.int .i64 (iAt pl k)) := (World.cell?_alloc_old _ _ _ (by simpa using Nat.ne_of_lt h4)).trans h5
      have hnx : perB tm pl (k + 1) = decide (la < iAt pl k ∧ 1 ≤ iAt pl k ∧ iAt pl k ≤ 1000000000000) := by rw [perB, Hp.out, ← hla]; rfl
      have hfa : ¬ (la < iAt pl k ∧ 1 ≤ iAt pl k ∧ iAt pl k ≤ 1000000000000) → R = false := fun h => by
        rw [HR.out]; unfold prdB; rw [perB_false (k := k) (by rw [← hla]; exact h) _ hlt]; rfl
      have Hnx := hide hnx
      have Hfa := hide hfa
      have hla' : (if k + 1 = 0 then tm else iAt pl (k + 1 - 1)) = iAt pl k := by simp
      have Hla := hide hla'
      have hI1 : (0 : Int) ≤ (k : Int) := by omega
      have hI2 : (k : Int) < (pl.length : Int) := by omega
      clear hnx hfa hla hla' h5
      generalize iAt pl k = y at *
      by_cases k1 : y ≤ la
      · go_wp2_with fail
        go_ret
        exact ⟨ret_bool (Hfa.out (by omega)).symm, (by ((repeat' (first | with_reducible exact Below.refl _ _ | with_reducible refine Below.alloc ?_ ?_ _ | with_reducible refine Below.setCell ?_ ?_ _ | with_reducible refine Below.drew ?_ | with_reducible refine below_drewN ?_ _)) <;> (first | omega | (simp; done) | (simp; omega))))⟩
      · by_cases k2 : y < 1
        · go_wp2_with fail
          go_ret
          exact ⟨ret_bool (Hfa.out (by omega)).symm, (by ((repeat' (first | with_reducible exact Below.refl _ _ | with_reducible refine Below.alloc ?_ ?_ _ | with_reducible refine Below.setCell ?_ ?_ _ | with_reducible refine Below.drew ?_ | with_reducible refine below_drewN ?_ _)) <;> (first | omega | (simp; done) | (simp; omega))))⟩
        · by_cases k3 : 1000000000000 < y
          · go_wp2_with fail
            go_ret
            exact ⟨ret_bool (Hfa.out (by omega)).symm, (by ((repeat' (first | with_reducible exact Below.refl _ _ | with_reducible refine Below.alloc ?_ ?_ _ | with_reducible refine Below.setCell ?_ ?_ _ | with_reducible refine Below.drew ?_ | with_reducible refine below_drewN ?_ _)) <;> (first | omega | (simp; done) | (simp; omega))))⟩
          · go_wp2_with fail
            go_round
            case rel => exact ⟨k + 1, by omega, by go_num, by rw [Hla.out], hide (by rw [Hnx.out]; exact decide_eq_true (by omega))⟩
            case measure => simp [intOf]; omega
    · obtain rfl : k = pl.length := by omega
      have hR : R = decide (1 ≤ pl.length ∧ pl.length ≤ 10) := by rw [HR.out]; unfold prdB; rw [Hp.out, Bool.true_and]
      have HR2 := hide hR
      by_cases k1 : 1 ≤ pl.length
      · by_cases k2 : pl.length ≤ 10
        · have d1 : decide ((1 : Int) ≤ (pl.length : Int)) = true := decide_eq_true (by omega)
          have d2 : decide ((pl.length : Int) ≤ 10) = true := decide_eq_true (by omega)
          clear hR
          go_wp2_with fail
          all_goals go_ret
          all_goals first | (exfalso; omega) | exact ⟨ret_bool (by rw [HR2.out]; first | exact (decide_eq_true ⟨k1, k2⟩).symm | exact decide_eq_true ⟨k1, k2⟩ | (simp; omega)), (by ((repeat' (first | with_reducible exact Below.refl _ _ | with_reducible refine Below.alloc ?_ ?_ _ | with_reducible refine Below.setCell ?_ ?_ _ | with_reducible refine Below.drew ?_ | with_reducible refine below_drewN ?_ _)) <;> (first | omega | (simp; done) | (simp; omega))))⟩
        · have d1 : decide ((1 : Int) ≤ (pl.length : Int)) = true := decide_eq_true (by omega)
          have d2 : decide ((pl.length : Int) ≤ 10) = false := decide_eq_false (by omega)
          clear hR
          go_wp2_with fail
          all_goals go_ret
          all_goals first | (exfalso; omega) | exact ⟨ret_bool (by rw [HR2.out]; first | exact (decide_eq_false (by omega)).symm | exact decide_eq_false (by omega) | (simp; omega)), (by ((repeat' (first | with_reducible exact Below.refl _ _ | with_reducible refine Below.alloc ?_ ?_ _ | with_reducible refine Below.setCell ?_ ?_ _ | with_reducible refine Below.drew ?_ | with_reducible refine below_drewN ?_ _)) <;> (first | omega | (simp; done) | (simp; omega))))⟩
      · have d1 : decide ((1 : Int) ≤ (pl.length : Int)) = false := decide_eq_false (by omega)
        clear hR
        go_wp2_with fail
        all_goals go_ret
        all_goals first | (exfalso; omega) | exact ⟨ret_bool (by rw [HR2.out]; first | exact (decide_eq_false (by omega)).symm | exact decide_eq_false (by omega) | (simp; omega)), (by ((repeat' (first | with_reducible exact Below.refl _ _ | with_reducible refine Below.alloc ?_ ?_ _ | with_reducible refine Below.setCell ?_ ?_ _ | with_reducible refine Below.drew ?_ | with_reducible refine below_drewN ?_ _)) <;> (first | omega | (simp; done) | (simp; omega))))⟩
set_option maxRecDepth 100000 in
set_option maxHeartbeats 1000000 in
theorem cost_any (r f lo tm : Int) (pv : Value) (ps : List Pr) (uv : Value) (use : List Int) (ev : Int) (w : World) (hp : PrRow w pv ps) (hu : IsRow w uv use) (hun : use.length ≤ 1000) (hin : ∀ j, j < use.length → (0 ≤ iAt use j ∧ iAt use j < ps.length) ∧ 0 ≤ (pAt ps (iAt use j).toNat).co ∧ (pAt ps (iAt use j).toNat).co ≤ 1000000) :
    Calls Try.prog 61 #[.agg #[.int .i64 r, .int .i64 f, .int .i64 lo, .int .i64 tm, pv], .agg #[uv, .int .i64 ev]] w fun e w' => e = .returned (.int .u64 (costL ps use)) ∧ w' = (w.alloc (.cells #[.int .i64 r, .int .i64 f, .int .i64 lo, .int .i64 tm, pv] 24)).alloc (.cells #[uv, .int .i64 ev] 29) := by
  obtain ⟨pa, pc, rfl, q1, q2, q3⟩ := hp
  obtain ⟨ua, uc, rfl, u1, u2, u3⟩ := hu
  have Q3 := hide q3
  have U3 := hide u3
  have Hin := hide hin
  have hbd := costTo_bd (r := 0) (tm := 0) (fun j hj => (hin j hj).2)
  have Hbd := hide hbd
  clear q3 u3 hin hbd
  go_enter Try.func61, Try.ntmps61
  go_wp2_with fail
  go_loop [5, 11] (fun s5 s11 => ∃ k : Nat, k ≤ use.length ∧ s11 = .int .i64 k ∧ s5 = .int .u64 (costTo ps use k)) (fun _ s11 => use.length - (intOf s11).toNat)
  case atStart => exact ⟨0, Nat.zero_le _, rfl, rfl⟩
  case round =>
    obtain ⟨k, hk, rfl, rfl⟩ := hrel
    by_cases hlt : k < use.length
    · obtain ⟨b, off, rfl, h4, h5⟩ := U3.out k hlt
      obtain ⟨⟨i1, i2⟩, i3, i4⟩ := Hin.out k hlt
      have hb0 := Hbd.out k hk
      have hst : costTo ps use (k + 1) = costTo ps use k + (pAt ps (iAt use k).toNat).co := rfl
      obtain ⟨q, hq⟩ : ∃ q : Nat, iAt use k = q := ⟨(iAt use k).toNat, by omega⟩
      rw [hq] at h5 i2
      rw [hq, Int.toNat_natCast] at hst
      rw [hq, Int.toNat_natCast] at i3 i4
      obtain ⟨b2, off2, rfl, g4, g5⟩ := Q3.out q (by omega)
      have g6 : w.cell? ⟨b2, off2 + q * 8 + 2, none⟩ = some (.int .i64 (pAt ps q).co) := g5.2.2.1
      have hst2 := hide hst
      have I1 : (0 : Int) ≤ (k : Int) := by omega
      have I2 : (k : Int) < (use.length : Int) := by omega
      have I3 : (0 : Int) ≤ (q : Int) := by omega
      clear hst i1 hq g5
      generalize (pAt ps q).co = y at *
      generalize costTo ps use k = z at *
      go_wp2_with fail
      go_round
      case rel => exact ⟨k + 1, by omega, by go_num, by rw [hst2.out]⟩
      case measure => simp [intOf]; omega
    · obtain rfl : k = use.length := by omega
      go_wp2_with fail
      go_ret
      exact ⟨rfl, rfl⟩
end Go.Proofs.Ytiaahfccebmkdaa
