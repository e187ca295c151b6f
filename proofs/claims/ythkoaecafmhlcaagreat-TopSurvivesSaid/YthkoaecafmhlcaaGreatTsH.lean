/- Package commit: formed. -/
import Derived.Test.YthkoaecafmhlcaaGreatTsG
namespace Go.Proofs.YthkoaecafmhlcaaGreat
open Go.RowKit
attribute [local go_sem ↓] run_max_mx run_min_mn
attribute [local simp] size_drewT

theorem btw_same (n lo hi : Int) (w : World) : Calls Tryz.prog 83 #[.int .i64 n, .int .i64 lo, .int .i64 hi] w fun e w' => e = .returned (.bool (tsB lo n hi)) ∧ w' = w := (btw_any n lo hi w).mono fun _e _w' ⟨h1, h2⟩ => ⟨h1, h2.symm⟩
set_option maxRecDepth 100000 in
set_option maxHeartbeats 4000000 in
theorem formed_any (rv wv : Value) (t : Tx) (w : World) (ht : TvRd w rv wv t) :
  Calls Tryz.prog 48 #[valT rv wv t] w fun e w' => (∃ b : Bool, e = .returned (.bool b) ∧ (b = true ↔ Fm t)) ∧ Below w.heap.size w w' := by
 obtain ⟨a1, cap1, rfl, r1, r2, -⟩ := id ht.1
 obtain ⟨a2, cap2, rfl, s1, s2, -⟩ := id ht.2
 obtain ⟨id, ts, rl, wl⟩ := t
 dsimp only [valT] at *
 obtain ⟨W, hW⟩ : ∃ V, V = w.alloc (.cells #[.int .i64 id, .int .i64 ts, .slice a1 rl.length cap1, .slice a2 wl.length cap2] 103) := ⟨_, rfl⟩
 have hBox : BxC W w.heap.size [.int .i64 id, .int .i64 ts, .slice a1 rl.length cap1, .slice a2 wl.length cap2] := by rw [hW]; exact BxC.made w _ _
 have b0 : Below w.heap.size w W := by rw [hW]; ((with_reducible repeat' first | exact .refl _ _ | refine .alloc ?_ ?_ _ | refine .setCell ?_ ?_ _ | refine .drew ?_ | refine below_drewN ?_ _) <;> first | omega | simp <;> omega)
 have HS := hide (fun (V : World) (hV : Below W.heap.size W V) => And.intro (hBox.below hBox.2.2 hV) (ht.below (Nat.le_refl _) (b0.trans (hV.mono b0.size))))
 have HB0 := hide b0
 have hzW := hBox.2.2
 have q0 := hBox.1 2 _ rfl
 clear ht hBox b0
 go_enter Tryz.func48, Tryz.ntmps48
 go_upto_region 1 with fail
 rw [← hW]
 clear hW
 go_wp2_with fail
 clear q0
 go_loopw [11] (fun s11 wx => ∃ k : Nat, k ≤ rl.length ∧ s11 = .int .i64 k ∧ Hid (∀ i, i < k → RdI rl i) ∧ Below W.heap.size W wx) (fun s11 _ => rl.length - (intOf s11).toNat)
 case atStart => exact ⟨0, Nat.zero_le _, rfl, hide (fun i hi => by omega), .refl _ _⟩
 case round =>
  obtain ⟨k, hk, rfl, Hk, hB⟩ := hrel
  by_cases hlt : k < rl.length
  ·skip
   obtain ⟨hbx, htv⟩ := HS.out wr hB
   have q2 := hbx.1 2 _ rfl
   have hzr := hB.size
   have hz1 : w.heap.size < wr.heap.size := hbx.2.2
   obtain ⟨b, off, cap', hb, hlt0, x0, x1⟩ := SRow.at_ htv.1 (i := k) hlt
   cases hb
   obtain ⟨sk, hsk⟩ : ∃ x, x = (rl.getD k (0, 0)).1 := ⟨_, rfl⟩
   obtain ⟨st, hst⟩ : ∃ x, x = (rl.getD k (0, 0)).2 := ⟨_, rfl⟩
   dsimp only at x0 x1
   rw [← hsk] at x0
   rw [← hst] at x1
   have I1 : (0 : Int) ≤ (k : Int) := by omega
   have I2 : (k : Int) < (rl.length : Int) := by omega
   have mixed : Tryz.prog.follows Departure.mixedOrders = true := by kernel_rfl
   by_cases h1 : 1 ≤ sk ∧ sk ≤ 1000
   ·by_cases h2 : 0 ≤ st ∧ st ≤ 3000000000000000
    ·by_cases hk0 : k = 0
     ·have d1 : tsB 1 sk 1000 = true := tsB_true h1
      have d2 : tsB 0 st 3000000000000000 = true := tsB_true h2
      have d0 : decide ((0 : Int) < (k : Int)) = false := decide_eq_false (by omega)
      have d0n : decide (0 < k) = false := decide_eq_false (by omega)
      have hgood : ∀ i, i < k + 1 → RdI rl i := fun i hi => by
       rcases Nat.lt_or_ge i k with h | h
       ·exact Hk.out i h
       ·obtain rfl : i = k := by omega
        unfold RdI
        rw [← hsk, ← hst]
        exact ⟨h1, h2, fun h => by omega⟩
      have HG := hide hgood
      clear hgood
      clear hsk hst htv hbx hk0
      go_upto_region 4 with fail
      obtain ⟨W2, hW2⟩ : ∃ V, V = wr.alloc (.cells #[.int .i64 sk, .int .i64 st] 113) := ⟨_, rfl⟩
      rw [← hW2]
      have c0 : W2.cell? ⟨wr.heap.size, 0, none⟩ = some (.int .i64 sk) := by rw [hW2]; simp
      have c1 : W2.cell? ⟨wr.heap.size, 1, none⟩ = some (.int .i64 st) := by rw [hW2]; simp
      have bw2 : Below wr.heap.size wr W2 := by rw [hW2]; ((with_reducible repeat' first | exact .refl _ _ | refine .alloc ?_ ?_ _ | refine .setCell ?_ ?_ _ | refine .drew ?_ | refine below_drewN ?_ _) <;> first | omega | simp <;> omega)
      have zW2 : wr.heap.size < W2.heap.size := by rw [hW2]; simp
      have y2 := (bw2.cell (p := ⟨w.heap.size, 2, none⟩) hz1).trans q2
      have B2 : Below W.heap.size W W2 := hB.trans (bw2.mono hB.size)
      clear hW2 bw2
      go_quiet ((go_at_call 83; exact Calls.quiet_of_same (btw_same _ _ _ _)))
      go_wp2_with fail
      go_roundw
      case rel => exact ⟨k + 1, by omega, by go_num, HG, below_drewN B2 _⟩
      case measure => simp [intOf]; omega
     ·obtain ⟨m, hm⟩ : ∃ m, k = m + 1 := ⟨k - 1, by omega⟩
      obtain ⟨b', off', cap', hb, -, x2, -⟩ := SRow.at_ htv.1 (i := m) (by dsimp only; omega)
      cases hb
      obtain ⟨pk, hpk⟩ : ∃ x, x = (rl.getD m (0, 0)).1 := ⟨_, rfl⟩
      dsimp only at x2
      rw [← hpk] at x2
      by_cases h3 : sk ≤ pk
      ·have d1 : tsB 1 sk 1000 = true := tsB_true h1
       have d2 : tsB 0 st 3000000000000000 = true := tsB_true h2
       have d0 : decide ((0 : Int) < (k : Int)) = true := decide_eq_true (by omega)
       have d0n : decide (0 < k) = true := decide_eq_true (by omega)
       have hkp : 0 < k := by omega
       have d3 : decide (sk ≤ pk) = true := decide_eq_true h3
       have wm : IntKind.i64.wrap ((k : Int) - 1) = (m : Int) := by rw [show ((k : Int) - 1) = (m : Int) by omega]; exact IntWalk.i64_in _ (by omega)
       have I5 : (0 : Int) ≤ (m : Int) := by omega
       have I6 : (m : Int) < (rl.length : Int) := by omega
       have hbad : ¬ RdI rl k := fun h => by
        unfold RdI at h
        rw [← hsk, ← hst] at h
        have h4 := h.2.2 (by omega)
        rw [show k - 1 = m by omega, ← hpk] at h4
        omega
       have HBd := hide hbad
       clear hbad
       clear hsk hst htv hbx hpk hm hk0
       go_upto_region 4 with fail
       obtain ⟨W2, hW2⟩ : ∃ V, V = wr.alloc (.cells #[.int .i64 sk, .int .i64 st] 113) := ⟨_, rfl⟩
       rw [← hW2]
       have c0 : W2.cell? ⟨wr.heap.size, 0, none⟩ = some (.int .i64 sk) := by rw [hW2]; simp
       have c1 : W2.cell? ⟨wr.heap.size, 1, none⟩ = some (.int .i64 st) := by rw [hW2]; simp
       have bw2 : Below wr.heap.size wr W2 := by rw [hW2]; ((with_reducible repeat' first | exact .refl _ _ | refine .alloc ?_ ?_ _ | refine .setCell ?_ ?_ _ | refine .drew ?_ | refine below_drewN ?_ _) <;> first | omega | simp <;> omega)
       have zW2 : wr.heap.size < W2.heap.size := by rw [hW2]; simp
       have y2 := (bw2.cell (p := ⟨w.heap.size, 2, none⟩) hz1).trans q2
       have p0 := (bw2.cell (p := ⟨b, off + m * 2, none⟩) hlt0).trans x2
       have B2 : Below W.heap.size W W2 := hB.trans (bw2.mono hB.size)
       clear hW2 bw2
       go_quiet ((go_at_call 83; exact Calls.quiet_of_same (btw_same _ _ _ _)))
       go_wp2_with fail
       go_ret
       exact ⟨⟨false, rfl, ⟨fun h => by simp at h, fun h => absurd (h.1 k hlt) HBd.out⟩⟩, below_drewN (HB0.out.trans (B2.mono HB0.out.size)) _⟩
      ·have d1 : tsB 1 sk 1000 = true := tsB_true h1
       have d2 : tsB 0 st 3000000000000000 = true := tsB_true h2
       have d0 : decide ((0 : Int) < (k : Int)) = true := decide_eq_true (by omega)
       have d0n : decide (0 < k) = true := decide_eq_true (by omega)
       have hkp : 0 < k := by omega
       have d3 : decide (sk ≤ pk) = false := decide_eq_false h3
       have wm : IntKind.i64.wrap ((k : Int) - 1) = (m : Int) := by rw [show ((k : Int) - 1) = (m : Int) by omega]; exact IntWalk.i64_in _ (by omega)
       have I5 : (0 : Int) ≤ (m : Int) := by omega
       have I6 : (m : Int) < (rl.length : Int) := by omega
       have hgood : ∀ i, i < k + 1 → RdI rl i := fun i hi => by
        rcases Nat.lt_or_ge i k with h | h
        ·exact Hk.out i h
        ·obtain rfl : i = k := by omega
         unfold RdI
         rw [← hsk, ← hst]
         refine ⟨h1, h2, fun _ => ?_⟩
         rw [show i - 1 = m by omega, ← hpk]
         omega
       have HG := hide hgood
       clear hgood
       clear hsk hst htv hbx hpk hm hk0
       go_upto_region 4 with fail
       obtain ⟨W2, hW2⟩ : ∃ V, V = wr.alloc (.cells #[.int .i64 sk, .int .i64 st] 113) := ⟨_, rfl⟩
       rw [← hW2]
       have c0 : W2.cell? ⟨wr.heap.size, 0, none⟩ = some (.int .i64 sk) := by rw [hW2]; simp
       have c1 : W2.cell? ⟨wr.heap.size, 1, none⟩ = some (.int .i64 st) := by rw [hW2]; simp
       have bw2 : Below wr.heap.size wr W2 := by rw [hW2]; ((with_reducible repeat' first | exact .refl _ _ | refine .alloc ?_ ?_ _ | refine .setCell ?_ ?_ _ | refine .drew ?_ | refine below_drewN ?_ _) <;> first | omega | simp <;> omega)
       have zW2 : wr.heap.size < W2.heap.size := by rw [hW2]; simp
       have y2 := (bw2.cell (p := ⟨w.heap.size, 2, none⟩) hz1).trans q2
       have p0 := (bw2.cell (p := ⟨b, off + m * 2, none⟩) hlt0).trans x2
       have B2 : Below W.heap.size W W2 := hB.trans (bw2.mono hB.size)
       clear hW2 bw2
       go_quiet ((go_at_call 83; exact Calls.quiet_of_same (btw_same _ _ _ _)))
       go_wp2_with fail
       go_roundw
       case rel => exact ⟨k + 1, by omega, by go_num, HG, below_drewN B2 _⟩
       case measure => simp [intOf]; omega
    ·have d1 : tsB 1 sk 1000 = true := tsB_true h1
     have d2 : tsB 0 st 3000000000000000 = false := tsB_false.2 h2
     have hbad : ¬ RdI rl k := fun h => by
      unfold RdI at h
      rw [← hsk, ← hst] at h
      exact h2 h.2.1
     have HBd := hide hbad
     clear hbad
     clear hsk hst htv hbx
     go_upto_region 4 with fail
     obtain ⟨W2, hW2⟩ : ∃ V, V = wr.alloc (.cells #[.int .i64 sk, .int .i64 st] 113) := ⟨_, rfl⟩
     rw [← hW2]
     have c0 : W2.cell? ⟨wr.heap.size, 0, none⟩ = some (.int .i64 sk) := by rw [hW2]; simp
     have c1 : W2.cell? ⟨wr.heap.size, 1, none⟩ = some (.int .i64 st) := by rw [hW2]; simp
     have bw2 : Below wr.heap.size wr W2 := by rw [hW2]; ((with_reducible repeat' first | exact .refl _ _ | refine .alloc ?_ ?_ _ | refine .setCell ?_ ?_ _ | refine .drew ?_ | refine below_drewN ?_ _) <;> first | omega | simp <;> omega)
     have zW2 : wr.heap.size < W2.heap.size := by rw [hW2]; simp
     have y2 := (bw2.cell (p := ⟨w.heap.size, 2, none⟩) hz1).trans q2
     have B2 : Below W.heap.size W W2 := hB.trans (bw2.mono hB.size)
     clear hW2 bw2
     go_quiet ((go_at_call 83; exact Calls.quiet_of_same (btw_same _ _ _ _)))
     go_wp2_with fail
     go_ret
     exact ⟨⟨false, rfl, ⟨fun h => by simp at h, fun h => absurd (h.1 k hlt) HBd.out⟩⟩, below_drewN (HB0.out.trans (B2.mono HB0.out.size)) _⟩
   ·have d1 : tsB 1 sk 1000 = false := tsB_false.2 h1
    have hbad : ¬ RdI rl k := fun h => by
     unfold RdI at h
     rw [← hsk, ← hst] at h
     exact h1 h.1
    have HBd := hide hbad
    clear hbad
    clear hsk hst htv hbx
    go_upto_region 4 with fail
    obtain ⟨W2, hW2⟩ : ∃ V, V = wr.alloc (.cells #[.int .i64 sk, .int .i64 st] 113) := ⟨_, rfl⟩
    rw [← hW2]
    have c0 : W2.cell? ⟨wr.heap.size, 0, none⟩ = some (.int .i64 sk) := by rw [hW2]; simp
    have c1 : W2.cell? ⟨wr.heap.size, 1, none⟩ = some (.int .i64 st) := by rw [hW2]; simp
    have bw2 : Below wr.heap.size wr W2 := by rw [hW2]; ((with_reducible repeat' first | exact .refl _ _ | refine .alloc ?_ ?_ _ | refine .setCell ?_ ?_ _ | refine .drew ?_ | refine below_drewN ?_ _) <;> first | omega | simp <;> omega)
    have zW2 : wr.heap.size < W2.heap.size := by rw [hW2]; simp
    have y2 := (bw2.cell (p := ⟨w.heap.size, 2, none⟩) hz1).trans q2
    have B2 : Below W.heap.size W W2 := hB.trans (bw2.mono hB.size)
    clear hW2 bw2
    go_quiet ((go_at_call 83; exact Calls.quiet_of_same (btw_same _ _ _ _)))
    go_wp2_with fail
    go_ret
    exact ⟨⟨false, rfl, ⟨fun h => by simp at h, fun h => absurd (h.1 k hlt) HBd.out⟩⟩, below_drewN (HB0.out.trans (B2.mono HB0.out.size)) _⟩
  ·obtain rfl : k = rl.length := by omega
   have HRd := Hk
   obtain ⟨hbx, htv⟩ := HS.out wr hB
   have q3 := hbx.1 3 _ rfl
   have hz1 : w.heap.size < wr.heap.size := hbx.2.2
   clear Hk hbx htv
   go_wp2_with fail
   clear q3
   go_loopw [48] (fun s48 wx => ∃ k : Nat, k ≤ wl.length ∧ s48 = .int .i64 k ∧ Hid (∀ i, i < k → WrI wl i) ∧ Below W.heap.size W wx) (fun s48 _ => wl.length - (intOf s48).toNat)
   case atStart => exact ⟨0, Nat.zero_le _, rfl, hide (fun i hi => by omega), hB⟩
   case round =>
    clear hB hz1
    obtain ⟨k, hk, rfl, Hk, hB⟩ := hrel
    by_cases hlt : k < wl.length
    ·skip
     obtain ⟨hbx, htv⟩ := HS.out wr hB
     have q3 := hbx.1 3 _ rfl
     have hzr := hB.size
     have hz1 : w.heap.size < wr.heap.size := hbx.2.2
     obtain ⟨b, off, cap', hb, hlt0, x0, x1, x3⟩ := WRow.at_ htv.2 (i := k) hlt
     cases hb
     obtain ⟨⟨sk, st, sg⟩, hel⟩ : ∃ x, x = wAt wl k := ⟨_, rfl⟩
     dsimp only at x0 x1 x3
     rw [← hel] at x0 x1 x3
     dsimp only at x0 x1 x3
     have I1 : (0 : Int) ≤ (k : Int) := by omega
     have I2 : (k : Int) < (wl.length : Int) := by omega
     have mixed : Tryz.prog.follows Departure.mixedOrders = true := by kernel_rfl
     by_cases h1 : 1 ≤ sk ∧ sk ≤ 1000
     ·by_cases h2 : 0 ≤ st ∧ st ≤ 1000000
      ·have hcase : sg = false ∨ (sg = true ∧ st = 0) ∨ (sg = true ∧ ¬ st = 0) := by cases sg <;> simp <;> omega
       rcases hcase with rfl | ⟨rfl, rfl⟩ | ⟨rfl, hz⟩
       ·by_cases hk0 : k = 0
        ·have d1 : tsB 1 sk 1000 = true := tsB_true h1
         have d2 : tsB 0 st 1000000 = true := tsB_true h2
         have d0 : decide ((0 : Int) < (k : Int)) = false := decide_eq_false (by omega)
         have d0n : decide (0 < k) = false := decide_eq_false (by omega)
         have hgood : ∀ i, i < k + 1 → WrI wl i := fun i hi => by
          rcases Nat.lt_or_ge i k with h | h
          ·exact Hk.out i h
          ·obtain rfl : i = k := by omega
           unfold WrI
           rw [← hel]
           exact ⟨h1, h2, fun h => by simp at h, fun h => by omega⟩
         have HG := hide hgood
         clear hgood
         clear hel htv hbx hk0
         go_upto_region 10 with fail
         obtain ⟨W2, hW2⟩ : ∃ V, V = wr.alloc (.cells #[.int .i64 sk, .int .i64 st, .bool false] 74) := ⟨_, rfl⟩
         rw [← hW2]
         have c0 : W2.cell? ⟨wr.heap.size, 0, none⟩ = some (.int .i64 sk) := by rw [hW2]; simp
         have c1 : W2.cell? ⟨wr.heap.size, 1, none⟩ = some (.int .i64 st) := by rw [hW2]; simp
         have c2 : W2.cell? ⟨wr.heap.size, 2, none⟩ = some (.bool false) := by rw [hW2]; simp
         have bw2 : Below wr.heap.size wr W2 := by rw [hW2]; ((with_reducible repeat' first | exact .refl _ _ | refine .alloc ?_ ?_ _ | refine .setCell ?_ ?_ _ | refine .drew ?_ | refine below_drewN ?_ _) <;> first | omega | simp <;> omega)
         have zW2 : wr.heap.size < W2.heap.size := by rw [hW2]; simp
         have y3 := (bw2.cell (p := ⟨w.heap.size, 3, none⟩) hz1).trans q3
         have B2 : Below W.heap.size W W2 := hB.trans (bw2.mono hB.size)
         clear hW2 bw2
         go_quiet ((go_at_call 83; exact Calls.quiet_of_same (btw_same _ _ _ _)))
         go_wp2_with fail
         go_roundw
         case rel => exact ⟨k + 1, by omega, by go_num, HG, below_drewN B2 _⟩
         case measure => simp [intOf]; omega
        ·obtain ⟨m, hm⟩ : ∃ m, k = m + 1 := ⟨k - 1, by omega⟩
         obtain ⟨b', off', cap', hb, -, x4, -, -⟩ := WRow.at_ htv.2 (i := m) (by dsimp only; omega)
         cases hb
         obtain ⟨pk, hpk⟩ : ∃ x, x = (wAt wl m).key := ⟨_, rfl⟩
         dsimp only at x4
         rw [← hpk] at x4
         by_cases h3 : sk ≤ pk
         ·have d1 : tsB 1 sk 1000 = true := tsB_true h1
          have d2 : tsB 0 st 1000000 = true := tsB_true h2
          have d0 : decide ((0 : Int) < (k : Int)) = true := decide_eq_true (by omega)
          have d0n : decide (0 < k) = true := decide_eq_true (by omega)
          have hkp : 0 < k := by omega
          have d3 : decide (sk ≤ pk) = true := decide_eq_true h3
          have wm : IntKind.i64.wrap ((k : Int) - 1) = (m : Int) := by rw [show ((k : Int) - 1) = (m : Int) by omega]; exact IntWalk.i64_in _ (by omega)
          have I5 : (0 : Int) ≤ (m : Int) := by omega
          have I6 : (m : Int) < (wl.length : Int) := by omega
          have hbad : ¬ WrI wl k := fun h => by
           unfold WrI at h
           rw [← hel] at h
           have h4 := h.2.2.2 (by omega)
           rw [show k - 1 = m by omega, ← hpk] at h4
           dsimp only at h4
           omega
          have HBd := hide hbad
          clear hbad
          clear hel htv hbx hpk hm hk0
          go_upto_region 10 with fail
          obtain ⟨W2, hW2⟩ : ∃ V, V = wr.alloc (.cells #[.int .i64 sk, .int .i64 st, .bool false] 74) := ⟨_, rfl⟩
          rw [← hW2]
          have c0 : W2.cell? ⟨wr.heap.size, 0, none⟩ = some (.int .i64 sk) := by rw [hW2]; simp
          have c1 : W2.cell? ⟨wr.heap.size, 1, none⟩ = some (.int .i64 st) := by rw [hW2]; simp
          have c2 : W2.cell? ⟨wr.heap.size, 2, none⟩ = some (.bool false) := by rw [hW2]; simp
          have bw2 : Below wr.heap.size wr W2 := by rw [hW2]; ((with_reducible repeat' first | exact .refl _ _ | refine .alloc ?_ ?_ _ | refine .setCell ?_ ?_ _ | refine .drew ?_ | refine below_drewN ?_ _) <;> first | omega | simp <;> omega)
          have zW2 : wr.heap.size < W2.heap.size := by rw [hW2]; simp
          have y3 := (bw2.cell (p := ⟨w.heap.size, 3, none⟩) hz1).trans q3
          have p0 := (bw2.cell (p := ⟨b, off + m * 3, none⟩) hlt0).trans x4
          have B2 : Below W.heap.size W W2 := hB.trans (bw2.mono hB.size)
          clear hW2 bw2
          go_quiet ((go_at_call 83; exact Calls.quiet_of_same (btw_same _ _ _ _)))
          go_wp2_with fail
          go_ret
          exact ⟨⟨false, rfl, ⟨fun h => by simp at h, fun h => absurd (h.2.1 k hlt) HBd.out⟩⟩, below_drewN (HB0.out.trans (B2.mono HB0.out.size)) _⟩
         ·have d1 : tsB 1 sk 1000 = true := tsB_true h1
          have d2 : tsB 0 st 1000000 = true := tsB_true h2
          have d0 : decide ((0 : Int) < (k : Int)) = true := decide_eq_true (by omega)
          have d0n : decide (0 < k) = true := decide_eq_true (by omega)
          have hkp : 0 < k := by omega
          have d3 : decide (sk ≤ pk) = false := decide_eq_false h3
          have wm : IntKind.i64.wrap ((k : Int) - 1) = (m : Int) := by rw [show ((k : Int) - 1) = (m : Int) by omega]; exact IntWalk.i64_in _ (by omega)
          have I5 : (0 : Int) ≤ (m : Int) := by omega
          have I6 : (m : Int) < (wl.length : Int) := by omega
          have hgood : ∀ i, i < k + 1 → WrI wl i := fun i hi => by
           rcases Nat.lt_or_ge i k with h | h
           ·exact Hk.out i h
           ·obtain rfl : i = k := by omega
            unfold WrI
            rw [← hel]
            refine ⟨h1, h2, fun h => by simp at h, fun _ => ?_⟩
            rw [show i - 1 = m by omega, ← hpk]
            dsimp only
            omega
          have HG := hide hgood
          clear hgood
          clear hel htv hbx hpk hm hk0
          go_upto_region 10 with fail
          obtain ⟨W2, hW2⟩ : ∃ V, V = wr.alloc (.cells #[.int .i64 sk, .int .i64 st, .bool false] 74) := ⟨_, rfl⟩
          rw [← hW2]
          have c0 : W2.cell? ⟨wr.heap.size, 0, none⟩ = some (.int .i64 sk) := by rw [hW2]; simp
          have c1 : W2.cell? ⟨wr.heap.size, 1, none⟩ = some (.int .i64 st) := by rw [hW2]; simp
          have c2 : W2.cell? ⟨wr.heap.size, 2, none⟩ = some (.bool false) := by rw [hW2]; simp
          have bw2 : Below wr.heap.size wr W2 := by rw [hW2]; ((with_reducible repeat' first | exact .refl _ _ | refine .alloc ?_ ?_ _ | refine .setCell ?_ ?_ _ | refine .drew ?_ | refine below_drewN ?_ _) <;> first | omega | simp <;> omega)
          have zW2 : wr.heap.size < W2.heap.size := by rw [hW2]; simp
          have y3 := (bw2.cell (p := ⟨w.heap.size, 3, none⟩) hz1).trans q3
          have p0 := (bw2.cell (p := ⟨b, off + m * 3, none⟩) hlt0).trans x4
          have B2 : Below W.heap.size W W2 := hB.trans (bw2.mono hB.size)
          clear hW2 bw2
          go_quiet ((go_at_call 83; exact Calls.quiet_of_same (btw_same _ _ _ _)))
          go_wp2_with fail
          go_roundw
          case rel => exact ⟨k + 1, by omega, by go_num, HG, below_drewN B2 _⟩
          case measure => simp [intOf]; omega
       ·by_cases hk0 : k = 0
        ·have d1 : tsB 1 sk 1000 = true := tsB_true h1
         have d2 : tsB 0 (0 : Int) 1000000 = true := tsB_true h2
         have dz : ((0 : Int) == 0) = true := by simp
         have dz2 : ((0 : Int) != 0) = false := by simp [bne]
         have d0 : decide ((0 : Int) < (k : Int)) = false := decide_eq_false (by omega)
         have d0n : decide (0 < k) = false := decide_eq_false (by omega)
         have hgood : ∀ i, i < k + 1 → WrI wl i := fun i hi => by
          rcases Nat.lt_or_ge i k with h | h
          ·exact Hk.out i h
          ·obtain rfl : i = k := by omega
           unfold WrI
           rw [← hel]
           exact ⟨h1, h2, fun _ => rfl, fun h => by omega⟩
         have HG := hide hgood
         clear hgood
         clear hel htv hbx hk0
         go_upto_region 10 with fail
         obtain ⟨W2, hW2⟩ : ∃ V, V = wr.alloc (.cells #[.int .i64 sk, .int .i64 0, .bool true] 74) := ⟨_, rfl⟩
         rw [← hW2]
         have c0 : W2.cell? ⟨wr.heap.size, 0, none⟩ = some (.int .i64 sk) := by rw [hW2]; simp
         have c1 : W2.cell? ⟨wr.heap.size, 1, none⟩ = some (.int .i64 0) := by rw [hW2]; simp
         have c2 : W2.cell? ⟨wr.heap.size, 2, none⟩ = some (.bool true) := by rw [hW2]; simp
         have bw2 : Below wr.heap.size wr W2 := by rw [hW2]; ((with_reducible repeat' first | exact .refl _ _ | refine .alloc ?_ ?_ _ | refine .setCell ?_ ?_ _ | refine .drew ?_ | refine below_drewN ?_ _) <;> first | omega | simp <;> omega)
         have zW2 : wr.heap.size < W2.heap.size := by rw [hW2]; simp
         have y3 := (bw2.cell (p := ⟨w.heap.size, 3, none⟩) hz1).trans q3
         have B2 : Below W.heap.size W W2 := hB.trans (bw2.mono hB.size)
         clear hW2 bw2
         go_quiet ((go_at_call 83; exact Calls.quiet_of_same (btw_same _ _ _ _)))
         go_wp2_with fail
         go_roundw
         case rel => exact ⟨k + 1, by omega, by go_num, HG, below_drewN B2 _⟩
         case measure => simp [intOf]; omega
        ·obtain ⟨m, hm⟩ : ∃ m, k = m + 1 := ⟨k - 1, by omega⟩
         obtain ⟨b', off', cap', hb, -, x4, -, -⟩ := WRow.at_ htv.2 (i := m) (by dsimp only; omega)
         cases hb
         obtain ⟨pk, hpk⟩ : ∃ x, x = (wAt wl m).key := ⟨_, rfl⟩
         dsimp only at x4
         rw [← hpk] at x4
         by_cases h3 : sk ≤ pk
         ·have d1 : tsB 1 sk 1000 = true := tsB_true h1
          have d2 : tsB 0 (0 : Int) 1000000 = true := tsB_true h2
          have dz : ((0 : Int) == 0) = true := by simp
          have dz2 : ((0 : Int) != 0) = false := by simp [bne]
          have d0 : decide ((0 : Int) < (k : Int)) = true := decide_eq_true (by omega)
          have d0n : decide (0 < k) = true := decide_eq_true (by omega)
          have hkp : 0 < k := by omega
          have d3 : decide (sk ≤ pk) = true := decide_eq_true h3
          have wm : IntKind.i64.wrap ((k : Int) - 1) = (m : Int) := by rw [show ((k : Int) - 1) = (m : Int) by omega]; exact IntWalk.i64_in _ (by omega)
          have I5 : (0 : Int) ≤ (m : Int) := by omega
          have I6 : (m : Int) < (wl.length : Int) := by omega
          have hbad : ¬ WrI wl k := fun h => by
           unfold WrI at h
           rw [← hel] at h
           have h4 := h.2.2.2 (by omega)
           rw [show k - 1 = m by omega, ← hpk] at h4
           dsimp only at h4
           omega
          have HBd := hide hbad
          clear hbad
          clear hel htv hbx hpk hm hk0
          go_upto_region 10 with fail
          obtain ⟨W2, hW2⟩ : ∃ V, V = wr.alloc (.cells #[.int .i64 sk, .int .i64 0, .bool true] 74) := ⟨_, rfl⟩
          rw [← hW2]
          have c0 : W2.cell? ⟨wr.heap.size, 0, none⟩ = some (.int .i64 sk) := by rw [hW2]; simp
          have c1 : W2.cell? ⟨wr.heap.size, 1, none⟩ = some (.int .i64 0) := by rw [hW2]; simp
          have c2 : W2.cell? ⟨wr.heap.size, 2, none⟩ = some (.bool true) := by rw [hW2]; simp
          have bw2 : Below wr.heap.size wr W2 := by rw [hW2]; ((with_reducible repeat' first | exact .refl _ _ | refine .alloc ?_ ?_ _ | refine .setCell ?_ ?_ _ | refine .drew ?_ | refine below_drewN ?_ _) <;> first | omega | simp <;> omega)
          have zW2 : wr.heap.size < W2.heap.size := by rw [hW2]; simp
          have y3 := (bw2.cell (p := ⟨w.heap.size, 3, none⟩) hz1).trans q3
          have p0 := (bw2.cell (p := ⟨b, off + m * 3, none⟩) hlt0).trans x4
          have B2 : Below W.heap.size W W2 := hB.trans (bw2.mono hB.size)
          clear hW2 bw2
          go_quiet ((go_at_call 83; exact Calls.quiet_of_same (btw_same _ _ _ _)))
          go_wp2_with fail
          go_ret
          exact ⟨⟨false, rfl, ⟨fun h => by simp at h, fun h => absurd (h.2.1 k hlt) HBd.out⟩⟩, below_drewN (HB0.out.trans (B2.mono HB0.out.size)) _⟩
         ·have d1 : tsB 1 sk 1000 = true := tsB_true h1
          have d2 : tsB 0 (0 : Int) 1000000 = true := tsB_true h2
          have dz : ((0 : Int) == 0) = true := by simp
          have dz2 : ((0 : Int) != 0) = false := by simp [bne]
          have d0 : decide ((0 : Int) < (k : Int)) = true := decide_eq_true (by omega)
          have d0n : decide (0 < k) = true := decide_eq_true (by omega)
          have hkp : 0 < k := by omega
          have d3 : decide (sk ≤ pk) = false := decide_eq_false h3
          have wm : IntKind.i64.wrap ((k : Int) - 1) = (m : Int) := by rw [show ((k : Int) - 1) = (m : Int) by omega]; exact IntWalk.i64_in _ (by omega)
          have I5 : (0 : Int) ≤ (m : Int) := by omega
          have I6 : (m : Int) < (wl.length : Int) := by omega
          have hgood : ∀ i, i < k + 1 → WrI wl i := fun i hi => by
           rcases Nat.lt_or_ge i k with h | h
           ·exact Hk.out i h
           ·obtain rfl : i = k := by omega
            unfold WrI
            rw [← hel]
            refine ⟨h1, h2, fun _ => rfl, fun _ => ?_⟩
            rw [show i - 1 = m by omega, ← hpk]
            dsimp only
            omega
          have HG := hide hgood
          clear hgood
          clear hel htv hbx hpk hm hk0
          go_upto_region 10 with fail
          obtain ⟨W2, hW2⟩ : ∃ V, V = wr.alloc (.cells #[.int .i64 sk, .int .i64 0, .bool true] 74) := ⟨_, rfl⟩
          rw [← hW2]
          have c0 : W2.cell? ⟨wr.heap.size, 0, none⟩ = some (.int .i64 sk) := by rw [hW2]; simp
          have c1 : W2.cell? ⟨wr.heap.size, 1, none⟩ = some (.int .i64 0) := by rw [hW2]; simp
          have c2 : W2.cell? ⟨wr.heap.size, 2, none⟩ = some (.bool true) := by rw [hW2]; simp
          have bw2 : Below wr.heap.size wr W2 := by rw [hW2]; ((with_reducible repeat' first | exact .refl _ _ | refine .alloc ?_ ?_ _ | refine .setCell ?_ ?_ _ | refine .drew ?_ | refine below_drewN ?_ _) <;> first | omega | simp <;> omega)
          have zW2 : wr.heap.size < W2.heap.size := by rw [hW2]; simp
          have y3 := (bw2.cell (p := ⟨w.heap.size, 3, none⟩) hz1).trans q3
          have p0 := (bw2.cell (p := ⟨b, off + m * 3, none⟩) hlt0).trans x4
          have B2 : Below W.heap.size W W2 := hB.trans (bw2.mono hB.size)
          clear hW2 bw2
          go_quiet ((go_at_call 83; exact Calls.quiet_of_same (btw_same _ _ _ _)))
          go_wp2_with fail
          go_roundw
          case rel => exact ⟨k + 1, by omega, by go_num, HG, below_drewN B2 _⟩
          case measure => simp [intOf]; omega
       ·have d1 : tsB 1 sk 1000 = true := tsB_true h1
        have d2 : tsB 0 st 1000000 = true := tsB_true h2
        have dz : (st == 0) = false := by rw [beq_eq_false_iff_ne]; exact hz
        have dz2 : (st != 0) = true := by simp [bne, dz]
        have hbad : ¬ WrI wl k := fun h => by
         unfold WrI at h
         rw [← hel] at h
         exact hz (h.2.2.1 rfl)
        have HBd := hide hbad
        clear hbad
        clear hel htv hbx
        go_upto_region 10 with fail
        obtain ⟨W2, hW2⟩ : ∃ V, V = wr.alloc (.cells #[.int .i64 sk, .int .i64 st, .bool true] 74) := ⟨_, rfl⟩
        rw [← hW2]
        have c0 : W2.cell? ⟨wr.heap.size, 0, none⟩ = some (.int .i64 sk) := by rw [hW2]; simp
        have c1 : W2.cell? ⟨wr.heap.size, 1, none⟩ = some (.int .i64 st) := by rw [hW2]; simp
        have c2 : W2.cell? ⟨wr.heap.size, 2, none⟩ = some (.bool true) := by rw [hW2]; simp
        have bw2 : Below wr.heap.size wr W2 := by rw [hW2]; ((with_reducible repeat' first | exact .refl _ _ | refine .alloc ?_ ?_ _ | refine .setCell ?_ ?_ _ | refine .drew ?_ | refine below_drewN ?_ _) <;> first | omega | simp <;> omega)
        have zW2 : wr.heap.size < W2.heap.size := by rw [hW2]; simp
        have y3 := (bw2.cell (p := ⟨w.heap.size, 3, none⟩) hz1).trans q3
        have B2 : Below W.heap.size W W2 := hB.trans (bw2.mono hB.size)
        clear hW2 bw2
        go_quiet ((go_at_call 83; exact Calls.quiet_of_same (btw_same _ _ _ _)))
        go_wp2_with fail
        go_ret
        exact ⟨⟨false, rfl, ⟨fun h => by simp at h, fun h => absurd (h.2.1 k hlt) HBd.out⟩⟩, below_drewN (HB0.out.trans (B2.mono HB0.out.size)) _⟩
      ·have d1 : tsB 1 sk 1000 = true := tsB_true h1
       have d2 : tsB 0 st 1000000 = false := tsB_false.2 h2
       have hbad : ¬ WrI wl k := fun h => by
        unfold WrI at h
        rw [← hel] at h
        exact h2 h.2.1
       have HBd := hide hbad
       clear hbad
       clear hel htv hbx
       go_upto_region 10 with fail
       obtain ⟨W2, hW2⟩ : ∃ V, V = wr.alloc (.cells #[.int .i64 sk, .int .i64 st, .bool sg] 74) := ⟨_, rfl⟩
       rw [← hW2]
       have c0 : W2.cell? ⟨wr.heap.size, 0, none⟩ = some (.int .i64 sk) := by rw [hW2]; simp
       have c1 : W2.cell? ⟨wr.heap.size, 1, none⟩ = some (.int .i64 st) := by rw [hW2]; simp
       have c2 : W2.cell? ⟨wr.heap.size, 2, none⟩ = some (.bool sg) := by rw [hW2]; simp
       have bw2 : Below wr.heap.size wr W2 := by rw [hW2]; ((with_reducible repeat' first | exact .refl _ _ | refine .alloc ?_ ?_ _ | refine .setCell ?_ ?_ _ | refine .drew ?_ | refine below_drewN ?_ _) <;> first | omega | simp <;> omega)
       have zW2 : wr.heap.size < W2.heap.size := by rw [hW2]; simp
       have y3 := (bw2.cell (p := ⟨w.heap.size, 3, none⟩) hz1).trans q3
       have B2 : Below W.heap.size W W2 := hB.trans (bw2.mono hB.size)
       clear hW2 bw2
       go_quiet ((go_at_call 83; exact Calls.quiet_of_same (btw_same _ _ _ _)))
       go_wp2_with fail
       go_ret
       exact ⟨⟨false, rfl, ⟨fun h => by simp at h, fun h => absurd (h.2.1 k hlt) HBd.out⟩⟩, below_drewN (HB0.out.trans (B2.mono HB0.out.size)) _⟩
     ·have d1 : tsB 1 sk 1000 = false := tsB_false.2 h1
      have hbad : ¬ WrI wl k := fun h => by
       unfold WrI at h
       rw [← hel] at h
       exact h1 h.1
      have HBd := hide hbad
      clear hbad
      clear hel htv hbx
      go_upto_region 10 with fail
      obtain ⟨W2, hW2⟩ : ∃ V, V = wr.alloc (.cells #[.int .i64 sk, .int .i64 st, .bool sg] 74) := ⟨_, rfl⟩
      rw [← hW2]
      have c0 : W2.cell? ⟨wr.heap.size, 0, none⟩ = some (.int .i64 sk) := by rw [hW2]; simp
      have c1 : W2.cell? ⟨wr.heap.size, 1, none⟩ = some (.int .i64 st) := by rw [hW2]; simp
      have c2 : W2.cell? ⟨wr.heap.size, 2, none⟩ = some (.bool sg) := by rw [hW2]; simp
      have bw2 : Below wr.heap.size wr W2 := by rw [hW2]; ((with_reducible repeat' first | exact .refl _ _ | refine .alloc ?_ ?_ _ | refine .setCell ?_ ?_ _ | refine .drew ?_ | refine below_drewN ?_ _) <;> first | omega | simp <;> omega)
      have zW2 : wr.heap.size < W2.heap.size := by rw [hW2]; simp
      have y3 := (bw2.cell (p := ⟨w.heap.size, 3, none⟩) hz1).trans q3
      have B2 : Below W.heap.size W W2 := hB.trans (bw2.mono hB.size)
      clear hW2 bw2
      go_quiet ((go_at_call 83; exact Calls.quiet_of_same (btw_same _ _ _ _)))
      go_wp2_with fail
      go_ret
      exact ⟨⟨false, rfl, ⟨fun h => by simp at h, fun h => absurd (h.2.1 k hlt) HBd.out⟩⟩, below_drewN (HB0.out.trans (B2.mono HB0.out.size)) _⟩
    ·obtain rfl : k = wl.length := by omega
     obtain ⟨hbx, htv⟩ := HS.out wr hB
     have q0 := hbx.1 0 _ rfl
     have q1 := hbx.1 1 _ rfl
     have q2 := hbx.1 2 _ rfl
     have q3 := hbx.1 3 _ rfl
     have hz1 : w.heap.size < wr.heap.size := hbx.2.2
     clear hbx htv
     have HBf := hide (HB0.out.trans (hB.mono HB0.out.size))
     have Hgo := hide (fun (h1 : 1 ≤ id ∧ id ≤ 1000000) (h2 : 0 ≤ ts ∧ ts ≤ 3000000000000000) (h3 : rl.length ≤ 8) (h4 : wl.length ≤ 8) => (⟨HRd.out, Hk.out, h1, h2, h3, h4⟩ : Fm ⟨id, ts, rl, wl⟩))
     have Hno := hide (fun (h : Fm ⟨id, ts, rl, wl⟩) => (⟨h.2.2.1, h.2.2.2.1, h.2.2.2.2⟩ : (1 ≤ id ∧ id ≤ 1000000) ∧ (0 ≤ ts ∧ ts ≤ 3000000000000000) ∧ rl.length ≤ 8 ∧ wl.length ≤ 8))
     clear HRd Hk
     by_cases h1 : 1 ≤ id ∧ id ≤ 1000000
     ·have d1 : tsB 1 id 1000000 = true := tsB_true h1
      by_cases h2 : 0 ≤ ts ∧ ts ≤ 3000000000000000
      ·have d2 : tsB 0 ts 3000000000000000 = true := tsB_true h2
       by_cases h3 : rl.length ≤ 8
       ·have d3 : decide ((rl.length : Int) ≤ 8) = true := decide_eq_true (by omega)
        have d3n : decide (rl.length ≤ 8) = true := decide_eq_true h3
        by_cases h4 : wl.length ≤ 8
        ·have d4 : decide ((wl.length : Int) ≤ 8) = true := decide_eq_true (by omega)
         have d4n : decide (wl.length ≤ 8) = true := decide_eq_true h4
         have HF := hide (Hgo.out h1 h2 h3 h4)
         clear h1 h2
         go_wp2_with (go_at_call 83; (with_reducible refine (btw_any _ _ _ _).mono ?_); rintro e w' ⟨rfl, rfl⟩)
         go_ret
         exact ⟨⟨true, by first | rfl | simp [go_sem, d4, d4n], ⟨fun _ => HF.out, fun _ => rfl⟩⟩, HBf.out⟩
        ·have d4 : decide ((wl.length : Int) ≤ 8) = false := decide_eq_false (by omega)
         have d4n : decide (wl.length ≤ 8) = false := decide_eq_false h4
         have HF := hide (fun h => h4 (Hno.out h).2.2.2)
         clear h1 h2
         go_wp2_with (go_at_call 83; (with_reducible refine (btw_any _ _ _ _).mono ?_); rintro e w' ⟨rfl, rfl⟩)
         go_ret
         exact ⟨⟨false, by first | rfl | simp [go_sem, d4, d4n], ⟨fun h => by simp at h, fun h => (HF.out h).elim⟩⟩, HBf.out⟩
       ·have d3 : decide ((rl.length : Int) ≤ 8) = false := decide_eq_false (by omega)
        have d3n : decide (rl.length ≤ 8) = false := decide_eq_false h3
        have HF := hide (fun h => h3 (Hno.out h).2.2.1)
        clear h1 h2
        go_wp2_with (go_at_call 83; (with_reducible refine (btw_any _ _ _ _).mono ?_); rintro e w' ⟨rfl, rfl⟩)
        go_ret
        exact ⟨⟨false, by first | rfl | simp [go_sem, d3, d3n], ⟨fun h => by simp at h, fun h => (HF.out h).elim⟩⟩, HBf.out⟩
      ·have d2 : tsB 0 ts 3000000000000000 = false := tsB_false.2 h2
       have HF := hide (fun h => h2 (Hno.out h).2.1)
       clear h1 h2
       go_wp2_with (go_at_call 83; (with_reducible refine (btw_any _ _ _ _).mono ?_); rintro e w' ⟨rfl, rfl⟩)
       go_ret
       exact ⟨⟨false, by first | rfl | simp [go_sem, d2], ⟨fun h => by simp at h, fun h => (HF.out h).elim⟩⟩, HBf.out⟩
     ·have d1 : tsB 1 id 1000000 = false := tsB_false.2 h1
      have HF := hide (fun h => h1 (Hno.out h).1)
      clear h1
      go_wp2_with (go_at_call 83; (with_reducible refine (btw_any _ _ _ _).mono ?_); rintro e w' ⟨rfl, rfl⟩)
      go_ret
      exact ⟨⟨false, by first | rfl | simp [go_sem, d1], ⟨fun h => by simp at h, fun h => (HF.out h).elim⟩⟩, HBf.out⟩
end Go.Proofs.YthkoaecafmhlcaaGreat
