/- The statement's small functions: SameTx, SameTxs, FewTxs, Key, r14Around. -/
import Derived.Test.YthkoaecafmhlcaaGreatJ33
namespace Go.Proofs.YthkoaecafmhlcaaGreat
open Go.RowKit
attribute [local simp] size_drewT
set_option maxHeartbeats 2000000 in
set_option maxRecDepth 100000 in
set_option maxHeartbeats 400000 in
theorem SameTx_any (rv wv rv2 wv2 : Value) (t : Tx) (w : World) (h : TvRd w rv wv t) (h2 : TvRd w rv2 wv2 t) (h8 : t.rd.length ≤ 8) (h9 : t.wr.length ≤ 8) :
  Calls Tryz.prog 25 #[valT rv wv t, valT rv2 wv2 t] w fun e w' => e = .returned (.bool true) ∧ Below w.heap.size w w' := by
 have HI1 := hide (fun (V : World) (hV : Below w.heap.size w V) => And.intro (h.1.below (Nat.le_refl _) hV) (h2.1.below (Nat.le_refl _) hV))
 have HI2 := hide (fun (V : World) (hV : Below w.heap.size w V) => And.intro (h.2.below (Nat.le_refl _) hV) (h2.2.below (Nat.le_refl _) hV))
 obtain ⟨ra, rc, rfl, -⟩ := id h.1
 obtain ⟨wa, wc, rfl, -⟩ := id h.2
 obtain ⟨ra2, rc2, rfl, -⟩ := id h2.1
 obtain ⟨wa2, wc2, rfl, -⟩ := id h2.2
 obtain ⟨ti, tt, rl, wl⟩ := t
 dsimp only [valT] at *
 clear h h2
 obtain ⟨W, hW⟩ : ∃ V, V = (w.alloc (.cells #[.int .i64 ti, .int .i64 tt, .slice ra rl.length rc, .slice wa wl.length wc] 28)).alloc (.cells #[.int .i64 ti, .int .i64 tt, .slice ra2 rl.length rc2, .slice wa2 wl.length wc2] 28) := ⟨_, rfl⟩
 have ha : BxC W w.heap.size [.int .i64 ti, .int .i64 tt, .slice ra rl.length rc, .slice wa wl.length wc] := by rw [hW]; exact (BxC.made w _ _).alloc _
 have hb : BxC W (w.heap.size + 1) [.int .i64 ti, .int .i64 tt, .slice ra2 rl.length rc2, .slice wa2 wl.length wc2] := by
  have h_ := BxC.made (w.alloc (.cells #[.int .i64 ti, .int .i64 tt, .slice ra rl.length rc, .slice wa wl.length wc] 28)) [.int .i64 ti, .int .i64 tt, .slice ra2 rl.length rc2, .slice wa2 wl.length wc2] 28
  rw [World.size_alloc] at h_
  rw [hW]; exact h_
 have hB : Below w.heap.size w W := by rw [hW]; ((with_reducible repeat' first | exact .refl _ _ | refine .alloc ?_ ?_ _ | refine .setCell ?_ ?_ _ | refine .drew ?_ | refine below_drewN ?_ _) <;> first | omega | simp <;> omega)
 go_enter Tryz.func25, Tryz.ntmps25
 go_upto_region 1 with fail
 rw [← hW]
 clear hW
 have cha_0 := ha.1 0 _ rfl; have cha_1 := ha.1 1 _ rfl; have cha_2 := ha.1 2 _ rfl; have cha_3 := ha.1 3 _ rfl; have fha := ha.2.1; have zha := ha.2.2
 have chb_0 := hb.1 0 _ rfl; have chb_1 := hb.1 1 _ rfl; have chb_2 := hb.1 2 _ rfl; have chb_3 := hb.1 3 _ rfl; have fhb := hb.2.1; have zhb := hb.2.2
 have HA := hide (fun (V : World) (hV : Below W.heap.size W V) => ha.below ha.2.2 hV)
 have HB := hide (fun (V : World) (hV : Below W.heap.size W V) => hb.below hb.2.2 hV)
 have HBw := hide hB
 have hBz := hB.size
 go_wp2_with fail
 clear cha_0 cha_1 cha_2 cha_3 fha zha ha
 clear chb_0 chb_1 chb_2 chb_3 fhb zhb hb
 clear hB
 go_loopw [5] (fun s5 wx => ∃ (k : Nat), k ≤ rl.length ∧ s5 = .int .i64 k ∧ Below W.heap.size W wx) (fun s5 _ => rl.length - (intOf s5).toNat)
 case atStart => exact ⟨0, Nat.zero_le _, rfl, Below.refl _ _⟩
 case round =>
  obtain ⟨k, hk, rfl, hBr⟩ := hrel
  have ha := HA.out wr hBr
  have hb := HB.out wr hBr
  have cha_0 := ha.1 0 _ rfl; have cha_1 := ha.1 1 _ rfl; have cha_2 := ha.1 2 _ rfl; have cha_3 := ha.1 3 _ rfl; have fha := ha.2.1; have zha := ha.2.2
  have chb_0 := hb.1 0 _ rfl; have chb_1 := hb.1 1 _ rfl; have chb_2 := hb.1 2 _ rfl; have chb_3 := hb.1 3 _ rfl; have fhb := hb.2.1; have zhb := hb.2.2
  by_cases hlt : k < rl.length
  ·obtain ⟨b, off, cap', hbv, hlt0, x0, x1⟩ := SRow.at_ (HI1.out wr (HBw.out.trans (hBr.mono hBz))).1 (i := k) hlt
   obtain ⟨b', off', cap'', hbv', hlt1, y0, y1⟩ := SRow.at_ (HI1.out wr (HBw.out.trans (hBr.mono hBz))).2 (i := k) hlt
   cases hbv
   cases hbv'
   generalize rl.getD k (0, 0) = E at *
   obtain ⟨ea, eb⟩ := E
   dsimp only at x0 x1 y0 y1
   have I1 : (0 : Int) ≤ (k : Int) := by omega
   have I2 : (k : Int) < (rl.length : Int) := by omega
   have mixed : Tryz.prog.follows Departure.mixedOrders = true := by kernel_rfl
   go_upto_region 6 with fail
   go_quiet (fail)
   go_wp2_with fail
   go_roundw
   case rel => exact ⟨k + 1, by omega, by go_num, (by ((with_reducible repeat' first | exact .refl _ _ | exact hBr | refine .alloc ?_ ?_ _ | refine .setCell ?_ ?_ _ | refine .drew ?_ | refine below_drewN ?_ _ | refine Below.trans ?_ (hBr.mono ?_)) <;> first | omega | simp <;> omega))⟩
   case measure => simp [intOf]; omega
  ·obtain rfl : k = rl.length := by omega
   go_wp2_with fail
   clear cha_0 cha_1 cha_2 cha_3 fha zha ha
   clear chb_0 chb_1 chb_2 chb_3 fhb zhb hb
   clear hk hlt
   go_loopw [6] (fun s6 wx => ∃ (k : Nat), k ≤ wl.length ∧ s6 = .int .i64 k ∧ Below W.heap.size W wx) (fun s6 _ => wl.length - (intOf s6).toNat)
   case atStart => exact ⟨0, Nat.zero_le _, rfl, hBr⟩
   case round =>
    clear hBr
    obtain ⟨k, hk, rfl, hBr⟩ := hrel
    have ha := HA.out wr hBr
    have hb := HB.out wr hBr
    have cha_0 := ha.1 0 _ rfl; have cha_1 := ha.1 1 _ rfl; have cha_2 := ha.1 2 _ rfl; have cha_3 := ha.1 3 _ rfl; have fha := ha.2.1; have zha := ha.2.2
    have chb_0 := hb.1 0 _ rfl; have chb_1 := hb.1 1 _ rfl; have chb_2 := hb.1 2 _ rfl; have chb_3 := hb.1 3 _ rfl; have fhb := hb.2.1; have zhb := hb.2.2
    by_cases hlt : k < wl.length
    ·obtain ⟨b, off, cap', hbv, hlt0, x0, x1, x2⟩ := WRow.at_ (HI2.out wr (HBw.out.trans (hBr.mono hBz))).1 (i := k) hlt
     obtain ⟨b', off', cap'', hbv', hlt1, y0, y1, y2⟩ := WRow.at_ (HI2.out wr (HBw.out.trans (hBr.mono hBz))).2 (i := k) hlt
     cases hbv
     cases hbv'
     generalize wAt wl k = E at *
     obtain ⟨ea, eb, ec⟩ := E
     dsimp only at x0 x1 x2 y0 y1 y2
     have I1 : (0 : Int) ≤ (k : Int) := by omega
     have I2 : (k : Int) < (wl.length : Int) := by omega
     have mixed : Tryz.prog.follows Departure.mixedOrders = true := by kernel_rfl
     go_upto_region 11 with fail
     go_quiet (fail)
     go_wp2_with fail
     go_roundw
     case rel => exact ⟨k + 1, by omega, by go_num, (by ((with_reducible repeat' first | exact .refl _ _ | exact hBr | refine .alloc ?_ ?_ _ | refine .setCell ?_ ?_ _ | refine .drew ?_ | refine below_drewN ?_ _ | refine Below.trans ?_ (hBr.mono ?_)) <;> first | omega | simp <;> omega))⟩
     case measure => simp [intOf]; omega
    ·obtain rfl : k = wl.length := by omega
     go_wp2_with fail
     go_ret
     exact ⟨rfl, HBw.out.trans (hBr.mono hBz)⟩
set_option maxHeartbeats 2000000 in
set_option maxRecDepth 100000 in
set_option maxHeartbeats 400000 in
theorem SameTxs_any (v v2 : Value) (l : List Tx) (w : World) (h : TxR w v l) (h2 : TxR w v2 l) (hr : ∀ i, i < l.length → (txAt l i).rd.length ≤ 8 ∧ (txAt l i).wr.length ≤ 8) (hl : l.length ≤ 2000) :
  Calls Tryz.prog 10 #[v, v2] w fun e w' => e = .returned (.bool true) ∧ Below w.heap.size w w' := by
 obtain ⟨a1, cap1, rfl, -⟩ := h.len
 obtain ⟨a2, cap2, rfl, -⟩ := h2.len
 have HI := hide (fun (V : World) (hV : Below w.heap.size w V) => And.intro (h.below (Nat.le_refl _) hV) (h2.below (Nat.le_refl _) hV))
 have HR := hide hr
 clear h h2 hr
 go_enter Tryz.func10, Tryz.ntmps10
 go_wp2_with fail
 go_loopw [5] (fun s5 wx => ∃ (k : Nat), k ≤ l.length ∧ s5 = .int .i64 k ∧ Below w.heap.size w wx) (fun s5 _ => l.length - (intOf s5).toNat)
 case atStart => exact ⟨0, Nat.zero_le _, rfl, Below.refl _ _⟩
 case round =>
  obtain ⟨k, hk, rfl, hB⟩ := hrel
  by_cases hlt : k < l.length
  ·obtain ⟨b, off, cap', rv, wv, hb, hlt0, x0, x1, x2, x3, hrd⟩ := TxR.at_ (HI.out wr hB).1 (i := k) hlt
   obtain ⟨b', off', cap'', rv', wv', hb', hlt1, y0, y1, y2, y3, hrd'⟩ := TxR.at_ (HI.out wr hB).2 (i := k) hlt
   cases hb
   cases hb'
   obtain ⟨ar, cr, rfl, -⟩ := id hrd.1
   obtain ⟨aw, cw, rfl, -⟩ := id hrd.2
   obtain ⟨ar', cr', rfl, -⟩ := id hrd'.1
   obtain ⟨aw', cw', rfl, -⟩ := id hrd'.2
   have HC := hide (SameTx_any _ _ _ _ _ wr.drew (hrd.below (Nat.le_refl _) (by ((with_reducible repeat' first | exact .refl _ _ | refine .alloc ?_ ?_ _ | refine .setCell ?_ ?_ _ | refine .drew ?_ | refine below_drewN ?_ _) <;> first | omega | simp <;> omega))) (hrd'.below (Nat.le_refl _) (by ((with_reducible repeat' first | exact .refl _ _ | refine .alloc ?_ ?_ _ | refine .setCell ?_ ?_ _ | refine .drew ?_ | refine below_drewN ?_ _) <;> first | omega | simp <;> omega))) (HR.out k hlt).1 (HR.out k hlt).2)
   clear hrd hrd'
   generalize txAt l k = T at *
   obtain ⟨ti, tt, rl, wl⟩ := T
   dsimp only [valT] at *
   have I1 : (0 : Int) ≤ (k : Int) := by omega
   have I2 : (k : Int) < (l.length : Int) := by omega
   have hz := hB.size
   have zd : wr.drew.heap.size = wr.heap.size := rfl
   go_upto_region 6 with fail
   have HS := hide (fun (V : World) (hV : Below wr.heap.size wr V) => And.intro ((hV.cell (p := ⟨_, _, none⟩) hlt0).trans x0) (And.intro ((hV.cell (p := ⟨_, _, none⟩) hlt0).trans x1) (And.intro ((hV.cell (p := ⟨_, _, none⟩) hlt0).trans x2) (And.intro ((hV.cell (p := ⟨_, _, none⟩) hlt0).trans x3) (And.intro ((hV.cell (p := ⟨_, _, none⟩) hlt1).trans y0) (And.intro ((hV.cell (p := ⟨_, _, none⟩) hlt1).trans y1) (And.intro ((hV.cell (p := ⟨_, _, none⟩) hlt1).trans y2) ((hV.cell (p := ⟨_, _, none⟩) hlt1).trans y3))))))))
   go_region_held3 (fun V => (V.cell? ⟨b, off + k * 4, none⟩ = some (.int .i64 ti) ∧ V.cell? ⟨b, off + k * 4 + 1, none⟩ = some (.int .i64 tt) ∧ V.cell? ⟨b, off + k * 4 + 2, none⟩ = some (.slice ar rl.length cr) ∧ V.cell? ⟨b, off + k * 4 + 3, none⟩ = some (.slice aw wl.length cw)) ∧ V.cell? ⟨b', off' + k * 4, none⟩ = some (.int .i64 ti) ∧ V.cell? ⟨b', off' + k * 4 + 1, none⟩ = some (.int .i64 tt) ∧ V.cell? ⟨b', off' + k * 4 + 2, none⟩ = some (.slice ar' rl.length cr') ∧ V.cell? ⟨b', off' + k * 4 + 3, none⟩ = some (.slice aw' wl.length cw')) (exact (fun h => ⟨⟨h.1, h.2.1, h.2.2.1, h.2.2.2.1⟩, h.2.2.2.2⟩) (HS.out _ (by ((with_reducible repeat' first | exact .refl _ _ | exact k1 | refine .alloc ?_ ?_ _ | refine .setCell ?_ ?_ _ | refine .drew ?_ | refine below_drewN ?_ _ | refine Below.trans ?_ (k1.mono ?_)) <;> first | omega | simp <;> omega))))
    ((go_at_call 25; (with_reducible refine HC.out.mono ?_); rintro e w1 ⟨rfl, k1⟩; have z1 := k1.size))
   have B1 : Below w.heap.size w w1 := (by ((with_reducible repeat' first | exact .refl _ _ | exact k1 | exact hB | refine .alloc ?_ ?_ _ | refine .setCell ?_ ?_ _ | refine .drew ?_ | refine below_drewN ?_ _ | refine Below.trans ?_ (k1.mono ?_) | refine Below.trans ?_ (hB.mono ?_)) <;> first | omega | simp <;> omega))
   clear x0 x1 x2 x3 y0 y1 y2 y3
   go_wp2_with fail
   go_roundw
   case rel => exact ⟨k + 1, by omega, by go_num, B1⟩
   case measure => simp [intOf]; omega
  ·obtain rfl : k = l.length := by omega
   go_wp2_with fail
   go_ret
   exact ⟨rfl, hB⟩
def fewB (t : Tx) : Bool := decide (t.rd.length ≤ 20 ∧ t.wr.length ≤ 20)
set_option maxHeartbeats 2000000 in
set_option maxRecDepth 100000 in
set_option maxHeartbeats 400000 in
theorem FewTxs1_any (b c : Nat) (rv wv : Value) (t : Tx) (w : World) (x2 : w.cell? ⟨b, 2, none⟩ = some rv) (x3 : w.cell? ⟨b, 3, none⟩ = some wv) (h : TvRd w rv wv t) :
  Calls Tryz.prog 6 #[.slice (some ⟨b, 0, none⟩) 1 c] w fun e w' => e = .returned (.bool (fewB t)) ∧ Below w.heap.size w w' := by
 obtain ⟨ar, cr, rfl, hr1, hr2, -⟩ := id h.1
 obtain ⟨aw, cw, rfl, hw1, hw2, -⟩ := id h.2
 obtain ⟨R, hR⟩ : ∃ r, r = fewB t := ⟨_, rfl⟩
 rw [← hR]
 obtain ⟨ti, tt, rl, wl⟩ := t
 dsimp only at *
 unfold fewB at hR
 dsimp only at hR
 have hb := World.block_lt_of_cell? _ _ x2
 simp only at hb
 have HX := hide (fun (V : World) (hV : Below w.heap.size w V) => And.intro ((hV.cell (p := ⟨b, 2, none⟩) hb).trans x2) ((hV.cell (p := ⟨b, 3, none⟩) hb).trans x3))
 have HRs := hide hR
 clear h x2 x3 hR
 go_enter Tryz.func6, Tryz.ntmps6
 go_wp2_with fail
 go_loopw [3] (fun s3 wx => (s3 = .int .i64 0 ∨ (s3 = .int .i64 1 ∧ Hid (R = true))) ∧ Below w.heap.size w wx) (fun s3 _ => 1 - (intOf s3).toNat)
 case atStart => exact ⟨.inl rfl, Below.refl _ _⟩
 case round =>
  obtain ⟨hh, hB⟩ := hrel
  obtain ⟨x2, x3⟩ := HX.out wr hB
  rcases hh with rfl | ⟨rfl, HT⟩
  ·by_cases h1 : (20 : Int) < (rl.length : Int)
   ·have d1 : decide ((20 : Int) < (rl.length : Int)) = true := decide_eq_true h1
    have hF : R = false := by rw [HRs.out]; exact decide_eq_false (by omega)
    have HF := hide hF
    clear hF
    go_wp2_with fail
    go_ret
    exact ⟨by rw [HF.out]; rfl, hB⟩
   ·have d1 : decide ((20 : Int) < (rl.length : Int)) = false := decide_eq_false h1
    by_cases h2 : (20 : Int) < (wl.length : Int)
    ·have d2 : decide ((20 : Int) < (wl.length : Int)) = true := decide_eq_true h2
     have hF : R = false := by rw [HRs.out]; exact decide_eq_false (by omega)
     have HF := hide hF
     clear hF
     go_wp2_with fail
     go_ret
     exact ⟨by rw [HF.out]; rfl, hB⟩
    ·have d2 : decide ((20 : Int) < (wl.length : Int)) = false := decide_eq_false h2
     have hT : R = true := by rw [HRs.out]; exact decide_eq_true (by omega)
     have HT := hide hT
     clear hT
     go_wp2_with fail
     go_roundw
     case rel => exact ⟨.inr ⟨by go_num, HT⟩, hB⟩
     case measure => simp [intOf]
  ·clear x2 x3
   go_wp2_with fail
   go_ret
   exact ⟨by rw [HT.out]; rfl, hB⟩
def keyB (k : Int) : Bool := decide (1 ≤ k ∧ k ≤ 1000)
set_option maxRecDepth 100000 in
set_option maxHeartbeats 400000 in
theorem Key33_any (k : Int) (w : World) : Calls Tryz.prog 5 #[.int .i64 k] w fun e w' => e = .returned (.bool (keyB k)) ∧ w = w' := by
 obtain ⟨R, hR⟩ : ∃ r, r = keyB k := ⟨_, rfl⟩
 rw [← hR]
 unfold keyB at hR
 have HR := hide hR
 clear hR
 by_cases h1 : 1 ≤ k
 ·have d1 : decide (1 ≤ k) = true := decide_eq_true h1
  by_cases h2 : k ≤ 1000
  ·have d2 : decide (k ≤ 1000) = true := decide_eq_true h2
   have hT : R = true := by rw [HR.out]; exact decide_eq_true ⟨h1, h2⟩
   subst hT
   go_enter Tryz.func5, Tryz.ntmps5
   go_wp2_with fail
   go_ret
   exact ⟨rfl, rfl⟩
  ·have d2 : decide (k ≤ 1000) = false := decide_eq_false h2
   have hT : R = false := by rw [HR.out]; exact decide_eq_false (by omega)
   subst hT
   go_enter Tryz.func5, Tryz.ntmps5
   go_wp2_with fail
   go_ret
   exact ⟨rfl, rfl⟩
 ·have d1 : decide (1 ≤ k) = false := decide_eq_false h1
  have hT : R = false := by rw [HR.out]; exact decide_eq_false (by omega)
  subst hT
  go_enter Tryz.func5, Tryz.ntmps5
  go_wp2_with fail
  go_ret
  exact ⟨rfl, rfl⟩
end Go.Proofs.YthkoaecafmhlcaaGreat
