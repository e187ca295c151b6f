/- Package copies: equal, wrong, lists of transactions. -/
import Derived.Test.YthkoaecafmhlcaaGreatTuA
namespace Go.Proofs.YthkoaecafmhlcaaGreat
open Go.RowKit
attribute [local simp] size_drewT
set_option maxHeartbeats 2000000 in
set_option maxRecDepth 100000 in
set_option maxHeartbeats 400000 in
theorem cequal_any (rv wv rv2 wv2 : Value) (t : Tx) (w : World) (h : TvRd w rv wv t) (h2 : TvRd w rv2 wv2 t) (h8 : t.rd.length ≤ 8) (h9 : t.wr.length ≤ 8) :
  Calls Tryz.prog 67 #[valT rv wv t, valT rv2 wv2 t] w fun e w' => e = .returned (.bool true) ∧ Below w.heap.size w w' := by
 have HS := hide (fun (V : World) (hV : Below w.heap.size w V) => EqualSn_any rv rv2 t.rd V (h.1.below (Nat.le_refl _) hV) (h2.1.below (Nat.le_refl _) hV) h8)
 have HW := hide (fun (V : World) (hV : Below w.heap.size w V) => EqualWr_any wv wv2 t.wr V (h.2.below (Nat.le_refl _) hV) (h2.2.below (Nat.le_refl _) hV) h9)
 obtain ⟨ra, rc, rfl, -⟩ := id h.1
 obtain ⟨wa, wc, rfl, -⟩ := id h.2
 obtain ⟨ra2, rc2, rfl, -⟩ := id h2.1
 obtain ⟨wa2, wc2, rfl, -⟩ := id h2.2
 obtain ⟨ti, tt, rl, wl⟩ := t
 dsimp only [valT] at *
 clear h h2 h8 h9
 obtain ⟨W, hW⟩ : ∃ V, V = (w.alloc (.cells #[.int .i64 ti, .int .i64 tt, .slice ra rl.length rc, .slice wa wl.length wc] 28)).alloc (.cells #[.int .i64 ti, .int .i64 tt, .slice ra2 rl.length rc2, .slice wa2 wl.length wc2] 28) := ⟨_, rfl⟩
 have ha : BxC W w.heap.size [.int .i64 ti, .int .i64 tt, .slice ra rl.length rc, .slice wa wl.length wc] := by rw [hW]; exact (BxC.made w _ _).alloc _
 have hb : BxC W (w.heap.size + 1) [.int .i64 ti, .int .i64 tt, .slice ra2 rl.length rc2, .slice wa2 wl.length wc2] := by
  have h_ := BxC.made (w.alloc (.cells #[.int .i64 ti, .int .i64 tt, .slice ra rl.length rc, .slice wa wl.length wc] 28)) [.int .i64 ti, .int .i64 tt, .slice ra2 rl.length rc2, .slice wa2 wl.length wc2] 28
  rw [World.size_alloc] at h_
  rw [hW]; exact h_
 have hB : Below w.heap.size w W := by rw [hW]; ((with_reducible repeat' first | exact .refl _ _ | refine .alloc ?_ ?_ _ | refine .setCell ?_ ?_ _ | refine .drew ?_ | refine below_drewN ?_ _) <;> first | omega | simp <;> omega)
 go_enter Tryz.func67, Tryz.ntmps67
 go_upto_region 1 with fail
 rw [← hW]
 clear hW
 have cha_0 := ha.1 0 _ rfl; have cha_1 := ha.1 1 _ rfl; have cha_2 := ha.1 2 _ rfl; have cha_3 := ha.1 3 _ rfl; have fha := ha.2.1; have zha := ha.2.2
 have chb_0 := hb.1 0 _ rfl; have chb_1 := hb.1 1 _ rfl; have chb_2 := hb.1 2 _ rfl; have chb_3 := hb.1 3 _ rfl; have fhb := hb.2.1; have zhb := hb.2.2
 go_wp2_with (first
  | (go_at_call 100; (with_reducible refine (HS.out _ hB).mono ?_); rintro e w1 ⟨rfl, k1⟩; have ta := ha.below ha.2.2 k1; have tb := hb.below hb.2.2 k1; clear cha_0 cha_1 cha_2 cha_3 fha zha ha; clear chb_0 chb_1 chb_2 chb_3 fhb zhb hb; have ha := ta; have hb := tb; clear ta tb; have cha_0 := ha.1 0 _ rfl; have cha_1 := ha.1 1 _ rfl; have cha_2 := ha.1 2 _ rfl; have cha_3 := ha.1 3 _ rfl; have fha := ha.2.1; have zha := ha.2.2; have chb_0 := hb.1 0 _ rfl; have chb_1 := hb.1 1 _ rfl; have chb_2 := hb.1 2 _ rfl; have chb_3 := hb.1 3 _ rfl; have fhb := hb.2.1; have zhb := hb.2.2; have t_ := hB.trans (k1.mono hB.size); clear hB; have hB := t_; clear t_ k1)
  | (go_at_call 101; (with_reducible refine (HW.out _ hB).mono ?_); rintro e w2 ⟨rfl, k2⟩; have t_ := hB.trans (k2.mono hB.size); clear hB; have hB := t_; clear t_ k2))
 go_ret
 exact ⟨rfl, hB⟩
set_option maxHeartbeats 2000000 in
set_option maxRecDepth 100000 in
set_option maxHeartbeats 400000 in
theorem cwrong_any (rv wv : Value) (t : Tx) (w : World) (h : TvRd w rv wv t) (hf : Fm t) (h1 : 1 ≤ t.ts) :
  Calls Tryz.prog 69 #[valT rv wv t] w fun e w' => e = .returned (.bool false) ∧ Below w.heap.size w w' := by
 obtain ⟨f1, f2, f3, f4, f5, f6⟩ := hf
 have HS := hide (fun (V : World) (hV : Below w.heap.size w V) => ContainsSn104_any rv t.rd V (h.1.below (Nat.le_refl _) hV) f1 f5)
 have HW := hide (fun (V : World) (hV : Below w.heap.size w V) => ContainsWr105_any wv t.wr V (h.2.below (Nat.le_refl _) hV) f2 f6)
 have HR := hide (fun (V : World) (hV : Below w.heap.size w V) => risingSn_any rv t.rd V (h.1.below (Nat.le_refl _) hV) f1 f5)
 have HQ := hide (fun (V : World) (hV : Below w.heap.size w V) => risingWr_any wv t.wr V (h.2.below (Nat.le_refl _) hV) f2 f6)
 have HT := hide (fun (V : World) => cisTime_any t.ts V f4)
 obtain ⟨ra, rc, rfl, -⟩ := id h.1
 obtain ⟨wa, wc, rfl, -⟩ := id h.2
 obtain ⟨ti, tt, rl, wl⟩ := t
 dsimp only [valT] at *
 have d1 : decide (ti < 1) = false := decide_eq_false (by omega)
 have d2 : decide (1000000 < ti) = false := decide_eq_false (by omega)
 have d3 : decide (tt < 1) = false := decide_eq_false (by omega)
 have d4 : decide ((8 : Int) < (rl.length : Int)) = false := decide_eq_false (by omega)
 have d5 : decide ((8 : Int) < (wl.length : Int)) = false := decide_eq_false (by omega)
 clear h f1 f2 f3 f4 f5 f6 h1
 obtain ⟨W, hW⟩ : ∃ V, V = w.alloc (.cells #[.int .i64 ti, .int .i64 tt, .slice ra rl.length rc, .slice wa wl.length wc] 28) := ⟨_, rfl⟩
 have ha : BxC W w.heap.size [.int .i64 ti, .int .i64 tt, .slice ra rl.length rc, .slice wa wl.length wc] := by rw [hW]; exact BxC.made w _ _
 have hB : Below w.heap.size w W := by rw [hW]; ((with_reducible repeat' first | exact .refl _ _ | refine .alloc ?_ ?_ _ | refine .setCell ?_ ?_ _ | refine .drew ?_ | refine below_drewN ?_ _) <;> first | omega | simp <;> omega)
 go_enter Tryz.func69, Tryz.ntmps69
 go_upto_region 1 with fail
 rw [← hW]
 clear hW
 have cha_0 := ha.1 0 _ rfl; have cha_1 := ha.1 1 _ rfl; have cha_2 := ha.1 2 _ rfl; have cha_3 := ha.1 3 _ rfl; have fha := ha.2.1; have zha := ha.2.2
 go_wp2_with (first
  | (go_at_call 103; (with_reducible refine (HT.out _).mono ?_); rintro e w0 ⟨rfl, rfl⟩)
  | (go_at_call 50; (with_reducible refine (HS.out _ hB).mono ?_); rintro e w1 ⟨rfl, k1⟩; have ta := ha.below ha.2.2 k1; clear cha_0 cha_1 cha_2 cha_3 fha zha ha; have ha := ta; clear ta; have cha_0 := ha.1 0 _ rfl; have cha_1 := ha.1 1 _ rfl; have cha_2 := ha.1 2 _ rfl; have cha_3 := ha.1 3 _ rfl; have fha := ha.2.1; have zha := ha.2.2; have t_ := hB.trans (k1.mono hB.size); clear hB; have hB := t_; clear t_ k1)
  | (go_at_call 106; (with_reducible refine (HW.out _ hB).mono ?_); rintro e w2 ⟨rfl, k2⟩; have ta := ha.below ha.2.2 k2; clear cha_0 cha_1 cha_2 cha_3 fha zha ha; have ha := ta; clear ta; have cha_0 := ha.1 0 _ rfl; have cha_1 := ha.1 1 _ rfl; have cha_2 := ha.1 2 _ rfl; have cha_3 := ha.1 3 _ rfl; have fha := ha.2.1; have zha := ha.2.2; have t_ := hB.trans (k2.mono hB.size); clear hB; have hB := t_; clear t_ k2)
  | (go_at_call 107; (with_reducible refine (HR.out _ hB).mono ?_); rintro e w3 ⟨rfl, k3⟩; have ta := ha.below ha.2.2 k3; clear cha_0 cha_1 cha_2 cha_3 fha zha ha; have ha := ta; clear ta; have cha_0 := ha.1 0 _ rfl; have cha_1 := ha.1 1 _ rfl; have cha_2 := ha.1 2 _ rfl; have cha_3 := ha.1 3 _ rfl; have fha := ha.2.1; have zha := ha.2.2; have t_ := hB.trans (k3.mono hB.size); clear hB; have hB := t_; clear t_ k3)
  | (go_at_call 109; (with_reducible refine (HQ.out _ hB).mono ?_); rintro e w4 ⟨rfl, k4⟩; have ta := ha.below ha.2.2 k4; clear cha_0 cha_1 cha_2 cha_3 fha zha ha; have ha := ta; clear ta; have cha_0 := ha.1 0 _ rfl; have cha_1 := ha.1 1 _ rfl; have cha_2 := ha.1 2 _ rfl; have cha_3 := ha.1 3 _ rfl; have fha := ha.2.1; have zha := ha.2.2; have t_ := hB.trans (k4.mono hB.size); clear hB; have hB := t_; clear t_ k4))
 go_ret
 exact ⟨rfl, hB⟩
set_option maxHeartbeats 1000000 in
set_option maxRecDepth 100000 in
set_option maxHeartbeats 400000 in
theorem IndexTx69_any (v : Value) (l : List Tx) (w : World) (h : TxR w v l) (hr : ∀ i, i < l.length → Fm (txAt l i) ∧ 1 ≤ (txAt l i).ts) (hl : l.length ≤ 2000) :
  Calls Tryz.prog 102 #[v, .func (.func 69) #[] #[]] w fun e w' => e = .returned (.int .i64 (-1)) ∧ Below w.heap.size w w' := by
 obtain ⟨a1, cap1, rfl, -⟩ := h.len
 have HI := hide (fun (V : World) (hV : Below w.heap.size w V) => h.below (Nat.le_refl _) hV)
 have HR := hide hr
 clear h hr
 go_enter Tryz.func102, Tryz.ntmps102
 go_wp2_with fail
 go_loopw [8] (fun s8 wx => ∃ (k : Nat), k ≤ l.length ∧ s8 = .int .i64 k ∧ Below w.heap.size w wx) (fun s8 _ => l.length - (intOf s8).toNat)
 case atStart => exact ⟨0, Nat.zero_le _, rfl, Below.refl _ _⟩
 case round =>
  obtain ⟨k, hk, rfl, hB⟩ := hrel
  by_cases hlt : k < l.length
  ·obtain ⟨b, off, cap', rv, wv, hb, hlt0, x0, x1, x2, x3, hrd⟩ := TxR.at_ (HI.out wr hB) (i := k) hlt
   cases hb
   have I1 : (0 : Int) ≤ (k : Int) := by omega
   have I2 : (k : Int) < (l.length : Int) := by omega
   have hz := hB.size
   obtain ⟨ar, cr, rfl, -⟩ := id hrd.1
   obtain ⟨aw, cw, rfl, -⟩ := id hrd.2
   have HC := hide (cwrong_any _ _ _ wr hrd (HR.out k hlt).1 (HR.out k hlt).2)
   clear hrd
   generalize txAt l k = T at *
   obtain ⟨ti, tt, rl, wl⟩ := T
   dsimp only [valT] at *
   go_wp2_with (go_at_call 69; (with_reducible refine (HC.out).mono ?_); rintro e w1 ⟨rfl, b1⟩; have B1 : Below w.heap.size w w1 := (by ((with_reducible repeat' first | exact .refl _ _ | exact b1 | exact hB | refine .alloc ?_ ?_ _ | refine .setCell ?_ ?_ _ | refine .drew ?_ | refine below_drewN ?_ _ | refine Below.trans ?_ (b1.mono ?_) | refine Below.trans ?_ (hB.mono ?_)) <;> first | omega | simp <;> omega)))
   go_roundw
   case rel => exact ⟨k + 1, by omega, by go_num, B1⟩
   case measure => simp [intOf]; omega
  ·obtain rfl : k = l.length := by omega
   go_wp2_with fail
   go_ret
   exact ⟨rfl, hB⟩
set_option maxRecDepth 100000 in
set_option maxHeartbeats 400000 in
theorem ContainsTx69_any (v : Value) (l : List Tx) (w : World) (h : TxR w v l) (hr : ∀ i, i < l.length → Fm (txAt l i) ∧ 1 ≤ (txAt l i).ts) (hl : l.length ≤ 2000) :
  Calls Tryz.prog 68 #[v, .func (.func 69) #[] #[]] w fun e w' => e = .returned (.bool false) ∧ Below w.heap.size w w' := by
 have HI := hide (IndexTx69_any v l w h hr hl)
 obtain ⟨a, cap, rfl, -⟩ := h.len
 clear h hr
 go_enter Tryz.func68, Tryz.ntmps68
 go_wp2_with (go_at_call 102; (with_reducible refine HI.out.mono ?_); rintro e w1 ⟨rfl, b1⟩)
 go_ret
 exact ⟨rfl, b1⟩
set_option maxHeartbeats 2000000 in
set_option maxRecDepth 100000 in
set_option maxHeartbeats 400000 in
theorem EqualFunc_any (v v2 : Value) (l : List Tx) (w : World) (h : TxR w v l) (h2 : TxR w v2 l) (hr : ∀ i, i < l.length → (txAt l i).rd.length ≤ 8 ∧ (txAt l i).wr.length ≤ 8) (hl : l.length ≤ 2000) :
  Calls Tryz.prog 66 #[v, v2, .func (.func 67) #[] #[]] w fun e w' => e = .returned (.bool true) ∧ Below w.heap.size w w' := by
 obtain ⟨a1, cap1, rfl, -⟩ := h.len
 obtain ⟨a2, cap2, rfl, -⟩ := h2.len
 have HI := hide (fun (V : World) (hV : Below w.heap.size w V) => And.intro (h.below (Nat.le_refl _) hV) (h2.below (Nat.le_refl _) hV))
 have HR := hide hr
 clear h h2 hr
 go_enter Tryz.func66, Tryz.ntmps66
 go_wp2_with fail
 go_loopw [17] (fun s17 wx => ∃ (k : Nat), k ≤ l.length ∧ s17 = .int .i64 k ∧ Below w.heap.size w wx) (fun s17 _ => l.length - (intOf s17).toNat)
 case atStart => exact ⟨0, Nat.zero_le _, rfl, Below.refl _ _⟩
 case round =>
  obtain ⟨k, hk, rfl, hB⟩ := hrel
  by_cases hlt : k < l.length
  ·obtain ⟨b, off, cap', rv, wv, hb, hlt0, x0, x1, x2, x3, hrd⟩ := TxR.at_ (HI.out wr hB).1 (i := k) hlt
   obtain ⟨b', off', cap'', rv', wv', hb', hlt1, y0, y1, y2, y3, hrd'⟩ := TxR.at_ (HI.out wr hB).2 (i := k) hlt
   cases hb
   cases hb'
   obtain ⟨ar, cr, rfl, -⟩ := id hrd.1
   obtain ⟨aw, cw, rfl, -⟩ := id hrd.2
   obtain ⟨ar', cr', rfl, -⟩ := id hrd'.1
   obtain ⟨aw', cw', rfl, -⟩ := id hrd'.2
   have HC := hide (fun (V : World) (hV : Below wr.heap.size wr V) => cequal_any _ _ _ _ _ V (hrd.below (Nat.le_refl _) hV) (hrd'.below (Nat.le_refl _) hV) (HR.out k hlt).1 (HR.out k hlt).2)
   clear hrd hrd'
   generalize txAt l k = T at *
   obtain ⟨ti, tt, rl, wl⟩ := T
   dsimp only [valT] at *
   have I1 : (0 : Int) ≤ (k : Int) := by omega
   have I2 : (k : Int) < (l.length : Int) := by omega
   have hz := hB.size
   go_wp2_with (go_at_call 67; (with_reducible refine (HC.out _ (by ((with_reducible repeat' first | exact .refl _ _ | refine .alloc ?_ ?_ _ | refine .setCell ?_ ?_ _ | refine .drew ?_ | refine below_drewN ?_ _) <;> first | omega | simp <;> omega))).mono ?_); rintro e w1 ⟨rfl, k1⟩; have B1 : Below w.heap.size w w1 := (by ((with_reducible repeat' first | exact .refl _ _ | exact k1 | exact hB | refine .alloc ?_ ?_ _ | refine .setCell ?_ ?_ _ | refine .drew ?_ | refine below_drewN ?_ _ | refine Below.trans ?_ (k1.mono ?_) | refine Below.trans ?_ (hB.mono ?_)) <;> first | omega | simp <;> omega)))
   go_roundw
   case rel => exact ⟨k + 1, by omega, by go_num, B1⟩
   case measure => simp [intOf]; omega
  ·obtain rfl : k = l.length := by omega
   go_wp2_with fail
   go_ret
   exact ⟨rfl, hB⟩
end Go.Proofs.YthkoaecafmhlcaaGreat
