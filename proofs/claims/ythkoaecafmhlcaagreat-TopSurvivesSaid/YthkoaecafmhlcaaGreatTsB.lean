/- Package versions: order, the binary search, last, Valid. -/
import Derived.Test.YthkoaecafmhlcaaGreatJ09
import Derived.Sort.QuietTacIn
namespace Go.Proofs.YthkoaecafmhlcaaGreat
open Go.RowKit
attribute [local go_sem ↓] run_max_mx run_min_mn

set_option maxRecDepth 100000 in
set_option maxHeartbeats 1000000 in
theorem order_flat (ka ta xa : Int) (ga : Bool) (kb tb xb : Int) (gb : Bool) (w : World) : Calls Tryz.prog 86 #[.agg #[.int .i64 ka, .int .i64 ta, .int .i64 xa, .bool ga], .agg #[.int .i64 kb, .int .i64 tb, .int .i64 xb, .bool gb]] w fun e w' => e = .returned (.int .i64 (orI (Lib.compareInt ka kb) (Lib.compareInt ta tb))) ∧ Below w.heap.size w w' := by
 obtain ⟨c1, hc1⟩ : ∃ R, R = Lib.compareInt ka kb := ⟨_, rfl⟩
 obtain ⟨c2, hc2⟩ : ∃ R, R = Lib.compareInt ta tb := ⟨_, rfl⟩
 have H1 := hide (fun W => hc1 ▸ Compare_any ka kb W)
 have H2 := hide (fun W => hc2 ▸ Compare_any ta tb W)
 rw [← hc1, ← hc2]
 clear hc1 hc2
 go_enter Tryz.func86, Tryz.ntmps86
 go_wp2_with fail
 obtain ⟨W, hW⟩ : ∃ W, W = (w.alloc (.cells #[.int .i64 ka, .int .i64 ta, .int .i64 xa, .bool ga] 64)).alloc (.cells #[.int .i64 kb, .int .i64 tb, .int .i64 xb, .bool gb] 64) := ⟨_, rfl⟩
 rw [← hW]
 have q0 : W.cell? ⟨w.heap.size, 0, none⟩ = some (.int .i64 ka) := by rw [hW]; simp
 have q1 : W.cell? ⟨w.heap.size, 1, none⟩ = some (.int .i64 ta) := by rw [hW]; simp
 have q2 : W.cell? ⟨w.heap.size + 1, 0, none⟩ = some (.int .i64 kb) := by rw [hW]; simp
 have q3 : W.cell? ⟨w.heap.size + 1, 1, none⟩ = some (.int .i64 tb) := by rw [hW]; simp
 have b0 : Below w.heap.size w W := by rw [hW]; ((with_reducible repeat' first | exact .refl _ _ | refine .alloc ?_ ?_ _ | refine .setCell ?_ ?_ _ | refine .drew ?_ | refine below_drewN ?_ _) <;> first | omega | simp <;> omega)
 have hz : w.heap.size + 1 < W.heap.size := by rw [hW]; simp
 have hz2 : w.heap.size < W.heap.size := by omega
 clear hW
 go_region_held3 (fun V => V.cell? ⟨w.heap.size, 0, none⟩ = some (.int .i64 ka) ∧ V.cell? ⟨w.heap.size, 1, none⟩ = some (.int .i64 ta) ∧ V.cell? ⟨w.heap.size + 1, 0, none⟩ = some (.int .i64 kb) ∧ V.cell? ⟨w.heap.size + 1, 1, none⟩ = some (.int .i64 tb)) (go_keep)
  (first | (go_at_call 64; (with_reducible refine (H1.out _).mono ?_); rintro e w1 ⟨rfl, rfl⟩) | (go_at_call 64; (with_reducible refine (H2.out _).mono ?_); rintro e w1 ⟨rfl, rfl⟩) | (go_at_call 127; (with_reducible refine (Or_any _ c1 c2 _ (by simp [go_sem]) (by simp [go_sem])).mono ?_); rintro e w1 ⟨rfl, rfl⟩))
 go_wp2_with fail
 go_ret
 refine ⟨rfl, (by ((with_reducible repeat' first | exact .refl _ _ | exact b0 | refine .alloc ?_ ?_ _ | refine .setCell ?_ ?_ _ | refine .drew ?_ | refine below_drewN ?_ _ | refine Below.trans ?_ (b0.mono ?_)) <;> first | omega | simp <;> omega))⟩
theorem order_any (a b : Ver) (w : World) : Calls Tryz.prog 86 #[valV a, valV b] w fun e w' => e = .returned (.int .i64 (ordV a b)) ∧ Below w.heap.size w w' := order_flat a.key a.ts a.val a.gone b.key b.ts b.val b.gone w
set_option maxRecDepth 100000 in
set_option maxHeartbeats 400000 in
theorem upTo1_any (a b : Ver) (w : World) : Calls Tryz.prog 126 #[valV a, valV b] w fun e w' => e = .returned (.int .i64 (ordV a b)) ∧ Below w.heap.size w w' := by
 obtain ⟨ka, ta, xa, ga⟩ := a
 obtain ⟨kb, tb, xb, gb⟩ := b
 have H := hide (fun W => order_any ⟨ka, ta, xa, ga⟩ ⟨kb, tb, xb, gb⟩ W)
 generalize ordV ⟨ka, ta, xa, ga⟩ ⟨kb, tb, xb, gb⟩ = r at *
 dsimp only [valV] at *
 go_enter Tryz.func126, Tryz.ntmps126
 go_wp2_with (go_at_call 86; (with_reducible refine (H.out _).mono ?_); rintro e w1 ⟨rfl, b1⟩)
 go_ret
 exact ⟨rfl, (by ((with_reducible repeat' first | exact .refl _ _ | exact b1 | refine .alloc ?_ ?_ _ | refine .setCell ?_ ?_ _ | refine .drew ?_ | refine below_drewN ?_ _ | refine Below.trans ?_ (b1.mono ?_)) <;> first | omega | simp <;> omega))⟩
def BsAt (S : List Ver) (g : Ver) (i j : Nat) : Prop := i ≤ j ∧ j ≤ S.length ∧ (∀ p, p < i → ordV (vAt S p) g < 0) ∧ ∀ p, j ≤ p → p < S.length → ¬ ordV (vAt S p) g < 0
theorem BsAt.lo {S : List Ver} {g : Ver} {i j h : Nat} (H : BsAt S g i j) (hS : SoV S) (h2 : h < j) (hc : ordV (vAt S h) g < 0) : BsAt S g (h + 1) j := by
 refine ⟨by omega, H.2.1, fun p hp => ?_, H.2.2.2⟩
 rcases Nat.lt_or_ge p h with h3 | h3
 ·rw [ordV_neg] at hc ⊢
  exact vlt_trans (hS.lt h3 (by have := H.2.1; omega)) hc
 ·obtain rfl : p = h := by omega
  exact hc
theorem BsAt.hi {S : List Ver} {g : Ver} {i j h : Nat} (H : BsAt S g i j) (hS : SoV S) (h1 : i ≤ h) (h2 : h < j) (hc : ¬ ordV (vAt S h) g < 0) : BsAt S g i h := by
 refine ⟨h1, by have := H.2.1; omega, H.2.2.1, fun p hp hl hn => hc ?_⟩
 rcases Nat.lt_or_ge h p with h3 | h3
 ·rw [ordV_neg] at hn ⊢
  exact vlt_trans (hS.lt h3 hl) hn
 ·obtain rfl : p = h := by omega
  exact hn
set_option maxRecDepth 100000 in
set_option maxHeartbeats 1000000 in
theorem bsearch_any (sv : Value) (S : List Ver) (g : Ver) (w : World) (hv : VRow w sv S) (hS : SoV S) (hl : S.length ≤ 5000) :
  Calls Tryz.prog 125 #[sv, valV g, .func (.func 126) #[] #[]] w fun e w' => (∃ (i : Nat) (f : Bool), e = .returned (.tuple #[.int .i64 i, .bool f]) ∧ BsAt S g i i ∧ (f = true ↔ (i < S.length ∧ ordV (vAt S i) g = 0))) ∧ Below w.heap.size w w' := by
 obtain ⟨a, cap, rfl, h1, h2, -⟩ := id hv
 have HV := hide hv
 have HS := hide hS
 clear hv hS
 obtain ⟨gk, gt, gx, gg⟩ := g
 dsimp only [valV]
 obtain ⟨G, hG⟩ : ∃ G : Ver, G = ⟨gk, gt, gx, gg⟩ := ⟨_, rfl⟩
 rw [← hG]
 have HG := hide hG
 clear hG
 obtain ⟨n, hn⟩ : ∃ n, n = S.length := ⟨_, rfl⟩
 rw [← hn] at h1 hl ⊢
 have HN := hide hn
 clear hn
 go_enter Tryz.func125, Tryz.ntmps125
 go_wp2_with fail
 obtain ⟨W, hW⟩ : ∃ V, V = w.alloc (.cells #[.int .i64 gk, .int .i64 gt, .int .i64 gx, .bool gg] 64) := ⟨_, rfl⟩
 rw [← hW]
 have b0 : Below w.heap.size w W := by rw [hW]; ((with_reducible repeat' first | exact .refl _ _ | refine .alloc ?_ ?_ _ | refine .setCell ?_ ?_ _ | refine .drew ?_ | refine below_drewN ?_ _) <;> first | omega | simp <;> omega)
 have hz : w.heap.size < W.heap.size := by rw [hW]; simp
 have g0 : W.cell? ⟨w.heap.size, 0, none⟩ = some (.int .i64 gk) := by rw [hW]; simp
 have g1 : W.cell? ⟨w.heap.size, 1, none⟩ = some (.int .i64 gt) := by rw [hW]; simp
 have g2 : W.cell? ⟨w.heap.size, 2, none⟩ = some (.int .i64 gx) := by rw [hW]; simp
 have g3 : W.cell? ⟨w.heap.size, 3, none⟩ = some (.bool gg) := by rw [hW]; simp
 have HW := hide (fun (V : World) (hV : Below W.heap.size W V) => And.intro ((hV.cell (p := ⟨w.heap.size, 0, none⟩) hz).trans g0) (And.intro ((hV.cell (p := ⟨w.heap.size, 1, none⟩) hz).trans g1) (And.intro ((hV.cell (p := ⟨w.heap.size, 2, none⟩) hz).trans g2) (And.intro ((hV.cell (p := ⟨w.heap.size, 3, none⟩) hz).trans g3) (HV.out.below (Nat.le_refl _) (b0.trans (hV.mono b0.size)))))))
 have HB0 := hide b0
 clear hW b0 g0 g1 g2 g3
 go_loopw [9, 10] (fun s9 s10 wr => ∃ i j : Nat, s9 = .int .i64 i ∧ s10 = .int .i64 j ∧ Hid (BsAt S G i j) ∧ (i ≤ j ∧ j ≤ n) ∧ Below W.heap.size W wr) (fun s9 s10 _ => (intOf s10).toNat - (intOf s9).toNat)
 case atStart => exact ⟨0, n, rfl, rfl, hide ⟨Nat.zero_le _, Nat.le_of_eq HN.out, fun p hp => by omega, fun p h1 h2 => by rw [HN.out] at h1; omega⟩, ⟨Nat.zero_le _, Nat.le_refl _⟩, .refl _ _⟩
 case round =>
  obtain ⟨i, j, rfl, rfl, HB, ⟨hij, hjn⟩, hB⟩ := hrel
  by_cases hlt : i < j
  ·obtain ⟨h, hh⟩ : ∃ h : Nat, h = (i + j) / 2 := ⟨_, rfl⟩
   have e : ((i : Int) + j) / 2 = (h : Int) := by omega
   have h1' : i ≤ h := by omega
   have h2' : h < j := by omega
   have h3' : h < n := by omega
   have I1 : (0 : Int) ≤ (h : Int) := by omega
   have I2 : (h : Int) < (n : Int) := by omega
   clear hh
   have hzr := hB.size
   obtain ⟨y0, y1, y2, y3, hrow⟩ := HW.out wr hB
   obtain ⟨b, off, cap', hb, hlt', x0, x1, x2, x3⟩ := VRow.at_ hrow (i := h) (by rw [← HN.out]; exact h3')
   cases hb
   obtain ⟨⟨ek, et, ex, eg⟩, hev⟩ : ∃ v, v = vAt S h := ⟨_, rfl⟩
   rw [← hev] at x0 x1 x2 x3
   dsimp only at x0 x1 x2 x3
   obtain ⟨R, hR⟩ : ∃ R, R = ordV (vAt S h) G := ⟨_, rfl⟩
   have HC := hide (fun (V : World) => (by have := upTo1_any (vAt S h) G V; rw [← hR, ← hev, HG.out] at this; exact this))
   have HR := hide hR
   have hz1 : w.heap.size < wr.heap.size := by omega
   clear hev hrow hR
   have HA := hide (fun (V : World) (hV : Below wr.heap.size wr V) => And.intro ((hV.cell (p := ⟨_, _, none⟩) hz1).trans y0) (And.intro ((hV.cell (p := ⟨_, _, none⟩) hz1).trans y1) (And.intro ((hV.cell (p := ⟨_, _, none⟩) hz1).trans y2) (And.intro ((hV.cell (p := ⟨_, _, none⟩) hz1).trans y3) (And.intro ((hV.cell (p := ⟨_, _, none⟩) hlt').trans x0) (And.intro ((hV.cell (p := ⟨_, _, none⟩) hlt').trans x1) (And.intro ((hV.cell (p := ⟨_, _, none⟩) hlt').trans x2) ((hV.cell (p := ⟨_, _, none⟩) hlt').trans x3))))))))
   go_upto_region 5 with fail
   clear e
   go_region_held3 (fun V => V.cell? ⟨w.heap.size, 0, none⟩ = some (.int .i64 gk) ∧ V.cell? ⟨w.heap.size, 1, none⟩ = some (.int .i64 gt) ∧ V.cell? ⟨w.heap.size, 2, none⟩ = some (.int .i64 gx) ∧ V.cell? ⟨w.heap.size, 3, none⟩ = some (.bool gg) ∧ V.cell? ⟨b, off + h * 4, none⟩ = some (.int .i64 ek) ∧ V.cell? ⟨b, off + h * 4 + 1, none⟩ = some (.int .i64 et) ∧ V.cell? ⟨b, off + h * 4 + 2, none⟩ = some (.int .i64 ex) ∧ V.cell? ⟨b, off + h * 4 + 3, none⟩ = some (.bool eg)) (exact HA.out _ (by ((with_reducible repeat' first | exact .refl _ _ | exact k1 | refine .alloc ?_ ?_ _ | refine .setCell ?_ ?_ _ | refine .drew ?_ | refine below_drewN ?_ _ | refine Below.trans ?_ (k1.mono ?_)) <;> first | omega | simp <;> omega)))
    ((go_at_call 126; (with_reducible refine (HC.out _).mono ?_); rintro e w1 ⟨rfl, k1⟩; have z1 := k1.size))
   have k1w : Below wr.heap.size wr w1 := (by ((with_reducible repeat' first | exact .refl _ _ | exact k1 | refine .alloc ?_ ?_ _ | refine .setCell ?_ ?_ _ | refine .drew ?_ | refine below_drewN ?_ _ | refine Below.trans ?_ (k1.mono ?_)) <;> first | omega | simp <;> omega))
   have B1 : Below W.heap.size W w1 := hB.trans (k1w.mono hzr)
   clear y0 y1 y2 y3 x0 x1 x2 x3 k1
   by_cases hc : R < 0
   ·have hn := HB.out.lo HS.out h2' (by rw [← HR.out]; exact hc)
    have HNx := hide hn
    clear hn
    have dR : decide (R < 0) = true := decide_eq_true hc
    go_wp2_with fail
    go_roundw
    case rel => exact ⟨h + 1, j, by go_num, rfl, HNx, ⟨by omega, hjn⟩, B1⟩
    case measure => simp [intOf]; omega
   ·have hn := HB.out.hi HS.out h1' h2' (by rw [← HR.out]; exact hc)
    have HNx := hide hn
    clear hn
    have dR : decide (R < 0) = false := decide_eq_false hc
    go_wp2_with fail
    go_roundw
    case rel => exact ⟨i, h, rfl, rfl, HNx, ⟨by omega, by omega⟩, B1⟩
    case measure => simp [intOf]; omega
  ·obtain rfl : i = j := by omega
   obtain ⟨y0, y1, y2, y3, hrow⟩ := HW.out wr hB
   have hzr := hB.size
   have hz1 : w.heap.size < wr.heap.size := by omega
   by_cases hi : i < n
   ·obtain ⟨b, off, cap', hb, hlt', x0, x1, x2, x3⟩ := VRow.at_ hrow (i := i) (by rw [← HN.out]; exact hi)
    cases hb
    obtain ⟨⟨ek, et, ex, eg⟩, hev⟩ : ∃ v, v = vAt S i := ⟨_, rfl⟩
    rw [← hev] at x0 x1 x2 x3
    dsimp only at x0 x1 x2 x3
    obtain ⟨R, hR⟩ : ∃ R, R = ordV (vAt S i) G := ⟨_, rfl⟩
    have HC := hide (fun (V : World) => (by have := upTo1_any (vAt S i) G V; rw [← hR, ← hev, HG.out] at this; exact this))
    have HR := hide hR
    have I1 : (0 : Int) ≤ (i : Int) := by omega
    have I2 : (i : Int) < (n : Int) := by omega
    clear hev hrow hR
    have HA := hide (fun (V : World) (hV : Below wr.heap.size wr V) => And.intro ((hV.cell (p := ⟨_, _, none⟩) hz1).trans y0) (And.intro ((hV.cell (p := ⟨_, _, none⟩) hz1).trans y1) (And.intro ((hV.cell (p := ⟨_, _, none⟩) hz1).trans y2) (And.intro ((hV.cell (p := ⟨_, _, none⟩) hz1).trans y3) (And.intro ((hV.cell (p := ⟨_, _, none⟩) hlt').trans x0) (And.intro ((hV.cell (p := ⟨_, _, none⟩) hlt').trans x1) (And.intro ((hV.cell (p := ⟨_, _, none⟩) hlt').trans x2) ((hV.cell (p := ⟨_, _, none⟩) hlt').trans x3))))))))
    go_upto_region 8 with fail
    go_region_held3 (fun V => V.cell? ⟨w.heap.size, 0, none⟩ = some (.int .i64 gk) ∧ V.cell? ⟨w.heap.size, 1, none⟩ = some (.int .i64 gt) ∧ V.cell? ⟨w.heap.size, 2, none⟩ = some (.int .i64 gx) ∧ V.cell? ⟨w.heap.size, 3, none⟩ = some (.bool gg) ∧ V.cell? ⟨b, off + i * 4, none⟩ = some (.int .i64 ek) ∧ V.cell? ⟨b, off + i * 4 + 1, none⟩ = some (.int .i64 et) ∧ V.cell? ⟨b, off + i * 4 + 2, none⟩ = some (.int .i64 ex) ∧ V.cell? ⟨b, off + i * 4 + 3, none⟩ = some (.bool eg)) (exact HA.out _ (by ((with_reducible repeat' first | exact .refl _ _ | exact k1 | refine .alloc ?_ ?_ _ | refine .setCell ?_ ?_ _ | refine .drew ?_ | refine below_drewN ?_ _ | refine Below.trans ?_ (k1.mono ?_)) <;> first | omega | simp <;> omega)))
     ((go_at_call 126; (with_reducible refine (HC.out _).mono ?_); rintro e w1 ⟨rfl, k1⟩; have z1 := k1.size))
    have k1w : Below wr.heap.size wr w1 := (by ((with_reducible repeat' first | exact .refl _ _ | exact k1 | refine .alloc ?_ ?_ _ | refine .setCell ?_ ?_ _ | refine .drew ?_ | refine below_drewN ?_ _ | refine Below.trans ?_ (k1.mono ?_)) <;> first | omega | simp <;> omega))
    have B1 : Below W.heap.size W w1 := hB.trans (k1w.mono hzr)
    clear y0 y1 y2 y3 x0 x1 x2 x3 k1
    go_wp2_with fail
    refine bodyPost_ret (v := .tuple #[.int .i64 i, .bool (R == 0)]) (by simp [results, Tryz.results125, go_sem]) rfl ⟨⟨i, _, rfl, HB.out, ?_⟩, (by ((with_reducible repeat' first | exact .refl _ _ | exact B1 | exact HB0.out | refine .alloc ?_ ?_ _ | refine .setCell ?_ ?_ _ | refine .drew ?_ | refine below_drewN ?_ _ | refine Below.trans ?_ (B1.mono ?_) | refine Below.trans ?_ (HB0.out.mono ?_)) <;> first | omega | simp <;> omega))⟩
    rw [← HR.out]
    simp [hi]
   ·obtain rfl : i = n := by omega
    clear hrow y0 y1 y2 y3
    go_upto_region 8 with fail
    go_quiet ((go_at_call 126; fail))
    go_wp2_with fail
    refine bodyPost_ret (v := .tuple #[.int .i64 i, .bool false]) (by simp [results, Tryz.results125, go_sem]) rfl ⟨⟨i, _, rfl, HB.out, ?_⟩, (by ((with_reducible repeat' first | exact .refl _ _ | exact hB | exact HB0.out | refine .alloc ?_ ?_ _ | refine .setCell ?_ ?_ _ | refine .drew ?_ | refine below_drewN ?_ _ | refine Below.trans ?_ (hB.mono ?_) | refine Below.trans ?_ (HB0.out.mono ?_)) <;> first | omega | simp <;> omega))⟩
    simp
theorem bs_up {S : List Ver} {g : Ver} {i : Nat} (hS : SoV S) (h : BsAt S g i i) : (if i < S.length ∧ ordV (vAt S i) g = 0 then i + 1 else i) = upN S g.key g.ts := by
 obtain ⟨-, h1, h2, h3⟩ := h
 symm
 split
 ·rename_i hc
  obtain ⟨c1, c2⟩ := hc
  rw [ordV_zero] at c2
  refine upN_eq (by omega) (fun p hp => ?_) fun p hp hl hn => ?_
  ·rcases Nat.lt_or_ge p i with h4 | h4
   ·have := h2 p h4
    rw [ordV_neg] at this
    unfold vlt at this
    unfold vle
    omega
   ·obtain rfl : p = i := by omega
    exact .inr ⟨c2.1, by omega⟩
  ·have h5 := hS.lt (show i < p by omega) hl
   unfold vlt at h5
   unfold vle at hn
   omega
 ·rename_i hc
  refine upN_eq h1 (fun p hp => ?_) fun p hp hl hn => ?_
  ·have := h2 p hp
   rw [ordV_neg] at this
   unfold vlt at this
   unfold vle
   omega
  ·have h4 := h3 p hp hl
   rw [ordV_neg] at h4
   rcases Nat.lt_or_ge i p with h5 | h5
   ·have h6 := hS.lt h5 hl
    have h7 := h3 i (Nat.le_refl _) (by omega)
    rw [ordV_neg] at h7
    have h8 : ¬ (ordV (vAt S i) g = 0) := fun e => hc ⟨by omega, e⟩
    rw [ordV_zero] at h8
    unfold vlt at h4 h6 h7
    unfold vle at hn
    omega
   ·obtain rfl : p = i := by omega
    have h8 : ¬ (ordV (vAt S p) g = 0) := fun e => hc ⟨hl, e⟩
    rw [ordV_zero] at h8
    unfold vlt at h4
    unfold vle at hn
    omega
set_option maxRecDepth 100000 in
set_option maxHeartbeats 1000000 in
theorem upTo_any (sv : Value) (S : List Ver) (k t : Int) (w : World) (hv : VRow w sv S) (hS : SoV S) (hl : S.length ≤ 5000) :
  Calls Tryz.prog 82 #[sv, .int .i64 k, .int .i64 t] w fun e w' => e = .returned (.int .i64 (upN S k t)) ∧ Below w.heap.size w w' := by
 have HC := hide (fun (V : World) (hV : Below w.heap.size w V) => bsearch_any sv S ⟨k, t, 0, false⟩ V (hv.below (Nat.le_refl _) hV) hS hl)
 obtain ⟨a, cap, rfl, h1, h2, -⟩ := id hv
 have HU := hide (fun i => bs_up (g := ⟨k, t, 0, false⟩) (i := i) hS)
 clear hv hS
 dsimp only [valV] at *
 go_enter Tryz.func82, Tryz.ntmps82
 go_wp2_with (go_at_call 125; (with_reducible refine (HC.out _ (by ((with_reducible repeat' first | exact .refl _ _ | refine .alloc ?_ ?_ _ | refine .setCell ?_ ?_ _ | refine .drew ?_ | refine below_drewN ?_ _) <;> first | omega | simp <;> omega))).mono ?_); rintro e w1 ⟨⟨i, f, rfl, hi, hf⟩, b1⟩; have HI := hide hi; have HF := hide hf; have e1 := HI.out.2.1; clear hi hf)
 ·go_ret
  refine ⟨?_, (by ((with_reducible repeat' first | exact .refl _ _ | exact b1 | refine .alloc ?_ ?_ _ | refine .setCell ?_ ?_ _ | refine .drew ?_ | refine below_drewN ?_ _ | refine Below.trans ?_ (b1.mono ?_)) <;> first | omega | simp <;> omega))⟩
  have h1 := HF.out.1 ‹_›
  rw [← HU.out i HI.out, if_pos h1]
  rfl
 ·go_ret
  refine ⟨?_, (by ((with_reducible repeat' first | exact .refl _ _ | exact b1 | refine .alloc ?_ ?_ _ | refine .setCell ?_ ?_ _ | refine .drew ?_ | refine below_drewN ?_ _ | refine Below.trans ?_ (b1.mono ?_)) <;> first | omega | simp <;> omega))⟩
  have h1 : ¬ (i < S.length ∧ ordV (vAt S i) ⟨k, t, 0, false⟩ = 0) := fun h => by
   have h2 := HF.out.2 h
   simp_all
  rw [← HU.out i HI.out, if_neg h1]
  rfl
end Go.Proofs.YthkoaecafmhlcaaGreat
