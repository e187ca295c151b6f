/- Package versions: Valid, At. -/
import Derived.Test.YthkoaecafmhlcaaGreatTsC
import Derived.Test.YthkoaecafmhlcaaGreatJ02
import Derived.Shelf.SlSortCmp.QuietGrown
namespace Go.Proofs.YthkoaecafmhlcaaGreat
open Go.RowKit
attribute [local go_sem ↓] run_max_mx run_min_mn

theorem below_growT {B : Nat} {a w : World} (h : Below B a w) (hB : B ≤ w.heap.size) (n : Nat) (os : Array Obj) : Below B a (Sort.grow (w.drewN n) os) :=
 (below_drewN h n).trans ⟨rfl, rfl, rfl, by rw [Sort.size_grow]; omega, fun k hk => Sort.heap_grow_old (w.drewN n) os (Nat.lt_of_lt_of_le hk hB)⟩
def StOk (S : List Ver) : Prop := SoV S ∧ (∀ x, x ∈ S → WfV x) ∧ S.length ≤ 4000
set_option maxRecDepth 100000 in
set_option maxHeartbeats 1000000 in
theorem vValid_any (sv : Value) (S : List Ver) (w : World) (hv : VRow w sv S) (hS : StOk S) : Calls Tryz.prog 43 #[sv] w fun e w' => e = .returned (.bool true) ∧ Below w.heap.size w w' := by
 have HV := hide (fun (V : World) (hV : Below w.heap.size w V) => hv.below (Nat.le_refl _) hV)
 obtain ⟨a, cap, rfl, h1, h2, -⟩ := id hv
 obtain ⟨hS1, hS2, hS3⟩ := hS
 have H1 := hide hS1
 have H2 := hide hS2
 clear hv hS1 hS2
 go_enter Tryz.func43, Tryz.ntmps43
 go_wp2_with fail
 go_loopw [7] (fun s7 wr => ∃ k : Nat, k ≤ S.length ∧ s7 = .int .i64 k ∧ Below w.heap.size w wr) (fun s7 _ => S.length - (intOf s7).toNat)
 case atStart => exact ⟨0, Nat.zero_le _, rfl, .refl _ _⟩
 case round =>
  obtain ⟨k, hk, rfl, hB⟩ := hrel
  by_cases hlt : k < S.length
  ·obtain ⟨b, off, cap', hb, hlt', x0, x1, x2, x3⟩ := VRow.at_ (HV.out wr hB) (i := k) hlt
   cases hb
   have hwf := H2.out _ (vAt_mem hlt)
   obtain ⟨⟨ek, et, ex, eg⟩, hev⟩ : ∃ v, v = vAt S k := ⟨_, rfl⟩
   rw [← hev] at x0 x1 x2 x3 hwf
   dsimp only at x0 x1 x2 x3
   have HWf := hide (fun V => wfx_any ⟨ek, et, ex, eg⟩ V hwf)
   have I1 : (0 : Int) ≤ (k : Int) := by omega
   have I2 : (k : Int) < (S.length : Int) := by omega
   have hzr := hB.size
   by_cases hk0 : k = 0
   ·have d0 : decide ((0 : Int) < (k : Int)) = false := decide_eq_false (by omega)
    have d0n : decide (0 < k) = false := decide_eq_false (by omega)
    have mixed : Tryz.prog.follows Departure.mixedOrders = true := by kernel_rfl
    have HK := hide hk0
    clear hwf hev hk0
    dsimp only [valV] at *
    go_upto_region 4 with fail
    obtain ⟨W2, hW2⟩ : ∃ V, V = wr.alloc (.cells #[.int .i64 ek, .int .i64 et, .int .i64 ex, .bool eg] 64) := ⟨_, rfl⟩
    rw [← hW2]
    have c0 : W2.cell? ⟨wr.heap.size, 0, none⟩ = some (.int .i64 ek) := by rw [hW2]; simp
    have c1 : W2.cell? ⟨wr.heap.size, 1, none⟩ = some (.int .i64 et) := by rw [hW2]; simp
    have c2 : W2.cell? ⟨wr.heap.size, 2, none⟩ = some (.int .i64 ex) := by rw [hW2]; simp
    have c3 : W2.cell? ⟨wr.heap.size, 3, none⟩ = some (.bool eg) := by rw [hW2]; simp
    have zW : wr.heap.size < W2.heap.size := by rw [hW2]; simp
    have bW : Below w.heap.size w W2 := by rw [hW2]; ((with_reducible repeat' first | exact .refl _ _ | exact hB | refine .alloc ?_ ?_ _ | refine .setCell ?_ ?_ _ | refine .drew ?_ | refine below_drewN ?_ _ | refine Below.trans ?_ (hB.mono ?_)) <;> first | omega | simp <;> omega)
    have g0 := fun n os => cell_grown zW c0 n os
    have g1 := fun n os => cell_grown zW c1 n os
    have g2 := fun n os => cell_grown zW c2 n os
    have g3 := fun n os => cell_grown zW c3 n os
    clear hW2 x0 x1 x2 x3
    refine wp_region_quiet_grown (by assumption) (by kernel_rfl) ?_
    repeat (go_big_quiet_step (first | (go_at_call 80; exact Calls.grown_of ((HWf.out _).mono (by rintro e w' ⟨rfl, rfl⟩; exact ⟨rfl, 0, _, by rw [World.drewN_zero]; exact Sort.alloc_eq_grow _ _⟩)))))
    refine wpQuiet_nil ?_
    intro _ hw'
    obtain ⟨⟨nq, osq⟩, hw''⟩ := hw'
    subst hw''
    have zW2 : w.heap.size ≤ W2.heap.size := by omega
    go_wp2_with fail
    go_roundw
    case rel => exact ⟨k + 1, by omega, by go_num, below_growT bW zW2 _ _⟩
    case measure => simp [intOf]; omega
   ·obtain ⟨m, hm⟩ : ∃ m, k = m + 1 := ⟨k - 1, by omega⟩
    have d0 : decide ((0 : Int) < (k : Int)) = true := decide_eq_true (by omega)
    have d0n : decide (0 < k) = true := decide_eq_true (by omega)
    have hkp : 0 < k := by omega
    obtain ⟨b', off', cap', hb, -, y0, y1, y2, y3⟩ := VRow.at_ (HV.out wr hB) (i := m) (by omega)
    cases hb
    have ho := H1.out.lt (show m < k by omega) hlt
    rw [← ordV_neg] at ho
    obtain ⟨⟨pk, pt, px, pg⟩, hpv⟩ : ∃ v, v = vAt S m := ⟨_, rfl⟩
    rw [← hpv] at y0 y1 y2 y3
    rw [← hpv, ← hev] at ho
    dsimp only at y0 y1 y2 y3
    obtain ⟨R, hR⟩ : ∃ R, R = ordV ⟨pk, pt, px, pg⟩ ⟨ek, et, ex, eg⟩ := ⟨_, rfl⟩
    have HC := hide (fun (V : World) => (by have := order_any ⟨pk, pt, px, pg⟩ ⟨ek, et, ex, eg⟩ V; rw [← hR] at this; exact this))
    rw [← hR] at ho
    have dR : decide (0 ≤ R) = false := decide_eq_false (by omega)
    have I3 : (0 : Int) ≤ (k : Int) - 1 := by omega
    have I4 : (k : Int) - 1 < (S.length : Int) := by omega
    have wm : IntKind.i64.wrap ((k : Int) - 1) = (m : Int) := by rw [show ((k : Int) - 1) = (m : Int) by omega]; exact IntWalk.i64_in _ (by omega)
    have I5 : (0 : Int) ≤ (m : Int) := by omega
    have I6 : (m : Int) < (S.length : Int) := by omega
    have HM := hide hm
    clear hwf hev hpv hR hm hk0
    dsimp only [valV] at *
    go_upto_region 4 with fail
    obtain ⟨W2, hW2⟩ : ∃ V, V = wr.alloc (.cells #[.int .i64 ek, .int .i64 et, .int .i64 ex, .bool eg] 64) := ⟨_, rfl⟩
    rw [← hW2]
    have c0 : W2.cell? ⟨wr.heap.size, 0, none⟩ = some (.int .i64 ek) := by rw [hW2]; simp
    have c1 : W2.cell? ⟨wr.heap.size, 1, none⟩ = some (.int .i64 et) := by rw [hW2]; simp
    have c2 : W2.cell? ⟨wr.heap.size, 2, none⟩ = some (.int .i64 ex) := by rw [hW2]; simp
    have c3 : W2.cell? ⟨wr.heap.size, 3, none⟩ = some (.bool eg) := by rw [hW2]; simp
    have zW : wr.heap.size < W2.heap.size := by rw [hW2]; simp
    have bw2 : Below wr.heap.size wr W2 := by rw [hW2]; ((with_reducible repeat' first | exact .refl _ _ | refine .alloc ?_ ?_ _ | refine .setCell ?_ ?_ _ | refine .drew ?_ | refine below_drewN ?_ _) <;> first | omega | simp <;> omega)
    have bW : Below w.heap.size w W2 := by rw [hW2]; ((with_reducible repeat' first | exact .refl _ _ | exact hB | refine .alloc ?_ ?_ _ | refine .setCell ?_ ?_ _ | refine .drew ?_ | refine below_drewN ?_ _ | refine Below.trans ?_ (hB.mono ?_)) <;> first | omega | simp <;> omega)
    have p0 := (bw2.cell (p := ⟨_, _, none⟩) hlt').trans y0
    have p1 := (bw2.cell (p := ⟨_, _, none⟩) hlt').trans y1
    have p2 := (bw2.cell (p := ⟨_, _, none⟩) hlt').trans y2
    have p3 := (bw2.cell (p := ⟨_, _, none⟩) hlt').trans y3
    have zb : b < W2.heap.size := by omega
    clear hW2 x0 x1 x2 x3 y0 y1 y2 y3 bw2
    have HA := hide (fun (V : World) (hV : Below W2.heap.size W2 V) => And.intro ((hV.cell (p := ⟨_, _, none⟩) zW).trans c0) (And.intro ((hV.cell (p := ⟨_, _, none⟩) zW).trans c1) (And.intro ((hV.cell (p := ⟨_, _, none⟩) zW).trans c2) (And.intro ((hV.cell (p := ⟨_, _, none⟩) zW).trans c3) (And.intro ((hV.cell (p := ⟨_, _, none⟩) zb).trans p0) (And.intro ((hV.cell (p := ⟨_, _, none⟩) zb).trans p1) (And.intro ((hV.cell (p := ⟨_, _, none⟩) zb).trans p2) ((hV.cell (p := ⟨_, _, none⟩) zb).trans p3))))))))
    go_region_held3 (fun V => V.cell? ⟨wr.heap.size, 0, none⟩ = some (.int .i64 ek) ∧ V.cell? ⟨wr.heap.size, 1, none⟩ = some (.int .i64 et) ∧ V.cell? ⟨wr.heap.size, 2, none⟩ = some (.int .i64 ex) ∧ V.cell? ⟨wr.heap.size, 3, none⟩ = some (.bool eg) ∧ V.cell? ⟨b, off + m * 4, none⟩ = some (.int .i64 pk) ∧ V.cell? ⟨b, off + m * 4 + 1, none⟩ = some (.int .i64 pt) ∧ V.cell? ⟨b, off + m * 4 + 2, none⟩ = some (.int .i64 px) ∧ V.cell? ⟨b, off + m * 4 + 3, none⟩ = some (.bool pg)) (exact HA.out _ (by ((with_reducible repeat' first | exact .refl _ _ | exact k2 | exact k1 | refine .alloc ?_ ?_ _ | refine .setCell ?_ ?_ _ | refine .drew ?_ | refine below_drewN ?_ _ | refine Below.trans ?_ (k2.mono ?_) | refine Below.trans ?_ (k1.mono ?_)) <;> first | omega | simp <;> omega)))
     (first | (go_at_call 80; (with_reducible refine (HWf.out _).mono ?_); rintro e w1 ⟨rfl, rfl⟩) | (go_at_call 86; (with_reducible refine (HC.out _).mono ?_); rintro e w2 ⟨rfl, k2⟩; have z2 := k2.size))
    have B2 : Below w.heap.size w w2 := (by ((with_reducible repeat' first | exact .refl _ _ | exact k2 | exact bW | refine .alloc ?_ ?_ _ | refine .setCell ?_ ?_ _ | refine .drew ?_ | refine below_drewN ?_ _ | refine Below.trans ?_ (k2.mono ?_) | refine Below.trans ?_ (bW.mono ?_)) <;> first | omega | simp <;> omega))
    clear k2 c0 c1 c2 c3 p0 p1 p2 p3
    go_wp2_with fail
    go_roundw
    case rel => exact ⟨k + 1, by omega, by go_num, B2⟩
    case measure => simp [intOf]; omega
  ·obtain rfl : k = S.length := by omega
   go_wp2_with fail
   go_ret
   exact ⟨ret_bool (decide_eq_true (by omega)), hB⟩
def atV (v : Ver) : Ver := if v.key = 0 ∨ v.gone = true then ver0 else v
def atB (v : Ver) : Bool := if v.key = 0 ∨ v.gone = true then false else true
theorem last_wf {S : List Ver} (hS : StOk S) (k t : Int) : lastV S k t = ver0 ∨ WfV (lastV S k t) := by
 rcases last_is hS.1 k t with h | h
 ·exact .inl h.1
 ·exact .inr (hS.2.1 _ h.1)
set_option maxRecDepth 100000 in
set_option maxHeartbeats 1000000 in
theorem At_any (sv : Value) (S : List Ver) (k t : Int) (w : World) (hv : VRow w sv S) (hS : StOk S) (hk : 1 ≤ k ∧ k ≤ 1000) (ht : 1 ≤ t ∧ t ≤ 3000000000000000) :
  Calls Tryz.prog 15 #[sv, .int .i64 k, .int .i64 t] w fun e w' => e = .returned (.tuple #[valV (atV (lastV S k t)), .bool (atB (lastV S k t)), .int .i64 0]) ∧ Below w.heap.size w w' := by
 have HC := hide (fun (V : World) (hV : Below w.heap.size w V) => vValid_any sv S V (hv.below (Nat.le_refl _) hV) hS)
 have HL := hide (fun (V : World) (hV : Below w.heap.size w V) => last_any sv S k t V (hv.below (Nat.le_refl _) hV) hS.1 (by have := hS.2.2; omega))
 have d1 : tsB 1 k 1000 = true := tsB_true hk
 have d2 : tsB 1 t 3000000000000000 = true := tsB_true ht
 have hw := last_wf hS k t
 obtain ⟨⟨lk, lt, lx, lg⟩, hl⟩ : ∃ v, v = lastV S k t := ⟨_, rfl⟩
 rw [← hl] at HL hw ⊢
 dsimp only [valV] at HL
 obtain ⟨a, cap, rfl, -⟩ := id hv
 clear hv hl hk ht
 rcases hw with h0 | h0
 ·simp only [ver0, Ver.mk.injEq] at h0
  obtain ⟨rfl, rfl, rfl, rfl⟩ := h0
  go_enter Tryz.func15, Tryz.ntmps15
  go_wp2_with (first | (go_at_call 43; (with_reducible refine (HC.out _ (by ((with_reducible repeat' first | exact .refl _ _ | refine .alloc ?_ ?_ _ | refine .setCell ?_ ?_ _ | refine .drew ?_ | refine below_drewN ?_ _) <;> first | omega | simp <;> omega))).mono ?_); rintro e w1 ⟨rfl, b1⟩; have z1 := b1.size; have h6 := (BxC.made w [.int .i64 0, .int .i64 0, .int .i64 0, .bool false] 64).below (by simp) b1; have ch6_0 := h6.1 0 _ rfl; have ch6_1 := h6.1 1 _ rfl; have ch6_2 := h6.1 2 _ rfl; have ch6_3 := h6.1 3 _ rfl; have fh6 := h6.2.1; have zh6 := h6.2.2; have B1 : Below w.heap.size w w1 := (by ((with_reducible repeat' first | exact .refl _ _ | exact b1 | refine .alloc ?_ ?_ _ | refine .setCell ?_ ?_ _ | refine .drew ?_ | refine below_drewN ?_ _ | refine Below.trans ?_ (b1.mono ?_)) <;> first | omega | simp <;> omega))) | (go_at_call 44; refine (isKey_any _ _).mono ?_; rintro e w' ⟨rfl, rfl⟩; rw [d1]) | (go_at_call 45; refine (isStamp_any _ _).mono ?_; rintro e w' ⟨rfl, rfl⟩; rw [d2]) | (go_at_call 46; (with_reducible refine (HL.out _ B1).mono ?_); rintro e w2 ⟨rfl, b2⟩; have z2 := b2.size; have t_ := h6.below h6.2.2 b2; clear ch6_0 ch6_1 ch6_2 ch6_3 fh6 zh6 h6; have h6 := t_; have ch6_0 := h6.1 0 _ rfl; have ch6_1 := h6.1 1 _ rfl; have ch6_2 := h6.1 2 _ rfl; have ch6_3 := h6.1 3 _ rfl; have fh6 := h6.2.1; have zh6 := h6.2.2; have zB := B1.size; have B2 : Below w.heap.size w w2 := (by ((with_reducible repeat' first | exact .refl _ _ | exact b2 | exact B1 | refine .alloc ?_ ?_ _ | refine .setCell ?_ ?_ _ | refine .drew ?_ | refine below_drewN ?_ _ | refine Below.trans ?_ (b2.mono ?_) | refine Below.trans ?_ (B1.mono ?_)) <;> first | omega | simp <;> omega))))
  obtain ⟨s0, s1, s2, s3⟩ := set4 ch6_0 ch6_1 ch6_2 ch6_3 (.int .i64 0) (.int .i64 0) (.int .i64 0) (.bool false)
  refine bodyPost_ret (v := .tuple #[.agg #[.int .i64 0, .int .i64 0, .int .i64 0, .bool false], .bool false, .int .i64 0]) (by simp [results, Tryz.results15, go_sem, s0, s1, s2, s3, zh6]) rfl ⟨?_, (by ((with_reducible repeat' first | exact .refl _ _ | exact B2 | refine .alloc ?_ ?_ _ | refine .setCell ?_ ?_ _ | refine .drew ?_ | refine below_drewN ?_ _ | refine Below.trans ?_ (B2.mono ?_)) <;> first | omega | simp <;> omega))⟩
  simp [atV, atB, valV, ver0]
 ·have hk1 : ¬ lk = 0 := by have := h0.1.1; dsimp only at this; omega
  have dk : (lk == 0) = false := by rw [beq_eq_false_iff_ne]; exact hk1
  clear h0
  cases lg with
  | true =>
   go_enter Tryz.func15, Tryz.ntmps15
   go_wp2_with (first | (go_at_call 43; (with_reducible refine (HC.out _ (by ((with_reducible repeat' first | exact .refl _ _ | refine .alloc ?_ ?_ _ | refine .setCell ?_ ?_ _ | refine .drew ?_ | refine below_drewN ?_ _) <;> first | omega | simp <;> omega))).mono ?_); rintro e w1 ⟨rfl, b1⟩; have z1 := b1.size; have h6 := (BxC.made w [.int .i64 0, .int .i64 0, .int .i64 0, .bool false] 64).below (by simp) b1; have ch6_0 := h6.1 0 _ rfl; have ch6_1 := h6.1 1 _ rfl; have ch6_2 := h6.1 2 _ rfl; have ch6_3 := h6.1 3 _ rfl; have fh6 := h6.2.1; have zh6 := h6.2.2; have B1 : Below w.heap.size w w1 := (by ((with_reducible repeat' first | exact .refl _ _ | exact b1 | refine .alloc ?_ ?_ _ | refine .setCell ?_ ?_ _ | refine .drew ?_ | refine below_drewN ?_ _ | refine Below.trans ?_ (b1.mono ?_)) <;> first | omega | simp <;> omega))) | (go_at_call 44; refine (isKey_any _ _).mono ?_; rintro e w' ⟨rfl, rfl⟩; rw [d1]) | (go_at_call 45; refine (isStamp_any _ _).mono ?_; rintro e w' ⟨rfl, rfl⟩; rw [d2]) | (go_at_call 46; (with_reducible refine (HL.out _ B1).mono ?_); rintro e w2 ⟨rfl, b2⟩; have z2 := b2.size; have t_ := h6.below h6.2.2 b2; clear ch6_0 ch6_1 ch6_2 ch6_3 fh6 zh6 h6; have h6 := t_; have ch6_0 := h6.1 0 _ rfl; have ch6_1 := h6.1 1 _ rfl; have ch6_2 := h6.1 2 _ rfl; have ch6_3 := h6.1 3 _ rfl; have fh6 := h6.2.1; have zh6 := h6.2.2; have zB := B1.size; have B2 : Below w.heap.size w w2 := (by ((with_reducible repeat' first | exact .refl _ _ | exact b2 | exact B1 | refine .alloc ?_ ?_ _ | refine .setCell ?_ ?_ _ | refine .drew ?_ | refine below_drewN ?_ _ | refine Below.trans ?_ (b2.mono ?_) | refine Below.trans ?_ (B1.mono ?_)) <;> first | omega | simp <;> omega))))
   obtain ⟨s0, s1, s2, s3⟩ := set4 ch6_0 ch6_1 ch6_2 ch6_3 (.int .i64 0) (.int .i64 0) (.int .i64 0) (.bool false)
   refine bodyPost_ret (v := .tuple #[.agg #[.int .i64 0, .int .i64 0, .int .i64 0, .bool false], .bool false, .int .i64 0]) (by simp [results, Tryz.results15, go_sem, s0, s1, s2, s3, zh6]) rfl ⟨?_, (by ((with_reducible repeat' first | exact .refl _ _ | exact B2 | refine .alloc ?_ ?_ _ | refine .setCell ?_ ?_ _ | refine .drew ?_ | refine below_drewN ?_ _ | refine Below.trans ?_ (B2.mono ?_)) <;> first | omega | simp <;> omega))⟩
   simp [atV, atB, valV, ver0]
  | false =>
   go_enter Tryz.func15, Tryz.ntmps15
   go_wp2_with (first | (go_at_call 43; (with_reducible refine (HC.out _ (by ((with_reducible repeat' first | exact .refl _ _ | refine .alloc ?_ ?_ _ | refine .setCell ?_ ?_ _ | refine .drew ?_ | refine below_drewN ?_ _) <;> first | omega | simp <;> omega))).mono ?_); rintro e w1 ⟨rfl, b1⟩; have z1 := b1.size; have h6 := (BxC.made w [.int .i64 0, .int .i64 0, .int .i64 0, .bool false] 64).below (by simp) b1; have ch6_0 := h6.1 0 _ rfl; have ch6_1 := h6.1 1 _ rfl; have ch6_2 := h6.1 2 _ rfl; have ch6_3 := h6.1 3 _ rfl; have fh6 := h6.2.1; have zh6 := h6.2.2; have B1 : Below w.heap.size w w1 := (by ((with_reducible repeat' first | exact .refl _ _ | exact b1 | refine .alloc ?_ ?_ _ | refine .setCell ?_ ?_ _ | refine .drew ?_ | refine below_drewN ?_ _ | refine Below.trans ?_ (b1.mono ?_)) <;> first | omega | simp <;> omega))) | (go_at_call 44; refine (isKey_any _ _).mono ?_; rintro e w' ⟨rfl, rfl⟩; rw [d1]) | (go_at_call 45; refine (isStamp_any _ _).mono ?_; rintro e w' ⟨rfl, rfl⟩; rw [d2]) | (go_at_call 46; (with_reducible refine (HL.out _ B1).mono ?_); rintro e w2 ⟨rfl, b2⟩; have z2 := b2.size; have t_ := h6.below h6.2.2 b2; clear ch6_0 ch6_1 ch6_2 ch6_3 fh6 zh6 h6; have h6 := t_; have ch6_0 := h6.1 0 _ rfl; have ch6_1 := h6.1 1 _ rfl; have ch6_2 := h6.1 2 _ rfl; have ch6_3 := h6.1 3 _ rfl; have fh6 := h6.2.1; have zh6 := h6.2.2; have zB := B1.size; have B2 : Below w.heap.size w w2 := (by ((with_reducible repeat' first | exact .refl _ _ | exact b2 | exact B1 | refine .alloc ?_ ?_ _ | refine .setCell ?_ ?_ _ | refine .drew ?_ | refine below_drewN ?_ _ | refine Below.trans ?_ (b2.mono ?_) | refine Below.trans ?_ (B1.mono ?_)) <;> first | omega | simp <;> omega))))
   obtain ⟨s0, s1, s2, s3⟩ := set4 ch6_0 ch6_1 ch6_2 ch6_3 (.int .i64 lk) (.int .i64 lt) (.int .i64 lx) (.bool false)
   refine bodyPost_ret (v := .tuple #[.agg #[.int .i64 lk, .int .i64 lt, .int .i64 lx, .bool false], .bool true, .int .i64 0]) (by simp [results, Tryz.results15, go_sem, s0, s1, s2, s3, zh6]) rfl ⟨?_, (by ((with_reducible repeat' first | exact .refl _ _ | exact B2 | refine .alloc ?_ ?_ _ | refine .setCell ?_ ?_ _ | refine .drew ?_ | refine below_drewN ?_ _ | refine Below.trans ?_ (B2.mono ?_)) <;> first | omega | simp <;> omega))⟩
   simp [atV, atB, valV, hk1]
end Go.Proofs.YthkoaecafmhlcaaGreat
