
/- Package scene, the reference: Fits. -/
import Derived.Test.YtigjljmhpkeahaaGreatScM
import Derived.Test.YtigjljmhpkeahaaGreatGg
import Derived.Deep.RegionHeld3
namespace Go.Proofs.YtigjljmhpkeahaaGreat
open Go.RowKit

set_option maxRecDepth 100000 in
set_option maxHeartbeats 1500000 in
theorem R32Fits_any (r f lo tm : Int) (pv : Value) (ps : List Pr) (uv : Value) (use : List Int) (ev at_ : Int) (av : Value) (an : List An) (ct : Int) (w : World) (hp : PrRow w pv ps) (hu : IsRow w uv use) (ha : AnRow w av an) (hun : use.length ≤ 1000000) :
  Calls Tryz.prog 27 #[.agg #[.int .i64 r, .int .i64 f, .int .i64 lo, .int .i64 tm, pv], .agg #[uv, .int .i64 ev, .int .i64 at_, av, .int .i64 ct]] w fun e w' => e = .returned (.bool (fitB ⟨r, f, lo, tm, ps⟩ ⟨use, ev, at_, an, ct⟩)) ∧ Below w.heap.size w w' := by
 have hR : ∀ W : World, Below w.heap.size w W → PrRow W pv ps ∧ IsRow W uv use ∧ AnRow W av an := fun W hW => ⟨hp.below (Nat.le_refl _) hW, hu.below (Nat.le_refl _) hW, ha.below (Nat.le_refl _) hW⟩
 have HR := hide hR
 obtain ⟨pa, pc, rfl, pq1, pq2⟩ := hp.len
 obtain ⟨ua, uc, rfl, vq1, vq2, -⟩ := id hu
 obtain ⟨aa, ac, rfl, aq1, aq2⟩ := ha.len
 obtain ⟨W0, hW0⟩ : ∃ W : World, W = (w.alloc (.cells #[.int .i64 r, .int .i64 f, .int .i64 lo, .int .i64 tm, .slice pa ps.length pc] 24)).alloc (.cells #[.slice ua use.length uc, .int .i64 ev, .int .i64 at_, .slice aa an.length ac, .int .i64 ct] 30) := ⟨_, rfl⟩
 have hS : ∀ V : World, Below (w.heap.size + 2) W0 V → ScBox V w.heap.size r f lo tm (.slice pa ps.length pc) (.slice ua use.length uc) ev at_ (.slice aa an.length ac) ct ∧ w.heap.size + 2 ≤ V.heap.size ∧ Below w.heap.size w V := by
  intro V hV
  have bW : Below w.heap.size w W0 := by rw [hW0]; ((with_reducible repeat' first | exact .refl _ _ | refine .alloc ?_ ?_ _ | refine .setCell ?_ ?_ _ | refine .drew ?_ | refine below_drewN ?_ _) <;> first | omega | simp <;> omega)
  have zW : W0.heap.size = w.heap.size + 2 := by rw [hW0]; simp
  have hz := hV.size
  refine ⟨ScBox.of (V := W0) ?_ hV, by omega, bW.trans (hV.mono (by omega))⟩
  rw [hW0]
  exact ScBox.made _ _ _ _ _ _ _ _ _ _ _ _ _
 have HS := hide hS
 have hN : fitN ⟨r, f, lo, tm, ps⟩ ⟨use, ev, at_, an, ct⟩ = (rgB ⟨r, f, lo, tm, ps⟩ use ev && (timeB at_ && (inB ct 0 (ev + tm) && decide (an.length = use.length)))) := rfl
 have hFB : fitB ⟨r, f, lo, tm, ps⟩ ⟨use, ev, at_, an, ct⟩ = (fitN ⟨r, f, lo, tm, ps⟩ ⟨use, ev, at_, an, ct⟩ && fitTo ps use an an.length) := rfl
 clear hR hS hp hu ha
 cases h1 : rgB ⟨r, f, lo, tm, ps⟩ use ev <;> cases h2 : timeB at_
 case true.true =>
  have hrg := (rgB_iff _ _ _).1 h1
  have hsi := (siN_iff _).1 ((siB_iff _).1 hrg.1).1
  have hwd := hrg.2.2.1
  simp only at hrg hsi hwd
  have we : IntKind.i64.wrap (ev + tm) = ev + tm := IntWalk.i64_in _ (by omega)
  rw [h1, h2, Bool.true_and, Bool.true_and] at hN
  have hno : (¬ (0 ≤ ct ∧ ct ≤ ev + tm) ∨ an.length ≠ use.length) → fitB ⟨r, f, lo, tm, ps⟩ ⟨use, ev, at_, an, ct⟩ = false := fun h => by
   rw [hFB, hN]
   rcases h with h | h
   ·rw [show inB ct 0 (ev + tm) = false from decide_eq_false h]; rfl
   ·rw [decide_eq_false h, Bool.and_false]; rfl
  rcases (show ct < 0 ∨ (¬ ct < 0 ∧ ev + tm < ct) ∨ (¬ ct < 0 ∧ ¬ ev + tm < ct ∧ an.length ≠ use.length) ∨ (¬ ct < 0 ∧ ¬ ev + tm < ct ∧ an.length = use.length) by omega) with g1 | ⟨g1, g2⟩ | ⟨g1, g2, g3⟩ | ⟨g1, g2, g3⟩
  ·rw [hno (.inl (by omega))]
   have d1 : decide (ct < 0) = true := decide_eq_true g1
   clear hno hN hFB hrg hsi hwd g1
   go_enter Tryz.func27, Tryz.ntmps27
   go_upto_region 1 with fail
   rw [← hW0]
   clear hW0
   have B0 : Below (w.heap.size + 2) W0 W0 := Below.refl _ _
   obtain ⟨⟨⟨y0, y1, y2, y3, y4⟩, x0, x1, x2, x3, x4⟩, z0, b0⟩ := HS.out W0 B0
   go_wp2_with (first | (go_at_call 40; (with_reducible refine (R29Right_any r f lo tm _ ps _ use ev _ (HR.out _ b0).1 (HR.out _ b0).2.1 hun).mono ?_); rintro e w1 ⟨rfl, k1⟩; rw [h1]; have B1 : Below (w.heap.size + 2) W0 w1 := B0.trans (k1.mono z0); clear y0 y1 y2 y3 y4 x0 x1 x2 x3 x4 z0 b0; clear k1; obtain ⟨⟨⟨y0, y1, y2, y3, y4⟩, x0, x1, x2, x3, x4⟩, z0, b0⟩ := HS.out w1 B1) | (go_at_call 41; refine (R32time_any _ _).mono ?_; rintro e w' ⟨rfl, rfl⟩; rw [h2]))
   go_ret
   exact ⟨rfl, b0⟩
  ·rw [hno (.inl (by omega))]
   have d1 : decide (ct < 0) = false := decide_eq_false g1
   have d2 : decide (ev + tm < ct) = true := decide_eq_true g2
   clear hno hN hFB hrg hsi hwd g1 g2
   go_enter Tryz.func27, Tryz.ntmps27
   go_upto_region 1 with fail
   rw [← hW0]
   clear hW0
   have B0 : Below (w.heap.size + 2) W0 W0 := Below.refl _ _
   obtain ⟨⟨⟨y0, y1, y2, y3, y4⟩, x0, x1, x2, x3, x4⟩, z0, b0⟩ := HS.out W0 B0
   go_wp2_with (first | (go_at_call 40; (with_reducible refine (R29Right_any r f lo tm _ ps _ use ev _ (HR.out _ b0).1 (HR.out _ b0).2.1 hun).mono ?_); rintro e w1 ⟨rfl, k1⟩; rw [h1]; have B1 : Below (w.heap.size + 2) W0 w1 := B0.trans (k1.mono z0); clear y0 y1 y2 y3 y4 x0 x1 x2 x3 x4 z0 b0; clear k1; obtain ⟨⟨⟨y0, y1, y2, y3, y4⟩, x0, x1, x2, x3, x4⟩, z0, b0⟩ := HS.out w1 B1) | (go_at_call 41; refine (R32time_any _ _).mono ?_; rintro e w' ⟨rfl, rfl⟩; rw [h2]))
   go_ret
   exact ⟨rfl, b0⟩
  ·rw [hno (.inr g3)]
   have d1 : decide (ct < 0) = false := decide_eq_false g1
   have d2 : decide (ev + tm < ct) = false := decide_eq_false g2
   have d3 : ((an.length : Int) != (use.length : Int)) = true := by rw [bne_iff_ne]; omega
   clear hno hN hFB hrg hsi hwd g1 g2 g3
   go_enter Tryz.func27, Tryz.ntmps27
   go_upto_region 1 with fail
   rw [← hW0]
   clear hW0
   have B0 : Below (w.heap.size + 2) W0 W0 := Below.refl _ _
   obtain ⟨⟨⟨y0, y1, y2, y3, y4⟩, x0, x1, x2, x3, x4⟩, z0, b0⟩ := HS.out W0 B0
   go_wp2_with (first | (go_at_call 40; (with_reducible refine (R29Right_any r f lo tm _ ps _ use ev _ (HR.out _ b0).1 (HR.out _ b0).2.1 hun).mono ?_); rintro e w1 ⟨rfl, k1⟩; rw [h1]; have B1 : Below (w.heap.size + 2) W0 w1 := B0.trans (k1.mono z0); clear y0 y1 y2 y3 y4 x0 x1 x2 x3 x4 z0 b0; clear k1; obtain ⟨⟨⟨y0, y1, y2, y3, y4⟩, x0, x1, x2, x3, x4⟩, z0, b0⟩ := HS.out w1 B1) | (go_at_call 41; refine (R32time_any _ _).mono ?_; rintro e w' ⟨rfl, rfl⟩; rw [h2]))
   go_ret
   exact ⟨rfl, b0⟩
  ·have d1 : decide (ct < 0) = false := decide_eq_false g1
   have d2 : decide (ev + tm < ct) = false := decide_eq_false g2
   have d3 : ((an.length : Int) != (use.length : Int)) = false := by rw [g3]; simp
   have hF : fitB ⟨r, f, lo, tm, ps⟩ ⟨use, ev, at_, an, ct⟩ = fitTo ps use an an.length := by
    rw [hFB, hN, show inB ct 0 (ev + tm) = true from decide_eq_true (by omega), decide_eq_true g3]; rfl
   rw [hF]
   have Hwd := hide hwd
   have G3 := hide g3
   clear hF hno hN hFB hrg hsi g1 g2 hwd g3
   go_enter Tryz.func27, Tryz.ntmps27
   go_upto_region 1 with fail
   rw [← hW0]
   clear hW0
   have B0 : Below (w.heap.size + 2) W0 W0 := Below.refl _ _
   obtain ⟨⟨⟨y0, y1, y2, y3, y4⟩, x0, x1, x2, x3, x4⟩, z0, b0⟩ := HS.out W0 B0
   go_upto_region 5 with (first | (go_at_call 40; (with_reducible refine (R29Right_any r f lo tm _ ps _ use ev _ (HR.out _ b0).1 (HR.out _ b0).2.1 hun).mono ?_); rintro e w1 ⟨rfl, k1⟩; rw [h1]; have B1 : Below (w.heap.size + 2) W0 w1 := B0.trans (k1.mono z0); clear y0 y1 y2 y3 y4 x0 x1 x2 x3 x4 z0 b0; clear k1; obtain ⟨⟨⟨y0, y1, y2, y3, y4⟩, x0, x1, x2, x3, x4⟩, z0, b0⟩ := HS.out w1 B1) | (go_at_call 41; refine (R32time_any _ _).mono ?_; rintro e w' ⟨rfl, rfl⟩; rw [h2]))
   go_wp2_with fail
   clear y0 y1 y2 y3 y4 x0 x1 x2 x3 x4 z0 b0
   go_loopw [7] (fun s7 wx => ∃ k : Nat, k ≤ an.length ∧ s7 = .int .i64 k ∧ Hid (fitTo ps use an k = true) ∧ Below (w.heap.size + 2) W0 wx) (fun s7 _ => an.length - (intOf s7).toNat)
   case atStart => exact ⟨0, Nat.zero_le _, rfl, hide rfl, B1⟩
   case round =>
    obtain ⟨k, hk, rfl, Hf, hB⟩ := hrel
    by_cases hlt : k < an.length
    ·have hku : k < use.length := by have := G3.out; omega
     have hnx : fitTo ps use an (k + 1) = (fitTo ps use an k && anFit (anAt an k) (pu ps use k)) := rfl
     have hno : anFit (anAt an k) (pu ps use k) = false → fitTo ps use an an.length = false := fun h => by
      cases hq : fitTo ps use an an.length with
      | false => rfl
      | true => rw [(fitTo_iff ps use an _).1 hq k hlt] at h; cases h
     have hin := Hwd.out k hku
     obtain ⟨⟨⟨y0, y1, y2, y3, y4⟩, x0, x1, x2, x3, x4⟩, z0, b0⟩ := HS.out wr hB
     obtain ⟨ub, uo, uc', hue, -, -, hub, -, huc⟩ := (HR.out _ b0).2.1.at0 (by omega)
     cases hue
     obtain ⟨pb, po, pc', hpe, -, -, hpb, hpc⟩ := (HR.out _ b0).1.at0 (by omega)
     cases hpe
     obtain ⟨ab, ao, ac', hae, -, -, hab, hac⟩ := (HR.out _ b0).2.2.at0 (by omega)
     cases hae
     have hu0 := huc k hku
     obtain ⟨q, hq⟩ : ∃ q : Nat, iAt use k = q := ⟨(iAt use k).toNat, by omega⟩
     have hP : pu ps use k = pAt ps q := by unfold pu; rw [hq]; rfl
     rw [hq] at hu0 hin
     have hql : q < ps.length := by omega
     obtain ⟨p0, p1, p2, p3, p4, p5, p6, p7⟩ := hpc q hql
     obtain ⟨a0, a1, a2, a3, a4, a5⟩ := hac k hlt
     rw [hP] at hnx hno
     generalize pAt ps q = p at *
     generalize anAt an k = a at *
     have I1 : (0 : Int) ≤ (q : Int) := by omega
     have I2 : (q : Int) < (ps.length : Int) := by omega
     have I3 : (0 : Int) ≤ (k : Int) := by omega
     have I4 : (k : Int) < (use.length : Int) := by omega
     have I5 : (k : Int) < (an.length : Int) := by omega
     have hU := fun W => R32answer_any a p W
     unfold valA valP at hU
     have HU := hide hU
     have Hb := hide b0
     have Hnx := hide hnx
     have Hno := hide hno
     have z1 : w.heap.size < wr.heap.size := by omega
     have z2 : w.heap.size + 1 < wr.heap.size := by omega
     have hA : ∀ W : World, Below wr.heap.size wr W → W.cell? ⟨w.heap.size, 4, none⟩ = some (.slice (some ⟨pb, po, none⟩) ps.length pc) ∧ W.cell? ⟨w.heap.size + 1, 0, none⟩ = some (.slice (some ⟨ub, uo, none⟩) use.length uc) ∧ W.cell? ⟨w.heap.size + 1, 3, none⟩ = some (.slice (some ⟨ab, ao, none⟩) an.length ac) ∧ W.cell? ⟨ub, uo + k, none⟩ = some (.int .i64 (q : Int)) ∧ W.cell? ⟨pb, po + q * 8, none⟩ = some (.int .i64 p.au) ∧ W.cell? ⟨pb, po + q * 8 + 1, none⟩ = some (.int .i64 p.er) ∧ W.cell? ⟨pb, po + q * 8 + 2, none⟩ = some (.int .i64 p.co) ∧ W.cell? ⟨pb, po + q * 8 + 3, none⟩ = some (.int .i64 p.at_) ∧ W.cell? ⟨pb, po + q * 8 + 4, none⟩ = some (.int .i64 p.ol) ∧ W.cell? ⟨pb, po + q * 8 + 5, none⟩ = some (.int .i64 p.oh) ∧ W.cell? ⟨pb, po + q * 8 + 6, none⟩ = some (.int .i64 p.bl) ∧ W.cell? ⟨pb, po + q * 8 + 7, none⟩ = some (.int .i64 p.bh) ∧ W.cell? ⟨ab, ao + k * 6, none⟩ = some (.int .i64 a.au) ∧ W.cell? ⟨ab, ao + k * 6 + 1, none⟩ = some (.bool a.ls) ∧ W.cell? ⟨ab, ao + k * 6 + 2, none⟩ = some (.int .i64 a.ou) ∧ W.cell? ⟨ab, ao + k * 6 + 3, none⟩ = some (.int .i64 a.bk) ∧ W.cell? ⟨ab, ao + k * 6 + 4, none⟩ = some (.int .i64 a.lo) ∧ W.cell? ⟨ab, ao + k * 6 + 5, none⟩ = some (.int .i64 a.hi) := fun W hW =>
      ⟨(hW.cell z1).trans y4, (hW.cell z2).trans x0, (hW.cell z2).trans x3, (hW.cell hub).trans hu0, (hW.cell hpb).trans p0, (hW.cell hpb).trans p1, (hW.cell hpb).trans p2, (hW.cell hpb).trans p3, (hW.cell hpb).trans p4, (hW.cell hpb).trans p5, (hW.cell hpb).trans p6, (hW.cell hpb).trans p7, (hW.cell hab).trans a0, (hW.cell hab).trans a1, (hW.cell hab).trans a2, (hW.cell hab).trans a3, (hW.cell hab).trans a4, (hW.cell hab).trans a5⟩
     have HA := hide hA
     clear hU hnx hno huc hpc hac hin hq hP b0 hA
     cases hval : anFit a p
     all_goals
      go_upto_region 8 with fail
      go_region_held3 (fun W => W.cell? ⟨w.heap.size, 4, none⟩ = some (.slice (some ⟨pb, po, none⟩) ps.length pc) ∧ W.cell? ⟨w.heap.size + 1, 0, none⟩ = some (.slice (some ⟨ub, uo, none⟩) use.length uc) ∧ W.cell? ⟨w.heap.size + 1, 3, none⟩ = some (.slice (some ⟨ab, ao, none⟩) an.length ac) ∧ W.cell? ⟨ub, uo + k, none⟩ = some (.int .i64 (q : Int)) ∧ W.cell? ⟨pb, po + q * 8, none⟩ = some (.int .i64 p.au) ∧ W.cell? ⟨pb, po + q * 8 + 1, none⟩ = some (.int .i64 p.er) ∧ W.cell? ⟨pb, po + q * 8 + 2, none⟩ = some (.int .i64 p.co) ∧ W.cell? ⟨pb, po + q * 8 + 3, none⟩ = some (.int .i64 p.at_) ∧ W.cell? ⟨pb, po + q * 8 + 4, none⟩ = some (.int .i64 p.ol) ∧ W.cell? ⟨pb, po + q * 8 + 5, none⟩ = some (.int .i64 p.oh) ∧ W.cell? ⟨pb, po + q * 8 + 6, none⟩ = some (.int .i64 p.bl) ∧ W.cell? ⟨pb, po + q * 8 + 7, none⟩ = some (.int .i64 p.bh) ∧ W.cell? ⟨ab, ao + k * 6, none⟩ = some (.int .i64 a.au) ∧ W.cell? ⟨ab, ao + k * 6 + 1, none⟩ = some (.bool a.ls) ∧ W.cell? ⟨ab, ao + k * 6 + 2, none⟩ = some (.int .i64 a.ou) ∧ W.cell? ⟨ab, ao + k * 6 + 3, none⟩ = some (.int .i64 a.bk) ∧ W.cell? ⟨ab, ao + k * 6 + 4, none⟩ = some (.int .i64 a.lo) ∧ W.cell? ⟨ab, ao + k * 6 + 5, none⟩ = some (.int .i64 a.hi)) (first | (refine HA.out _ ?_; ((with_reducible repeat' first | exact .refl _ _ | refine .alloc ?_ ?_ _ | refine .setCell ?_ ?_ _ | refine .drew ?_ | refine below_drewN ?_ _) <;> first | omega | simp <;> omega); done) | (refine HA.out _ ?_; ((with_reducible repeat' first | exact .refl _ _ | exact k9 | refine .alloc ?_ ?_ _ | refine .setCell ?_ ?_ _ | refine .drew ?_ | refine below_drewN ?_ _ | refine Below.trans ?_ (k9.mono ?_)) <;> first | omega | simp <;> omega); done))
       (first | (go_at_call 71; (with_reducible refine (HU.out _).mono ?_); rintro e w9 ⟨rfl, k9⟩; rw [hval]; have z9 := k9.size; (try simp at z9)))
      go_wp2_with fail
     ·go_ret
      exact ⟨ret_bool (Hno.out hval).symm, (by ((with_reducible repeat' first | exact .refl _ _ | exact Hb.out | exact k9 | refine .alloc ?_ ?_ _ | refine .setCell ?_ ?_ _ | refine .drew ?_ | refine below_drewN ?_ _ | refine Below.trans ?_ (Hb.out.mono ?_) | refine Below.trans ?_ (k9.mono ?_)) <;> first | omega | simp <;> omega))⟩
     ·go_roundw
      case rel => exact ⟨k + 1, by omega, by go_num, hide (by rw [Hnx.out, Hf.out, hval]; rfl), (by ((with_reducible repeat' first | exact .refl _ _ | exact hB | exact k9 | refine .alloc ?_ ?_ _ | refine .setCell ?_ ?_ _ | refine .drew ?_ | refine below_drewN ?_ _ | refine Below.trans ?_ (hB.mono ?_) | refine Below.trans ?_ (k9.mono ?_)) <;> first | omega | simp <;> omega))⟩
      case measure => simp [intOf]; omega
    ·obtain rfl : k = an.length := by omega
     obtain ⟨⟨⟨y0, y1, y2, y3, y4⟩, x0, x1, x2, x3, x4⟩, z0, b0⟩ := HS.out wr hB
     go_wp2_with fail
     go_ret
     exact ⟨ret_bool Hf.out.symm, b0⟩
 all_goals
  have hF : fitB ⟨r, f, lo, tm, ps⟩ ⟨use, ev, at_, an, ct⟩ = false := by rw [hFB, hN, h1, h2]; rfl
  rw [hF]
  clear hF hN hFB
  go_enter Tryz.func27, Tryz.ntmps27
  go_upto_region 1 with fail
  rw [← hW0]
  clear hW0
  have B0 : Below (w.heap.size + 2) W0 W0 := Below.refl _ _
  obtain ⟨⟨⟨y0, y1, y2, y3, y4⟩, x0, x1, x2, x3, x4⟩, z0, b0⟩ := HS.out W0 B0
  go_wp2_with (first | (go_at_call 40; (with_reducible refine (R29Right_any r f lo tm _ ps _ use ev _ (HR.out _ b0).1 (HR.out _ b0).2.1 hun).mono ?_); rintro e w1 ⟨rfl, k1⟩; rw [h1]; have B1 : Below (w.heap.size + 2) W0 w1 := B0.trans (k1.mono z0); clear y0 y1 y2 y3 y4 x0 x1 x2 x3 x4 z0 b0; clear k1; obtain ⟨⟨⟨y0, y1, y2, y3, y4⟩, x0, x1, x2, x3, x4⟩, z0, b0⟩ := HS.out w1 B1) | (go_at_call 41; refine (R32time_any _ _).mono ?_; rintro e w' ⟨rfl, rfl⟩; rw [h2]))
  go_ret
  exact ⟨rfl, b0⟩
end Go.Proofs.YtigjljmhpkeahaaGreat
