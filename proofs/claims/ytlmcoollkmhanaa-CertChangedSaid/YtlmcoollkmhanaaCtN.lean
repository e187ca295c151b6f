
/- The reference of cert: SameCase, Same, Few. -/
import Derived.Test.YtlmcoollkmhanaaCtI
import Derived.Test.YtlmcoollkmhanaaCtK
import Derived.Test.YtlmcoollkmhanaaGs
import Derived.Deep.RegionHeld3
import Derived.Deep.DeepCutAuto
namespace Go.Proofs.Ytlmcoollkmhanaa
open Go.RowKit

set_option maxRecDepth 100000 in
set_option maxHeartbeats 1000000 in
theorem R31SameCase_any (a b : Cs) (u1 u2 u3 u4 : Value) (w : World) (h1 : IsRow w u1 a.li) (h2 : IsRow w u2 a.lo) (h3 : IsRow w u3 b.li) (h4 : IsRow w u4 b.lo) :
  Calls Try.prog 13 #[.agg #[u1, u2, .int .i64 a.wd], .agg #[u3, u4, .int .i64 b.wd]] w fun e w' => e = .returned (.bool (csEq a b)) ∧ Below w.heap.size w w' := by
 have HR := hide (fun (W : World) (hW : Below w.heap.size w W) => (And.intro (And.intro (h1.below (Nat.le_refl _) hW) (h2.below (Nat.le_refl _) hW)) (And.intro (h3.below (Nat.le_refl _) hW) (h4.below (Nat.le_refl _) hW)) : (IsRow W u1 a.li ∧ IsRow W u2 a.lo) ∧ IsRow W u3 b.li ∧ IsRow W u4 b.lo))
 obtain ⟨a1, c1, rfl, -⟩ := id h1
 obtain ⟨a2, c2, rfl, -⟩ := id h2
 obtain ⟨a3, c3, rfl, -⟩ := id h3
 obtain ⟨a4, c4, rfl, -⟩ := id h4
 clear h1 h2 h3 h4
 obtain ⟨W0, hW0⟩ : ∃ W : World, W = (w.alloc (.cells #[.slice a1 a.li.length c1, .slice a2 a.lo.length c2, .int .i64 a.wd] 44)).alloc (.cells #[.slice a3 b.li.length c3, .slice a4 b.lo.length c4, .int .i64 b.wd] 44) := ⟨_, rfl⟩
 have HS := hide (cs_boxes (t := 44) hW0)
 have HE1 := hide (fun W p q => RSameInts15_any (.slice a1 a.li.length c1) (.slice a3 b.li.length c3) a.li b.li W p q)
 have HE2 := hide (fun W p q => RSameInts15_any (.slice a2 a.lo.length c2) (.slice a4 b.lo.length c4) a.lo b.lo W p q)
 unfold csEq
 cases d1 : decide (a.wd = b.wd) with
 | false =>
  have e1 : (a.wd == b.wd) = false := by rw [beq_eq_false_iff_ne]; exact of_decide_eq_false d1
  clear d1
  go_enter Try.func13, Try.ntmps13
  go_upto_region 1 with fail
  rw [← hW0]
  obtain ⟨⟨x0, x1, x2⟩, ⟨y0, y1, y2⟩, b0, z0⟩ := HS.out W0 (Below.refl _ _)
  clear hW0
  go_wp2_with fail
  go_ret
  exact ⟨rfl, b0⟩
 | true =>
  have e1 : (a.wd == b.wd) = true := by rw [beq_iff_eq]; exact of_decide_eq_true d1
  clear d1
  cases d2 : decide (a.li = b.li) with
  | false =>
   go_enter Try.func13, Try.ntmps13
   go_upto_region 1 with fail
   rw [← hW0]
   obtain ⟨⟨x0, x1, x2⟩, ⟨y0, y1, y2⟩, b0, z0⟩ := HS.out W0 (Below.refl _ _)
   clear hW0
   go_wp2_with fail
   refine (HE1.out _ (HR.out _ b0).1.1 (HR.out _ b0).2.1).mono ?_
   rintro e w1 ⟨rfl, k1⟩
   rw [d2]
   have B1 : Below (w.heap.size + 2) W0 w1 := (Below.refl _ _).trans (k1.mono z0)
   clear x0 x1 x2 y0 y1 y2 b0 z0 k1 d2
   obtain ⟨⟨x0, x1, x2⟩, ⟨y0, y1, y2⟩, b0, z0⟩ := HS.out w1 B1
   go_wp2_with fail
   go_ret
   exact ⟨rfl, b0⟩
  | true =>
   go_enter Try.func13, Try.ntmps13
   go_upto_region 1 with fail
   rw [← hW0]
   obtain ⟨⟨x0, x1, x2⟩, ⟨y0, y1, y2⟩, b0, z0⟩ := HS.out W0 (Below.refl _ _)
   clear hW0
   go_wp2_with fail
   refine (HE1.out _ (HR.out _ b0).1.1 (HR.out _ b0).2.1).mono ?_
   rintro e w1 ⟨rfl, k1⟩
   rw [d2]
   have B1 : Below (w.heap.size + 2) W0 w1 := (Below.refl _ _).trans (k1.mono z0)
   clear x0 x1 x2 y0 y1 y2 b0 z0 k1 d2
   obtain ⟨⟨x0, x1, x2⟩, ⟨y0, y1, y2⟩, b0, z0⟩ := HS.out w1 B1
   go_wp2_with fail
   refine (HE2.out _ (HR.out _ b0).1.2 (HR.out _ b0).2.2).mono ?_
   rintro e w2 ⟨rfl, k2⟩
   have B2 : Below (w.heap.size + 2) W0 w2 := B1.trans (k2.mono z0)
   clear x0 x1 x2 y0 y1 y2 b0 z0 k2 B1
   obtain ⟨⟨x0, x1, x2⟩, ⟨y0, y1, y2⟩, b0, z0⟩ := HS.out w2 B2
   obtain ⟨R, hR⟩ : ∃ R, R = decide (a.lo = b.lo) := ⟨_, rfl⟩
   rw [← hR]
   have HR2 := hide hR
   clear hR
   go_wp2_with fail
   go_ret
   exact ⟨by rw [HR2.out]; simp, b0⟩
def smB (x y : Ct) : Bool := decide (x.bd = y.bd) && (decide (x.wo = y.wo) && (decide (x.ev = y.ev) && (csEqB x.cs y.cs && decide (x.use = y.use))))
theorem smB_iff (x y : Ct) : smB x y = true ↔ x = y := by
 obtain ⟨a1, a2, a3, a4, a5⟩ := x
 obtain ⟨b1, b2, b3, b4, b5⟩ := y
 unfold smB
 simp only [Bool.and_eq_true, decide_eq_true_eq, csEqB_iff, Ct.mk.injEq]
 exact ⟨fun ⟨h1, h2, h3, h4, h5⟩ => ⟨h5, h3, h1, h2, h4⟩, fun ⟨h5, h3, h1, h2, h4⟩ => ⟨h1, h2, h3, h4, h5⟩⟩
theorem ct_boxes {w : World} {x y : Ct} {u1 c1 u2 c2 : Value} {t : TypeId} {W0 : World} (hW0 : W0 = (w.alloc (.cells #[u1, .int .i64 x.ev, .int .i64 x.bd, .int .i64 x.wo, c1] t)).alloc (.cells #[u2, .int .i64 y.ev, .int .i64 y.bd, .int .i64 y.wo, c2] t)) (V : World) (hV : Below (w.heap.size + 2) W0 V) :
  (V.cell? ⟨w.heap.size, 0, none⟩ = some u1 ∧ V.cell? ⟨w.heap.size, 1, none⟩ = some (.int .i64 x.ev) ∧ V.cell? ⟨w.heap.size, 2, none⟩ = some (.int .i64 x.bd) ∧ V.cell? ⟨w.heap.size, 3, none⟩ = some (.int .i64 x.wo) ∧ V.cell? ⟨w.heap.size, 4, none⟩ = some c1) ∧
  (V.cell? ⟨w.heap.size + 1, 0, none⟩ = some u2 ∧ V.cell? ⟨w.heap.size + 1, 1, none⟩ = some (.int .i64 y.ev) ∧ V.cell? ⟨w.heap.size + 1, 2, none⟩ = some (.int .i64 y.bd) ∧ V.cell? ⟨w.heap.size + 1, 3, none⟩ = some (.int .i64 y.wo) ∧ V.cell? ⟨w.heap.size + 1, 4, none⟩ = some c2) ∧ w.heap.size + 2 ≤ V.heap.size ∧ Below w.heap.size w V := by
 have bW : Below w.heap.size w W0 := by rw [hW0]; ((with_reducible repeat' first | exact .refl _ _ | refine .alloc ?_ ?_ _ | refine .setCell ?_ ?_ _ | refine .drew ?_ | refine below_drewN ?_ _) <;> first | omega | simp <;> omega)
 have zW : W0.heap.size = w.heap.size + 2 := by rw [hW0]; simp
 have hz := hV.size
 have h0 := (bk hV w.heap.size (by omega)).1
 have h1 := (bk hV (w.heap.size + 1) (by omega)).1
 refine ⟨⟨(h0 _).trans ?_, (h0 _).trans ?_, (h0 _).trans ?_, (h0 _).trans ?_, (h0 _).trans ?_⟩, ⟨(h1 _).trans ?_, (h1 _).trans ?_, (h1 _).trans ?_, (h1 _).trans ?_, (h1 _).trans ?_⟩, by omega, bW.trans (hV.mono (by omega))⟩ <;> rw [hW0] <;> simp [go_sem]
set_option maxRecDepth 100000 in
set_option maxHeartbeats 2000000 in
theorem R31Same_any (x y : Ct) (u1 c1 u2 c2 : Value) (w : World) (h1 : IsRow w u1 x.use) (h2 : CsRow w c1 x.cs) (h3 : IsRow w u2 y.use) (h4 : CsRow w c2 y.cs) :
  Calls Try.prog 10 #[valCt x u1 c1, valCt y u2 c2] w fun e w' => e = .returned (.bool (smB x y)) ∧ Below w.heap.size w w' := by
 have HR := hide (fun (W : World) (hW : Below w.heap.size w W) => (And.intro (And.intro (h1.below (Nat.le_refl _) hW) (h2.below (Nat.le_refl _) hW)) (And.intro (h3.below (Nat.le_refl _) hW) (h4.below (Nat.le_refl _) hW)) : (IsRow W u1 x.use ∧ CsRow W c1 x.cs) ∧ IsRow W u2 y.use ∧ CsRow W c2 y.cs))
 obtain ⟨a1, k1, rfl, -⟩ := id h1
 obtain ⟨a2, k2, rfl, q1, q2⟩ := h2.len
 obtain ⟨a3, k3, rfl, -⟩ := id h3
 obtain ⟨a4, k4, rfl, q3, q4⟩ := h4.len
 clear h1 h2 h3 h4
 unfold valCt
 obtain ⟨W0, hW0⟩ : ∃ W : World, W = (w.alloc (.cells #[.slice a1 x.use.length k1, .int .i64 x.ev, .int .i64 x.bd, .int .i64 x.wo, .slice a2 x.cs.length k2] 35)).alloc (.cells #[.slice a3 y.use.length k3, .int .i64 y.ev, .int .i64 y.bd, .int .i64 y.wo, .slice a4 y.cs.length k4] 35) := ⟨_, rfl⟩
 have HS := hide (ct_boxes (t := 35) hW0)
 obtain ⟨R, hR⟩ : ∃ R, R = smB x y := ⟨_, rfl⟩
 rw [← hR]
 have hRd : R = (decide (x.bd = y.bd) && (decide (x.wo = y.wo) && (decide (x.ev = y.ev) && (csEqB x.cs y.cs && decide (x.use = y.use))))) := hR
 clear hR
 by_cases hbd : x.bd = y.bd
 ·have dbd : (x.bd != y.bd) = false := by rw [hbd]; simp
  rw [decide_eq_true hbd, Bool.true_and] at hRd
  clear hbd
  by_cases hwo : x.wo = y.wo
  ·have dwo : (x.wo != y.wo) = false := by rw [hwo]; simp
   rw [decide_eq_true hwo, Bool.true_and] at hRd
   clear hwo
   by_cases hev : x.ev = y.ev
   ·have dev : (x.ev != y.ev) = false := by rw [hev]; simp
    rw [decide_eq_true hev, Bool.true_and] at hRd
    clear hev
    by_cases hln : x.cs.length = y.cs.length
    ·have dl : ((x.cs.length : Int) != (y.cs.length : Int)) = false := by rw [hln]; simp
     have hRd2 : R = (csEqTo x.cs y.cs x.cs.length && decide (x.use = y.use)) := by rw [hRd]; unfold csEqB; rw [decide_eq_true hln, Bool.true_and]
     have Hln := hide hln
     have HRd := hide hRd2
     have Hno := hide (fun k h => csEqTo_no (a := x.cs) (b := y.cs) (k := k) h (n := x.cs.length))
     clear hln hRd hRd2
     go_enter Try.func10, Try.ntmps10
     go_upto_region 1 with fail
     rw [← hW0]
     clear hW0
     have B0 : Below (w.heap.size + 2) W0 W0 := Below.refl _ _
     obtain ⟨⟨x0, x1, x2, x3, x4⟩, ⟨y0, y1, y2, y3, y4⟩, z0, b0⟩ := HS.out W0 B0
     go_wp2_with fail
     go_loopw [5] (fun s5 wr => ∃ k : Nat, k ≤ x.cs.length ∧ s5 = .int .i64 k ∧ Hid (csEqTo x.cs y.cs k = true) ∧ Below (w.heap.size + 2) W0 wr) (fun s5 _ => x.cs.length - (intOf s5).toNat)
     case atStart => exact ⟨0, Nat.zero_le _, rfl, hide rfl, B0⟩
     case round =>
      obtain ⟨k, hk, rfl, Hall, hB⟩ := hrel
      clear x0 x1 x2 x3 x4 y0 y1 y2 y3 y4 z0 b0 B0
      obtain ⟨⟨x0, x1, x2, x3, x4⟩, ⟨y0, y1, y2, y3, y4⟩, z0, b0⟩ := HS.out wr hB
      by_cases hlt : k < x.cs.length
      ·have hlt2 : k < y.cs.length := by have := Hln.out; omega
       obtain ⟨e1, o1, n1, g1, g2, f1, h1, ⟨p0, p1, p2⟩, r1, r2⟩ := (HR.out wr b0).1.2.at_ hlt
       obtain ⟨e2, o2, n2, g3, g4, f2, h2, ⟨t0, t1, t2⟩, r3, r4⟩ := (HR.out wr b0).2.2.at_ hlt2
       cases f1
       cases f2
       have I1 : (0 : Int) ≤ (k : Int) := by omega
       have I2 : (k : Int) < (x.cs.length : Int) := by omega
       have I3 : (k : Int) < (y.cs.length : Int) := by omega
       have HC := hide (fun (W : World) (hW : Below wr.heap.size wr W) => R31SameCase_any (csAt x.cs k) (csAt y.cs k) g1 g2 g3 g4 W (r1.below (Nat.le_refl _) hW) (r2.below (Nat.le_refl _) hW) (r3.below (Nat.le_refl _) hW) (r4.below (Nat.le_refl _) hW))
       have Hst := hide (show csEqTo x.cs y.cs (k + 1) = (csEqTo x.cs y.cs k && csEq (csAt x.cs k) (csAt y.cs k)) from rfl)
       have Hno2 := hide (fun h => Hno.out k h hlt)
       have HT := hide (fun (V : World) (hV : Below wr.heap.size wr V) => (And.intro (And.intro ((hV.cell (p := ⟨w.heap.size, 4, none⟩) (by show w.heap.size < _; omega)).trans x4) ((hV.cell (p := ⟨w.heap.size + 1, 4, none⟩) (by show w.heap.size + 1 < _; omega)).trans y4)) (And.intro
        (And.intro ((hV.cell (p := ⟨e1, o1 + k * 3, none⟩) h1).trans p0) (And.intro ((hV.cell (p := ⟨e1, o1 + k * 3 + 1, none⟩) h1).trans p1) ((hV.cell (p := ⟨e1, o1 + k * 3 + 2, none⟩) h1).trans p2)))
        (And.intro ((hV.cell (p := ⟨e2, o2 + k * 3, none⟩) h2).trans t0) (And.intro ((hV.cell (p := ⟨e2, o2 + k * 3 + 1, none⟩) h2).trans t1) ((hV.cell (p := ⟨e2, o2 + k * 3 + 2, none⟩) h2).trans t2))))))
       obtain ⟨gv1, gc1, rfl, -⟩ := id r1
       obtain ⟨gv2, gc2, rfl, -⟩ := id r2
       obtain ⟨gv3, gc3, rfl, -⟩ := id r3
       obtain ⟨gv4, gc4, rfl, -⟩ := id r4
       have zd : wr.drew.heap.size = wr.heap.size := rfl
       clear r1 r2 r3 r4
       generalize csEq (csAt x.cs k) (csAt y.cs k) = Rk at *
       generalize csAt x.cs k = A1 at *
       generalize csAt y.cs k = A2 at *
       go_upto_region 6 with fail
       go_region_held3 (fun V => (V.cell? ⟨w.heap.size, 4, none⟩ = some (.slice (some ⟨e1, o1, none⟩) x.cs.length k2) ∧ V.cell? ⟨w.heap.size + 1, 4, none⟩ = some (.slice (some ⟨e2, o2, none⟩) y.cs.length k4)) ∧ (V.cell? ⟨e1, o1 + k * 3, none⟩ = some (.slice gv1 A1.li.length gc1) ∧ V.cell? ⟨e1, o1 + k * 3 + 1, none⟩ = some (.slice gv2 A1.lo.length gc2) ∧ V.cell? ⟨e1, o1 + k * 3 + 2, none⟩ = some (.int .i64 A1.wd)) ∧ V.cell? ⟨e2, o2 + k * 3, none⟩ = some (.slice gv3 A2.li.length gc3) ∧ V.cell? ⟨e2, o2 + k * 3 + 1, none⟩ = some (.slice gv4 A2.lo.length gc4) ∧ V.cell? ⟨e2, o2 + k * 3 + 2, none⟩ = some (.int .i64 A2.wd))
        (exact HT.out _ (by ((with_reducible repeat' first | exact .refl _ _ | exact j1 | refine .alloc ?_ ?_ _ | refine .setCell ?_ ?_ _ | refine .drew ?_ | refine below_drewN ?_ _ | refine Below.trans ?_ (j1.mono ?_)) <;> first | omega | simp <;> omega)))
        (first | (go_at_call 13; (with_reducible refine (HC.out _ (by ((with_reducible repeat' first | exact .refl _ _ | refine .alloc ?_ ?_ _ | refine .setCell ?_ ?_ _ | refine .drew ?_ | refine below_drewN ?_ _) <;> first | omega | simp <;> omega))).mono ?_); rintro e w1 ⟨rfl, j1⟩))
       cases Rk with
       | true =>
        go_wp2_with fail
        go_roundw
        case rel => exact ⟨k + 1, by omega, by go_num, hide (by rw [Hst.out, Hall.out]; rfl), (by ((with_reducible repeat' first | exact .refl _ _ | exact j1 | exact hB | refine .alloc ?_ ?_ _ | refine .setCell ?_ ?_ _ | refine .drew ?_ | refine below_drewN ?_ _ | refine Below.trans ?_ (j1.mono ?_) | refine Below.trans ?_ (hB.mono ?_)) <;> first | omega | simp <;> omega))⟩
        case measure => simp [intOf]; omega
       | false =>
        go_wp2_with fail
        go_ret
        exact ⟨by rw [HRd.out, Hno2.out (by first | rfl | trivial)]; rfl, (by ((with_reducible repeat' first | exact .refl _ _ | exact j1 | exact b0 | refine .alloc ?_ ?_ _ | refine .setCell ?_ ?_ _ | refine .drew ?_ | refine below_drewN ?_ _ | refine Below.trans ?_ (j1.mono ?_) | refine Below.trans ?_ (b0.mono ?_)) <;> first | omega | simp <;> omega))⟩
      ·obtain rfl : k = x.cs.length := by omega
       have hf : R = decide (x.use = y.use) := by rw [HRd.out, Hall.out, Bool.true_and]
       have HE := hide (fun W p q => RSameInts15_any (.slice a1 x.use.length k1) (.slice a3 y.use.length k3) x.use y.use W p q)
       rw [← hf] at HE
       clear hf
       go_wp2_with (go_at_call 25; (with_reducible refine (HE.out _ (HR.out _ b0).1.1 (HR.out _ b0).2.1).mono ?_); rintro e w1 ⟨rfl, j1⟩)
       go_ret
       exact ⟨rfl, (by ((with_reducible repeat' first | exact .refl _ _ | exact j1 | exact b0 | refine .alloc ?_ ?_ _ | refine .setCell ?_ ?_ _ | refine .drew ?_ | refine below_drewN ?_ _ | refine Below.trans ?_ (j1.mono ?_) | refine Below.trans ?_ (b0.mono ?_)) <;> first | omega | simp <;> omega))⟩
    ·have dln : ((x.cs.length : Int) != (y.cs.length : Int)) = true := by rw [bne_iff_ne]; omega
     have hR0 : R = false := by rw [hRd]; simp [csEqB, hln]
     subst hR0
     clear hRd hln
     go_enter Try.func10, Try.ntmps10
     go_upto_region 1 with fail
     rw [← hW0]
     clear hW0
     have B0 : Below (w.heap.size + 2) W0 W0 := Below.refl _ _
     obtain ⟨⟨x0, x1, x2, x3, x4⟩, ⟨y0, y1, y2, y3, y4⟩, z0, b0⟩ := HS.out W0 B0
     go_wp2_with fail
     go_ret
     exact ⟨rfl, b0⟩
   ·have dev : (x.ev != y.ev) = true := by rw [bne_iff_ne]; omega
    have hR0 : R = false := by rw [hRd]; simp [csEqB, hev]
    subst hR0
    clear hRd hev
    go_enter Try.func10, Try.ntmps10
    go_upto_region 1 with fail
    rw [← hW0]
    clear hW0
    have B0 : Below (w.heap.size + 2) W0 W0 := Below.refl _ _
    obtain ⟨⟨x0, x1, x2, x3, x4⟩, ⟨y0, y1, y2, y3, y4⟩, z0, b0⟩ := HS.out W0 B0
    go_wp2_with fail
    go_ret
    exact ⟨rfl, b0⟩
  ·have dwo : (x.wo != y.wo) = true := by rw [bne_iff_ne]; omega
   have hR0 : R = false := by rw [hRd]; simp [csEqB, hwo]
   subst hR0
   clear hRd hwo
   go_enter Try.func10, Try.ntmps10
   go_upto_region 1 with fail
   rw [← hW0]
   clear hW0
   have B0 : Below (w.heap.size + 2) W0 W0 := Below.refl _ _
   obtain ⟨⟨x0, x1, x2, x3, x4⟩, ⟨y0, y1, y2, y3, y4⟩, z0, b0⟩ := HS.out W0 B0
   go_wp2_with fail
   go_ret
   exact ⟨rfl, b0⟩
 ·have dbd : (x.bd != y.bd) = true := by rw [bne_iff_ne]; omega
  have hR0 : R = false := by rw [hRd]; simp [csEqB, hbd]
  subst hR0
  clear hRd hbd
  go_enter Try.func10, Try.ntmps10
  go_upto_region 1 with fail
  rw [← hW0]
  clear hW0
  have B0 : Below (w.heap.size + 2) W0 W0 := Below.refl _ _
  obtain ⟨⟨x0, x1, x2, x3, x4⟩, ⟨y0, y1, y2, y3, y4⟩, z0, b0⟩ := HS.out W0 B0
  go_wp2_with fail
  go_ret
  exact ⟨rfl, b0⟩
end Go.Proofs.Ytlmcoollkmhanaa
