
/- Package cert: Check. -/
import Derived.Test.YtlmcoollkmhanaaCtH
import Derived.Test.YtlmcoollkmhanaaCtE
namespace Go.Proofs.Ytlmcoollkmhanaa
open Go.RowKit

def ckE (s : Si) (use : List Int) (ev : Int) : Int := if rgB s use ev = true then (if use.length ≤ 8 then 0 else 2) else 1
def ckB (s : Si) (x : Ct) : Bool := decide (ckE s x.use x.ev = 0) && (decide (mkE s x.use x.ev x.bd = 0) && (decide ((mkX s x.use x.ev x.bd).wo = x.wo) && csEqB (mkX s x.use x.ev x.bd).cs x.cs))
set_option maxRecDepth 100000 in
set_option maxHeartbeats 2000000 in
theorem Check_any (r f lo tm : Int) (pv : Value) (ps : List Pr) (uv : Value) (use : List Int) (ev bd wo : Int) (cv : Value) (cs : List Cs) (w : World) (hp : PrRow w pv ps) (hu : IsRow w uv use) (hc : CsRow w cv cs) :
  Calls Try.prog 9 #[.agg #[.int .i64 r, .int .i64 f, .int .i64 lo, .int .i64 tm, pv], .agg #[uv, .int .i64 ev, .int .i64 bd, .int .i64 wo, cv]] w fun e w' => e = .returned (.tuple #[.bool (ckB ⟨r, f, lo, tm, ps⟩ ⟨use, ev, bd, wo, cs⟩), .int .i64 (ckE ⟨r, f, lo, tm, ps⟩ use ev)]) ∧ Below w.heap.size w w' := by
 have hR : ∀ W : World, Below w.heap.size w W → PrRow W pv ps ∧ IsRow W uv use ∧ CsRow W cv cs := fun W hW => ⟨hp.below (Nat.le_refl _) hW, hu.below (Nat.le_refl _) hW, hc.below (Nat.le_refl _) hW⟩
 have HR := hide hR
 obtain ⟨ua, uc, rfl, vq1, vq2, -⟩ := id hu
 obtain ⟨ca, cc, rfl, cq1, cq2⟩ := hc.len
 obtain ⟨W0, hW0⟩ : ∃ W : World, W = (w.alloc (.cells #[.int .i64 r, .int .i64 f, .int .i64 lo, .int .i64 tm, pv] 24)).alloc (.cells #[.slice ua use.length uc, .int .i64 ev, .int .i64 bd, .int .i64 wo, .slice ca cs.length cc] 35) := ⟨_, rfl⟩
 have hS : ∀ V : World, Below (w.heap.size + 2) W0 V → (V.cell? ⟨w.heap.size, 0, none⟩ = some (.int .i64 r) ∧ V.cell? ⟨w.heap.size, 1, none⟩ = some (.int .i64 f) ∧ V.cell? ⟨w.heap.size, 2, none⟩ = some (.int .i64 lo) ∧ V.cell? ⟨w.heap.size, 3, none⟩ = some (.int .i64 tm) ∧ V.cell? ⟨w.heap.size, 4, none⟩ = some pv) ∧
   (V.cell? ⟨w.heap.size + 1, 0, none⟩ = some (.slice ua use.length uc) ∧ V.cell? ⟨w.heap.size + 1, 1, none⟩ = some (.int .i64 ev) ∧ V.cell? ⟨w.heap.size + 1, 2, none⟩ = some (.int .i64 bd) ∧ V.cell? ⟨w.heap.size + 1, 3, none⟩ = some (.int .i64 wo) ∧ V.cell? ⟨w.heap.size + 1, 4, none⟩ = some (.slice ca cs.length cc)) ∧ w.heap.size + 2 ≤ V.heap.size ∧ Below w.heap.size w V := by
  intro V hV
  have bW : Below w.heap.size w W0 := by rw [hW0]; ((with_reducible repeat' first | exact .refl _ _ | refine .alloc ?_ ?_ _ | refine .setCell ?_ ?_ _ | refine .drew ?_ | refine below_drewN ?_ _) <;> first | omega | simp <;> omega)
  have zW : W0.heap.size = w.heap.size + 2 := by rw [hW0]; simp
  have hz := hV.size
  have h0 := (bk hV w.heap.size (by omega)).1
  have h1 := (bk hV (w.heap.size + 1) (by omega)).1
  refine ⟨⟨(h0 _).trans ?_, (h0 _).trans ?_, (h0 _).trans ?_, (h0 _).trans ?_, (h0 _).trans ?_⟩, ⟨(h1 _).trans ?_, (h1 _).trans ?_, (h1 _).trans ?_, (h1 _).trans ?_, (h1 _).trans ?_⟩, by omega, bW.trans (hV.mono (by omega))⟩ <;> rw [hW0] <;> simp [go_sem]
 have HS := hide hS
 obtain ⟨CB, hCB⟩ : ∃ b, b = ckB ⟨r, f, lo, tm, ps⟩ ⟨use, ev, bd, wo, cs⟩ := ⟨_, rfl⟩
 obtain ⟨CE, hCE⟩ : ∃ b, b = ckE ⟨r, f, lo, tm, ps⟩ use ev := ⟨_, rfl⟩
 rw [← hCB, ← hCE]
 unfold ckB at hCB
 rw [← hCE] at hCB
 clear hR hS hp hu hc
 cases hrg : rgB ⟨r, f, lo, tm, ps⟩ use ev with
 | false =>
  have e1 : CE = 1 := by rw [hCE]; unfold ckE; rw [if_neg (by rw [hrg]; simp)]
  subst e1
  have e2 : CB = false := by rw [hCB]; rfl
  subst e2
  clear hCB hCE
  go_enter Try.func9, Try.ntmps9
  go_upto_region 1 with fail
  rw [← hW0]
  clear hW0
  have B0 : Below (w.heap.size + 2) W0 W0 := Below.refl _ _
  obtain ⟨⟨y0, y1, y2, y3, y4⟩, ⟨x0, x1, x2, x3, x4⟩, z0, b0⟩ := HS.out W0 B0
  go_wp2_with (go_at_call 16; (with_reducible refine (wdRight_any r f lo tm _ ps _ use ev _ (HR.out _ b0).1 (HR.out _ b0).2.1).mono ?_); rintro e w1 ⟨rfl, k1⟩; rw [hrg]; have B1 : Below (w.heap.size + 2) W0 w1 := B0.trans (k1.mono z0); clear y0 y1 y2 y3 y4 x0 x1 x2 x3 x4 z0 b0 k1 B0; obtain ⟨⟨y0, y1, y2, y3, y4⟩, ⟨x0, x1, x2, x3, x4⟩, z0, b0⟩ := HS.out w1 B1)
  go_ret2
  exact ⟨rfl, b0⟩
 | true =>
  by_cases h8 : use.length ≤ 8
  ·have e1 : CE = 0 := by rw [hCE]; unfold ckE; rw [if_pos hrg, if_pos h8]
   subst e1
   rw [decide_eq_true rfl, Bool.true_and] at hCB
   obtain ⟨X, hX⟩ : ∃ X, X = mkX ⟨r, f, lo, tm, ps⟩ use ev bd := ⟨_, rfl⟩
   obtain ⟨E, hE⟩ : ∃ E, E = mkE ⟨r, f, lo, tm, ps⟩ use ev bd := ⟨_, rfl⟩
   simp only at hCB
   rw [← hX, ← hE] at hCB
   have hM : ∀ V : World, Below w.heap.size w V → Calls Try.prog 8 #[.agg #[.int .i64 r, .int .i64 f, .int .i64 lo, .int .i64 tm, pv], .agg #[.slice ua use.length uc, .int .i64 ev], .int .i64 bd] V fun e w' => ∃ uv2 cv2, e = .returned (.tuple #[.agg #[uv2, .int .i64 X.ev, .int .i64 X.bd, .int .i64 X.wo, cv2], .int .i64 E]) ∧ CtRet V w' X uv2 cv2 ∧ Below V.heap.size V w' := by
    intro V hV
    have h := Make_any r f lo tm pv ps (.slice ua use.length uc) use ev bd V (HR.out V hV).1 (HR.out V hV).2.1
    unfold MkPost at h
    rw [← hX, ← hE] at h
    exact h
   have HM := hide hM
   clear hM hX hE hCE
   by_cases hE0 : E = 0
   ·subst hE0
    rw [decide_eq_true rfl, Bool.true_and] at hCB
    by_cases hw : X.wo = wo
    ·rw [decide_eq_true hw, Bool.true_and] at hCB
     have HCB := hide hCB
     clear hCB
     go_enter Try.func9, Try.ntmps9
     go_upto_region 1 with fail
     rw [← hW0]
     clear hW0
     have B0 : Below (w.heap.size + 2) W0 W0 := Below.refl _ _
     obtain ⟨⟨y0, y1, y2, y3, y4⟩, ⟨x0, x1, x2, x3, x4⟩, z0, b0⟩ := HS.out W0 B0
     go_wp2_with (first | (go_at_call 16; (with_reducible refine (wdRight_any r f lo tm _ ps _ use ev _ (HR.out _ b0).1 (HR.out _ b0).2.1).mono ?_); rintro e w1 ⟨rfl, k1⟩; rw [hrg]; have B1 : Below (w.heap.size + 2) W0 w1 := B0.trans (k1.mono z0); clear y0 y1 y2 y3 y4 x0 x1 x2 x3 x4 z0 b0 k1 B0; obtain ⟨⟨y0, y1, y2, y3, y4⟩, ⟨x0, x1, x2, x3, x4⟩, z0, b0⟩ := HS.out w1 B1) | (go_at_call 8; (with_reducible refine (HM.out _ b0).mono ?_); rintro e w2 ⟨uv2, cv2, rfl, ⟨hou, hoc⟩, k2⟩; obtain ⟨ua2, uc2, hu2, -, -⟩ := hou.val; subst hu2; have hrow2 := hoc.row; obtain ⟨ca2, cc2, hc2, -, -⟩ := hrow2.len; subst hc2; have B2 : Below (w.heap.size + 2) W0 w2 := B1.trans (k2.mono z0); clear y0 y1 y2 y3 y4 x0 x1 x2 x3 x4 z0 b0 k2 B1; obtain ⟨⟨y0, y1, y2, y3, y4⟩, ⟨x0, x1, x2, x3, x4⟩, z0, b0⟩ := HS.out w2 B2; have hz12 : w.heap.size + 1 < w2.heap.size := z0; have Hrow2 := hide hrow2; clear hou hoc hrow2) | (go_at_call 23; (with_reducible refine (EqualFuncCs_any _ _ _ _ _ (Hrow2.out.below (Nat.le_refl _) (by ((with_reducible repeat' first | exact .refl _ _ | refine .alloc ?_ ?_ _ | refine .setCell ?_ ?_ _ | refine .drew ?_ | refine below_drewN ?_ _) <;> first | omega | simp <;> omega))) ((HR.out _ b0).2.2.below (Nat.le_refl _) (by ((with_reducible repeat' first | exact .refl _ _ | refine .alloc ?_ ?_ _ | refine .setCell ?_ ?_ _ | refine .drew ?_ | refine below_drewN ?_ _) <;> first | omega | simp <;> omega)))).mono ?_); rintro e w3 ⟨rfl, k3⟩))
     go_ret2
     exact ⟨by rw [HCB.out]; rfl, (by ((with_reducible repeat' first | exact .refl _ _ | exact k3 | exact b0 | refine .alloc ?_ ?_ _ | refine .setCell ?_ ?_ _ | refine .drew ?_ | refine below_drewN ?_ _ | refine Below.trans ?_ (k3.mono ?_) | refine Below.trans ?_ (b0.mono ?_)) <;> first | omega | simp <;> omega))⟩
    ·have e2 : CB = false := by rw [hCB, decide_eq_false hw]; rfl
     subst e2
     clear hCB
     go_enter Try.func9, Try.ntmps9
     go_upto_region 1 with fail
     rw [← hW0]
     clear hW0
     have B0 : Below (w.heap.size + 2) W0 W0 := Below.refl _ _
     obtain ⟨⟨y0, y1, y2, y3, y4⟩, ⟨x0, x1, x2, x3, x4⟩, z0, b0⟩ := HS.out W0 B0
     go_wp2_with (first | (go_at_call 16; (with_reducible refine (wdRight_any r f lo tm _ ps _ use ev _ (HR.out _ b0).1 (HR.out _ b0).2.1).mono ?_); rintro e w1 ⟨rfl, k1⟩; rw [hrg]; have B1 : Below (w.heap.size + 2) W0 w1 := B0.trans (k1.mono z0); clear y0 y1 y2 y3 y4 x0 x1 x2 x3 x4 z0 b0 k1 B0; obtain ⟨⟨y0, y1, y2, y3, y4⟩, ⟨x0, x1, x2, x3, x4⟩, z0, b0⟩ := HS.out w1 B1) | (go_at_call 8; (with_reducible refine (HM.out _ b0).mono ?_); rintro e w2 ⟨uv2, cv2, rfl, ⟨hou, hoc⟩, k2⟩; obtain ⟨ua2, uc2, hu2, -, -⟩ := hou.val; subst hu2; have hrow2 := hoc.row; obtain ⟨ca2, cc2, hc2, -, -⟩ := hrow2.len; subst hc2; have B2 : Below (w.heap.size + 2) W0 w2 := B1.trans (k2.mono z0); clear y0 y1 y2 y3 y4 x0 x1 x2 x3 x4 z0 b0 k2 B1; obtain ⟨⟨y0, y1, y2, y3, y4⟩, ⟨x0, x1, x2, x3, x4⟩, z0, b0⟩ := HS.out w2 B2; have hz12 : w.heap.size + 1 < w2.heap.size := z0; have Hrow2 := hide hrow2; clear hou hoc hrow2))
     go_ret2
     exact ⟨rfl, (by ((with_reducible repeat' first | exact .refl _ _ | exact b0 | refine .alloc ?_ ?_ _ | refine .setCell ?_ ?_ _ | refine .drew ?_ | refine below_drewN ?_ _ | refine Below.trans ?_ (b0.mono ?_)) <;> first | omega | simp <;> omega))⟩
   ·have e2 : CB = false := by rw [hCB, decide_eq_false hE0]; rfl
    subst e2
    clear hCB
    go_enter Try.func9, Try.ntmps9
    go_upto_region 1 with fail
    rw [← hW0]
    clear hW0
    have B0 : Below (w.heap.size + 2) W0 W0 := Below.refl _ _
    obtain ⟨⟨y0, y1, y2, y3, y4⟩, ⟨x0, x1, x2, x3, x4⟩, z0, b0⟩ := HS.out W0 B0
    go_wp2_with (first | (go_at_call 16; (with_reducible refine (wdRight_any r f lo tm _ ps _ use ev _ (HR.out _ b0).1 (HR.out _ b0).2.1).mono ?_); rintro e w1 ⟨rfl, k1⟩; rw [hrg]; have B1 : Below (w.heap.size + 2) W0 w1 := B0.trans (k1.mono z0); clear y0 y1 y2 y3 y4 x0 x1 x2 x3 x4 z0 b0 k1 B0; obtain ⟨⟨y0, y1, y2, y3, y4⟩, ⟨x0, x1, x2, x3, x4⟩, z0, b0⟩ := HS.out w1 B1) | (go_at_call 8; (with_reducible refine (HM.out _ b0).mono ?_); rintro e w2 ⟨uv2, cv2, rfl, ⟨hou, hoc⟩, k2⟩; obtain ⟨ua2, uc2, hu2, -, -⟩ := hou.val; subst hu2; have hrow2 := hoc.row; obtain ⟨ca2, cc2, hc2, -, -⟩ := hrow2.len; subst hc2; have B2 : Below (w.heap.size + 2) W0 w2 := B1.trans (k2.mono z0); clear y0 y1 y2 y3 y4 x0 x1 x2 x3 x4 z0 b0 k2 B1; obtain ⟨⟨y0, y1, y2, y3, y4⟩, ⟨x0, x1, x2, x3, x4⟩, z0, b0⟩ := HS.out w2 B2; have hz12 : w.heap.size + 1 < w2.heap.size := z0; have Hrow2 := hide hrow2; clear hou hoc hrow2))
    go_ret2
    exact ⟨rfl, (by ((with_reducible repeat' first | exact .refl _ _ | exact b0 | refine .alloc ?_ ?_ _ | refine .setCell ?_ ?_ _ | refine .drew ?_ | refine below_drewN ?_ _ | refine Below.trans ?_ (b0.mono ?_)) <;> first | omega | simp <;> omega))⟩
  ·have e1 : CE = 2 := by rw [hCE]; unfold ckE; rw [if_pos hrg, if_neg h8]
   subst e1
   have e2 : CB = false := by rw [hCB]; rfl
   subst e2
   clear hCB hCE
   go_enter Try.func9, Try.ntmps9
   go_upto_region 1 with fail
   rw [← hW0]
   clear hW0
   have B0 : Below (w.heap.size + 2) W0 W0 := Below.refl _ _
   obtain ⟨⟨y0, y1, y2, y3, y4⟩, ⟨x0, x1, x2, x3, x4⟩, z0, b0⟩ := HS.out W0 B0
   go_wp2_with (go_at_call 16; (with_reducible refine (wdRight_any r f lo tm _ ps _ use ev _ (HR.out _ b0).1 (HR.out _ b0).2.1).mono ?_); rintro e w1 ⟨rfl, k1⟩; rw [hrg]; have B1 : Below (w.heap.size + 2) W0 w1 := B0.trans (k1.mono z0); clear y0 y1 y2 y3 y4 x0 x1 x2 x3 x4 z0 b0 k1 B0; obtain ⟨⟨y0, y1, y2, y3, y4⟩, ⟨x0, x1, x2, x3, x4⟩, z0, b0⟩ := HS.out w1 B1)
   go_ret2
   exact ⟨rfl, b0⟩
end Go.Proofs.Ytlmcoollkmhanaa
