
/- The laws of cert: usable sites and schedules; the choice that an integer leads to. -/
import Derived.Test.YtlmcoollkmhanaaCtX
namespace Go.Proofs.Ytlmcoollkmhanaa
open Go.RowKit

def usB (s : Si) (use : List Int) (ev : Int) : Bool := decide (s.ps.length ≤ 20 ∧ use.length ≤ 20) && (rgB s use ev && decide (use.length ≤ 8))
set_option maxRecDepth 100000 in
set_option maxHeartbeats 1000000 in
theorem usable_any (r f lo tm : Int) (pv : Value) (ps : List Pr) (uv : Value) (use : List Int) (ev : Int) (w : World) (hp : PrRow w pv ps) (hu : IsRow w uv use) :
  Calls Try.prog 6 #[.agg #[.int .i64 r, .int .i64 f, .int .i64 lo, .int .i64 tm, pv], .agg #[uv, .int .i64 ev]] w fun e w' => e = .returned (.bool (usB ⟨r, f, lo, tm, ps⟩ use ev)) ∧ Below w.heap.size w w' := by
 have HR := hide (fun (W : World) (hW : Below w.heap.size w W) => (And.intro (hp.below (Nat.le_refl _) hW) (hu.below (Nat.le_refl _) hW) : PrRow W pv ps ∧ IsRow W uv use))
 obtain ⟨W0, hW0⟩ : ∃ W : World, W = (w.alloc (.cells #[.int .i64 r, .int .i64 f, .int .i64 lo, .int .i64 tm, pv] 24)).alloc (.cells #[uv, .int .i64 ev] 27) := ⟨_, rfl⟩
 obtain ⟨pa, pc, rfl, -, -⟩ := hp.len
 obtain ⟨ua, uc, rfl, -⟩ := id hu
 have HS := hide (ss_boxes hW0)
 clear hp hu
 unfold usB
 simp only
 cases hU : decide (ps.length ≤ 20 ∧ use.length ≤ 20) with
 | false =>
  rw [Bool.false_and]
  go_enter Try.func6, Try.ntmps6
  go_upto_region 1 with fail
  rw [← hW0]
  clear hW0
  have B0 : Below (w.heap.size + 2) W0 W0 := Below.refl _ _
  obtain ⟨⟨y0, y1, y2, y3, y4⟩, ⟨x0, x1⟩, z0, b0⟩ := HS.out W0 B0
  go_wp2_with (go_at_call 14; (with_reducible refine (R29Few_any r f lo tm _ ps _ use ev _ (HR.out _ b0).1 (HR.out _ b0).2).mono ?_); rintro e w1 ⟨rfl, k1⟩; rw [hU]; have B1 : Below (w.heap.size + 2) W0 w1 := B0.trans (k1.mono z0); clear y0 y1 y2 y3 y4 x0 x1 z0 b0 k1 B0; obtain ⟨⟨y0, y1, y2, y3, y4⟩, ⟨x0, x1⟩, z0, b0⟩ := HS.out w1 B1)
  go_ret
  exact ⟨rfl, b0⟩
 | true =>
  have hun : use.length ≤ 1000000 := by have := of_decide_eq_true hU; omega
  rw [Bool.true_and]
  cases hrg : rgB ⟨r, f, lo, tm, ps⟩ use ev with
  | false =>
   rw [Bool.false_and]
   go_enter Try.func6, Try.ntmps6
   go_upto_region 1 with fail
   rw [← hW0]
   clear hW0
   have B0 : Below (w.heap.size + 2) W0 W0 := Below.refl _ _
   obtain ⟨⟨y0, y1, y2, y3, y4⟩, ⟨x0, x1⟩, z0, b0⟩ := HS.out W0 B0
   go_wp2_with (first | (go_at_call 14; (with_reducible refine (R29Few_any r f lo tm _ ps _ use ev _ (HR.out _ b0).1 (HR.out _ b0).2).mono ?_); rintro e w1 ⟨rfl, k1⟩; rw [hU]; have B1 : Below (w.heap.size + 2) W0 w1 := B0.trans (k1.mono z0); clear y0 y1 y2 y3 y4 x0 x1 z0 b0 k1 B0; obtain ⟨⟨y0, y1, y2, y3, y4⟩, ⟨x0, x1⟩, z0, b0⟩ := HS.out w1 B1) | (go_at_call 15; (with_reducible refine (R29Right_any r f lo tm _ ps _ use ev _ (HR.out _ b0).1 (HR.out _ b0).2 hun).mono ?_); rintro e w2 ⟨rfl, k2⟩; rw [hrg]; have B2 : Below (w.heap.size + 2) W0 w2 := B1.trans (k2.mono z0); clear y0 y1 y2 y3 y4 x0 x1 z0 b0 k2 B1; obtain ⟨⟨y0, y1, y2, y3, y4⟩, ⟨x0, x1⟩, z0, b0⟩ := HS.out w2 B2))
   go_ret
   exact ⟨rfl, b0⟩
  | true =>
   rw [Bool.true_and]
   obtain ⟨R, hR⟩ : ∃ R, R = decide (use.length ≤ 8) := ⟨_, rfl⟩
   rw [← hR]
   have dR : decide ((use.length : Int) ≤ 8) = R := by
    rw [hR, decide_eq_decide]
    omega
   clear hR
   go_enter Try.func6, Try.ntmps6
   go_upto_region 1 with fail
   rw [← hW0]
   clear hW0
   have B0 : Below (w.heap.size + 2) W0 W0 := Below.refl _ _
   obtain ⟨⟨y0, y1, y2, y3, y4⟩, ⟨x0, x1⟩, z0, b0⟩ := HS.out W0 B0
   go_wp2_with (first | (go_at_call 14; (with_reducible refine (R29Few_any r f lo tm _ ps _ use ev _ (HR.out _ b0).1 (HR.out _ b0).2).mono ?_); rintro e w1 ⟨rfl, k1⟩; rw [hU]; have B1 : Below (w.heap.size + 2) W0 w1 := B0.trans (k1.mono z0); clear y0 y1 y2 y3 y4 x0 x1 z0 b0 k1 B0; obtain ⟨⟨y0, y1, y2, y3, y4⟩, ⟨x0, x1⟩, z0, b0⟩ := HS.out w1 B1) | (go_at_call 15; (with_reducible refine (R29Right_any r f lo tm _ ps _ use ev _ (HR.out _ b0).1 (HR.out _ b0).2 hun).mono ?_); rintro e w2 ⟨rfl, k2⟩; rw [hrg]; have B2 : Below (w.heap.size + 2) W0 w2 := B1.trans (k2.mono z0); clear y0 y1 y2 y3 y4 x0 x1 z0 b0 k2 B1; obtain ⟨⟨y0, y1, y2, y3, y4⟩, ⟨x0, x1⟩, z0, b0⟩ := HS.out w2 B2))
   go_ret
   exact ⟨rfl, b0⟩
theorem usB_iff (s : Si) (use : List Int) (ev : Int) : usB s use ev = true ↔ (s.ps.length ≤ 20 ∧ use.length ≤ 20) ∧ rgB s use ev = true ∧ use.length ≤ 8 := by
 unfold usB
 simp only [Bool.and_eq_true, decide_eq_true_eq]
end Go.Proofs.Ytlmcoollkmhanaa
