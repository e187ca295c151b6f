
/- The reference of cert: Make, Check. -/
import Derived.Test.YtlmcoollkmhanaaGreatCtT
import Derived.Test.YtlmcoollkmhanaaGreatCtN
namespace Go.Proofs.YtlmcoollkmhanaaGreat
open Go.RowKit

def MkBox (w : World) (r f lo tm : Int) (pv uv : Value) (ev : Int) (V : World) : Prop :=
 (V.cell? ⟨w.heap.size, 0, none⟩ = some (.int .i64 r) ∧ V.cell? ⟨w.heap.size, 1, none⟩ = some (.int .i64 f) ∧ V.cell? ⟨w.heap.size, 2, none⟩ = some (.int .i64 lo) ∧ V.cell? ⟨w.heap.size, 3, none⟩ = some (.int .i64 tm) ∧ V.cell? ⟨w.heap.size, 4, none⟩ = some pv) ∧
 (V.cell? ⟨w.heap.size + 1, 0, none⟩ = some uv ∧ V.cell? ⟨w.heap.size + 1, 1, none⟩ = some (.int .i64 ev)) ∧
 (V.cell? ⟨w.heap.size + 1 + 1, 0, none⟩ = some (.slice none 0 0) ∧ V.cell? ⟨w.heap.size + 1 + 1, 1, none⟩ = some (.int .i64 0) ∧ V.cell? ⟨w.heap.size + 1 + 1, 2, none⟩ = some (.int .i64 0) ∧ V.cell? ⟨w.heap.size + 1 + 1, 3, none⟩ = some (.int .i64 0) ∧ V.cell? ⟨w.heap.size + 1 + 1, 4, none⟩ = some (.slice none 0 0)) ∧
 (V.frozen? ⟨w.heap.size + 1 + 1, 0, none⟩ = false ∧ V.frozen? ⟨w.heap.size + 1 + 1, 1, none⟩ = false ∧ V.frozen? ⟨w.heap.size + 1 + 1, 2, none⟩ = false ∧ V.frozen? ⟨w.heap.size + 1 + 1, 3, none⟩ = false ∧ V.frozen? ⟨w.heap.size + 1 + 1, 4, none⟩ = false) ∧ w.heap.size + 3 ≤ V.heap.size ∧ Below w.heap.size w V
theorem mk_boxes {w W0 : World} {r f lo tm : Int} {pv uv : Value} {ev : Int} (hW0 : W0 = ((w.alloc (.cells #[.int .i64 r, .int .i64 f, .int .i64 lo, .int .i64 tm, pv] 24)).alloc (.cells #[uv, .int .i64 ev] 27)).alloc (.cells #[.slice none 0 0, .int .i64 0, .int .i64 0, .int .i64 0, .slice none 0 0] 30)) (V : World) (hV : Below (w.heap.size + 3) W0 V) : MkBox w r f lo tm pv uv ev V := by
 have bW : Below w.heap.size w W0 := by rw [hW0]; ((with_reducible repeat' first | exact .refl _ _ | refine .alloc ?_ ?_ _ | refine .setCell ?_ ?_ _ | refine .drew ?_ | refine below_drewN ?_ _) <;> first | omega | simp <;> omega)
 have zW : W0.heap.size = w.heap.size + 3 := by rw [hW0]; simp
 have hz := hV.size
 have h0 := (bk hV w.heap.size (by omega)).1
 have h1 := (bk hV (w.heap.size + 1) (by omega)).1
 have h2 := bk hV (w.heap.size + 1 + 1) (by omega)
 refine ⟨⟨(h0 _).trans ?_, (h0 _).trans ?_, (h0 _).trans ?_, (h0 _).trans ?_, (h0 _).trans ?_⟩, ⟨(h1 _).trans ?_, (h1 _).trans ?_⟩, ⟨(h2.1 _).trans ?_, (h2.1 _).trans ?_, (h2.1 _).trans ?_, (h2.1 _).trans ?_, (h2.1 _).trans ?_⟩, ⟨(h2.2 _).trans ?_, (h2.2 _).trans ?_, (h2.2 _).trans ?_, (h2.2 _).trans ?_, (h2.2 _).trans ?_⟩, by omega, bW.trans (hV.mono (by omega))⟩ <;> rw [hW0] <;> simp [go_sem]
def RmPost (w : World) (s : Si) (use : List Int) (ev pm : Int) (e : Ending) (w' : World) : Prop :=
 ∃ uv cv, e = .returned (.tuple #[valCt (mkX s use ev pm) uv cv, .int .i64 (mkE s use ev pm)]) ∧ (IsRow w' uv (mkX s use ev pm).use ∧ CsRow w' cv (mkX s use ev pm).cs) ∧ Below w.heap.size w w'
theorem RmPost.err {w w' : World} {s : Si} {use : List Int} {ev pm E : Int} (hE : mkE s use ev pm = E) (h0 : E ≠ 0) (hb : Below w.heap.size w w') :
  RmPost w s use ev pm (.returned (.tuple #[.agg #[.slice none 0 0, .int .i64 0, .int .i64 0, .int .i64 0, .slice none 0 0], .int .i64 E])) w' := by
 have hx : mkX s use ev pm = ct0 := by unfold mkX; rw [if_neg (by rw [hE]; exact h0)]
 exact ⟨.slice none 0 0, .slice none 0 0, by rw [hx, hE]; rfl, by rw [hx]; exact ⟨isrow_empty _ _ _ (by omega), CsRow.nil _⟩, hb⟩
set_option maxRecDepth 100000 in
set_option maxHeartbeats 2000000 in
theorem R31Make_any (r f lo tm : Int) (pv : Value) (ps : List Pr) (uv : Value) (use : List Int) (ev pm : Int) (w : World) (hp : PrRow w pv ps) (hu : IsRow w uv use) (hun : use.length ≤ 1000000) :
  Calls Tryz.prog 10 #[.agg #[.int .i64 r, .int .i64 f, .int .i64 lo, .int .i64 tm, pv], .agg #[uv, .int .i64 ev], .int .i64 pm] w (RmPost w ⟨r, f, lo, tm, ps⟩ use ev pm) := by
 have HR := hide (fun (W : World) (hW : Below w.heap.size w W) => (And.intro (hp.below (Nat.le_refl _) hW) (hu.below (Nat.le_refl _) hW) : PrRow W pv ps ∧ IsRow W uv use))
 obtain ⟨ua, uc, rfl, vq1, vq2, -⟩ := id hu
 obtain ⟨W0, hW0⟩ : ∃ W : World, W = ((w.alloc (.cells #[.int .i64 r, .int .i64 f, .int .i64 lo, .int .i64 tm, pv] 24)).alloc (.cells #[.slice ua use.length uc, .int .i64 ev] 27)).alloc (.cells #[.slice none 0 0, .int .i64 0, .int .i64 0, .int .i64 0, .slice none 0 0] 30) := ⟨_, rfl⟩
 have HS := hide (mk_boxes hW0)
 clear hp hu
 cases h1 : mkB ⟨r, f, lo, tm, ps⟩ use ev pm with
 | false =>
  have hE : mkE ⟨r, f, lo, tm, ps⟩ use ev pm = 1 := by unfold mkE; rw [h1, if_neg (by simp)]
  have HE := hide hE
  clear hE
  unfold mkB at h1
  cases h2 : rgB ⟨r, f, lo, tm, ps⟩ use ev with
  | false =>
   clear h1
   go_enter Tryz.func10, Tryz.ntmps10
   go_upto_region 1 with fail
   rw [← hW0]
   clear hW0
   have B0 : Below (w.heap.size + 3) W0 W0 := Below.refl _ _
   obtain ⟨⟨y0, y1, y2, y3, y4⟩, ⟨x0, x1⟩, ⟨v0, v1, v2, v3, v4⟩, ⟨f0, f1, f2, f3, f4⟩, z0, b0⟩ := HS.out W0 B0
   go_wp2_with (go_at_call 30; (with_reducible refine (R29Right_any r f lo tm _ ps _ use ev _ (HR.out _ b0).1 (HR.out _ b0).2 hun).mono ?_); rintro e w1 ⟨rfl, k1⟩; rw [h2]; have B1 : Below (w.heap.size + 3) W0 w1 := B0.trans (k1.mono z0); clear y0 y1 y2 y3 y4 x0 x1 v0 v1 v2 v3 v4 f0 f1 f2 f3 f4 z0 b0 k1 B0; obtain ⟨⟨y0, y1, y2, y3, y4⟩, ⟨x0, x1⟩, ⟨v0, v1, v2, v3, v4⟩, ⟨f0, f1, f2, f3, f4⟩, z0, b0⟩ := HS.out w1 B1)
   have d := stores_at (w.heap.size + 1 + 1) [.slice none 0 0, .int .i64 0, .int .i64 0, .int .i64 0, .slice none 0 0] 0 (w1) (ex5 v0 v1 v2 v3 v4); have d0 : (((((w1.setCell ⟨w.heap.size + 1 + 1, 0, none⟩ (.slice none 0 0)).setCell ⟨w.heap.size + 1 + 1, 1, none⟩ (.int .i64 0)).setCell ⟨w.heap.size + 1 + 1, 2, none⟩ (.int .i64 0)).setCell ⟨w.heap.size + 1 + 1, 3, none⟩ (.int .i64 0)).setCell ⟨w.heap.size + 1 + 1, 4, none⟩ (.slice none 0 0)).cell? ⟨w.heap.size + 1 + 1, 0, none⟩ = some (.slice none 0 0) := d 0 _ rfl; have d1 : (((((w1.setCell ⟨w.heap.size + 1 + 1, 0, none⟩ (.slice none 0 0)).setCell ⟨w.heap.size + 1 + 1, 1, none⟩ (.int .i64 0)).setCell ⟨w.heap.size + 1 + 1, 2, none⟩ (.int .i64 0)).setCell ⟨w.heap.size + 1 + 1, 3, none⟩ (.int .i64 0)).setCell ⟨w.heap.size + 1 + 1, 4, none⟩ (.slice none 0 0)).cell? ⟨w.heap.size + 1 + 1, 1, none⟩ = some (.int .i64 0) := d 1 _ rfl; have d2 : (((((w1.setCell ⟨w.heap.size + 1 + 1, 0, none⟩ (.slice none 0 0)).setCell ⟨w.heap.size + 1 + 1, 1, none⟩ (.int .i64 0)).setCell ⟨w.heap.size + 1 + 1, 2, none⟩ (.int .i64 0)).setCell ⟨w.heap.size + 1 + 1, 3, none⟩ (.int .i64 0)).setCell ⟨w.heap.size + 1 + 1, 4, none⟩ (.slice none 0 0)).cell? ⟨w.heap.size + 1 + 1, 2, none⟩ = some (.int .i64 0) := d 2 _ rfl; have d3 : (((((w1.setCell ⟨w.heap.size + 1 + 1, 0, none⟩ (.slice none 0 0)).setCell ⟨w.heap.size + 1 + 1, 1, none⟩ (.int .i64 0)).setCell ⟨w.heap.size + 1 + 1, 2, none⟩ (.int .i64 0)).setCell ⟨w.heap.size + 1 + 1, 3, none⟩ (.int .i64 0)).setCell ⟨w.heap.size + 1 + 1, 4, none⟩ (.slice none 0 0)).cell? ⟨w.heap.size + 1 + 1, 3, none⟩ = some (.int .i64 0) := d 3 _ rfl; have d4 : (((((w1.setCell ⟨w.heap.size + 1 + 1, 0, none⟩ (.slice none 0 0)).setCell ⟨w.heap.size + 1 + 1, 1, none⟩ (.int .i64 0)).setCell ⟨w.heap.size + 1 + 1, 2, none⟩ (.int .i64 0)).setCell ⟨w.heap.size + 1 + 1, 3, none⟩ (.int .i64 0)).setCell ⟨w.heap.size + 1 + 1, 4, none⟩ (.slice none 0 0)).cell? ⟨w.heap.size + 1 + 1, 4, none⟩ = some (.slice none 0 0) := d 4 _ rfl
   exact bodyPost_ret (v := .tuple #[.agg #[.slice none 0 0, .int .i64 0, .int .i64 0, .int .i64 0, .slice none 0 0], .int .i64 (1)]) (by simp [results, Tryz.results10, go_sem, d0, d1, d2, d3, d4]) rfl (RmPost.err HE.out (by decide) (by ((with_reducible repeat' first | exact .refl _ _ | exact b0 | refine .alloc ?_ ?_ _ | refine .setCell ?_ ?_ _ | refine .drew ?_ | refine below_drewN ?_ _ | refine Below.trans ?_ (b0.mono ?_)) <;> first | omega | simp <;> omega)))
  | true =>
   rw [h2, Bool.true_and] at h1
   have h3 : pm < 0 ∨ 3000000000000000 < pm := by
    unfold inB at h1
    simp only [decide_eq_false_iff_not] at h1
    omega
   clear h1
   rcases h3 with h3 | h3
   ·have h4 := h3
    go_enter Tryz.func10, Tryz.ntmps10
    go_upto_region 1 with fail
    rw [← hW0]
    clear hW0
    have B0 : Below (w.heap.size + 3) W0 W0 := Below.refl _ _
    obtain ⟨⟨y0, y1, y2, y3, y4⟩, ⟨x0, x1⟩, ⟨v0, v1, v2, v3, v4⟩, ⟨f0, f1, f2, f3, f4⟩, z0, b0⟩ := HS.out W0 B0
    go_wp2_with (go_at_call 30; (with_reducible refine (R29Right_any r f lo tm _ ps _ use ev _ (HR.out _ b0).1 (HR.out _ b0).2 hun).mono ?_); rintro e w1 ⟨rfl, k1⟩; rw [h2]; have B1 : Below (w.heap.size + 3) W0 w1 := B0.trans (k1.mono z0); clear y0 y1 y2 y3 y4 x0 x1 v0 v1 v2 v3 v4 f0 f1 f2 f3 f4 z0 b0 k1 B0; obtain ⟨⟨y0, y1, y2, y3, y4⟩, ⟨x0, x1⟩, ⟨v0, v1, v2, v3, v4⟩, ⟨f0, f1, f2, f3, f4⟩, z0, b0⟩ := HS.out w1 B1)
    have d := stores_at (w.heap.size + 1 + 1) [.slice none 0 0, .int .i64 0, .int .i64 0, .int .i64 0, .slice none 0 0] 0 (w1) (ex5 v0 v1 v2 v3 v4); have d0 : (((((w1.setCell ⟨w.heap.size + 1 + 1, 0, none⟩ (.slice none 0 0)).setCell ⟨w.heap.size + 1 + 1, 1, none⟩ (.int .i64 0)).setCell ⟨w.heap.size + 1 + 1, 2, none⟩ (.int .i64 0)).setCell ⟨w.heap.size + 1 + 1, 3, none⟩ (.int .i64 0)).setCell ⟨w.heap.size + 1 + 1, 4, none⟩ (.slice none 0 0)).cell? ⟨w.heap.size + 1 + 1, 0, none⟩ = some (.slice none 0 0) := d 0 _ rfl; have d1 : (((((w1.setCell ⟨w.heap.size + 1 + 1, 0, none⟩ (.slice none 0 0)).setCell ⟨w.heap.size + 1 + 1, 1, none⟩ (.int .i64 0)).setCell ⟨w.heap.size + 1 + 1, 2, none⟩ (.int .i64 0)).setCell ⟨w.heap.size + 1 + 1, 3, none⟩ (.int .i64 0)).setCell ⟨w.heap.size + 1 + 1, 4, none⟩ (.slice none 0 0)).cell? ⟨w.heap.size + 1 + 1, 1, none⟩ = some (.int .i64 0) := d 1 _ rfl; have d2 : (((((w1.setCell ⟨w.heap.size + 1 + 1, 0, none⟩ (.slice none 0 0)).setCell ⟨w.heap.size + 1 + 1, 1, none⟩ (.int .i64 0)).setCell ⟨w.heap.size + 1 + 1, 2, none⟩ (.int .i64 0)).setCell ⟨w.heap.size + 1 + 1, 3, none⟩ (.int .i64 0)).setCell ⟨w.heap.size + 1 + 1, 4, none⟩ (.slice none 0 0)).cell? ⟨w.heap.size + 1 + 1, 2, none⟩ = some (.int .i64 0) := d 2 _ rfl; have d3 : (((((w1.setCell ⟨w.heap.size + 1 + 1, 0, none⟩ (.slice none 0 0)).setCell ⟨w.heap.size + 1 + 1, 1, none⟩ (.int .i64 0)).setCell ⟨w.heap.size + 1 + 1, 2, none⟩ (.int .i64 0)).setCell ⟨w.heap.size + 1 + 1, 3, none⟩ (.int .i64 0)).setCell ⟨w.heap.size + 1 + 1, 4, none⟩ (.slice none 0 0)).cell? ⟨w.heap.size + 1 + 1, 3, none⟩ = some (.int .i64 0) := d 3 _ rfl; have d4 : (((((w1.setCell ⟨w.heap.size + 1 + 1, 0, none⟩ (.slice none 0 0)).setCell ⟨w.heap.size + 1 + 1, 1, none⟩ (.int .i64 0)).setCell ⟨w.heap.size + 1 + 1, 2, none⟩ (.int .i64 0)).setCell ⟨w.heap.size + 1 + 1, 3, none⟩ (.int .i64 0)).setCell ⟨w.heap.size + 1 + 1, 4, none⟩ (.slice none 0 0)).cell? ⟨w.heap.size + 1 + 1, 4, none⟩ = some (.slice none 0 0) := d 4 _ rfl
    exact bodyPost_ret (v := .tuple #[.agg #[.slice none 0 0, .int .i64 0, .int .i64 0, .int .i64 0, .slice none 0 0], .int .i64 (1)]) (by simp [results, Tryz.results10, go_sem, d0, d1, d2, d3, d4]) rfl (RmPost.err HE.out (by decide) (by ((with_reducible repeat' first | exact .refl _ _ | exact b0 | refine .alloc ?_ ?_ _ | refine .setCell ?_ ?_ _ | refine .drew ?_ | refine below_drewN ?_ _ | refine Below.trans ?_ (b0.mono ?_)) <;> first | omega | simp <;> omega)))
   ·have h4 : ¬ pm < 0 := by omega
    go_enter Tryz.func10, Tryz.ntmps10
    go_upto_region 1 with fail
    rw [← hW0]
    clear hW0
    have B0 : Below (w.heap.size + 3) W0 W0 := Below.refl _ _
    obtain ⟨⟨y0, y1, y2, y3, y4⟩, ⟨x0, x1⟩, ⟨v0, v1, v2, v3, v4⟩, ⟨f0, f1, f2, f3, f4⟩, z0, b0⟩ := HS.out W0 B0
    go_wp2_with (go_at_call 30; (with_reducible refine (R29Right_any r f lo tm _ ps _ use ev _ (HR.out _ b0).1 (HR.out _ b0).2 hun).mono ?_); rintro e w1 ⟨rfl, k1⟩; rw [h2]; have B1 : Below (w.heap.size + 3) W0 w1 := B0.trans (k1.mono z0); clear y0 y1 y2 y3 y4 x0 x1 v0 v1 v2 v3 v4 f0 f1 f2 f3 f4 z0 b0 k1 B0; obtain ⟨⟨y0, y1, y2, y3, y4⟩, ⟨x0, x1⟩, ⟨v0, v1, v2, v3, v4⟩, ⟨f0, f1, f2, f3, f4⟩, z0, b0⟩ := HS.out w1 B1)
    have d := stores_at (w.heap.size + 1 + 1) [.slice none 0 0, .int .i64 0, .int .i64 0, .int .i64 0, .slice none 0 0] 0 (w1) (ex5 v0 v1 v2 v3 v4); have d0 : (((((w1.setCell ⟨w.heap.size + 1 + 1, 0, none⟩ (.slice none 0 0)).setCell ⟨w.heap.size + 1 + 1, 1, none⟩ (.int .i64 0)).setCell ⟨w.heap.size + 1 + 1, 2, none⟩ (.int .i64 0)).setCell ⟨w.heap.size + 1 + 1, 3, none⟩ (.int .i64 0)).setCell ⟨w.heap.size + 1 + 1, 4, none⟩ (.slice none 0 0)).cell? ⟨w.heap.size + 1 + 1, 0, none⟩ = some (.slice none 0 0) := d 0 _ rfl; have d1 : (((((w1.setCell ⟨w.heap.size + 1 + 1, 0, none⟩ (.slice none 0 0)).setCell ⟨w.heap.size + 1 + 1, 1, none⟩ (.int .i64 0)).setCell ⟨w.heap.size + 1 + 1, 2, none⟩ (.int .i64 0)).setCell ⟨w.heap.size + 1 + 1, 3, none⟩ (.int .i64 0)).setCell ⟨w.heap.size + 1 + 1, 4, none⟩ (.slice none 0 0)).cell? ⟨w.heap.size + 1 + 1, 1, none⟩ = some (.int .i64 0) := d 1 _ rfl; have d2 : (((((w1.setCell ⟨w.heap.size + 1 + 1, 0, none⟩ (.slice none 0 0)).setCell ⟨w.heap.size + 1 + 1, 1, none⟩ (.int .i64 0)).setCell ⟨w.heap.size + 1 + 1, 2, none⟩ (.int .i64 0)).setCell ⟨w.heap.size + 1 + 1, 3, none⟩ (.int .i64 0)).setCell ⟨w.heap.size + 1 + 1, 4, none⟩ (.slice none 0 0)).cell? ⟨w.heap.size + 1 + 1, 2, none⟩ = some (.int .i64 0) := d 2 _ rfl; have d3 : (((((w1.setCell ⟨w.heap.size + 1 + 1, 0, none⟩ (.slice none 0 0)).setCell ⟨w.heap.size + 1 + 1, 1, none⟩ (.int .i64 0)).setCell ⟨w.heap.size + 1 + 1, 2, none⟩ (.int .i64 0)).setCell ⟨w.heap.size + 1 + 1, 3, none⟩ (.int .i64 0)).setCell ⟨w.heap.size + 1 + 1, 4, none⟩ (.slice none 0 0)).cell? ⟨w.heap.size + 1 + 1, 3, none⟩ = some (.int .i64 0) := d 3 _ rfl; have d4 : (((((w1.setCell ⟨w.heap.size + 1 + 1, 0, none⟩ (.slice none 0 0)).setCell ⟨w.heap.size + 1 + 1, 1, none⟩ (.int .i64 0)).setCell ⟨w.heap.size + 1 + 1, 2, none⟩ (.int .i64 0)).setCell ⟨w.heap.size + 1 + 1, 3, none⟩ (.int .i64 0)).setCell ⟨w.heap.size + 1 + 1, 4, none⟩ (.slice none 0 0)).cell? ⟨w.heap.size + 1 + 1, 4, none⟩ = some (.slice none 0 0) := d 4 _ rfl
    exact bodyPost_ret (v := .tuple #[.agg #[.slice none 0 0, .int .i64 0, .int .i64 0, .int .i64 0, .slice none 0 0], .int .i64 (1)]) (by simp [results, Tryz.results10, go_sem, d0, d1, d2, d3, d4]) rfl (RmPost.err HE.out (by decide) (by ((with_reducible repeat' first | exact .refl _ _ | exact b0 | refine .alloc ?_ ?_ _ | refine .setCell ?_ ?_ _ | refine .drew ?_ | refine below_drewN ?_ _ | refine Below.trans ?_ (b0.mono ?_)) <;> first | omega | simp <;> omega)))
 | true =>
  obtain ⟨hrg, hpm⟩ := (Bool.and_eq_true _ _).mp h1
  have hpm2 : 0 ≤ pm ∧ pm ≤ 3000000000000000 := of_decide_eq_true hpm
  by_cases h8 : use.length ≤ 8
  ·have hE : mkE ⟨r, f, lo, tm, ps⟩ use ev pm = if wdt ⟨r, f, lo, tm, ps⟩ use ev ≤ pm then 0 else 50 := by unfold mkE; rw [h1, if_pos rfl, if_pos h8]
   have HE0 := hide hE
   have HC := hide (fun (V : World) (hV : Below w.heap.size w V) => R31cases_any r f lo tm pv ps (.slice ua use.length uc) use ev V (HR.out V hV).1 (HR.out V hV).2 hrg h8)
   clear hE h1 hpm
   have hn1 : ¬ pm < 0 := by omega
   have hn2 : ¬ 3000000000000000 < pm := by omega
   have hn3 : ¬ (8 : Int) < (use.length : Int) := by omega
   go_enter Tryz.func10, Tryz.ntmps10
   go_upto_region 1 with fail
   rw [← hW0]
   clear hW0
   have B0 : Below (w.heap.size + 3) W0 W0 := Below.refl _ _
   obtain ⟨⟨y0, y1, y2, y3, y4⟩, ⟨x0, x1⟩, ⟨v0, v1, v2, v3, v4⟩, ⟨f0, f1, f2, f3, f4⟩, z0, b0⟩ := HS.out W0 B0
   go_wp2_with (first | (go_at_call 30; (with_reducible refine (R29Right_any r f lo tm _ ps _ use ev _ (HR.out _ b0).1 (HR.out _ b0).2 hun).mono ?_); rintro e w1 ⟨rfl, k1⟩; rw [hrg]; have B1 : Below (w.heap.size + 3) W0 w1 := B0.trans (k1.mono z0); clear y0 y1 y2 y3 y4 x0 x1 v0 v1 v2 v3 v4 f0 f1 f2 f3 f4 z0 b0 k1 B0; obtain ⟨⟨y0, y1, y2, y3, y4⟩, ⟨x0, x1⟩, ⟨v0, v1, v2, v3, v4⟩, ⟨f0, f1, f2, f3, f4⟩, z0, b0⟩ := HS.out w1 B1) | (go_at_call 31; (with_reducible refine (HC.out _ b0).mono ?_); rintro e w2 ⟨cv, rfl, hcr, k2⟩; have B2 : Below (w.heap.size + 3) W0 w2 := B1.trans (k2.mono z0); have hco := hcr.mono (b' := w.heap.size + 3) (by omega); clear hcr; have hcr := hco.row; clear y0 y1 y2 y3 y4 x0 x1 v0 v1 v2 v3 v4 f0 f1 f2 f3 f4 z0 b0 k2 B1; obtain ⟨⟨y0, y1, y2, y3, y4⟩, ⟨x0, x1⟩, ⟨v0, v1, v2, v3, v4⟩, ⟨f0, f1, f2, f3, f4⟩, z0, b0⟩ := HS.out w2 B2))
   obtain ⟨ca, cc, hcv, cq1, cq2⟩ := hcr.len
   subst hcv
   have Hcr := hide hcr
   have Hco := hide hco
   obtain ⟨NC, hNC⟩ : ∃ n, n = (csL ⟨r, f, lo, tm, ps⟩ use ev).length := ⟨_, rfl⟩
   rw [← hNC] at cq1 Hcr Hco ⊢
   have HNC := hide hNC
   clear hNC hcr hco
   go_loopw [10, 11] (fun s10 s11 wx => ∃ k : Nat, k ≤ NC ∧ s11 = .int .i64 k ∧ s10 = .int .i64 (mxC (csL ⟨r, f, lo, tm, ps⟩ use ev) k) ∧ Below w2.heap.size w2 wx) (fun _ s11 _ => NC - (intOf s11).toNat)
   case atStart => exact ⟨0, Nat.zero_le _, rfl, rfl, Below.refl _ _⟩
   case round =>
    obtain ⟨k, hk, rfl, rfl, hB⟩ := hrel
    by_cases hlt : k < NC
    ·have hk2 : k < (csL ⟨r, f, lo, tm, ps⟩ use ev).length := by rw [← HNC.out]; exact hlt
     obtain ⟨cb, co, ccap, u1, u2, hcv, hcb, ⟨e0, e1, e2⟩, ⟨l1, n1, rfl, -⟩, ⟨l2, n2, rfl, -⟩⟩ := (Hcr.out.below (Nat.le_refl _) hB).at_ hk2
     rw [← HNC.out] at hcv
     simp only [Value.slice.injEq] at hcv
     obtain ⟨rfl, -, rfl⟩ := hcv
     obtain ⟨CW, hCW⟩ : ∃ x, x = (csAt (csL ⟨r, f, lo, tm, ps⟩ use ev) k).wd := ⟨_, rfl⟩
     obtain ⟨MX, hMX⟩ : ∃ x, x = mxC (csL ⟨r, f, lo, tm, ps⟩ use ev) k := ⟨_, rfl⟩
     rw [← hCW] at e2
     rw [← hMX]
     have hsn : mxC (csL ⟨r, f, lo, tm, ps⟩ use ev) (k + 1) = mx MX CW := by rw [mxC, ← hCW, ← hMX]
     have Hsn := hide hsn
     have HB := hide hB
     have I1 : (0 : Int) ≤ (k : Int) := by omega
     have I2 : (k : Int) < (NC : Int) := by omega
     clear hCW hMX hsn hB hk2
     go_wp2_with fail
     have hmx : mx MX CW = max MX CW := by unfold mx; split <;> omega
     go_roundw
     case rel => exact ⟨k + 1, by omega, by go_num, by rw [Hsn.out, hmx], (by ((with_reducible repeat' first | exact .refl _ _ | exact HB.out | refine .alloc ?_ ?_ _ | refine .setCell ?_ ?_ _ | refine .drew ?_ | refine below_drewN ?_ _ | refine Below.trans ?_ (HB.out.mono ?_)) <;> first | omega | simp <;> omega))⟩
     case measure => simp [intOf]; omega
    ·obtain rfl : k = NC := by omega
     have hmw : mxC (csL ⟨r, f, lo, tm, ps⟩ use ev) k = wdt ⟨r, f, lo, tm, ps⟩ use ev := by
      have h := (mxC_cs hrg).1
      rw [← HNC.out] at h
      exact h
     rw [hmw]
     have BW : Below (w.heap.size + 3) W0 wr := B2.trans (hB.mono z0)
     have hzr := hB.size
     have HBr := hide hB
     clear y0 y1 y2 y3 y4 x0 x1 v0 v1 v2 v3 v4 f0 f1 f2 f3 f4 z0 b0 hmw hB
     obtain ⟨⟨y0, y1, y2, y3, y4⟩, ⟨x0, x1⟩, ⟨v0, v1, v2, v3, v4⟩, ⟨f0, f1, f2, f3, f4⟩, z0, b0⟩ := HS.out wr BW
     by_cases hw : wdt ⟨r, f, lo, tm, ps⟩ use ev ≤ pm
     ·have hE : mkE ⟨r, f, lo, tm, ps⟩ use ev pm = 0 := by rw [HE0.out, if_pos hw]
      have hXx : mkX ⟨r, f, lo, tm, ps⟩ use ev pm = ⟨use, ev, pm, wdt ⟨r, f, lo, tm, ps⟩ use ev, csL ⟨r, f, lo, tm, ps⟩ use ev⟩ := by unfold mkX; rw [if_pos hE]
      have HE2 := hide (And.intro hE hXx)
      have hn4 : ¬ pm < wdt ⟨r, f, lo, tm, ps⟩ use ev := by omega
      clear hE hXx hw
      go_wp2_with fail
      have d := stores_at (w.heap.size + 1 + 1) [.slice ua use.length uc, .int .i64 ev, .int .i64 pm, .int .i64 (wdt ⟨r, f, lo, tm, ps⟩ use ev), .slice ca k cc] 0 (wr) (ex5 v0 v1 v2 v3 v4); have d0 : (((((wr.setCell ⟨w.heap.size + 1 + 1, 0, none⟩ (.slice ua use.length uc)).setCell ⟨w.heap.size + 1 + 1, 1, none⟩ (.int .i64 ev)).setCell ⟨w.heap.size + 1 + 1, 2, none⟩ (.int .i64 pm)).setCell ⟨w.heap.size + 1 + 1, 3, none⟩ (.int .i64 (wdt ⟨r, f, lo, tm, ps⟩ use ev))).setCell ⟨w.heap.size + 1 + 1, 4, none⟩ (.slice ca k cc)).cell? ⟨w.heap.size + 1 + 1, 0, none⟩ = some (.slice ua use.length uc) := d 0 _ rfl; have d1 : (((((wr.setCell ⟨w.heap.size + 1 + 1, 0, none⟩ (.slice ua use.length uc)).setCell ⟨w.heap.size + 1 + 1, 1, none⟩ (.int .i64 ev)).setCell ⟨w.heap.size + 1 + 1, 2, none⟩ (.int .i64 pm)).setCell ⟨w.heap.size + 1 + 1, 3, none⟩ (.int .i64 (wdt ⟨r, f, lo, tm, ps⟩ use ev))).setCell ⟨w.heap.size + 1 + 1, 4, none⟩ (.slice ca k cc)).cell? ⟨w.heap.size + 1 + 1, 1, none⟩ = some (.int .i64 ev) := d 1 _ rfl; have d2 : (((((wr.setCell ⟨w.heap.size + 1 + 1, 0, none⟩ (.slice ua use.length uc)).setCell ⟨w.heap.size + 1 + 1, 1, none⟩ (.int .i64 ev)).setCell ⟨w.heap.size + 1 + 1, 2, none⟩ (.int .i64 pm)).setCell ⟨w.heap.size + 1 + 1, 3, none⟩ (.int .i64 (wdt ⟨r, f, lo, tm, ps⟩ use ev))).setCell ⟨w.heap.size + 1 + 1, 4, none⟩ (.slice ca k cc)).cell? ⟨w.heap.size + 1 + 1, 2, none⟩ = some (.int .i64 pm) := d 2 _ rfl; have d3 : (((((wr.setCell ⟨w.heap.size + 1 + 1, 0, none⟩ (.slice ua use.length uc)).setCell ⟨w.heap.size + 1 + 1, 1, none⟩ (.int .i64 ev)).setCell ⟨w.heap.size + 1 + 1, 2, none⟩ (.int .i64 pm)).setCell ⟨w.heap.size + 1 + 1, 3, none⟩ (.int .i64 (wdt ⟨r, f, lo, tm, ps⟩ use ev))).setCell ⟨w.heap.size + 1 + 1, 4, none⟩ (.slice ca k cc)).cell? ⟨w.heap.size + 1 + 1, 3, none⟩ = some (.int .i64 (wdt ⟨r, f, lo, tm, ps⟩ use ev)) := d 3 _ rfl; have d4 : (((((wr.setCell ⟨w.heap.size + 1 + 1, 0, none⟩ (.slice ua use.length uc)).setCell ⟨w.heap.size + 1 + 1, 1, none⟩ (.int .i64 ev)).setCell ⟨w.heap.size + 1 + 1, 2, none⟩ (.int .i64 pm)).setCell ⟨w.heap.size + 1 + 1, 3, none⟩ (.int .i64 (wdt ⟨r, f, lo, tm, ps⟩ use ev))).setCell ⟨w.heap.size + 1 + 1, 4, none⟩ (.slice ca k cc)).cell? ⟨w.heap.size + 1 + 1, 4, none⟩ = some (.slice ca k cc) := d 4 _ rfl
      refine bodyPost_ret (v := .tuple #[.agg #[.slice ua use.length uc, .int .i64 ev, .int .i64 pm, .int .i64 (wdt ⟨r, f, lo, tm, ps⟩ use ev), .slice ca k cc], .int .i64 0]) (by simp [results, Tryz.results10, go_sem, d0, d1, d2, d3, d4]) rfl ⟨.slice ua use.length uc, .slice ca k cc, by rw [HE2.out.1, HE2.out.2]; rfl, ?_, (by ((with_reducible repeat' first | exact .refl _ _ | exact b0 | refine .alloc ?_ ?_ _ | refine .setCell ?_ ?_ _ | refine .drew ?_ | refine below_drewN ?_ _ | refine Below.trans ?_ (b0.mono ?_)) <;> first | omega | simp <;> omega))⟩
      rw [HE2.out.2]
      refine ⟨(HR.out _ (by ((with_reducible repeat' first | exact .refl _ _ | exact b0 | refine .alloc ?_ ?_ _ | refine .setCell ?_ ?_ _ | refine .drew ?_ | refine below_drewN ?_ _ | refine Below.trans ?_ (b0.mono ?_)) <;> first | omega | simp <;> omega))).2, (OwnCs.move (M := fun _ => False) Hco.out.low ⟨?_, fun q o hq hc hn => ?_⟩ (fun _ _ h => h.elim)).row⟩
      ·simpa [World.setCell] using hzr
      ·have hlt := (Array.getElem?_eq_some_iff.1 hq).1
       rw [Below.heap_setCell _ _ _ q (by simp only; omega), Below.heap_setCell _ _ _ q (by simp only; omega), Below.heap_setCell _ _ _ q (by simp only; omega), Below.heap_setCell _ _ _ q (by simp only; omega), Below.heap_setCell _ _ _ q (by simp only; omega)]
       exact (HBr.out.block q hlt).trans hq
     ·have hE : mkE ⟨r, f, lo, tm, ps⟩ use ev pm = 50 := by rw [HE0.out, if_neg hw]
      have HE := hide hE
      have hn4 : pm < wdt ⟨r, f, lo, tm, ps⟩ use ev := by omega
      clear hE hw
      go_wp2_with fail
      have d := stores_at (w.heap.size + 1 + 1) [.slice none 0 0, .int .i64 0, .int .i64 0, .int .i64 0, .slice none 0 0] 0 (wr) (ex5 v0 v1 v2 v3 v4); have d0 : (((((wr.setCell ⟨w.heap.size + 1 + 1, 0, none⟩ (.slice none 0 0)).setCell ⟨w.heap.size + 1 + 1, 1, none⟩ (.int .i64 0)).setCell ⟨w.heap.size + 1 + 1, 2, none⟩ (.int .i64 0)).setCell ⟨w.heap.size + 1 + 1, 3, none⟩ (.int .i64 0)).setCell ⟨w.heap.size + 1 + 1, 4, none⟩ (.slice none 0 0)).cell? ⟨w.heap.size + 1 + 1, 0, none⟩ = some (.slice none 0 0) := d 0 _ rfl; have d1 : (((((wr.setCell ⟨w.heap.size + 1 + 1, 0, none⟩ (.slice none 0 0)).setCell ⟨w.heap.size + 1 + 1, 1, none⟩ (.int .i64 0)).setCell ⟨w.heap.size + 1 + 1, 2, none⟩ (.int .i64 0)).setCell ⟨w.heap.size + 1 + 1, 3, none⟩ (.int .i64 0)).setCell ⟨w.heap.size + 1 + 1, 4, none⟩ (.slice none 0 0)).cell? ⟨w.heap.size + 1 + 1, 1, none⟩ = some (.int .i64 0) := d 1 _ rfl; have d2 : (((((wr.setCell ⟨w.heap.size + 1 + 1, 0, none⟩ (.slice none 0 0)).setCell ⟨w.heap.size + 1 + 1, 1, none⟩ (.int .i64 0)).setCell ⟨w.heap.size + 1 + 1, 2, none⟩ (.int .i64 0)).setCell ⟨w.heap.size + 1 + 1, 3, none⟩ (.int .i64 0)).setCell ⟨w.heap.size + 1 + 1, 4, none⟩ (.slice none 0 0)).cell? ⟨w.heap.size + 1 + 1, 2, none⟩ = some (.int .i64 0) := d 2 _ rfl; have d3 : (((((wr.setCell ⟨w.heap.size + 1 + 1, 0, none⟩ (.slice none 0 0)).setCell ⟨w.heap.size + 1 + 1, 1, none⟩ (.int .i64 0)).setCell ⟨w.heap.size + 1 + 1, 2, none⟩ (.int .i64 0)).setCell ⟨w.heap.size + 1 + 1, 3, none⟩ (.int .i64 0)).setCell ⟨w.heap.size + 1 + 1, 4, none⟩ (.slice none 0 0)).cell? ⟨w.heap.size + 1 + 1, 3, none⟩ = some (.int .i64 0) := d 3 _ rfl; have d4 : (((((wr.setCell ⟨w.heap.size + 1 + 1, 0, none⟩ (.slice none 0 0)).setCell ⟨w.heap.size + 1 + 1, 1, none⟩ (.int .i64 0)).setCell ⟨w.heap.size + 1 + 1, 2, none⟩ (.int .i64 0)).setCell ⟨w.heap.size + 1 + 1, 3, none⟩ (.int .i64 0)).setCell ⟨w.heap.size + 1 + 1, 4, none⟩ (.slice none 0 0)).cell? ⟨w.heap.size + 1 + 1, 4, none⟩ = some (.slice none 0 0) := d 4 _ rfl
      exact bodyPost_ret (v := .tuple #[.agg #[.slice none 0 0, .int .i64 0, .int .i64 0, .int .i64 0, .slice none 0 0], .int .i64 (50)]) (by simp [results, Tryz.results10, go_sem, d0, d1, d2, d3, d4]) rfl (RmPost.err HE.out (by decide) (by ((with_reducible repeat' first | exact .refl _ _ | exact b0 | refine .alloc ?_ ?_ _ | refine .setCell ?_ ?_ _ | refine .drew ?_ | refine below_drewN ?_ _ | refine Below.trans ?_ (b0.mono ?_)) <;> first | omega | simp <;> omega)))
  ·have hE : mkE ⟨r, f, lo, tm, ps⟩ use ev pm = 2 := by unfold mkE; rw [h1, if_pos rfl, if_neg h8]
   have HE := hide hE
   clear hE h1 hpm
   have hn1 : ¬ pm < 0 := by omega
   have hn2 : ¬ 3000000000000000 < pm := by omega
   have hn3 : (8 : Int) < (use.length : Int) := by omega
   go_enter Tryz.func10, Tryz.ntmps10
   go_upto_region 1 with fail
   rw [← hW0]
   clear hW0
   have B0 : Below (w.heap.size + 3) W0 W0 := Below.refl _ _
   obtain ⟨⟨y0, y1, y2, y3, y4⟩, ⟨x0, x1⟩, ⟨v0, v1, v2, v3, v4⟩, ⟨f0, f1, f2, f3, f4⟩, z0, b0⟩ := HS.out W0 B0
   go_wp2_with (go_at_call 30; (with_reducible refine (R29Right_any r f lo tm _ ps _ use ev _ (HR.out _ b0).1 (HR.out _ b0).2 hun).mono ?_); rintro e w1 ⟨rfl, k1⟩; rw [hrg]; have B1 : Below (w.heap.size + 3) W0 w1 := B0.trans (k1.mono z0); clear y0 y1 y2 y3 y4 x0 x1 v0 v1 v2 v3 v4 f0 f1 f2 f3 f4 z0 b0 k1 B0; obtain ⟨⟨y0, y1, y2, y3, y4⟩, ⟨x0, x1⟩, ⟨v0, v1, v2, v3, v4⟩, ⟨f0, f1, f2, f3, f4⟩, z0, b0⟩ := HS.out w1 B1)
   have d := stores_at (w.heap.size + 1 + 1) [.slice none 0 0, .int .i64 0, .int .i64 0, .int .i64 0, .slice none 0 0] 0 (w1) (ex5 v0 v1 v2 v3 v4); have d0 : (((((w1.setCell ⟨w.heap.size + 1 + 1, 0, none⟩ (.slice none 0 0)).setCell ⟨w.heap.size + 1 + 1, 1, none⟩ (.int .i64 0)).setCell ⟨w.heap.size + 1 + 1, 2, none⟩ (.int .i64 0)).setCell ⟨w.heap.size + 1 + 1, 3, none⟩ (.int .i64 0)).setCell ⟨w.heap.size + 1 + 1, 4, none⟩ (.slice none 0 0)).cell? ⟨w.heap.size + 1 + 1, 0, none⟩ = some (.slice none 0 0) := d 0 _ rfl; have d1 : (((((w1.setCell ⟨w.heap.size + 1 + 1, 0, none⟩ (.slice none 0 0)).setCell ⟨w.heap.size + 1 + 1, 1, none⟩ (.int .i64 0)).setCell ⟨w.heap.size + 1 + 1, 2, none⟩ (.int .i64 0)).setCell ⟨w.heap.size + 1 + 1, 3, none⟩ (.int .i64 0)).setCell ⟨w.heap.size + 1 + 1, 4, none⟩ (.slice none 0 0)).cell? ⟨w.heap.size + 1 + 1, 1, none⟩ = some (.int .i64 0) := d 1 _ rfl; have d2 : (((((w1.setCell ⟨w.heap.size + 1 + 1, 0, none⟩ (.slice none 0 0)).setCell ⟨w.heap.size + 1 + 1, 1, none⟩ (.int .i64 0)).setCell ⟨w.heap.size + 1 + 1, 2, none⟩ (.int .i64 0)).setCell ⟨w.heap.size + 1 + 1, 3, none⟩ (.int .i64 0)).setCell ⟨w.heap.size + 1 + 1, 4, none⟩ (.slice none 0 0)).cell? ⟨w.heap.size + 1 + 1, 2, none⟩ = some (.int .i64 0) := d 2 _ rfl; have d3 : (((((w1.setCell ⟨w.heap.size + 1 + 1, 0, none⟩ (.slice none 0 0)).setCell ⟨w.heap.size + 1 + 1, 1, none⟩ (.int .i64 0)).setCell ⟨w.heap.size + 1 + 1, 2, none⟩ (.int .i64 0)).setCell ⟨w.heap.size + 1 + 1, 3, none⟩ (.int .i64 0)).setCell ⟨w.heap.size + 1 + 1, 4, none⟩ (.slice none 0 0)).cell? ⟨w.heap.size + 1 + 1, 3, none⟩ = some (.int .i64 0) := d 3 _ rfl; have d4 : (((((w1.setCell ⟨w.heap.size + 1 + 1, 0, none⟩ (.slice none 0 0)).setCell ⟨w.heap.size + 1 + 1, 1, none⟩ (.int .i64 0)).setCell ⟨w.heap.size + 1 + 1, 2, none⟩ (.int .i64 0)).setCell ⟨w.heap.size + 1 + 1, 3, none⟩ (.int .i64 0)).setCell ⟨w.heap.size + 1 + 1, 4, none⟩ (.slice none 0 0)).cell? ⟨w.heap.size + 1 + 1, 4, none⟩ = some (.slice none 0 0) := d 4 _ rfl
   exact bodyPost_ret (v := .tuple #[.agg #[.slice none 0 0, .int .i64 0, .int .i64 0, .int .i64 0, .slice none 0 0], .int .i64 (2)]) (by simp [results, Tryz.results10, go_sem, d0, d1, d2, d3, d4]) rfl (RmPost.err HE.out (by decide) (by ((with_reducible repeat' first | exact .refl _ _ | exact b0 | refine .alloc ?_ ?_ _ | refine .setCell ?_ ?_ _ | refine .drew ?_ | refine below_drewN ?_ _ | refine Below.trans ?_ (b0.mono ?_)) <;> first | omega | simp <;> omega)))
theorem ckB_smB {s : Si} {x : Ct} (h1 : ckE s x.use x.ev = 0) : ckB s x = (decide (mkE s x.use x.ev x.bd = 0) && smB (mkX s x.use x.ev x.bd) x) := by
 unfold ckB
 rw [decide_eq_true h1, Bool.true_and]
 by_cases hE : mkE s x.use x.ev x.bd = 0
 ·have hX : mkX s x.use x.ev x.bd = ⟨x.use, x.ev, x.bd, wdt s x.use x.ev, csL s x.use x.ev⟩ := by unfold mkX; rw [if_pos hE]
  rw [hX]
  unfold smB
  simp
 ·rw [decide_eq_false hE]; rfl
set_option maxRecDepth 100000 in
set_option maxHeartbeats 2000000 in
theorem R31Check_any (r f lo tm : Int) (pv : Value) (ps : List Pr) (uv : Value) (use : List Int) (ev bd wo : Int) (cv : Value) (cs : List Cs) (w : World) (hp : PrRow w pv ps) (hu : IsRow w uv use) (hc : CsRow w cv cs) (hun : use.length ≤ 1000000) :
  Calls Tryz.prog 13 #[.agg #[.int .i64 r, .int .i64 f, .int .i64 lo, .int .i64 tm, pv], .agg #[uv, .int .i64 ev, .int .i64 bd, .int .i64 wo, cv]] w fun e w' => e = .returned (.tuple #[.bool (ckB ⟨r, f, lo, tm, ps⟩ ⟨use, ev, bd, wo, cs⟩), .int .i64 (ckE ⟨r, f, lo, tm, ps⟩ use ev)]) ∧ Below w.heap.size w w' := by
 have hR : ∀ W : World, Below w.heap.size w W → PrRow W pv ps ∧ IsRow W uv use ∧ CsRow W cv cs := fun W hW => ⟨hp.below (Nat.le_refl _) hW, hu.below (Nat.le_refl _) hW, hc.below (Nat.le_refl _) hW⟩
 have HR := hide hR
 obtain ⟨ua, uc, rfl, vq1, vq2, -⟩ := id hu
 obtain ⟨ca, cc, rfl, cq1, cq2⟩ := hc.len
 obtain ⟨W0, hW0⟩ : ∃ W : World, W = (w.alloc (.cells #[.int .i64 r, .int .i64 f, .int .i64 lo, .int .i64 tm, pv] 24)).alloc (.cells #[.slice ua use.length uc, .int .i64 ev, .int .i64 bd, .int .i64 wo, .slice ca cs.length cc] 30) := ⟨_, rfl⟩
 have hS : ∀ V : World, Below (w.heap.size + 2) W0 V → (V.cell? ⟨w.heap.size, 0, none⟩ = some (.int .i64 r) ∧ V.cell? ⟨w.heap.size, 1, none⟩ = some (.int .i64 f) ∧ V.cell? ⟨w.heap.size, 2, none⟩ = some (.int .i64 lo) ∧ V.cell? ⟨w.heap.size, 3, none⟩ = some (.int .i64 tm) ∧ V.cell? ⟨w.heap.size, 4, none⟩ = some pv) ∧
   (V.cell? ⟨w.heap.size + 1, 0, none⟩ = some (.slice ua use.length uc) ∧ V.cell? ⟨w.heap.size + 1, 1, none⟩ = some (.int .i64 ev) ∧ V.cell? ⟨w.heap.size + 1, 2, none⟩ = some (.int .i64 bd) ∧ V.cell? ⟨w.heap.size + 1, 3, none⟩ = some (.int .i64 wo) ∧ V.cell? ⟨w.heap.size + 1, 4, none⟩ = some (.slice ca cs.length cc)) ∧ w.heap.size + 2 ≤ V.heap.size ∧ Below w.heap.size w V := by
  intro V hV
  have bW : Below w.heap.size w W0 := by rw [hW0]; ((with_reducible repeat' first | exact .refl _ _ | refine .alloc ?_ ?_ _ | refine .setCell ?_ ?_ _ | refine .drew ?_ | refine below_drewN ?_ _) <;> first | omega | simp <;> omega)
  have zW : W0.heap.size = w.heap.size + 2 := by rw [hW0]; simp
  have hz := hV.size
  have h0 := (bk hV w.heap.size (by omega)).1
  have h1 := (bk hV (w.heap.size + 1) (by omega)).1
  refine ⟨⟨(h0 _).trans ?_, (h0 _).trans ?_, (h0 _).trans ?_, (h0 _).trans ?_, (h0 _).trans ?_⟩, ⟨(h1 _).trans ?_, (h1 _).trans ?_, (h1 _).trans ?_, (h1 _).trans ?_, (h1 _).trans ?_⟩, by omega, bW.trans (hV.mono (by omega))⟩ <;> rw [hW0] <;> simp [go_sem]
 have HS := hide hS
 obtain ⟨CB, hCB⟩ : ∃ b, b = ckB ⟨r, f, lo, tm, ps⟩ ⟨use, ev, bd, wo, cs⟩ := ⟨_, rfl⟩
 obtain ⟨CE, hCE⟩ : ∃ b, b = ckE ⟨r, f, lo, tm, ps⟩ use ev := ⟨_, rfl⟩
 rw [← hCB, ← hCE]
 clear hR hS hp hu hc
 cases hrg : rgB ⟨r, f, lo, tm, ps⟩ use ev with
 | false =>
  have e1 : CE = 1 := by rw [hCE]; unfold ckE; rw [if_neg (by rw [hrg]; simp)]
  rw [e1] at hCE
  subst e1
  have e2 : CB = false := by rw [hCB]; unfold ckB; simp only [← hCE]; rfl
  subst e2
  clear hCB hCE
  go_enter Tryz.func13, Tryz.ntmps13
  go_upto_region 1 with fail
  rw [← hW0]
  clear hW0
  have B0 : Below (w.heap.size + 2) W0 W0 := Below.refl _ _
  obtain ⟨⟨y0, y1, y2, y3, y4⟩, ⟨x0, x1, x2, x3, x4⟩, z0, b0⟩ := HS.out W0 B0
  go_wp2_with (go_at_call 30; (with_reducible refine (R29Right_any r f lo tm _ ps _ use ev _ (HR.out _ b0).1 (HR.out _ b0).2.1 hun).mono ?_); rintro e w1 ⟨rfl, k1⟩; rw [hrg]; have B1 : Below (w.heap.size + 2) W0 w1 := B0.trans (k1.mono z0); clear y0 y1 y2 y3 y4 x0 x1 x2 x3 x4 z0 b0 k1 B0; obtain ⟨⟨y0, y1, y2, y3, y4⟩, ⟨x0, x1, x2, x3, x4⟩, z0, b0⟩ := HS.out w1 B1)
  go_ret2
  exact ⟨rfl, b0⟩
 | true =>
  by_cases h8 : use.length ≤ 8
  ·have e1 : CE = 0 := by rw [hCE]; unfold ckE; rw [if_pos hrg, if_pos h8]
   rw [e1] at hCE
   subst e1
   rw [ckB_smB hCE.symm] at hCB
   simp only at hCB
   obtain ⟨X, hX⟩ : ∃ X, X = mkX ⟨r, f, lo, tm, ps⟩ use ev bd := ⟨_, rfl⟩
   obtain ⟨E, hE⟩ : ∃ E, E = mkE ⟨r, f, lo, tm, ps⟩ use ev bd := ⟨_, rfl⟩
   rw [← hX, ← hE] at hCB
   have hn3 : ¬ (8 : Int) < (use.length : Int) := by omega
   have hM : ∀ V : World, Below w.heap.size w V → Calls Tryz.prog 10 #[.agg #[.int .i64 r, .int .i64 f, .int .i64 lo, .int .i64 tm, pv], .agg #[.slice ua use.length uc, .int .i64 ev], .int .i64 bd] V fun e w' => ∃ uv2 cv2, e = .returned (.tuple #[.agg #[uv2, .int .i64 X.ev, .int .i64 X.bd, .int .i64 X.wo, cv2], .int .i64 E]) ∧ (IsRow w' uv2 X.use ∧ CsRow w' cv2 X.cs) ∧ Below V.heap.size V w' := by
    intro V hV
    have h := R31Make_any r f lo tm pv ps (.slice ua use.length uc) use ev bd V (HR.out V hV).1 (HR.out V hV).2.1 hun
    unfold RmPost at h
    rw [← hX, ← hE] at h
    exact h
   have HM := hide hM
   clear hM hX hE hCE
   by_cases hE0 : E = 0
   ·subst hE0
    rw [decide_eq_true rfl, Bool.true_and] at hCB
    have HCB := hide hCB
    have HSm := hide (fun (u1 c1 u2 c2 : Value) (V : World) (h1 : IsRow V u1 X.use) (h2 : CsRow V c1 X.cs) (h3 : IsRow V u2 use) (h4 : CsRow V c2 cs) => by
     have k := R31Same_any X ⟨use, ev, bd, wo, cs⟩ u1 c1 u2 c2 V h1 h2 h3 h4
     unfold valCt at k
     exact k)
    clear hCB
    go_enter Tryz.func13, Tryz.ntmps13
    go_upto_region 1 with fail
    rw [← hW0]
    clear hW0
    have B0 : Below (w.heap.size + 2) W0 W0 := Below.refl _ _
    obtain ⟨⟨y0, y1, y2, y3, y4⟩, ⟨x0, x1, x2, x3, x4⟩, z0, b0⟩ := HS.out W0 B0
    go_wp2_with (first | (go_at_call 30; (with_reducible refine (R29Right_any r f lo tm _ ps _ use ev _ (HR.out _ b0).1 (HR.out _ b0).2.1 hun).mono ?_); rintro e w1 ⟨rfl, k1⟩; rw [hrg]; have B1 : Below (w.heap.size + 2) W0 w1 := B0.trans (k1.mono z0); clear y0 y1 y2 y3 y4 x0 x1 x2 x3 x4 z0 b0 k1 B0; obtain ⟨⟨y0, y1, y2, y3, y4⟩, ⟨x0, x1, x2, x3, x4⟩, z0, b0⟩ := HS.out w1 B1) | (go_at_call 10; (with_reducible refine (HM.out _ b0).mono ?_); rintro e w2 ⟨uv2, cv2, rfl, ⟨hou, hoc⟩, k2⟩; obtain ⟨ua2, uc2, hu2, -, -⟩ := id hou; subst hu2; obtain ⟨ca2, cc2, hc2, -, -⟩ := hoc.len; subst hc2; have B2 : Below (w.heap.size + 2) W0 w2 := B1.trans (k2.mono z0); clear y0 y1 y2 y3 y4 x0 x1 x2 x3 x4 z0 b0 k2 B1; obtain ⟨⟨y0, y1, y2, y3, y4⟩, ⟨x0, x1, x2, x3, x4⟩, z0, b0⟩ := HS.out w2 B2; have hz12 : w.heap.size + 1 < w2.heap.size := z0; have Hrow2 := hide (And.intro hou hoc); clear hou hoc) | (go_at_call 11; (with_reducible refine (HSm.out _ _ _ _ _ (Hrow2.out.1.below (Nat.le_refl _) (by ((with_reducible repeat' first | exact .refl _ _ | refine .alloc ?_ ?_ _ | refine .setCell ?_ ?_ _ | refine .drew ?_ | refine below_drewN ?_ _) <;> first | omega | simp <;> omega))) (Hrow2.out.2.below (Nat.le_refl _) (by ((with_reducible repeat' first | exact .refl _ _ | refine .alloc ?_ ?_ _ | refine .setCell ?_ ?_ _ | refine .drew ?_ | refine below_drewN ?_ _) <;> first | omega | simp <;> omega))) (HR.out _ (by ((with_reducible repeat' first | exact .refl _ _ | exact b0 | refine .alloc ?_ ?_ _ | refine .setCell ?_ ?_ _ | refine .drew ?_ | refine below_drewN ?_ _ | refine Below.trans ?_ (b0.mono ?_)) <;> first | omega | simp <;> omega))).2.1 (HR.out _ (by ((with_reducible repeat' first | exact .refl _ _ | exact b0 | refine .alloc ?_ ?_ _ | refine .setCell ?_ ?_ _ | refine .drew ?_ | refine below_drewN ?_ _ | refine Below.trans ?_ (b0.mono ?_)) <;> first | omega | simp <;> omega))).2.2).mono ?_); rintro e w3 ⟨rfl, k3⟩))
    go_ret2
    exact ⟨by rw [HCB.out]; rfl, (by ((with_reducible repeat' first | exact .refl _ _ | exact k3 | exact b0 | refine .alloc ?_ ?_ _ | refine .setCell ?_ ?_ _ | refine .drew ?_ | refine below_drewN ?_ _ | refine Below.trans ?_ (k3.mono ?_) | refine Below.trans ?_ (b0.mono ?_)) <;> first | omega | simp <;> omega))⟩
   ·have e2 : CB = false := by rw [hCB, decide_eq_false hE0]; rfl
    subst e2
    have hE1 : (E != 0) = true := by rw [bne_iff_ne]; exact hE0
    clear hCB
    go_enter Tryz.func13, Tryz.ntmps13
    go_upto_region 1 with fail
    rw [← hW0]
    clear hW0
    have B0 : Below (w.heap.size + 2) W0 W0 := Below.refl _ _
    obtain ⟨⟨y0, y1, y2, y3, y4⟩, ⟨x0, x1, x2, x3, x4⟩, z0, b0⟩ := HS.out W0 B0
    go_wp2_with (first | (go_at_call 30; (with_reducible refine (R29Right_any r f lo tm _ ps _ use ev _ (HR.out _ b0).1 (HR.out _ b0).2.1 hun).mono ?_); rintro e w1 ⟨rfl, k1⟩; rw [hrg]; have B1 : Below (w.heap.size + 2) W0 w1 := B0.trans (k1.mono z0); clear y0 y1 y2 y3 y4 x0 x1 x2 x3 x4 z0 b0 k1 B0; obtain ⟨⟨y0, y1, y2, y3, y4⟩, ⟨x0, x1, x2, x3, x4⟩, z0, b0⟩ := HS.out w1 B1) | (go_at_call 10; (with_reducible refine (HM.out _ b0).mono ?_); rintro e w2 ⟨uv2, cv2, rfl, ⟨hou, hoc⟩, k2⟩; obtain ⟨ua2, uc2, hu2, -, -⟩ := id hou; subst hu2; obtain ⟨ca2, cc2, hc2, -, -⟩ := hoc.len; subst hc2; have B2 : Below (w.heap.size + 2) W0 w2 := B1.trans (k2.mono z0); clear y0 y1 y2 y3 y4 x0 x1 x2 x3 x4 z0 b0 k2 B1; obtain ⟨⟨y0, y1, y2, y3, y4⟩, ⟨x0, x1, x2, x3, x4⟩, z0, b0⟩ := HS.out w2 B2; have hz12 : w.heap.size + 1 < w2.heap.size := z0; have Hrow2 := hide (And.intro hou hoc); clear hou hoc))
    go_ret2
    exact ⟨rfl, (by ((with_reducible repeat' first | exact .refl _ _ | exact b0 | refine .alloc ?_ ?_ _ | refine .setCell ?_ ?_ _ | refine .drew ?_ | refine below_drewN ?_ _ | refine Below.trans ?_ (b0.mono ?_)) <;> first | omega | simp <;> omega))⟩
  ·have e1 : CE = 2 := by rw [hCE]; unfold ckE; rw [if_pos hrg, if_neg h8]
   rw [e1] at hCE
   subst e1
   have e2 : CB = false := by rw [hCB]; unfold ckB; simp only [← hCE]; rfl
   subst e2
   have hn3 : (8 : Int) < (use.length : Int) := by omega
   clear hCB hCE
   go_enter Tryz.func13, Tryz.ntmps13
   go_upto_region 1 with fail
   rw [← hW0]
   clear hW0
   have B0 : Below (w.heap.size + 2) W0 W0 := Below.refl _ _
   obtain ⟨⟨y0, y1, y2, y3, y4⟩, ⟨x0, x1, x2, x3, x4⟩, z0, b0⟩ := HS.out W0 B0
   go_wp2_with (go_at_call 30; (with_reducible refine (R29Right_any r f lo tm _ ps _ use ev _ (HR.out _ b0).1 (HR.out _ b0).2.1 hun).mono ?_); rintro e w1 ⟨rfl, k1⟩; rw [hrg]; have B1 : Below (w.heap.size + 2) W0 w1 := B0.trans (k1.mono z0); clear y0 y1 y2 y3 y4 x0 x1 x2 x3 x4 z0 b0 k1 B0; obtain ⟨⟨y0, y1, y2, y3, y4⟩, ⟨x0, x1, x2, x3, x4⟩, z0, b0⟩ := HS.out w1 B1)
   go_ret2
   exact ⟨rfl, b0⟩
end Go.Proofs.YtlmcoollkmhanaaGreat
