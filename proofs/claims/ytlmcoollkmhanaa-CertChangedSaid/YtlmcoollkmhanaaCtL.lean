
/- The reference of cert: Choice. -/
import Derived.Test.YtlmcoollkmhanaaCtK
namespace Go.Proofs.Ytlmcoollkmhanaa
open Go.RowKit

def SsBox (w : World) (r f lo tm : Int) (pv uv : Value) (ev : Int) (V : World) : Prop :=
 (V.cell? ⟨w.heap.size, 0, none⟩ = some (.int .i64 r) ∧ V.cell? ⟨w.heap.size, 1, none⟩ = some (.int .i64 f) ∧ V.cell? ⟨w.heap.size, 2, none⟩ = some (.int .i64 lo) ∧ V.cell? ⟨w.heap.size, 3, none⟩ = some (.int .i64 tm) ∧ V.cell? ⟨w.heap.size, 4, none⟩ = some pv) ∧
 (V.cell? ⟨w.heap.size + 1, 0, none⟩ = some uv ∧ V.cell? ⟨w.heap.size + 1, 1, none⟩ = some (.int .i64 ev)) ∧ w.heap.size + 2 ≤ V.heap.size ∧ Below w.heap.size w V
theorem ss_boxes {w W0 : World} {r f lo tm : Int} {pv uv : Value} {ev : Int} {t1 t2 : TypeId} (hW0 : W0 = (w.alloc (.cells #[.int .i64 r, .int .i64 f, .int .i64 lo, .int .i64 tm, pv] t1)).alloc (.cells #[uv, .int .i64 ev] t2)) (V : World) (hV : Below (w.heap.size + 2) W0 V) : SsBox w r f lo tm pv uv ev V := by
 have bW : Below w.heap.size w W0 := by rw [hW0]; ((with_reducible repeat' first | exact .refl _ _ | refine .alloc ?_ ?_ _ | refine .setCell ?_ ?_ _ | refine .drew ?_ | refine below_drewN ?_ _) <;> first | omega | simp <;> omega)
 have zW : W0.heap.size = w.heap.size + 2 := by rw [hW0]; simp
 have hz := hV.size
 have h0 := (bk hV w.heap.size (by omega)).1
 have h1 := (bk hV (w.heap.size + 1) (by omega)).1
 refine ⟨⟨(h0 _).trans ?_, (h0 _).trans ?_, (h0 _).trans ?_, (h0 _).trans ?_, (h0 _).trans ?_⟩, ⟨(h1 _).trans ?_, (h1 _).trans ?_⟩, by omega, bW.trans (hV.mono (by omega))⟩ <;> rw [hW0] <;> simp [go_sem]
end Go.Proofs.Ytlmcoollkmhanaa
