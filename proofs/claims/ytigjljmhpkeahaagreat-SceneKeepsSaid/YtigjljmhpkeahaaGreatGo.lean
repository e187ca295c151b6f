
/- Parts PlU PlV PlW of the proof, joined. -/
import Derived.Test.YtigjljmhpkeahaaGreatGn
import Derived.Test.YtigjljmhpkeahaaGreatGg
import Derived.Deep.RegionLaw
import Derived.Test.YtigjljmhpkeahaaGreatGm
import Derived.Deep.DeepCutAuto
/- The reference of package plan: find, the plain search. -/
namespace Go.Proofs.YtigjljmhpkeahaaGreat
open Go.RowKit

theorem made_cells2 {W V : World} {o0 o1 : Value} {t : TypeId} (b : Below (W.alloc (.cells #[o0, o1] t)).heap.size (W.alloc (.cells #[o0, o1] t)) V) :
  V.cell? ⟨W.heap.size, 0, none⟩ = some o0 ∧ V.cell? ⟨W.heap.size, 1, none⟩ = some o1 ∧ V.frozen? ⟨W.heap.size, 0, none⟩ = false ∧ V.frozen? ⟨W.heap.size, 1, none⟩ = false ∧ W.heap.size < V.heap.size := by
 have h := bk b W.heap.size (by simp)
 have z := b.size
 simp only [World.size_alloc] at z
 refine ⟨(h.1 _).trans (by simp), (h.1 _).trans (by simp), (h.2 _).trans (by simp [go_sem]), (h.2 _).trans (by simp [go_sem]), by omega⟩
theorem made_cells2D {W V : World} {o0 o1 : Value} {t : TypeId} (b : Below (W.alloc (.cells #[o0, o1] t)).drew.heap.size (W.alloc (.cells #[o0, o1] t)).drew V) :
  V.cell? ⟨W.heap.size, 0, none⟩ = some o0 ∧ V.cell? ⟨W.heap.size, 1, none⟩ = some o1 ∧ V.frozen? ⟨W.heap.size, 0, none⟩ = false ∧ V.frozen? ⟨W.heap.size, 1, none⟩ = false ∧ W.heap.size < V.heap.size :=
 made_cells2 (W := W) (V := V) (o0 := o0) (o1 := o1) (t := t) ⟨b.os, b.tape, b.output, b.size, b.block⟩
end Go.Proofs.YtigjljmhpkeahaaGreat
/- Plain laws for the reference of package plan: a bound that is great enough, and when there is a schedule. -/
namespace Go.Proofs.YtigjljmhpkeahaaGreat
open Go.RowKit

end Go.Proofs.YtigjljmhpkeahaaGreat
/- The reference of package plan: Best, Narrow, Few. -/
namespace Go.Proofs.YtigjljmhpkeahaaGreat
open Go.RowKit

end Go.Proofs.YtigjljmhpkeahaaGreat
