
/- The cells of a structure stored one behind the other: what is read behind it. -/
import Derived.Test.YtlmcoollkmhanaaGh
namespace Go.Proofs.Ytlmcoollkmhanaa
open Go.RowKit

def stores (n : Nat) : List Value → Nat → World → World
 | [], _, W => W
 | v :: vs, k, W => stores n vs (k + 1) (W.setCell ⟨n, k, none⟩ v)
theorem stores_other (n : Nat) (q : Addr) : ∀ (vs : List Value) (k : Nat) (W : World), (∀ j, j < vs.length → q ≠ ⟨n, k + j, none⟩) → (stores n vs k W).cell? q = W.cell? q
 | [], _, _, _ => rfl
 | v :: vs, k, W, h => by
  rw [stores, stores_other n q vs (k + 1) _ (fun j hj => by have := h (j + 1) (by simp; omega); rwa [show k + (j + 1) = k + 1 + j by omega] at this)]
  exact World.cell?_setCell_other _ _ _ _ (by have := h 0 (by simp); first | exact this | exact this.symm)
theorem stores_at (n : Nat) : ∀ (vs : List Value) (k : Nat) (W : World), (∀ j, j < vs.length → ∃ u, W.cell? ⟨n, k + j, none⟩ = some u) → ∀ j u, vs[j]? = some u → (stores n vs k W).cell? ⟨n, k + j, none⟩ = some u
 | [], _, _, _, j, u, h => by simp at h
 | v :: vs, k, W, hw, j, u, h => by
  rw [stores]
  cases j with
  | zero =>
   simp at h
   subst h
   rw [Nat.add_zero, stores_other n _ vs (k + 1) _ (fun j hj e => by simp only [Addr.mk.injEq] at e; omega)]
   obtain ⟨u, hu⟩ := hw 0 (by simp)
   exact World.cell?_setCell_same' _ _ _ (by rw [Nat.add_zero] at hu; rw [hu]; rfl)
  | succ j =>
   rw [show k + (j + 1) = k + 1 + j by omega]
   refine stores_at n vs (k + 1) _ (fun i hi => ?_) j u (by simpa using h)
   obtain ⟨u', hu'⟩ := hw (i + 1) (by simp; omega)
   refine ⟨u', (World.cell?_setCell_other _ _ _ _ (fun e => ?_)).trans (by rw [show k + 1 + i = k + (i + 1) by omega]; exact hu')⟩
   first | (simp only [Addr.mk.injEq] at e; omega)
theorem ex5 {W : World} {n : Nat} {u0 u1 u2 u3 u4 : Value} (h0 : W.cell? ⟨n, 0, none⟩ = some u0) (h1 : W.cell? ⟨n, 1, none⟩ = some u1) (h2 : W.cell? ⟨n, 2, none⟩ = some u2) (h3 : W.cell? ⟨n, 3, none⟩ = some u3) (h4 : W.cell? ⟨n, 4, none⟩ = some u4) : ∀ j, j < 5 → ∃ u, W.cell? ⟨n, 0 + j, none⟩ = some u := by
 intro j hj
 match j, hj with
 | 0, _ => exact ⟨_, h0⟩
 | 1, _ => exact ⟨_, h1⟩
 | 2, _ => exact ⟨_, h2⟩
 | 3, _ => exact ⟨_, h3⟩
 | 4, _ => exact ⟨_, h4⟩
theorem made5 {W V : World} {o0 o1 o2 o3 o4 : Value} {t : TypeId} (b : Below (W.alloc (.cells #[o0, o1, o2, o3, o4] t)).heap.size (W.alloc (.cells #[o0, o1, o2, o3, o4] t)) V) : V.cell? ⟨W.heap.size, 0, none⟩ = some o0 ∧ V.cell? ⟨W.heap.size, 1, none⟩ = some o1 ∧ V.cell? ⟨W.heap.size, 2, none⟩ = some o2 ∧ V.cell? ⟨W.heap.size, 3, none⟩ = some o3 ∧ V.cell? ⟨W.heap.size, 4, none⟩ = some o4 ∧ V.frozen? ⟨W.heap.size, 0, none⟩ = false ∧ V.frozen? ⟨W.heap.size, 1, none⟩ = false ∧ V.frozen? ⟨W.heap.size, 2, none⟩ = false ∧ V.frozen? ⟨W.heap.size, 3, none⟩ = false ∧ V.frozen? ⟨W.heap.size, 4, none⟩ = false ∧ W.heap.size < V.heap.size := by
 have h := bk b W.heap.size (by simp)
 have z := b.size
 simp only [World.size_alloc] at z
 refine ⟨(h.1 _).trans (by simp), (h.1 _).trans (by simp), (h.1 _).trans (by simp), (h.1 _).trans (by simp), (h.1 _).trans (by simp), (h.2 _).trans (by simp [go_sem]), (h.2 _).trans (by simp [go_sem]), (h.2 _).trans (by simp [go_sem]), (h.2 _).trans (by simp [go_sem]), (h.2 _).trans (by simp [go_sem]), by omega⟩
theorem made5D {W V : World} {o0 o1 o2 o3 o4 : Value} {t : TypeId} (b : Below (W.alloc (.cells #[o0, o1, o2, o3, o4] t)).drew.heap.size (W.alloc (.cells #[o0, o1, o2, o3, o4] t)).drew V) : V.cell? ⟨W.heap.size, 0, none⟩ = some o0 ∧ V.cell? ⟨W.heap.size, 1, none⟩ = some o1 ∧ V.cell? ⟨W.heap.size, 2, none⟩ = some o2 ∧ V.cell? ⟨W.heap.size, 3, none⟩ = some o3 ∧ V.cell? ⟨W.heap.size, 4, none⟩ = some o4 ∧ V.frozen? ⟨W.heap.size, 0, none⟩ = false ∧ V.frozen? ⟨W.heap.size, 1, none⟩ = false ∧ V.frozen? ⟨W.heap.size, 2, none⟩ = false ∧ V.frozen? ⟨W.heap.size, 3, none⟩ = false ∧ V.frozen? ⟨W.heap.size, 4, none⟩ = false ∧ W.heap.size < V.heap.size :=
 made5 (W := W) (V := V) (t := t) ⟨b.os, b.tape, b.output, b.size, b.block⟩
end Go.Proofs.Ytlmcoollkmhanaa
