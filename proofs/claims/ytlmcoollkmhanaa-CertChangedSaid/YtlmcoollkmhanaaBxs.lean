
/- Boxes of several cells: what stands in them through stores, calls and appends. -/
import Derived.Test.YtlmcoollkmhanaaGh
namespace Go.Proofs.Ytlmcoollkmhanaa
open Go.RowKit

def BxC (V : World) (b : Nat) (vs : List Value) : Prop := (∀ j u, vs[j]? = some u → V.cell? ⟨b, j, none⟩ = some u) ∧ (∀ o, V.frozen? ⟨b, o, none⟩ = false) ∧ b < V.heap.size
theorem BxC.same {V W : World} {b : Nat} {vs : List Value} (h : BxC V b vs) (hz : V.heap.size ≤ W.heap.size) (hb : W.heap[b]? = V.heap[b]?) : BxC W b vs :=
 ⟨fun j u hj => (World.cell?_of_block (a := ⟨b, j, none⟩) hb).trans (h.1 j u hj), fun o => (World.frozen?_of_block (a := ⟨b, o, none⟩) hb).trans (h.2.1 o), Nat.lt_of_lt_of_le h.2.2 hz⟩
theorem BxC.below {V W : World} {b B : Nat} {vs : List Value} (h : BxC V b vs) (hB : b < B) (hb : Below B V W) : BxC W b vs := h.same hb.size (hb.block b hB)
theorem BxC.setNe {V : World} {b : Nat} {vs : List Value} (h : BxC V b vs) {p : Addr} (hp : b ≠ p.block) (u : Value) : BxC (V.setCell p u) b vs :=
 h.same (by simp [World.setCell]) (Below.heap_setCell V p u b hp)
theorem BxC.set {V : World} {b : Nat} {vs : List Value} (h : BxC V b vs) (i : Nat) (u : Value) (hi : i < vs.length) : BxC (V.setCell ⟨b, i, none⟩ u) b (vs.set i u) := by
 refine ⟨fun j v hj => ?_, fun o => by rw [World.frozen?_setCell]; exact h.2.1 o, by simpa [World.setCell] using h.2.2⟩
 by_cases e : i = j
 ·subst e
  rw [List.getElem?_set_self hi] at hj
  cases hj
  exact World.cell?_setCell_same' _ _ _ (by rw [h.1 i vs[i] (List.getElem?_eq_getElem hi)]; rfl)
 ·rw [List.getElem?_set_ne e] at hj
  exact (World.cell?_setCell_other _ _ _ _ (fun h2 => by simp only [Addr.mk.injEq] at h2; omega)).trans (h.1 j v hj)
theorem BxC.made (V : World) (vs : List Value) (T : TypeId) : BxC (V.alloc (.cells vs.toArray T)) V.heap.size vs := by
 refine ⟨fun j u hj => ?_, fun o => by simp [go_sem], by simp⟩
 simp [go_sem, hj]
theorem BxC.alloc {V : World} {b : Nat} {vs : List Value} (h : BxC V b vs) (o : Obj) : BxC (V.alloc o) b vs := h.same (by simp) (Below.heap_alloc _ _ _ h.2.2)
theorem BxC.grown {V W : World} {b : Nat} {vs : List Value} {row : Option Nat} (h : BxC V b vs) (hg : V.grownBy W row) (hn : some b ≠ row) : BxC W b vs := h.same hg.size (hg.block b h.2.2 hn)
theorem owns_setNe {w : World} {base e size n : Nat} {v : Value} {xs : List Value} (h : w.ownsRow base e size v n xs) {p : Addr} (hp : p.block < base) (u : Value) : (w.setCell p u).ownsRow base e size v n xs := ownsRow_setCell_below h hp u
theorem owns_apart {A w' : World} {base e e2 size s2 n m : Nat} {v v2 : Value} {xs ys : List Value} (h : A.ownsRow base e size v n xs) (h2 : A.ownsRow base e2 s2 v2 m ys) (he : e ≠ e2) (hg : A.grownBy w' v2.ownBlock) : w'.ownsRow base e size v n xs := by
 refine ⟨h.1, ?_⟩
 rcases h.2 with h1 | ⟨g, cap, cur, hv, hg1, hc, r⟩
 ·exact .inl h1
 ·refine .inr ⟨g, cap, cur, hv, hg1, (hg.block g (Array.getElem?_eq_some_iff.1 hc).1 fun eq => ?_).trans hc, r⟩
  rcases h2.2 with ⟨hv2, _⟩ | ⟨g2, cap2, cur2, hv2, hg2, hc2, r2⟩
  ·rw [hv2] at eq; simp [Value.ownBlock] at eq
  ·rw [hv2] at eq
   have e3 : g = g2 := by simpa [Value.ownBlock] using eq
   subst e3
   rw [hc] at hc2
   simp at hc2
   exact he hc2.2
end Go.Proofs.Ytlmcoollkmhanaa
