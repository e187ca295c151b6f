
/- Package scene: answers of a row that is turned in place; the source of an append. -/
import Derived.Test.YtigjljmhpkeahaaGreatScY
import Derived.Test.YtigjljmhpkeahaaGreatScA
import Derived.Test.YtigjljmhpkeahaaGreatScX
import Derived.Test.YtigjljmhpkeahaaGreatApp
import Derived.Test.YtigjljmhpkeahaaGreatGm
namespace Go.Proofs.YtigjljmhpkeahaaGreat
open Go.RowKit

def FzBox (W : World) (g : Nat) : Prop := (∀ o, W.frozen? ⟨g, o, none⟩ = false) ∧ g < W.heap.size
theorem FzBox.below {w W : World} {g : Nat} (h : FzBox w g) (hb : Below w.heap.size w W) : FzBox W g := ⟨fun o => ((bk hb g h.2).2 o).trans (h.1 o), Nat.lt_of_lt_of_le h.2 hb.size⟩
theorem FzBox.made {w : World} {cs : Array Value} {t : TypeId} : FzBox (w.alloc (.cells cs t)) w.heap.size := ⟨fun o => by simp [go_sem], by simp⟩
theorem FzBox.set {w : World} {g : Nat} (h : FzBox w g) (p : Addr) (u : Value) : FzBox (w.setCell p u) g := ⟨fun o => by rw [World.frozen?_setCell]; exact h.1 o, by simpa [World.setCell] using h.2⟩
theorem rws_set {α : Type} {en : α → List Value} {C : Nat} {d : α} {W : World} {v : Value} {l : List α} (h : Rws en C d W v l) (p : Addr) (u : Value) (hb : ∀ q, v.ownBlock = some q → q ≠ p.block) : Rws en C d (W.setCell p u) v l := by
 obtain ⟨a, cap, rfl, h1, h2, h3⟩ := h
 refine ⟨a, cap, rfl, h1, h2, fun i hi => ?_⟩
 obtain ⟨b, off, rfl, h4, h5⟩ := h3 i hi
 refine ⟨b, off, rfl, by simpa [World.setCell] using h4, h5.of fun k => ?_⟩
 exact World.cell?_setCell_other _ _ _ _ (fun e => hb b rfl (by rw [e]))
theorem SnBox.setNe {W : World} {g : Nat} {x : Sc} {uv av : Value} (h : SnBox W g x uv av) {p : Addr} (u : Value) (hg : g ≠ p.block) (hu : ∀ q, uv.ownBlock = some q → q ≠ p.block) (ha : ∀ q, av.ownBlock = some q → q ≠ p.block) : SnBox (W.setCell p u) g x uv av := by
 obtain ⟨⟨c0, c1, c2, c3, c4⟩, h1, h2, h3⟩ := h
 have k : ∀ o, (⟨g, o, none⟩ : Addr) ≠ p := fun o e => hg (by rw [← e])
 exact ⟨⟨set_other _ c0 (k 0), set_other _ c1 (k 1), set_other _ c2 (k 2), set_other _ c3 (k 3), set_other _ c4 (k 4)⟩, isrow_set h1 p u (fun _ => hu), rws_set h2 p u ha, by simpa [World.setCell] using h3⟩
end Go.Proofs.YtigjljmhpkeahaaGreat
