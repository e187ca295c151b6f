/- Values whose cells are all integers, opened: a slice of such elements, a structure by value. -/
import Derived.Test.YtiaahfccebmkdaaFr
namespace Go.Proofs.Ytiaahfccebmkdaa
open Go.ChangeShapes Go.WideShapes Go.ChangeAt Go.RowKit Go.Joins Go.Deep
section
variable {H : Type} {enc : TypeId × Value → H} {P : Program} {w : World} {base : Nat} {spare : Nat → Bool} {held : Bool}
/-- Cell j of each value of the type t is an integer of kind k. -/
def CellInt {H : Type} (enc : TypeId × Value → H) (P : Program) (w : World) (base : Nat) (spare : Nat → Bool) (held : Bool) (t : TypeId) (j : Nat) (k : IntKind) : Prop :=
  ∀ (fuel : Nat) (cs : List Value) (x : DataW H × List MemPlace), DataW.trod enc P w base spare held fuel t cs = some x → ∃ n : Int, cs[j]? = some (.int k n) ∧ (Lit.int k n).wf = true
theorem CellInt.int {t : TypeId} {k : IntKind} (ht : P.underlying t = some (.int k)) : CellInt enc P w base spare held t 0 k := by
  intro fuel cs x h
  obtain ⟨n, rfl, _, hw⟩ := DataW.trod_int ht h
  exact ⟨n, rfl, hw⟩
theorem CellInt.field {t : TypeId} {fs : Array Field} {j : Nat} {k : IntKind} (ht : P.underlying t = some (.struct fs)) (i : Nat) (f : Field) (hf : fs[i]? = some f) (hj : j < P.cellsOf f.type)
    (h : CellInt enc P w base spare held f.type j k) : CellInt enc P w base spare held t (f.offset + j) k := by
  intro fuel cs x hx
  obtain ⟨xs, n, _, _, hl, hlen, hfld⟩ := DataW.trod_struct ht hx
  have h1 := hfld i f hf
  have hi : i < fs.size := (Array.getElem?_eq_some_iff.1 hf).1
  rw [List.getElem?_eq_getElem (show i < xs.length by omega)] at h1
  obtain ⟨m, h2, h3⟩ := h _ _ _ h1
  refine ⟨m, ?_, h3⟩
  rw [List.getElem?_take_of_lt hj, List.getElem?_drop] at h2
  exact h2
theorem CellInt.elem {t e : TypeId} {n j : Nat} {k : IntKind} (ht : P.underlying t = some (.array n e)) (i : Nat) (hi : i < n) (hj : j < P.cellsOf e)
    (h : CellInt enc P w base spare held e j k) : CellInt enc P w base spare held t (i * P.cellsOf e + j) k := by
  intro fuel cs x hx
  obtain ⟨xs, m, _, _, hl, hlen, hel⟩ := DataW.trod_array ht hx
  have h1 := hel i hi
  rw [List.getElem?_eq_getElem (show i < xs.length by omega)] at h1
  obtain ⟨q, h2, h3⟩ := h _ _ _ h1
  refine ⟨q, ?_, h3⟩
  rw [List.getElem?_take_of_lt hj, List.getElem?_drop] at h2
  exact h2
theorem open_flat {t e : TypeId} {C : Nat} (ks : Nat → IntKind) {r : Reach} {b0 : Nat} {v : Value} {d : DataW H} {p : List MemPlace} (ht : P.underlying t = some (.slice e)) (hC : P.cellsOf e = C) (hpos : 0 < C)
    (hk : ∀ j, j < C → CellInt enc P w base spare held e j (ks j)) (hok : Value.okWide P w r b0 t v) (h : DataW.Trod enc P w base spare held t v d p) :
    ∃ (a : Option Addr) (len cap : Nat) (G : Nat → Nat → Int), v = .slice a len cap ∧ len ≤ cap ∧ cap ≤ 9223372036854775807 ∧ ∀ i, i < len → ∃ b off, a = some ⟨b, off, none⟩ ∧ b < w.heap.size ∧
      ∀ j, j < C → w.cell? ⟨b, off + i * C + j, none⟩ = some (.int (ks j) (G i j)) ∧ (Lit.int (ks j) (G i j)).wf = true := by
  obtain ⟨a0, len, cap, rfl⟩ := okWide_slice ht hok
  obtain ⟨fuel, hf⟩ := h
  rcases open_slice ht hf with ⟨hcs, _⟩ | ⟨a, len', cap', m, n, D, Pl, hcs, _, hl, hm, hmm, _, hi⟩
  · simp [Value.cells] at hcs
    obtain ⟨rfl, rfl, rfl⟩ := hcs
    exact ⟨none, 0, 0, fun _ _ => 0, rfl, Nat.le_refl _, by omega, fun i hi => by omega⟩
  · simp [Value.cells] at hcs
    obtain ⟨rfl, rfl, rfl⟩ := hcs
    have hml : len ≤ m := by rw [hmm]; split <;> omega
    have key : ∀ i j, ∃ q : Int, i < len → j < C → w.cell? (a.add (i * C + j)) = some (.int (ks j) q) ∧ (Lit.int (ks j) q).wf = true := by
      intro i j
      by_cases h1 : i < len
      · by_cases h2 : j < C
        · obtain ⟨cs', hc, ht'⟩ := hi i (by omega)
          rw [hC] at hc
          obtain ⟨q, h3, h4⟩ := hk j h2 _ _ _ ht'
          obtain ⟨_, hcl, hat⟩ := World.cells?_some hc
          refine ⟨q, fun _ _ => ⟨?_, h4⟩⟩
          rw [← Go.Deep.add_add, hat j h2, h3]
        · exact ⟨0, fun _ h => absurd h h2⟩
      · exact ⟨0, fun h => absurd h h1⟩
    have key2 : ∀ i, ∃ g : Nat → Int, ∀ j, i < len → j < C → w.cell? (a.add (i * C + j)) = some (.int (ks j) (g j)) ∧ (Lit.int (ks j) (g j)).wf = true := fun i => Classical.skolem.1 (key i)
    obtain ⟨G, hG⟩ := Classical.skolem.1 key2
    refine ⟨some a, len, cap, G, rfl, hl, hm, fun i hil => ?_⟩
    obtain ⟨b, off, spot⟩ := a
    have h0 := hG i 0 hil hpos
    have hspot : spot = none := by
      have h5 := (hG 0 0 (by omega) hpos).1
      rw [show 0 * C + 0 = 0 by omega] at h5
      simpa [Addr.add] using World.cell?_spot h5
    subst hspot
    refine ⟨b, off, rfl, ?_, fun j hj => ?_⟩
    · have := World.block_lt_of_cell? _ _ h0.1
      rw [Go.WideShapes.add_plain] at this
      exact this
    · have h6 := hG i j hil hj
      rw [Go.WideShapes.add_plain] at h6
      exact ⟨by rw [Nat.add_assoc]; exact h6.1, h6.2⟩
theorem open_flat_agg {t : TypeId} {fs : Array Field} {C : Nat} (ks : Nat → IntKind) {r : Reach} {b0 : Nat} {v : Value} {d : DataW H} {p : List MemPlace} (ht : P.underlying t = some (.struct fs)) (hC : P.cellsOf t = C)
    (hk : ∀ j, j < C → CellInt enc P w base spare held t j (ks j)) (hok : Value.okWide P w r b0 t v) (h : DataW.Trod enc P w base spare held t v d p) :
    ∃ (cs : Array Value) (G : Nat → Int), v = .agg cs ∧ cs.size = C ∧ ∀ j, j < C → cs[j]? = some (.int (ks j) (G j)) ∧ (Lit.int (ks j) (G j)).wf = true := by
  obtain ⟨cs, rfl, hsz⟩ := okWide_struct ht hok
  obtain ⟨fuel, hf⟩ := h
  have key : ∀ j, ∃ q : Int, j < C → cs[j]? = some (.int (ks j) q) ∧ (Lit.int (ks j) q).wf = true := by
    intro j
    by_cases h1 : j < C
    · obtain ⟨q, h2, h3⟩ := hk j h1 _ _ _ hf
      exact ⟨q, fun _ => ⟨by simpa [Value.cells] using h2, h3⟩⟩
    · exact ⟨0, fun h => absurd h h1⟩
  obtain ⟨G, hG⟩ := Classical.skolem.1 key
  exact ⟨cs, G, rfl, hsz.trans hC, fun j hj => hG j hj⟩
end
end Go.Proofs.Ytiaahfccebmkdaa
