/- A row of triples of numbers of 32 bits, opened. -/
import Derived.Test.YtbgfgpjgehkdjaaGreatWdT
import Derived.Test.YtbgfgpjgehkdjaaGreatFl
namespace Go.Proofs.YtbgfgpjgehkdjaaGreat
open Go.ChangeShapes Go.WideShapes Go.ChangeAt Go.RowKit Go.Joins Go.Deep

def A3At (w : World) (b o : Nat) (x : A3) : Prop := w.cell? ⟨b, o, none⟩ = some (.int .u32 x.a) ∧ w.cell? ⟨b, o + 1, none⟩ = some (.int .u32 x.b) ∧ w.cell? ⟨b, o + 2, none⟩ = some (.int .u32 x.c)
theorem A3At.below {w w' : World} {b o : Nat} {x : A3} (h : A3At w b o x) {B : Nat} (hb : Below B w w') (hlt : b < B) : A3At w' b o x := by
  have k := (bk hb b hlt).1
  exact ⟨(k _).trans h.1, (k _).trans h.2.1, (k _).trans h.2.2⟩
def A3Row (w : World) (v : Value) (l : List A3) : Prop :=
  ∃ a cap, v = .slice a l.length cap ∧ l.length ≤ cap ∧ cap ≤ 9223372036854775807 ∧ ∀ i, i < l.length → ∃ b off, a = some ⟨b, off, none⟩ ∧ b < w.heap.size ∧ A3At w b (off + i * 3) (aAt l i)
theorem A3Row.below {w w' : World} {v : Value} {l : List A3} (h : A3Row w v l) {B : Nat} (hB : w.heap.size ≤ B) (hb : Below B w w') : A3Row w' v l := by
  obtain ⟨a, cap, rfl, h1, h2, h3⟩ := h
  refine ⟨a, cap, rfl, h1, h2, fun i hi => ?_⟩
  obtain ⟨b, off, rfl, h4, h5⟩ := h3 i hi
  exact ⟨b, off, rfl, Nat.lt_of_lt_of_le h4 hb.size, h5.below hb (Nat.lt_of_lt_of_le h4 hB)⟩
section
variable {H : Type} {enc : TypeId × Value → H} {W : World} {base : Nat}
def A3sOk (W : World) (v : Value) (l : List A3) : Prop := A3Row W v l ∧ ∀ i, i < l.length → A3Wf (aAt l i)
theorem wf_u32 {x : Int} (h : (Lit.int .u32 x).wf = true) : 0 ≤ x ∧ x ≤ 4294967295 := by
  simpa [Lit.wf, IntKind.min, IntKind.max, IntKind.signed, IntKind.bits] using h
set_option maxRecDepth 100000 in
theorem cellA3 {spare : Nat → Bool} {held : Bool} {b0 : Nat} (j : Nat) (hj : j < 3) : CellInt enc Tryz.prog W b0 spare held 44 j .u32 := by
  have hc : Tryz.prog.cellsOf 43 = 1 := by kernel_rfl
  have := CellInt.elem (enc := enc) (w := W) (base := b0) (spare := spare) (held := held) (j := 0) (k := .u32) Tryz.underlying44 j hj (by rw [hc]; decide) (CellInt.int Tryz.underlying43)
  rw [hc, Nat.mul_one, Nat.add_zero] at this
  exact this
set_option maxRecDepth 100000 in
theorem open_a3s {v : Value} {d : DataW H} {p : List MemPlace} (hok : Value.okWide Tryz.prog W .any base 28 v) (h : DataW.Trod enc Tryz.prog W 0 (fun _ => true) true 28 v d p) : ∃ l : List A3, A3sOk W v l := by
  obtain ⟨a, len, cap, G, rfl, hl, hm, hc⟩ := open_flat (C := 3) (fun _ => .u32) Tryz.underlying28 (by kernel_rfl) (by decide) (fun j hj => cellA3 j hj) hok h
  have e : ∀ i, i < len → aAt ((List.range len).map fun i => (⟨G i 0, G i 1, G i 2⟩ : A3)) i = ⟨G i 0, G i 1, G i 2⟩ := fun i hi => by
    rw [aAt_lt _ _ (by simpa using hi)]; simp
  refine ⟨(List.range len).map fun i => (⟨G i 0, G i 1, G i 2⟩ : A3), ⟨a, cap, by simp, by simpa using hl, hm, fun i hi => ?_⟩, fun i hi => ?_⟩
  · have hi' : i < len := by simpa using hi
    obtain ⟨b, off, h1, h2, h3⟩ := hc i hi'
    refine ⟨b, off, h1, h2, ?_⟩
    rw [e i hi']
    exact ⟨by simpa using (h3 0 (by decide)).1, (h3 1 (by decide)).1, (h3 2 (by decide)).1⟩
  · have hi' : i < len := by simpa using hi
    obtain ⟨b, off, h1, h2, h3⟩ := hc i hi'
    rw [e i hi']
    exact ⟨wf_u32 (h3 0 (by decide)).2, wf_u32 (h3 1 (by decide)).2, wf_u32 (h3 2 (by decide)).2⟩
end
end Go.Proofs.YtbgfgpjgehkdjaaGreat
