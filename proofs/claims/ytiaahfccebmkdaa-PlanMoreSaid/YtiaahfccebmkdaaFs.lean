/- A slice of integers that came in, opened. -/
import Derived.Test.YtiaahfccebmkdaaFl
import Derived.Test.YtiaahfccebmkdaaIsO
namespace Go.Proofs.Ytiaahfccebmkdaa
open Go.ChangeShapes Go.WideShapes Go.ChangeAt Go.RowKit Go.Joins Go.Deep
section
variable {H : Type} {enc : TypeId × Value → H} {W : World} {base : Nat}
def WfI (l : List Int) : Prop := ∀ i, i < l.length → -9223372036854775808 ≤ iAt l i ∧ iAt l i ≤ 9223372036854775807
set_option maxRecDepth 100000 in
theorem open_is {v : Value} {d : DataW H} {p : List MemPlace} (hok : Value.okWide Try.prog W .any base 25 v) (h : DataW.Trod enc Try.prog W 0 (fun _ => true) true 25 v d p) :
    ∃ l : List Int, IsRow W v l ∧ WfI l := by
  obtain ⟨a, len, cap, G, rfl, hl, hm, hc⟩ := open_flat (C := 1) (fun _ => .i64) Try.underlying25 (by kernel_rfl) (by decide) (fun j hj => by
    obtain rfl : j = 0 := by omega
    exact CellInt.int Try.underlying3) hok h
  have e : ∀ i, i < len → iAt ((List.range len).map fun i => G i 0) i = G i 0 := fun i hi => by
    rw [iAt_lt _ _ (by simpa using hi)]; simp
  refine ⟨(List.range len).map fun i => G i 0, ⟨a, cap, by simp, by simpa using hl, hm, fun i hi => ?_⟩, fun i hi => ?_⟩
  · have hi' : i < len := by simpa using hi
    obtain ⟨b, off, h1, h2, h3⟩ := hc i hi'
    have h4 := (h3 0 (by decide)).1
    rw [Nat.mul_one, Nat.add_zero] at h4
    exact ⟨b, off, h1, h2, by rw [e i hi']; exact h4⟩
  · have hi' : i < len := by simpa using hi
    obtain ⟨b, off, h1, h2, h3⟩ := hc i hi'
    rw [e i hi']
    exact wf_i64 (h3 0 (by decide)).2
end
end Go.Proofs.Ytiaahfccebmkdaa
