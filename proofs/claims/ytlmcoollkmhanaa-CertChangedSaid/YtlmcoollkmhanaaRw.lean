
/- Rws of elements of several cells each: a row that came in, a row that a call makes; opening of slices and structures cell by cell. -/
import Derived.Test.YtlmcoollkmhanaaGa
import Derived.Test.YtlmcoollkmhanaaGh
namespace Go.Proofs.Ytlmcoollkmhanaa
open Go.RowKit

section
variable {α : Type} {en : α → List Value} {C : Nat} {d : α} {T : TypeId}
def ElAt (en : α → List Value) (w : World) (b o : Nat) (x : α) : Prop := ∀ j u, (en x)[j]? = some u → w.cell? ⟨b, o + j, none⟩ = some u
theorem ElAt.of {w w' : World} {b o : Nat} {x : α} (h : ElAt en w b o x) (hc : ∀ i, w'.cell? ⟨b, i, none⟩ = w.cell? ⟨b, i, none⟩) : ElAt en w' b o x := fun j u hj => (hc _).trans (h j u hj)
def Rws (en : α → List Value) (C : Nat) (d : α) (w : World) (v : Value) (l : List α) : Prop :=
 ∃ a cap, v = .slice a l.length cap ∧ l.length ≤ cap ∧ cap ≤ 9223372036854775807 ∧ ∀ i, i < l.length → ∃ b off, a = some ⟨b, off, none⟩ ∧ b < w.heap.size ∧ ElAt en w b (off + i * C) (l.getD i d)
theorem Rws.below {w w' : World} {v : Value} {l : List α} (h : Rws en C d w v l) {B : Nat} (hB : w.heap.size ≤ B) (hb : Below B w w') : Rws en C d w' v l := by
 obtain ⟨a, cap, rfl, h1, h2, h3⟩ := h
 refine ⟨a, cap, rfl, h1, h2, fun i hi => ?_⟩
 obtain ⟨b, off, rfl, h4, h5⟩ := h3 i hi
 exact ⟨b, off, rfl, Nat.lt_of_lt_of_le h4 hb.size, h5.of (bk hb b (Nat.lt_of_lt_of_le h4 hB)).1⟩
theorem Rws.at0 {w : World} {v : Value} {l : List α} (h : Rws en C d w v l) (hl : 0 < l.length) : ∃ b off cap, v = .slice (some ⟨b, off, none⟩) l.length cap ∧ l.length ≤ cap ∧ cap ≤ 9223372036854775807 ∧ b < w.heap.size ∧ ∀ i, i < l.length → ElAt en w b (off + i * C) (l.getD i d) := by
 obtain ⟨a, cap, rfl, h1, h2, h3⟩ := h
 obtain ⟨b, off, rfl, h4, h5⟩ := h3 0 hl
 refine ⟨b, off, cap, rfl, h1, h2, h4, fun i hi => ?_⟩
 obtain ⟨b', off', h7, h8, h9⟩ := h3 i hi
 simp only [Option.some.injEq, Addr.mk.injEq, and_true] at h7
 obtain ⟨rfl, rfl⟩ := h7
 exact h9
theorem Rws.len {w : World} {v : Value} {l : List α} (h : Rws en C d w v l) : ∃ a cap, v = .slice a l.length cap ∧ l.length ≤ cap ∧ cap ≤ 9223372036854775807 := by
 obtain ⟨a, cap, rfl, h1, h2, _⟩ := h
 exact ⟨a, cap, rfl, h1, h2⟩
theorem Rws.nil (w : World) : Rws en C d w (.slice none 0 0) [] := ⟨none, 0, rfl, Nat.le_refl _, by omega, fun i hi => by simp at hi⟩
theorem flat_length (hen : ∀ x, (en x).length = C) (c : List α) : (c.flatMap en).length = c.length * C := by
 induction c with
 | nil => simp
 | cons p c ih => rw [List.flatMap_cons, List.length_append, ih, hen, List.length_cons, Nat.succ_mul]; omega
theorem flat_at (hen : ∀ x, (en x).length = C) (d : α) (c : List α) : ∀ i, i < c.length → ∀ j u, (en (c.getD i d))[j]? = some u → (c.flatMap en)[i * C + j]? = some u := by
 induction c with
 | nil => intro i h; simp at h
 | cons p c ih =>
  intro i h j u hu
  rw [List.flatMap_cons]
  cases i with
  | zero =>
   have hj : j < (en p).length := (List.getElem?_eq_some_iff.1 hu).1
   rw [Nat.zero_mul, Nat.zero_add, List.getElem?_append_left hj]
   exact hu
  | succ i =>
   rw [List.getElem?_append_right (by rw [hen, Nat.succ_mul]; omega), hen, show (i + 1) * C + j - C = i * C + j by rw [Nat.succ_mul]; omega]
   exact ih i (by simpa using h) j u (by simpa using hu)
def Owns (T : TypeId) (en : α → List Value) (C : Nat) (w : World) (base : Nat) (v : Value) (c : List α) : Prop := w.ownsRow base T C v c.length (c.flatMap en)
theorem Owns.nil (w : World) (base : Nat) : Owns T en C w base (.slice none 0 0) [] := World.ownsRow_nil _ _ _ _
theorem Owns.app {w : World} {base : Nat} {v : Value} {c : List α} {x : α} (h : w.ownsRow base T C v (c.length + 1) (c.flatMap en ++ en x)) : Owns T en C w base v (c ++ [x]) := by
 unfold Owns
 rw [List.flatMap_append, show (c ++ [x]).length = c.length + 1 by simp]
 simpa using h
theorem Owns.below {w w' : World} {base : Nat} {v : Value} {c : List α} (h : Owns T en C w base v c) {B : Nat} (hB : w.heap.size ≤ B) (hb : Below B w w') : Owns T en C w' base v c := ownsRow_below h (hb.mono hB)
theorem Owns.form {w : World} {base : Nat} {v : Value} {c : List α} (hen : ∀ x, (en x).length = C) (d : α) (h : Owns T en C w base v c) (h0 : 0 < c.length) (_hC : 0 < C) : ∃ g cap, v = .slice (some ⟨g, 0, none⟩) c.length cap ∧ c.length ≤ cap ∧ cap ≤ 9223372036854775807 ∧ base ≤ g ∧ g < w.heap.size ∧ ∀ i, i < c.length → ElAt en w g (i * C) (c.getD i d) := by
 obtain ⟨g, cap, rfl, hb, hlt⟩ := World.ownsRow.form h h0
 have hcap : c.length ≤ cap ∧ cap ≤ maxLen := by
  rcases h.2 with ⟨hv, _⟩ | ⟨g', cap', cur, hv, hg, hc, hn, hm, _⟩
  ·simp at hv
  ·simp only [Value.slice.injEq] at hv; obtain ⟨-, -, rfl⟩ := hv; exact ⟨hn, hm⟩
 refine ⟨g, cap, rfl, hcap.1, hcap.2, hb, hlt, fun i hi j u hu => ?_⟩
 have hj : j < C := by rw [← hen (c.getD i d)]; exact (List.getElem?_eq_some_iff.1 hu).1
 have : i * C + j < c.length * C := by
  have : (i + 1) * C ≤ c.length * C := Nat.mul_le_mul_right C (by omega)
  rw [Nat.succ_mul] at this
  omega
 exact (World.ownsRow.cellAt h _ this).trans (flat_at hen d c i hi j u hu)
theorem Owns.row {w : World} {base : Nat} {v : Value} {c : List α} (hen : ∀ x, (en x).length = C) (d : α) (hC : 0 < C) (h : Owns T en C w base v c) : Rws en C d w v c := by
 rcases Nat.eq_zero_or_pos c.length with h0 | h0
 ·have hc : c = [] := List.eq_nil_of_length_eq_zero h0
  subst hc
  rcases h.2 with ⟨hv, _⟩ | ⟨g, cap, cur, hv, hg, hc, hn, hm, _⟩
  ·exact ⟨none, 0, hv, Nat.le_refl _, by omega, fun i hi => by simp at hi⟩
  ·exact ⟨_, cap, hv, hn, hm, fun i hi => by simp at hi⟩
 ·obtain ⟨g, cap, rfl, h1, h2, h3, h4, h5⟩ := h.form hen d h0 hC
  exact ⟨_, cap, rfl, h1, h2, fun i hi => ⟨g, 0, rfl, h4, by rw [Nat.zero_add]; exact h5 i hi⟩⟩
end
open Go.ChangeShapes Go.WideShapes Go.ChangeAt Go.RowKit Go.Joins Go.Deep
section
variable {H : Type} {enc : TypeId × Value → H} {P : Program} {w : World} {base : Nat} {spare : Nat → Bool} {held : Bool}
end
section
variable {H : Type} {enc : TypeId × Value → H} {W : World} {base : Nat}
end
end Go.Proofs.Ytlmcoollkmhanaa
