
/- Rows of lists, and rows of cases, in memory. -/
import Derived.Test.YtlmcoollkmhanaaCtA
import Derived.Test.YtlmcoollkmhanaaRw
namespace Go.Proofs.Ytlmcoollkmhanaa
open Go.RowKit

structure Cv where
 lv : Value
 gv : Value
 c : Cs
def cv0 : Cv := ⟨.slice none 0 0, .slice none 0 0, cs0⟩
def encC (x : Cv) : List Value := [x.lv, x.gv, .int .i64 x.c.wd]
theorem encC_length (x : Cv) : (encC x).length = 3 := rfl
def CvOk (w : World) (x : Cv) : Prop := IsRow w x.lv x.c.li ∧ IsRow w x.gv x.c.lo
theorem CvOk.below {w w' : World} {x : Cv} (h : CvOk w x) {B : Nat} (hB : w.heap.size ≤ B) (hb : Below B w w') : CvOk w' x := ⟨h.1.below hB hb, h.2.below hB hb⟩
def CsRow (w : World) (v : Value) (l : List Cs) : Prop := ∃ xs : List Cv, xs.map (·.c) = l ∧ Rws encC 3 cv0 w v xs ∧ ∀ x, x ∈ xs → CvOk w x
theorem CsRow.below {w w' : World} {v : Value} {l : List Cs} (h : CsRow w v l) {B : Nat} (hB : w.heap.size ≤ B) (hb : Below B w w') : CsRow w' v l := by
 obtain ⟨xs, h1, h2, h3⟩ := h
 exact ⟨xs, h1, h2.below hB hb, fun x hx => (h3 x hx).below hB hb⟩
theorem CsRow.nil (w : World) : CsRow w (.slice none 0 0) [] := ⟨[], rfl, Rws.nil w, fun x hx => by simp at hx⟩
theorem CsRow.len {w : World} {v : Value} {l : List Cs} (h : CsRow w v l) : ∃ a cap, v = .slice a l.length cap ∧ l.length ≤ cap ∧ cap ≤ 9223372036854775807 := by
 obtain ⟨xs, rfl, h2, -⟩ := h
 have := h2.len
 rwa [← List.length_map (·.c)] at this
theorem CsRow.at_ {w : World} {v : Value} {l : List Cs} (h : CsRow w v l) {i : Nat} (hi : i < l.length) : ∃ b off cap u1 u2, v = .slice (some ⟨b, off, none⟩) l.length cap ∧ b < w.heap.size ∧
  (w.cell? ⟨b, off + i * 3, none⟩ = some u1 ∧ w.cell? ⟨b, off + i * 3 + 1, none⟩ = some u2 ∧ w.cell? ⟨b, off + i * 3 + 2, none⟩ = some (.int .i64 (csAt l i).wd)) ∧ IsRow w u1 (csAt l i).li ∧ IsRow w u2 (csAt l i).lo := by
 obtain ⟨xs, rfl, h2, h3⟩ := h
 have hi2 : i < xs.length := by simpa using hi
 obtain ⟨b, off, cap, rfl, -, -, h4, h5⟩ := h2.at0 (by omega)
 have e : xs.getD i cv0 = xs[i] := by simp [List.getD_eq_getElem?_getD, List.getElem?_eq_getElem hi2]
 have h6 := h5 i hi2
 rw [e] at h6
 have e2 : csAt (xs.map (·.c)) i = xs[i].c := by rw [csAt_lt _ i (by simpa using hi2), List.getElem_map]
 rw [e2]
 exact ⟨b, off, cap, xs[i].lv, xs[i].gv, by rw [List.length_map], h4, ⟨h6 0 _ rfl, h6 1 _ rfl, h6 2 _ rfl⟩, (h3 _ (List.getElem_mem hi2)).1, (h3 _ (List.getElem_mem hi2)).2⟩
theorem infoCs : (Try.prog.info? 44).map (fun i => (i.zero, i.size, i.bytes)) = some (some (.agg #[.slice none 0 0, .slice none 0 0, .int .i64 0]), 3, 56) := by kernel_rfl
end Go.Proofs.Ytlmcoollkmhanaa
