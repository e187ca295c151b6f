/- A row of integers: what came in, and what the call owns. -/
import Derived.Test.YtiaahfccebmkdaaIvO
namespace Go.Proofs.Ytiaahfccebmkdaa
open Go.RowKit

def iAt (l : List Int) (i : Nat) : Int := l.getD i 0
theorem iAt_lt (l : List Int) (i : Nat) (h : i < l.length) : iAt l i = l[i] := by simp [iAt, List.getD_eq_getElem?_getD, List.getElem?_eq_getElem h]
theorem iAt_left (l d : List Int) (k : Nat) (hk : k < l.length) : iAt (l ++ d) k = iAt l k := by simp [iAt, List.getD_eq_getElem?_getD, List.getElem?_append_left hk]
theorem iAt_len (l : List Int) (p : Int) : iAt (l ++ [p]) l.length = p := by simp [iAt, List.getD_eq_getElem?_getD]
theorem iAt_mem {l : List Int} {k : Nat} (hk : k < l.length) : iAt l k ∈ l := by rw [iAt_lt l k hk]; exact List.getElem_mem hk
theorem take_snoc_is (l : List Int) (k : Nat) (h : k < l.length) : l.take (k + 1) = l.take k ++ [iAt l k] := by
  rw [List.take_succ_eq_append_getElem h, iAt_lt l k h]
theorem ints_ext {l1 l2 : List Int} (hl : l1.length = l2.length) (h : ∀ j, j < l1.length → iAt l1 j = iAt l2 j) : l1 = l2 := by
  apply List.ext_getElem hl
  intro i h1 h2
  have := h i h1
  rwa [iAt_lt _ _ h1, iAt_lt _ _ h2] at this
/-- The slice value v reads as the list l of integers. -/
def IsRow (w : World) (v : Value) (l : List Int) : Prop :=
  ∃ a cap, v = .slice a l.length cap ∧ l.length ≤ cap ∧ cap ≤ 9223372036854775807 ∧ ∀ i, i < l.length → ∃ b off, a = some ⟨b, off, none⟩ ∧ b < w.heap.size ∧
    w.cell? ⟨b, off + i, none⟩ = some (.int .i64 (iAt l i))
theorem IsRow.below {w w' : World} {v : Value} {l : List Int} (h : IsRow w v l) {B : Nat} (hB : w.heap.size ≤ B) (hb : Below B w w') : IsRow w' v l := by
  obtain ⟨a, cap, rfl, h1, h2, h3⟩ := h
  refine ⟨a, cap, rfl, h1, h2, fun i hi => ?_⟩
  obtain ⟨b, off, rfl, h4, h5⟩ := h3 i hi
  exact ⟨b, off, rfl, Nat.lt_of_lt_of_le h4 hb.size, (hb.cell (p := ⟨b, off + i, none⟩) (Nat.lt_of_lt_of_le h4 hB)).trans h5⟩
theorem IsRow.at0 {w : World} {v : Value} {l : List Int} (h : IsRow w v l) (hl : 0 < l.length) : ∃ b off cap, v = .slice (some ⟨b, off, none⟩) l.length cap ∧ l.length ≤ cap ∧ cap ≤ 9223372036854775807 ∧ b < w.heap.size ∧
    w.cell? ⟨b, off, none⟩ = some (.int .i64 (iAt l 0)) ∧ ∀ i, i < l.length → w.cell? ⟨b, off + i, none⟩ = some (.int .i64 (iAt l i)) := by
  obtain ⟨a, cap, rfl, h1, h2, h3⟩ := h
  obtain ⟨b, off, rfl, h4, h5⟩ := h3 0 hl
  refine ⟨b, off, cap, rfl, h1, h2, h4, by simpa using h5, fun i hi => ?_⟩
  obtain ⟨b', off', h7, h8, h9⟩ := h3 i hi
  simp only [Option.some.injEq, Addr.mk.injEq, and_true] at h7
  obtain ⟨rfl, rfl⟩ := h7
  exact h9
theorem IsRow.nil (w : World) : IsRow w (.slice none 0 0) [] := ⟨none, 0, rfl, Nat.le_refl _, by omega, fun i hi => by simp at hi⟩
def encI (c : List Int) : List Value := c.map (Value.int .i64)
theorem encI_length (c : List Int) : (encI c).length = c.length := by simp [encI]
theorem encI_append (c d : List Int) : encI (c ++ d) = encI c ++ encI d := by simp [encI]
theorem encI_at (c : List Int) (i : Nat) (h : i < c.length) : (encI c)[i]? = some (.int .i64 (iAt c i)) := by
  simp [encI, iAt, List.getD_eq_getElem?_getD, List.getElem?_eq_getElem h]
theorem encI_one (l : List Int) : ∀ u ∈ encI l, u.oneCell' = true := by
  intro u hu
  obtain ⟨x, _, rfl⟩ := List.mem_map.1 hu
  simp [Value.oneCell']
/-- v, of c.length elements, owns a row from block base on, which reads as c. -/
def OwnIs (w : World) (base : Nat) (v : Value) (c : List Int) : Prop := w.ownsRow base 3 1 v c.length (encI c)
theorem OwnIs.nil (w : World) (base : Nat) : OwnIs w base (.slice none 0 0) [] := World.ownsRow_nil _ _ _ _
theorem OwnIs.below {w w' : World} {base : Nat} {v : Value} {c : List Int} (h : OwnIs w base v c) {B : Nat} (hB : w.heap.size ≤ B) (hb : Below B w w') : OwnIs w' base v c := ownsRow_below h (hb.mono hB)
theorem OwnIs.mono {w : World} {base b2 : Nat} {v : Value} {c : List Int} (h : OwnIs w base v c) (hb : b2 ≤ base) : OwnIs w b2 v c := World.ownsRow.mono h hb
theorem OwnIs.val {w : World} {base : Nat} {v : Value} {c : List Int} (h : OwnIs w base v c) : ∃ a cap, v = .slice a c.length cap ∧ c.length ≤ cap ∧ cap ≤ 9223372036854775807 := by
  rcases h.2 with ⟨hv, h0⟩ | ⟨g, cap, cur, hv, hg, hc, hn, hm, _⟩
  · exact ⟨none, 0, by rw [hv, h0], by omega, by omega⟩
  · exact ⟨_, cap, hv, hn, hm⟩
theorem OwnIs.row {w : World} {base : Nat} {v : Value} {c : List Int} (h : OwnIs w base v c) : IsRow w v c := by
  rcases Nat.eq_zero_or_pos c.length with h0 | h0
  · have hc : c = [] := List.eq_nil_of_length_eq_zero h0
    subst hc
    rcases h.2 with ⟨hv, _⟩ | ⟨g, cap, cur, hv, hg, hc, hn, hm, _⟩
    · exact ⟨none, 0, hv, Nat.le_refl _, by omega, fun i hi => by simp at hi⟩
    · exact ⟨_, cap, hv, hn, hm, fun i hi => by simp at hi⟩
  · obtain ⟨g, cap, rfl, hb, hlt⟩ := World.ownsRow.form h h0
    have hcap : c.length ≤ cap ∧ cap ≤ maxLen := by
      rcases h.2 with ⟨hv, _⟩ | ⟨g', cap', cur, hv, hg, hc, hn, hm, _⟩
      · simp at hv
      · simp only [Value.slice.injEq] at hv; obtain ⟨-, -, rfl⟩ := hv; exact ⟨hn, hm⟩
    refine ⟨_, cap, rfl, hcap.1, hcap.2, fun i hi => ⟨g, 0, rfl, hlt, ?_⟩⟩
    rw [Nat.zero_add]; exact (World.ownsRow.cellAt h i (by omega)).trans (encI_at c i hi)
theorem OwnIs.app {w : World} {base : Nat} {v : Value} {c : List Int} {a : Int} (h : w.ownsRow base 3 1 v (c.length + 1) (encI c ++ [.int .i64 a])) : OwnIs w base v (c ++ [a]) := by
  unfold OwnIs
  rw [encI_append, show (c ++ [a]).length = c.length + 1 by simp]
  exact h
theorem isrow_lit (w : World) (c : List Int) (t : TypeId) (hc : c.length ≤ 9223372036854775807) : IsRow (w.alloc (.cells (encI c).toArray t)) (.slice (some ⟨w.heap.size, 0, none⟩) c.length c.length) c := by
  refine ⟨_, c.length, rfl, Nat.le_refl _, hc, fun i hi => ⟨w.heap.size, 0, rfl, by simp, ?_⟩⟩
  rw [Nat.zero_add, World.cell?_alloc_new]
  simpa using encI_at c i hi
theorem infoInt : (Try.prog.info? 3).map (fun i => (i.zero, i.size, i.bytes)) = some (some (.int .i64 0), 1, 8) := by kernel_rfl
end Go.Proofs.Ytiaahfccebmkdaa
