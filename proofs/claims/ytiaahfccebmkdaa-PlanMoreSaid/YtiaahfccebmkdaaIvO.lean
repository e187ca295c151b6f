/- A row of intervals that the call owns, as a list. -/
import Derived.Test.YtiaahfccebmkdaaIvC
import Derived.Test.YtiaahfccebmkdaaIvM
import Derived.Deep.AppendLies
import Derived.Deep.Onto
import Derived.WalkSmall
namespace Go.Proofs.Ytiaahfccebmkdaa
open Go.RowKit

theorem cells_new (w : World) (cs : List Value) (t : TypeId) : ∀ j u, cs[j]? = some u → (w.alloc (.cells cs.toArray t)).cell? ((⟨w.heap.size, 0, none⟩ : Addr).add j) = some u := by
  intro j u hj
  have e : ((⟨w.heap.size, 0, none⟩ : Addr).add j) = ⟨w.heap.size, j, none⟩ := by
    unfold Addr.add
    split
    · rename_i h; subst h; rfl
    · simp
  rw [e, World.cell?_alloc_new]
  simpa using hj
/-- A box (or whatever cell) that is not of the row that grew. -/
theorem grown_keeps {w w' : World} {row : Option Nat} (hg : w.grownBy w' row) {b : Nat} (hb : b < w.heap.size) (hne : some b ≠ row) : (∀ o, w'.cell? ⟨b, o, none⟩ = w.cell? ⟨b, o, none⟩) ∧ (∀ o, w'.frozen? ⟨b, o, none⟩ = w.frozen? ⟨b, o, none⟩) :=
  ⟨fun o => World.cell?_of_block (a := ⟨b, o, none⟩) (hg.block b hb hne), fun o => World.frozen?_of_block (a := ⟨b, o, none⟩) (hg.block b hb hne)⟩
theorem ownsRow_val {w : World} {base e size n : Nat} {v : Value} {xs : List Value} (h : w.ownsRow base e size v n xs) : ∃ a cap, v = .slice a n cap := by
  rcases h.2 with ⟨hv, h0⟩ | ⟨g, cap, cur, hv, _⟩
  · exact ⟨none, 0, by rw [hv, h0]⟩
  · exact ⟨_, cap, hv⟩
def encL (c : List Iv) : List Value := c.flatMap fun p => [.int .i64 p.1, .int .i64 p.2]
theorem encL_length (c : List Iv) : (encL c).length = c.length * 2 := by
  induction c with
  | nil => rfl
  | cons p c ih => simp only [encL, List.flatMap_cons, List.length_append, List.length_cons, List.length_nil] at *; omega
theorem encL_append (c d : List Iv) : encL (c ++ d) = encL c ++ encL d := by simp [encL]
theorem encL_at (c : List Iv) : ∀ i, i < c.length → (encL c)[i * 2]? = some (.int .i64 (iLo c i)) ∧ (encL c)[i * 2 + 1]? = some (.int .i64 (iHi c i)) := by
  induction c with
  | nil => intro i h; simp at h
  | cons p c ih =>
    intro i h
    cases i with
    | zero => simp [encL, iLo, iHi]
    | succ i =>
      have h1 := ih i (by simpa using h)
      have e : encL (p :: c) = .int .i64 p.1 :: .int .i64 p.2 :: encL c := rfl
      rw [e, show (i + 1) * 2 = i * 2 + 1 + 1 by omega]
      simp only [List.getElem?_cons_succ]
      simpa [iLo, iHi] using h1
/-- v, of c.length elements, owns a row from block base on, which reads as c. -/
def OwnP (T : TypeId) (w : World) (base : Nat) (v : Value) (c : List Iv) : Prop := w.ownsRow base T 2 v c.length (encL c)
abbrev OwnIv (w : World) (base : Nat) (v : Value) (c : List Iv) : Prop := OwnP 111 w base v c
section
variable {T : TypeId}
theorem OwnP.nil (w : World) (base : Nat) : OwnP T w base (.slice none 0 0) [] := World.ownsRow_nil _ _ _ _
theorem ownsRow_below {w w' : World} {base e size n : Nat} {v : Value} {xs : List Value} (h : w.ownsRow base e size v n xs) (hb : Below w.heap.size w w') : w'.ownsRow base e size v n xs := by
  refine ⟨h.1, ?_⟩
  rcases h.2 with h1 | ⟨g, cap, cur, hv, hg, hc, r⟩
  · exact .inl h1
  · refine .inr ⟨g, cap, cur, hv, hg, ?_, r⟩
    have hlt : g < w.heap.size := by
      rcases Nat.lt_or_ge g w.heap.size with hlt | hge
      · exact hlt
      · rw [Array.getElem?_eq_none hge] at hc; cases hc
    rw [hb.block g hlt]
    exact hc
theorem OwnP.below {w w' : World} {base : Nat} {v : Value} {c : List Iv} (h : OwnP T w base v c) {B : Nat} (hB : w.heap.size ≤ B) (hb : Below B w w') : OwnP T w' base v c := ownsRow_below h (hb.mono hB)
theorem OwnP.row {w : World} {base : Nat} {v : Value} {c : List Iv} (h : OwnP T w base v c) : IvRow w v c := by
  rcases Nat.eq_zero_or_pos c.length with h0 | h0
  · have hc : c = [] := List.eq_nil_of_length_eq_zero h0
    subst hc
    rcases h.2 with ⟨hv, _⟩ | ⟨g, cap, cur, hv, hg, hc, hn, hm, _⟩
    · exact ⟨none, 0, hv, Nat.le_refl _, by omega, fun i hi => by simp at hi⟩
    · exact ⟨_, cap, hv, hn, hm, fun i hi => by simp at hi⟩
  · obtain ⟨g, cap, rfl, hb, hlt⟩ := World.ownsRow.form h h0
    have hcap : c.length ≤ cap ∧ cap ≤ maxLen := by
      rcases h.2 with ⟨hv, _⟩ | ⟨g', cap', cur, hv, hg, hc, hn, hm, _⟩
      · simp at hv
      · simp only [Value.slice.injEq] at hv; obtain ⟨-, -, rfl⟩ := hv; exact ⟨hn, hm⟩
    refine ⟨_, cap, rfl, hcap.1, hcap.2, fun i hi => ⟨g, 0, rfl, hlt, ?_, ?_⟩⟩
    · rw [Nat.zero_add]; exact (World.ownsRow.cellAt h (i * 2) (by omega)).trans (encL_at c i hi).1
    · rw [Nat.zero_add]; exact (World.ownsRow.cellAt h (i * 2 + 1) (by omega)).trans (encL_at c i hi).2
theorem OwnP.val {w : World} {base : Nat} {v : Value} {c : List Iv} (h : OwnP T w base v c) : ∃ a cap, v = .slice a c.length cap ∧ c.length ≤ cap ∧ cap ≤ 9223372036854775807 := by
  rcases h.2 with ⟨hv, h0⟩ | ⟨g, cap, cur, hv, hg, hc, hn, hm, _⟩
  · exact ⟨none, 0, by rw [hv, h0], by omega, by omega⟩
  · exact ⟨_, cap, hv, hn, hm⟩
theorem OwnP.app {w : World} {base : Nat} {v : Value} {c : List Iv} {a b : Int} (h : w.ownsRow base T 2 v (c.length + 1) (encL c ++ [.int .i64 a, .int .i64 b])) : OwnP T w base v (c ++ [(a, b)]) := by
  unfold OwnP
  rw [encL_append, show (c ++ [(a, b)]).length = c.length + 1 by simp]
  exact h
theorem OwnP.form {w : World} {base : Nat} {v : Value} {d : List Iv} {p : Iv} (h : OwnP T w base v (d ++ [p])) : ∃ g cap, v = .slice (some ⟨g, 0, none⟩) (d.length + 1) cap ∧ base ≤ g ∧ g < w.heap.size ∧ d.length + 1 ≤ cap ∧ cap ≤ 9223372036854775807 ∧
    w.cell? ⟨g, d.length * 2, none⟩ = some (.int .i64 p.1) ∧ w.cell? ⟨g, d.length * 2 + 1, none⟩ = some (.int .i64 p.2) ∧ (∀ o, w.frozen? ⟨g, o, none⟩ = false) ∧
    ∀ u : Int, OwnP T (w.setCell ⟨g, d.length * 2 + 1, none⟩ (.int .i64 u)) base v (d ++ [(p.1, u)]) := by
  have hl : (d ++ [p]).length = d.length + 1 := by simp
  obtain ⟨g, cap, rfl, hb, hlt⟩ := World.ownsRow.form h (by rw [hl]; omega)
  have hcap : (d ++ [p]).length ≤ cap ∧ cap ≤ maxLen := by
    rcases h.2 with ⟨hv, _⟩ | ⟨g', cap', cur, hv, hg, hc, hn, hm, _⟩
    · simp at hv
    · simp only [Value.slice.injEq] at hv; obtain ⟨-, -, rfl⟩ := hv; exact ⟨hn, hm⟩
  have e := encL_at (d ++ [p]) d.length (by simp)
  rw [(iLo_append_len d p).1, (iLo_append_len d p).2] at e
  refine ⟨g, cap, by rw [hl], hb, hlt, by omega, hcap.2, ?_, ?_, fun o => World.ownsRow.frozenAt h o, fun u => ?_⟩
  · exact (World.ownsRow.cellAt h _ (by omega)).trans e.1
  · exact (World.ownsRow.cellAt h _ (by omega)).trans e.2
  · have hs := (World.ownsRow.stored h (d.length * 2 + 1) (.int .i64 u)).1
    have e2 : (encL (d ++ [p])).set (d.length * 2 + 1) (.int .i64 u) = encL (d ++ [(p.1, u)]) := by
      rw [encL_append, encL_append, List.set_append_right _ _ (by rw [encL_length]; omega), encL_length, show d.length * 2 + 1 - d.length * 2 = 1 by omega]
      rfl
    rw [e2] at hs
    unfold OwnP
    rw [show (d ++ [(p.1, u)]).length = (d ++ [p]).length by simp]
    exact hs
end
end Go.Proofs.Ytiaahfccebmkdaa
