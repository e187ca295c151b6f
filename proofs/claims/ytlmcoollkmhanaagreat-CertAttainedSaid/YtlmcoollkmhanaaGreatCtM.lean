
/- The reference of cert: rows of lists that a call makes. -/
import Derived.Test.YtlmcoollkmhanaaGreatCtL
import Derived.Test.YtlmcoollkmhanaaGreatApp
namespace Go.Proofs.YtlmcoollkmhanaaGreat
open Go.RowKit

def NewI (w : World) (base : Nat) (v : Value) (l : List Int) : Prop := IsRow w v l ∧ ∀ q, v.ownBlock = some q → base ≤ q ∧ ∃ c fz, w.heap[q]? = some (.cells c 3 fz)
theorem NewI.of_own {w : World} {base : Nat} {v : Value} {l : List Int} (h : OwnIs w base v l) : NewI w base v l := by
  refine ⟨h.row, fun q hq => ?_⟩
  rcases h.2 with ⟨hv, _⟩ | ⟨g, cap, cur, hv, hg, hc, r⟩
  · rw [hv] at hq; simp [Value.ownBlock] at hq
  · rw [hv] at hq
    have e : g = q := by simpa [Value.ownBlock] using hq
    subst e
    exact ⟨hg, _, _, hc⟩
theorem NewI.mono {w : World} {base b2 : Nat} {v : Value} {l : List Int} (h : NewI w base v l) (hb : b2 ≤ base) : NewI w b2 v l := ⟨h.1, fun q hq => ⟨Nat.le_trans hb (h.2 q hq).1, (h.2 q hq).2⟩⟩
theorem NewI.lt {w : World} {base : Nat} {v : Value} {l : List Int} (h : NewI w base v l) : ∀ q, v.ownBlock = some q → q < w.heap.size := fun q hq => by
  obtain ⟨c, fz, hc⟩ := (h.2 q hq).2
  exact (Array.getElem?_eq_some_iff.1 hc).1
theorem NewI.same {w w' : World} {base : Nat} {v : Value} {l : List Int} (h : NewI w base v l) (hz : w.heap.size ≤ w'.heap.size) (hb : ∀ q, v.ownBlock = some q → w'.heap[q]? = w.heap[q]?) : NewI w' base v l :=
  ⟨isrow_same31 h.1 hz hb, fun q hq => ⟨(h.2 q hq).1, by obtain ⟨c, fz, hc⟩ := (h.2 q hq).2; exact ⟨c, fz, (hb q hq).trans hc⟩⟩⟩
theorem NewI.below {w w' : World} {base B : Nat} {v : Value} {l : List Int} (h : NewI w base v l) (hB : w.heap.size ≤ B) (hb : Below B w w') : NewI w' base v l :=
  h.same hb.size fun q hq => hb.block q (Nat.lt_of_lt_of_le (h.lt q hq) hB)
def OwnLr (w : World) (base : Nat) (v : Value) (l : List (List Int)) : Prop := ∃ xs : List (Value × List Int), xs.map (·.2) = l ∧ Owns 25 encV 1 w base v xs ∧ ∀ x, x ∈ xs → NewI w base x.1 x.2
theorem OwnLr.row {w : World} {base : Nat} {v : Value} {l : List (List Int)} (h : OwnLr w base v l) : LsRow w v l := by
  obtain ⟨xs, h1, h2, h3⟩ := h
  exact ⟨xs, h1, Owns.row encV_length rv0 (by omega) h2, fun x hx => (h3 x hx).1⟩
theorem OwnLr.nil (w : World) (base : Nat) : OwnLr w base (.slice none 0 0) [] := ⟨[], rfl, Owns.nil w base, fun x hx => by simp at hx⟩
theorem OwnLr.lt {w : World} {base : Nat} {v : Value} {l : List (List Int)} (h : OwnLr w base v l) : ∀ q, v.ownBlock = some q → base ≤ q ∧ q < w.heap.size := by
  obtain ⟨xs, h1, h2, h3⟩ := h
  exact World.ownsRow.lt h2
theorem OwnLr.same {w w' : World} {base : Nat} {v : Value} {l : List (List Int)} (h : OwnLr w base v l) (hz : w.heap.size ≤ w'.heap.size) (hb : ∀ q, base ≤ q → q < w.heap.size → w'.heap[q]? = w.heap[q]?) : OwnLr w' base v l := by
  obtain ⟨xs, h1, h2, h3⟩ := h
  have ho := World.ownsRow.lt h2
  exact ⟨xs, h1, owns_same h2 fun k hk => hb k (ho k hk).1 (ho k hk).2, fun x hx => (h3 x hx).same hz fun q hq => hb q ((h3 x hx).2 q hq).1 ((h3 x hx).lt q hq)⟩
theorem OwnLr.below {w w' : World} {base B : Nat} {v : Value} {l : List (List Int)} (h : OwnLr w base v l) (hB : w.heap.size ≤ B) (hb : Below B w w') : OwnLr w' base v l :=
  h.same hb.size fun q _ hq => hb.block q (by omega)
theorem ints_ne {w : World} {base n : Nat} {v : Value} {xs : List Value} (h : w.ownsRow base 25 1 v n xs) {q : Nat} {c fz} (hq : w.heap[q]? = some (.cells c 3 fz)) : v.ownBlock ≠ some q := by
  intro e
  rcases h.2 with ⟨hv, _⟩ | ⟨g, cap, cur, hv, hg, hc, r⟩
  · rw [hv] at e; simp [Value.ownBlock] at e
  · rw [hv] at e
    have e2 : g = q := by simpa [Value.ownBlock] using e
    subst e2
    rw [hc] at hq
    simp at hq
theorem OwnLr.push {w5 w6 : World} {base : Nat} {ov v6 : Value} {xs : List (Value × List Int)} {x : Value × List Int} {tmp : Obj} (h2 : Owns 25 encV 1 w5 base ov xs) (h3 : ∀ y, y ∈ xs → NewI w5 base y.1 y.2) (hx : NewI w5 base x.1 x.2)
    (hg : (w5.alloc tmp).grownBy w6 ov.ownBlock) (hown : w6.ownsRow base 25 1 v6 (xs.length + 1) (xs.flatMap encV ++ encV x)) : OwnLr w6 base v6 (xs.map (·.2) ++ [x.2]) := by
  have hz := hg.size
  simp only [World.size_alloc] at hz
  have mv : ∀ y : Value × List Int, NewI w5 base y.1 y.2 → NewI w6 base y.1 y.2 := fun y hy => hy.same (by omega) fun q hq => by
    obtain ⟨c, fz, hc⟩ := (hy.2 q hq).2
    have hlt := hy.lt q hq
    exact (hg.block q (by simp; omega) (ints_ne h2 hc).symm).trans (Below.heap_alloc _ _ _ hlt)
  refine ⟨xs ++ [x], by simp, Owns.app hown, fun y hy => ?_⟩
  rw [List.mem_append, List.mem_singleton] at hy
  rcases hy with hy | rfl
  · exact mv y (h3 y hy)
  · exact mv _ hx
theorem isrow_drop {w : World} {b off n cap : Nat} {l : List Int} (h : IsRow w (.slice (some ⟨b, off, none⟩) n cap) l) (i : Nat) (hi : i ≤ l.length) : IsRow w (.slice (some ⟨b, off + i, none⟩) (l.length - i) (cap - i)) (l.drop i) := by
  obtain ⟨a, c, e, h1, h2, h3⟩ := h
  cases e
  refine ⟨_, _, by rw [List.length_drop], by rw [List.length_drop]; omega, by omega, fun j hj => ?_⟩
  rw [List.length_drop] at hj
  obtain ⟨b', o', e2, h4, h5⟩ := h3 (i + j) (by omega)
  cases e2
  refine ⟨_, _, rfl, h4, ?_⟩
  rw [Nat.add_assoc, h5]
  simp [iAt, List.getD_eq_getElem?_getD]
theorem isrow_empty (w : World) (a : Option Addr) (cap : Nat) (hc : cap ≤ 9223372036854775807) : IsRow w (.slice a 0 cap) [] := ⟨a, cap, rfl, Nat.zero_le _, hc, fun i hi => by simp at hi⟩
theorem chTo_step (l : List Int) (k i : Nat) : chTo l k (i + 1) = chTo l k i ++ (chR (l.drop (i + 1)) k).map (fun x => iAt l i :: x) := rfl
theorem chTo_len (l : List Int) (k : Nat) : ∀ i, i ≤ l.length → (chTo l k i).length ≤ (chR l (k + 1)).length := by
  have step : ∀ i, (chTo l k i).length ≤ (chTo l k (i + 1)).length := fun i => by rw [chTo_step, List.length_append]; omega
  intro i hi
  rw [← chTo_all]
  generalize l.length = n at *
  induction n with
  | zero => obtain rfl : i = 0 := by omega
            exact Nat.le_refl _
  | succ n ih =>
    rcases Nat.lt_or_ge i (n + 1) with h | h
    · exact Nat.le_trans (ih (by omega)) (step n)
    · obtain rfl : i = n + 1 := by omega
      exact Nat.le_refl _
theorem lsAt_snoc (l : List (List Int)) (m : Nat) (h : m < l.length) : l.take (m + 1) = l.take m ++ [lsAt l m] := by
  rw [lsAt_lt l m h]; simp
end Go.Proofs.YtlmcoollkmhanaaGreat
