
/- Parts SpV WdL of the proof, joined. -/
import Derived.Test.YtlmcoollkmhanaaGb
import Derived.Test.YtlmcoollkmhanaaGw
import Derived.Test.YtlmcoollkmhanaaGg
/- Plain: intervals of at most some widths around a time, some lost, some replaced: their combination is not wider than the greatest width. -/
namespace Go.Proofs.Ytlmcoollkmhanaa
open Go.RowKit

end Go.Proofs.Ytlmcoollkmhanaa
/- The examples of the chapter on width: the check that stands in every statement answers true. -/
namespace Go.Proofs.Ytlmcoollkmhanaa
open Go.RowKit

def encPs (c : List Pr) : List Value := c.flatMap fun p => (encP p).toList
theorem encPs_append (c d : List Pr) : encPs (c ++ d) = encPs c ++ encPs d := by simp [encPs]
theorem encPs_at (c : List Pr) : ∀ i, i < c.length → (encPs c)[i * 8]? = some (.int .i64 (pAt c i).au) ∧ (encPs c)[i * 8 + 1]? = some (.int .i64 (pAt c i).er) ∧ (encPs c)[i * 8 + 2]? = some (.int .i64 (pAt c i).co) ∧ (encPs c)[i * 8 + 3]? = some (.int .i64 (pAt c i).at_) ∧
  (encPs c)[i * 8 + 4]? = some (.int .i64 (pAt c i).ol) ∧ (encPs c)[i * 8 + 5]? = some (.int .i64 (pAt c i).oh) ∧ (encPs c)[i * 8 + 6]? = some (.int .i64 (pAt c i).bl) ∧ (encPs c)[i * 8 + 7]? = some (.int .i64 (pAt c i).bh) := by
 induction c with
 | nil => intro i h; simp at h
 | cons p c ih =>
  intro i h
  have e : encPs (p :: c) = .int .i64 p.au :: .int .i64 p.er :: .int .i64 p.co :: .int .i64 p.at_ :: .int .i64 p.ol :: .int .i64 p.oh :: .int .i64 p.bl :: .int .i64 p.bh :: encPs c := rfl
  cases i with
  | zero => rw [e]; simp [pAt]
  | succ i =>
   have h1 := ih i (by simpa using h)
   rw [e, show (i + 1) * 8 = i * 8 + 1 + 1 + 1 + 1 + 1 + 1 + 1 + 1 by omega]
   simp only [List.getElem?_cons_succ]
   simpa [pAt] using h1
def OwnPs (w : World) (base : Nat) (v : Value) (c : List Pr) : Prop := w.ownsRow base 58 8 v c.length (encPs c)
theorem OwnPs.nil (w : World) (base : Nat) : OwnPs w base (.slice none 0 0) [] := World.ownsRow_nil _ _ _ _
theorem OwnPs.app {w : World} {base : Nat} {v : Value} {c : List Pr} {p : Pr} (h : w.ownsRow base 58 8 v (c.length + 1) (encPs c ++ (encP p).toList)) : OwnPs w base v (c ++ [p]) := by
 unfold OwnPs
 rw [encPs_append, show (c ++ [p]).length = c.length + 1 by simp]
 simpa [encPs] using h
theorem OwnPs.val {w : World} {base : Nat} {v : Value} {c : List Pr} (h : OwnPs w base v c) : ∃ a cap, v = .slice a c.length cap ∧ c.length ≤ cap ∧ cap ≤ 9223372036854775807 := by
 rcases h.2 with ⟨hv, h0⟩ | ⟨g, cap, cur, hv, hg, hc, hn, hm, _⟩
 ·exact ⟨none, 0, by rw [hv, h0], by omega, by omega⟩
 ·exact ⟨_, cap, hv, hn, hm⟩
theorem OwnPs.row {w : World} {base : Nat} {v : Value} {c : List Pr} (h : OwnPs w base v c) : PrRow w v c := by
 rcases Nat.eq_zero_or_pos c.length with h0 | h0
 ·have hc : c = [] := List.eq_nil_of_length_eq_zero h0
  subst hc
  rcases h.2 with ⟨hv, _⟩ | ⟨g, cap, cur, hv, hg, hc, hn, hm, _⟩
  ·exact ⟨none, 0, hv, Nat.le_refl _, by omega, fun i hi => by simp at hi⟩
  ·exact ⟨_, cap, hv, hn, hm, fun i hi => by simp at hi⟩
 ·obtain ⟨g, cap, rfl, hb, hlt⟩ := World.ownsRow.form h h0
  have hcap : c.length ≤ cap ∧ cap ≤ maxLen := by
   rcases h.2 with ⟨hv, _⟩ | ⟨g', cap', cur, hv, hg, hc, hn, hm, _⟩
   ·simp at hv
   ·simp only [Value.slice.injEq] at hv; obtain ⟨-, -, rfl⟩ := hv; exact ⟨hn, hm⟩
  refine ⟨_, cap, rfl, hcap.1, hcap.2, fun i hi => ⟨g, 0, rfl, hlt, ?_⟩⟩
  obtain ⟨e0, e1, e2, e3, e4, e5, e6, e7⟩ := encPs_at c i hi
  rw [Nat.zero_add]
  exact ⟨(World.ownsRow.cellAt h _ (by omega)).trans e0, (World.ownsRow.cellAt h _ (by omega)).trans e1, (World.ownsRow.cellAt h _ (by omega)).trans e2, (World.ownsRow.cellAt h _ (by omega)).trans e3,
   (World.ownsRow.cellAt h _ (by omega)).trans e4, (World.ownsRow.cellAt h _ (by omega)).trans e5, (World.ownsRow.cellAt h _ (by omega)).trans e6, (World.ownsRow.cellAt h _ (by omega)).trans e7⟩
theorem infoPr : (Try.prog.info? 58).map (fun i => (i.zero, i.size, i.bytes)) = some (some (.agg #[.int .i64 0, .int .i64 0, .int .i64 0, .int .i64 0, .int .i64 0, .int .i64 0, .int .i64 0, .int .i64 0]), 8, 64) := by kernel_rfl
end Go.Proofs.Ytlmcoollkmhanaa
