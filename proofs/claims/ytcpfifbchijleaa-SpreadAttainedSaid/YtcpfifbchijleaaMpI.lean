/- A map from int to int that the call has made, read as a function. -/
import Derived.Maps.OwnOps
import Derived.Maps.Views
import Derived.Maps.OwnSet
import Derived.Test.YtcpfifbchijleaaIsO
namespace Go.Proofs.Ytcpfifbchijleaa
open Go.RowKit Go.Maps

theorem lawI : Keyed Try.prog 3 := int_keyed Try.underlying3
theorem zeroI (w : World) : (zeroValue 3).run Try.prog w = .ok (.int .i64 0) w := by kernel_rfl
/-- Block b is a map of at most n entries that reads as the function m. -/
def OwnM (w : World) (b n : Nat) (m : Int → Int) : Prop := ∃ D : DataW Unit, IsMap D ∧ w.ownsMap Try.prog 3 (plainElem Try.prog 3) b n D ∧ ∀ x : Int, D.atKey (.int .i64 x) (.lit (.int .i64 0)) = .lit (.int .i64 (m x))
theorem ownM_made (w : World) : OwnM (w.alloc (.map #[] 0)) w.heap.size 0 (fun _ => 0) := ⟨.map [], isMap_empty, World.ownsMap_made _ _ _ _, fun _ => rfl⟩
theorem OwnM.lt {w : World} {b n : Nat} {m : Int → Int} (h : OwnM w b n m) : b < w.heap.size := by
  obtain ⟨D, -, h, -⟩ := h
  exact h.lt
theorem OwnM.kept {w w' : World} {b n : Nat} {m : Int → Int} {row : Option Nat} (h : OwnM w b n m) (hg : w.grownBy w' row) (hne : some b ≠ row) : OwnM w' b n m := by
  obtain ⟨D, h0, h, h1⟩ := h
  exact ⟨D, h0, h.kept hg hne, h1⟩
theorem OwnM.below {w w' : World} {b n base : Nat} {m : Int → Int} (h : OwnM w b n m) (hb : Below base w w') (hlt : b < base) : OwnM w' b n m := by
  obtain ⟨D, h0, ⟨es, clock, he, h2⟩, h1⟩ := h
  exact ⟨D, h0, ⟨es, clock, (hb.block b hlt).trans he, h2⟩, h1⟩
theorem OwnM.mono {w : World} {b n n' : Nat} {m : Int → Int} (h : OwnM w b n m) (hn : n ≤ n') : OwnM w b n' m := by
  obtain ⟨D, h0, h, h1⟩ := h
  exact ⟨D, h0, h.mono hn, h1⟩
theorem OwnM.setCell {w : World} {b n : Nat} {m : Int → Int} (h : OwnM w b n m) {a : Addr} (ha : b ≠ a.block) (x : Value) : OwnM (w.setCell a x) b n m := by
  obtain ⟨D, h0, h, h1⟩ := h
  exact ⟨D, h0, h.setCell ha x, h1⟩
theorem OwnM.look {w : World} {b n : Nat} {m : Int → Int} (h : OwnM w b n m) (x : Int) (hx : (Lit.int .i64 x).wf = true) : (Instr.lookup 39 (.map (some b)) (.int .i64 x) false).run Try.prog w = .ok (.int .i64 (m x)) w := by
  obtain ⟨D, -, h, h1⟩ := h
  obtain ⟨c, hrun, hat, -⟩ := h.lookup_int lawI Try.underlying39 Try.underlying3 (zeroI w) (keyOf_int_mk Try.underlying3 hx)
  rw [h1 x] at hat
  cases hat
  exact hrun
theorem wpList_set_ownM (w : World) {ops : Array Oper} {rest : List Oper} {o : Oper} {a : Act} {Q : Exit → Act → World → Prop}
    (hg : o.guard = none) (m x v : Operand) (hop : o.op = Op.mapUpdate 39 m x v) (b n : Nat) (f : Int → Int) (hm : a.eval m = .map (some b)) (h : OwnM w b n f) (hn : n < maxLen)
    (key val : Int) (hx : a.eval x = .int .i64 key) (hv : a.eval v = .int .i64 val) (hk : (Lit.int .i64 key).wf = true) (hvl : (Lit.int .i64 val).wf = true)
    (hK : ∀ w', OwnM w' b (n + 1) (fun y => if y = key then val else f y) → w.grownBy w' (some b) → wpList Try.prog ops Q rest (a.put o.dst undef) w') : wpList Try.prog ops Q (o :: rest) a w := by
  obtain ⟨D, h0, h, h1⟩ := h
  refine wpList_mapUpdate_own w hg m x v _ hop _ _ lawI Try.underlying39 _ b n D hm h hn _ _ _ hx hv (keyOf_int_mk Try.underlying3 hk) _ [] (plainElem_int Try.underlying3 hvl) fun w' r1 r2 => hK w' ⟨_, h0.put _ _, r1, fun y => ?_⟩ r2
  by_cases e : y = key
  · subst e
    simp only [if_true]
    exact atKey_put_same h0 (by trivial) _ _
  · simp only [if_neg e]
    rw [atKey_put_other (fun he => e (by injection he))]
    exact h1 y
end Go.Proofs.Ytcpfifbchijleaa
