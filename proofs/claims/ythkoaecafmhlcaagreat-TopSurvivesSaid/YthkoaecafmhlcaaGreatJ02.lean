/- Parts Fl Fs SpP SpA SpB SpC SpD SpM SpQ WdP WdA Fg Bxs MpI of the proof, joined. -/
import Derived.Test.YthkoaecafmhlcaaGreatJ01
import Derived.Test.YthkoaecafmhlcaaGreatJ00
import Derived.Deep.LoopGhost
import Derived.IntWalk
import Derived.Lib.Small
import Derived.ChangeAlike
import Derived.RangeFuncNested
import Derived.RangeFuncBound
import Derived.RangeFuncCalls
import Derived.RangeFuncLeaves
import Derived.RangeFuncBox
import Derived.RangeFuncFrom
import Derived.Shelf.Abstract
import Derived.Shelf.AbstractIn
import Derived.Shelf.RegionOpen
import Derived.OwnWalkIn
import Derived.TacticsInMore
import Derived.LoopNIn
import Derived.LoopIn
import Derived.Sort.QuietIn
import Derived.Sort.BigQuietIn
import Derived.Sort.QuietTacIn
import Derived.BigRegionIn
import Derived.Laws.MakeOwn
import Derived.Maps.OwnOps
import Derived.Maps.Views
import Derived.Maps.OwnSet
/- Values whose cells are all integers, opened: a slice of such elements, a structure by value. -/
namespace Go.Proofs.YthkoaecafmhlcaaGreat
open Go.ChangeShapes Go.WideShapes Go.ChangeAt Go.RowKit Go.Joins Go.Deep
section
variable {H : Type} {enc : TypeId × Value → H} {P : Program} {w : World} {base : Nat} {spare : Nat → Bool} {held : Bool}
def CellInt {H : Type} (enc : TypeId × Value → H) (P : Program) (w : World) (base : Nat) (spare : Nat → Bool) (held : Bool) (t : TypeId) (j : Nat) (k : IntKind) : Prop :=
 ∀ (fuel : Nat) (cs : List Value) (x : DataW H × List MemPlace), DataW.trod enc P w base spare held fuel t cs = some x → ∃ n : Int, cs[j]? = some (.int k n) ∧ (Lit.int k n).wf = true
theorem CellInt.int {t : TypeId} {k : IntKind} (ht : P.underlying t = some (.int k)) : CellInt enc P w base spare held t 0 k := by
 intro fuel cs x h
 obtain ⟨n, rfl, _, hw⟩ := DataW.trod_int ht h
 exact ⟨n, rfl, hw⟩
theorem CellInt.elem {t e : TypeId} {n j : Nat} {k : IntKind} (ht : P.underlying t = some (.array n e)) (i : Nat) (hi : i < n) (hj : j < P.cellsOf e)
  (h : CellInt enc P w base spare held e j k) : CellInt enc P w base spare held t (i * P.cellsOf e + j) k := by
 intro fuel cs x hx
 obtain ⟨xs, m, _, _, hl, hlen, hel⟩ := DataW.trod_array ht hx
 have h1 := hel i hi
 rw [List.getElem?_eq_getElem (show i < xs.length by omega)] at h1
 obtain ⟨q, h2, h3⟩ := h _ _ _ h1
 refine ⟨q, ?_, h3⟩
 rw [List.getElem?_take_of_lt hj, List.getElem?_drop] at h2
 exact h2
end
end Go.Proofs.YthkoaecafmhlcaaGreat
/- A slice of integers that came in, opened. -/
namespace Go.Proofs.YthkoaecafmhlcaaGreat
open Go.ChangeShapes Go.WideShapes Go.ChangeAt Go.RowKit Go.Joins Go.Deep
section
variable {H : Type} {enc : TypeId × Value → H} {W : World} {base : Nat}
end
end Go.Proofs.YthkoaecafmhlcaaGreat
/- Plain mathematics of package spread: the order of widths, and the greatest width. -/
namespace Go.Proofs.YthkoaecafmhlcaaGreat
open Go.RowKit

end Go.Proofs.YthkoaecafmhlcaaGreat
/- Package spread: the checks of widths, and the stable sort of their indexes. -/
namespace Go.Proofs.YthkoaecafmhlcaaGreat
open Go.RowKit

set_option maxRecDepth 100000 in
set_option maxHeartbeats 400000 in
theorem isNaN_any (x : Int) (w : World) : Calls Tryz.prog 99 #[.int .i64 x] w fun e w' => e = .returned (.bool false) ∧ w' = w := by
 go_enter Tryz.func99, Tryz.ntmps99
 go_wp2
 all_goals go_ret
 all_goals exact ⟨ret_bool (by simp), rfl⟩
set_option maxRecDepth 100000 in
set_option maxHeartbeats 400000 in
theorem Compare_any (x y : Int) (w : World) : Calls Tryz.prog 64 #[.int .i64 x, .int .i64 y] w fun e w' => e = .returned (.int .i64 (Lib.compareInt x y)) ∧ w' = w := by
 go_enter Tryz.func64, Tryz.ntmps64
 go_wp2_with (go_at_call 99; refine (isNaN_any _ _).mono ?_; rintro e w' ⟨rfl, rfl⟩)
 all_goals go_ret
 all_goals exact ⟨ret_int (by unfold Lib.compareInt; split <;> first | rfl | omega | (split <;> first | rfl | omega)), rfl⟩
end Go.Proofs.YthkoaecafmhlcaaGreat
/- Package spread: a game, and the i-th width of the right ones. -/
namespace Go.Proofs.YthkoaecafmhlcaaGreat
open Go.RowKit
attribute [local go_sem ↓] run_max_mx run_min_mn

theorem infoIs : (Tryz.prog.info? 3).map (fun i => (i.zero, i.size, i.bytes)) = some (some (.int .i64 0), 1, 8) := by kernel_rfl
end Go.Proofs.YthkoaecafmhlcaaGreat
/- Package spread: the iterator over the possible numbers. -/
namespace Go.Proofs.YthkoaecafmhlcaaGreat
open Go.RowKit Go.Shelf
attribute [local go_sem] Oper.semAt_some
attribute [local go_sem ↓] run_max_mx run_min_mn

def KeepS (S : Nat → Prop) (A B : World) : Prop := A.heap.size ≤ B.heap.size ∧ ∀ q, S q → B.heap[q]? = A.heap[q]?
theorem KeepS.refl (S : Nat → Prop) (A : World) : KeepS S A A := ⟨Nat.le_refl _, fun _ _ => rfl⟩
theorem KeepS.trans {S : Nat → Prop} {A B C : World} (h : KeepS S A B) (k : KeepS S B C) : KeepS S A C := ⟨Nat.le_trans h.1 k.1, fun q h1 => (k.2 q h1).trans (h.2 q h1)⟩
theorem KeepS.cell {S : Nat → Prop} {A B : World} (h : KeepS S A B) {b : Nat} (h1 : S b) (o : Nat) : B.cell? ⟨b, o, none⟩ = A.cell? ⟨b, o, none⟩ := World.cell?_of_block (a := ⟨b, o, none⟩) (h.2 b h1)
end Go.Proofs.YthkoaecafmhlcaaGreat
/- Package spread: the best number, and Worst. -/
namespace Go.Proofs.YthkoaecafmhlcaaGreat
open Go.RowKit Go.Shelf
attribute [local go_sem] Oper.semAt_some
attribute [local go_sem ↓] run_max_mx run_min_mn

theorem KeepS.set {S : Nat → Prop} {A B : World} (h : KeepS S A B) {p : Addr} (hp : ¬ S p.block) (u : Value) : KeepS S A (B.setCell p u) :=
 ⟨by simpa [World.setCell] using h.1, fun q hq => (Below.heap_setCell B p u q (fun e => hp (e ▸ hq))).trans (h.2 q hq)⟩
theorem KeepS.put {S : Nat → Prop} {W : World} {l : Nat} (hl : ¬ S l) (_hlt : l < W.heap.size) (o : Obj) : KeepS S W (W.putObj l o) :=
 ⟨(grownBy_putObj' W l o).size, fun q hq => by
  rcases Nat.lt_or_ge q W.heap.size with h | h
  ·exact (grownBy_putObj' W l o).block q h (by rintro e; cases e; exact hl hq)
  ·have hs : (W.putObj l o).heap.size = W.heap.size := by simp [World.putObj]
   rw [Array.getElem?_eq_none h, Array.getElem?_eq_none (by omega)]⟩
end Go.Proofs.YthkoaecafmhlcaaGreat
/- Plain mathematics of package spread's Place; a row of intervals that a call makes. -/
namespace Go.Proofs.YthkoaecafmhlcaaGreat
open Go.RowKit
end Go.Proofs.YthkoaecafmhlcaaGreat
/- Plain mathematics of package spread: the i-th width by counting, and how the greatest width changes. -/
namespace Go.Proofs.YthkoaecafmhlcaaGreat
open Go.RowKit

end Go.Proofs.YthkoaecafmhlcaaGreat
/- Plain mathematics of rates, peers, sites and schedules: no program in sight. -/
namespace Go.Proofs.YthkoaecafmhlcaaGreat
open Go.RowKit

end Go.Proofs.YthkoaecafmhlcaaGreat
/- Peers in memory: a row of peers that came in, a row of truth values that a call makes; opening a site and a schedule. -/
namespace Go.Proofs.YthkoaecafmhlcaaGreat
open Go.RowKit

end Go.Proofs.YthkoaecafmhlcaaGreat
/- A site and a schedule that came in by value, opened. -/
namespace Go.Proofs.YthkoaecafmhlcaaGreat
open Go.ChangeShapes Go.WideShapes Go.ChangeAt Go.RowKit Go.Joins Go.Deep
section
variable {H : Type} {enc : TypeId × Value → H} {P : Program} {w : World} {base : Nat} {spare : Nat → Bool} {held : Bool}
end
section
variable {H : Type} {enc : TypeId × Value → H} {W : World} {base : Nat}
end
end Go.Proofs.YthkoaecafmhlcaaGreat
/- Boxes of several cells: what stands in them through stores, calls and appends. -/
namespace Go.Proofs.YthkoaecafmhlcaaGreat
open Go.RowKit

def BxC (V : World) (b : Nat) (vs : List Value) : Prop := (∀ j u, vs[j]? = some u → V.cell? ⟨b, j, none⟩ = some u) ∧ (∀ o, V.frozen? ⟨b, o, none⟩ = false) ∧ b < V.heap.size
theorem BxC.same {V W : World} {b : Nat} {vs : List Value} (h : BxC V b vs) (hz : V.heap.size ≤ W.heap.size) (hb : W.heap[b]? = V.heap[b]?) : BxC W b vs :=
 ⟨fun j u hj => (World.cell?_of_block (a := ⟨b, j, none⟩) hb).trans (h.1 j u hj), fun o => (World.frozen?_of_block (a := ⟨b, o, none⟩) hb).trans (h.2.1 o), Nat.lt_of_lt_of_le h.2.2 hz⟩
theorem BxC.below {V W : World} {b B : Nat} {vs : List Value} (h : BxC V b vs) (hB : b < B) (hb : Below B V W) : BxC W b vs := h.same hb.size (hb.block b hB)
theorem BxC.setNe {V : World} {b : Nat} {vs : List Value} (h : BxC V b vs) {p : Addr} (hp : b ≠ p.block) (u : Value) : BxC (V.setCell p u) b vs :=
 h.same (by simp [World.setCell]) (Below.heap_setCell V p u b hp)
theorem BxC.set {V : World} {b : Nat} {vs : List Value} (h : BxC V b vs) (i : Nat) (u : Value) (hi : i < vs.length) : BxC (V.setCell ⟨b, i, none⟩ u) b (vs.set i u) := by
 refine ⟨fun j v hj => ?_, fun o => by rw [World.frozen?_setCell]; exact h.2.1 o, by simpa [World.setCell] using h.2.2⟩
 by_cases e : i = j
 ·subst e
  rw [List.getElem?_set_self hi] at hj
  cases hj
  exact World.cell?_setCell_same' _ _ _ (by rw [h.1 i vs[i] (List.getElem?_eq_getElem hi)]; rfl)
 ·rw [List.getElem?_set_ne e] at hj
  exact (World.cell?_setCell_other _ _ _ _ (fun h2 => by simp only [Addr.mk.injEq] at h2; omega)).trans (h.1 j v hj)
theorem BxC.made (V : World) (vs : List Value) (T : TypeId) : BxC (V.alloc (.cells vs.toArray T)) V.heap.size vs := by
 refine ⟨fun j u hj => ?_, fun o => by simp [go_sem], by simp⟩
 simp [go_sem, hj]
theorem BxC.alloc {V : World} {b : Nat} {vs : List Value} (h : BxC V b vs) (o : Obj) : BxC (V.alloc o) b vs := h.same (by simp) (Below.heap_alloc _ _ _ h.2.2)
theorem BxC.grown {V W : World} {b : Nat} {vs : List Value} {row : Option Nat} (h : BxC V b vs) (hg : V.grownBy W row) (hn : some b ≠ row) : BxC W b vs := h.same hg.size (hg.block b h.2.2 hn)
theorem owns_apart {A w' : World} {base e e2 size s2 n m : Nat} {v v2 : Value} {xs ys : List Value} (h : A.ownsRow base e size v n xs) (h2 : A.ownsRow base e2 s2 v2 m ys) (he : e ≠ e2) (hg : A.grownBy w' v2.ownBlock) : w'.ownsRow base e size v n xs := by
 refine ⟨h.1, ?_⟩
 rcases h.2 with h1 | ⟨g, cap, cur, hv, hg1, hc, r⟩
 ·exact .inl h1
 ·refine .inr ⟨g, cap, cur, hv, hg1, (hg.block g (Array.getElem?_eq_some_iff.1 hc).1 fun eq => ?_).trans hc, r⟩
  rcases h2.2 with ⟨hv2, _⟩ | ⟨g2, cap2, cur2, hv2, hg2, hc2, r2⟩
  ·rw [hv2] at eq; simp [Value.ownBlock] at eq
  ·rw [hv2] at eq
   have e3 : g = g2 := by simpa [Value.ownBlock] using eq
   subst e3
   rw [hc] at hc2
   simp at hc2
   exact he hc2.2
end Go.Proofs.YthkoaecafmhlcaaGreat
/- A map from int to int that the call has made, read as a function. -/
namespace Go.Proofs.YthkoaecafmhlcaaGreat
open Go.RowKit Go.Maps

theorem lawI : Keyed Tryz.prog 3 := int_keyed Tryz.underlying3
theorem zeroI (w : World) : (zeroValue 3).run Tryz.prog w = .ok (.int .i64 0) w := by kernel_rfl
def OwnM (w : World) (b n : Nat) (m : Int → Int) : Prop := ∃ D : DataW Unit, IsMap D ∧ w.ownsMap Tryz.prog 3 (plainElem Tryz.prog 3) b n D ∧ ∀ x : Int, D.atKey (.int .i64 x) (.lit (.int .i64 0)) = .lit (.int .i64 (m x))
theorem ownM_made (w : World) : OwnM (w.alloc (.map #[] 0)) w.heap.size 0 (fun _ => 0) := ⟨.map [], isMap_empty, World.ownsMap_made _ _ _ _, fun _ => rfl⟩
theorem OwnM.lt {w : World} {b n : Nat} {m : Int → Int} (h : OwnM w b n m) : b < w.heap.size := by
 obtain ⟨D, -, h, -⟩ := h
 exact h.lt
theorem OwnM.below {w w' : World} {b n base : Nat} {m : Int → Int} (h : OwnM w b n m) (hb : Below base w w') (hlt : b < base) : OwnM w' b n m := by
 obtain ⟨D, h0, ⟨es, clock, he, h2⟩, h1⟩ := h
 exact ⟨D, h0, ⟨es, clock, (hb.block b hlt).trans he, h2⟩, h1⟩
theorem OwnM.look {w : World} {b n : Nat} {m : Int → Int} (h : OwnM w b n m) (x : Int) (hx : (Lit.int .i64 x).wf = true) : (Instr.lookup 109 (.map (some b)) (.int .i64 x) false).run Tryz.prog w = .ok (.int .i64 (m x)) w := by
 obtain ⟨D, -, h, h1⟩ := h
 obtain ⟨c, hrun, hat, -⟩ := h.lookup_int lawI Tryz.underlying109 Tryz.underlying3 (zeroI w) (keyOf_int_mk Tryz.underlying3 hx)
 rw [h1 x] at hat
 cases hat
 exact hrun
theorem wpList_set_ownM (w : World) {ops : Array Oper} {rest : List Oper} {o : Oper} {a : Act} {Q : Exit → Act → World → Prop}
  (hg : o.guard = none) (m x v : Operand) (hop : o.op = Op.mapUpdate 109 m x v) (b n : Nat) (f : Int → Int) (hm : a.eval m = .map (some b)) (h : OwnM w b n f) (hn : n < maxLen)
  (key val : Int) (hx : a.eval x = .int .i64 key) (hv : a.eval v = .int .i64 val) (hk : (Lit.int .i64 key).wf = true) (hvl : (Lit.int .i64 val).wf = true)
  (hK : ∀ w', OwnM w' b (n + 1) (fun y => if y = key then val else f y) → w.grownBy w' (some b) → wpList Tryz.prog ops Q rest (a.put o.dst undef) w') : wpList Tryz.prog ops Q (o :: rest) a w := by
 obtain ⟨D, h0, h, h1⟩ := h
 refine wpList_mapUpdate_own w hg m x v _ hop _ _ lawI Tryz.underlying109 _ b n D hm h hn _ _ _ hx hv (keyOf_int_mk Tryz.underlying3 hk) _ [] (plainElem_int Tryz.underlying3 hvl) fun w' r1 r2 => hK w' ⟨_, h0.put _ _, r1, fun y => ?_⟩ r2
 by_cases e : y = key
 ·subst e
  simp only [if_true]
  exact atKey_put_same h0 (by trivial) _ _
 ·simp only [if_neg e]
  rw [atKey_put_other (fun he => e (by injection he))]
  exact h1 y
end Go.Proofs.YthkoaecafmhlcaaGreat
