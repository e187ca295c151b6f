
/- Parts IvP IvM IvN IvA IvB IvC IvO IsO of the proof, joined. -/
import Derived.Below
import Derived.Calls
import Derived.Laws.World
import Derived.Deep.Draws
import Derived.Test.YtlmcoollkmhanaaProg
import Derived.WalkKit
import Derived.WalkSpells
import Derived.WalkLawsBesides
import Derived.Deep.QuietTactic
import Derived.BigQuiet
import Derived.BigRegion
import Derived.Deep.AppendLies
import Derived.Deep.Onto
import Derived.WalkSmall
/- Plain mathematics of lists of intervals: no program in sight. -/
namespace Go.Proofs.Ytlmcoollkmhanaa
open Go.RowKit

abbrev Iv := Int × Int
def validB (lo hi : Int) : Bool := decide (0 ≤ lo ∧ lo ≤ hi ∧ hi ≤ 3000000000000000)
def mx (a b : Int) : Int := if b > a then b else a
def mn (a b : Int) : Int := if b < a then b else a
theorem mx_spec (a b : Int) : a ≤ mx a b ∧ b ≤ mx a b ∧ (mx a b = a ∨ mx a b = b) := by unfold mx; split <;> omega
theorem mn_spec (a b : Int) : mn a b ≤ a ∧ mn a b ≤ b ∧ (mn a b = a ∨ mn a b = b) := by unfold mn; split <;> omega
theorem validB_iff (lo hi : Int) : validB lo hi = true ↔ 0 ≤ lo ∧ lo ≤ hi ∧ hi ≤ 3000000000000000 := by simp [validB]
def ivEq (a b c d : Int) : Bool := decide (a = c ∧ b = d)
theorem hide {p : Prop} (h : p) : Hid p := h
theorem below_drewN {B : Nat} {a w : World} (h : Below B a w) (n : Nat) : Below B a (w.drewN n) := ⟨h.os, h.tape, h.output, h.size, h.block⟩
theorem old1 (w : World) (o1 : Obj) {b : Nat} (h : b < w.heap.size) (off : Nat) : (w.alloc o1).cell? ⟨b, off, none⟩ = w.cell? ⟨b, off, none⟩ ∧ (w.alloc o1).frozen? ⟨b, off, none⟩ = w.frozen? ⟨b, off, none⟩ :=
 ⟨((Below.refl w.heap.size w).alloc (Nat.le_refl _) o1).cell (p := ⟨b, off, none⟩) h, ((Below.refl w.heap.size w).alloc (Nat.le_refl _) o1).frozen (p := ⟨b, off, none⟩) h⟩
theorem bk {W w1 : World} {B : Nat} (hb : Below B W w1) (q : Nat) (hq : q < B) : (∀ o, w1.cell? ⟨q, o, none⟩ = W.cell? ⟨q, o, none⟩) ∧ (∀ o, w1.frozen? ⟨q, o, none⟩ = W.frozen? ⟨q, o, none⟩) :=
 ⟨fun o => hb.cell (p := ⟨q, o, none⟩) hq, fun o => hb.frozen (p := ⟨q, o, none⟩) hq⟩
theorem bk3 {W w1 : World} (hb : Below W.heap.size W w1) (q : Nat) (hq : q < W.heap.size) : (∀ o, w1.cell? ⟨q, o, none⟩ = W.cell? ⟨q, o, none⟩) ∧ (∀ o, w1.frozen? ⟨q, o, none⟩ = W.frozen? ⟨q, o, none⟩) ∧ q < w1.heap.size ∧ q < w1.heap.size + 1 ∧ q < w1.heap.size + 1 + 1 ∧ q < w1.heap.size + 1 + 1 + 1 ∧ q < w1.heap.size + 1 + 1 + 1 + 1 ∧ q < w1.heap.size + 1 + 1 + 1 + 1 + 1 := by
 have h := Nat.lt_of_lt_of_le hq hb.size
 exact ⟨(bk hb q hq).1, (bk hb q hq).2, h, by omega, by omega, by omega, by omega, by omega⟩
theorem ret_bool {a b : Bool} (h : a = b) : Ending.returned (.bool a) = Ending.returned (.bool b) := by rw [h]
theorem ret_int {k : IntKind} {a b : Int} (h : a = b) : Ending.returned (.int k a) = Ending.returned (.int k b) := by rw [h]
end Go.Proofs.Ytlmcoollkmhanaa
/- Plain mathematics of covers: lists of intervals that rise and are apart are known by their times; the reference's sweep. -/
namespace Go.Proofs.Ytlmcoollkmhanaa
open Go.RowKit

theorem nodup_sub_length : ∀ (d e : List Int), d.Nodup → (∀ x, x ∈ d → x ∈ e) → d.length ≤ e.length
 | [], _, _, _ => Nat.zero_le _
 | x :: d, e, hd, hs => by
  have hx : x ∈ e := hs x List.mem_cons_self
  have hd' := List.nodup_cons.1 hd
  have h1 := nodup_sub_length d (e.erase x) hd'.2 fun y hy => (List.mem_erase_of_ne (fun h => hd'.1 (by rw [← h]; exact hy))).2 (hs y (List.mem_cons_of_mem _ hy))
  have h2 := List.length_erase_of_mem hx
  have h3 : 0 < e.length := List.length_pos_of_mem hx
  simp only [List.length_cons]; omega
end Go.Proofs.Ytlmcoollkmhanaa
/- Plain mathematics of the sweep: the edges of intervals, joined by time, and what the cover's loop has when some of them have come. -/
namespace Go.Proofs.Ytlmcoollkmhanaa
open Go.RowKit

abbrev Ed := Int × Int
section
variable {need : Int} {pre : List Ed} {c : List Iv} {e : Ed}
end
def swStep (need : Int) (s : Int × List Iv) (e : Ed) : Int × List Iv :=
 (s.1 + e.2, if need ≤ s.1 + e.2 ∧ ¬ need ≤ s.1 then s.2 ++ [(e.1, 0)] else if need ≤ s.1 ∧ ¬ need ≤ s.1 + e.2 then s.2.dropLast ++ [((s.2.getLastD (0, 0)).1, e.1 - 1)] else s.2)
def sweep (need : Int) (pre : List Ed) : Int × List Iv := pre.foldl (swStep need) (0, [])
end Go.Proofs.Ytlmcoollkmhanaa
/- The small functions of package interval and of its reference: what each call returns. -/
namespace Go.Proofs.Ytlmcoollkmhanaa
open Go.RowKit
theorem run_max_mx {P : Program} {w : World} (ts : Array TypeId) (t : TypeId) (k k' : IntKind) (x y : Int) : (Builtin.max_ ts t #[.int k x, .int k' y]).run P w = .ok (.int k (mx x y)) w := by rw [run_max_int2]; rfl
theorem run_min_mn {P : Program} {w : World} (ts : Array TypeId) (t : TypeId) (k k' : IntKind) (x y : Int) : (Builtin.min_ ts t #[.int k x, .int k' y]).run P w = .ok (.int k (mn x y)) w := by rw [run_min_int2]; rfl
attribute [local go_sem ↓] run_max_mx run_min_mn

set_option maxRecDepth 100000 in
set_option maxHeartbeats 400000 in
theorem Valid_any (lo hi : Int) (w : World) :
  Calls Try.prog 82 #[.agg #[.int .i64 lo, .int .i64 hi]] w fun e w' => e = .returned (.bool (validB lo hi)) ∧ w' = w.alloc (.cells #[.int .i64 lo, .int .i64 hi] 105) := by
 go_enter Try.func82, Try.ntmps82
 go_wp2
 all_goals go_ret
 all_goals exact ⟨ret_bool (by unfold validB; rw [Bool.eq_iff_iff]; simp only [decide_eq_true_eq, Bool.false_eq_true, false_iff]; omega), rfl⟩
end Go.Proofs.Ytlmcoollkmhanaa
/- The functions of package interval and of its reference that go through a list: what each call returns. -/
namespace Go.Proofs.Ytlmcoollkmhanaa
open Go.RowKit
attribute [local go_sem ↓] run_max_mx run_min_mn

end Go.Proofs.Ytlmcoollkmhanaa
/- The reference's Hull, Same and after: what each call returns. -/
namespace Go.Proofs.Ytlmcoollkmhanaa
open Go.RowKit
theorem run_eql_iv (w : World) (a b c d : Int) : (binOp .eql 105 (.agg #[.int .i64 a, .int .i64 b]) (.agg #[.int .i64 c, .int .i64 d])).run Try.prog w = .ok (.bool (ivEq a b c d)) w := by
 simp [go_sem, Try.underlying105]
 by_cases h1 : a = c <;> by_cases h2 : b = d <;> simp [ivEq, h1, h2]
theorem run_neq_iv (w : World) (a b c d : Int) : (binOp .neq 105 (.agg #[.int .i64 a, .int .i64 b]) (.agg #[.int .i64 c, .int .i64 d])).run Try.prog w = .ok (.bool (!ivEq a b c d)) w := by
 simp [go_sem, Try.underlying105]
 by_cases h1 : a = c <;> by_cases h2 : b = d <;> simp [ivEq, h1, h2]
attribute [local go_sem ↓] run_max_mx run_min_mn run_eql_iv run_neq_iv
end Go.Proofs.Ytlmcoollkmhanaa
/- A row of intervals that the call owns, as a list. -/
namespace Go.Proofs.Ytlmcoollkmhanaa
open Go.RowKit

theorem cells_new (w : World) (cs : List Value) (t : TypeId) : ∀ j u, cs[j]? = some u → (w.alloc (.cells cs.toArray t)).cell? ((⟨w.heap.size, 0, none⟩ : Addr).add j) = some u := by
 intro j u hj
 have e : ((⟨w.heap.size, 0, none⟩ : Addr).add j) = ⟨w.heap.size, j, none⟩ := by
  unfold Addr.add
  split
  ·rename_i h; subst h; rfl
  ·simp
 rw [e, World.cell?_alloc_new]
 simpa using hj
theorem grown_keeps {w w' : World} {row : Option Nat} (hg : w.grownBy w' row) {b : Nat} (hb : b < w.heap.size) (hne : some b ≠ row) : (∀ o, w'.cell? ⟨b, o, none⟩ = w.cell? ⟨b, o, none⟩) ∧ (∀ o, w'.frozen? ⟨b, o, none⟩ = w.frozen? ⟨b, o, none⟩) :=
 ⟨fun o => World.cell?_of_block (a := ⟨b, o, none⟩) (hg.block b hb hne), fun o => World.frozen?_of_block (a := ⟨b, o, none⟩) (hg.block b hb hne)⟩
theorem ownsRow_val {w : World} {base e size n : Nat} {v : Value} {xs : List Value} (h : w.ownsRow base e size v n xs) : ∃ a cap, v = .slice a n cap := by
 rcases h.2 with ⟨hv, h0⟩ | ⟨g, cap, cur, hv, _⟩
 ·exact ⟨none, 0, by rw [hv, h0]⟩
 ·exact ⟨_, cap, hv⟩
section
variable {T : TypeId}
theorem ownsRow_below {w w' : World} {base e size n : Nat} {v : Value} {xs : List Value} (h : w.ownsRow base e size v n xs) (hb : Below w.heap.size w w') : w'.ownsRow base e size v n xs := by
 refine ⟨h.1, ?_⟩
 rcases h.2 with h1 | ⟨g, cap, cur, hv, hg, hc, r⟩
 ·exact .inl h1
 ·refine .inr ⟨g, cap, cur, hv, hg, ?_, r⟩
  have hlt : g < w.heap.size := by
   rcases Nat.lt_or_ge g w.heap.size with hlt | hge
   ·exact hlt
   ·rw [Array.getElem?_eq_none hge] at hc; cases hc
  rw [hb.block g hlt]
  exact hc
end
end Go.Proofs.Ytlmcoollkmhanaa
/- A row of integers: what came in, and what the call owns. -/
namespace Go.Proofs.Ytlmcoollkmhanaa
open Go.RowKit

def iAt (l : List Int) (i : Nat) : Int := l.getD i 0
theorem iAt_lt (l : List Int) (i : Nat) (h : i < l.length) : iAt l i = l[i] := by simp [iAt, List.getD_eq_getElem?_getD, List.getElem?_eq_getElem h]
theorem iAt_mem {l : List Int} {k : Nat} (hk : k < l.length) : iAt l k ∈ l := by rw [iAt_lt l k hk]; exact List.getElem_mem hk
theorem take_snoc_is (l : List Int) (k : Nat) (h : k < l.length) : l.take (k + 1) = l.take k ++ [iAt l k] := by
 rw [List.take_succ_eq_append_getElem h, iAt_lt l k h]
theorem ints_ext {l1 l2 : List Int} (hl : l1.length = l2.length) (h : ∀ j, j < l1.length → iAt l1 j = iAt l2 j) : l1 = l2 := by
 apply List.ext_getElem hl
 intro i h1 h2
 have := h i h1
 rwa [iAt_lt _ _ h1, iAt_lt _ _ h2] at this
def IsRow (w : World) (v : Value) (l : List Int) : Prop :=
 ∃ a cap, v = .slice a l.length cap ∧ l.length ≤ cap ∧ cap ≤ 9223372036854775807 ∧ ∀ i, i < l.length → ∃ b off, a = some ⟨b, off, none⟩ ∧ b < w.heap.size ∧
  w.cell? ⟨b, off + i, none⟩ = some (.int .i64 (iAt l i))
theorem IsRow.below {w w' : World} {v : Value} {l : List Int} (h : IsRow w v l) {B : Nat} (hB : w.heap.size ≤ B) (hb : Below B w w') : IsRow w' v l := by
 obtain ⟨a, cap, rfl, h1, h2, h3⟩ := h
 refine ⟨a, cap, rfl, h1, h2, fun i hi => ?_⟩
 obtain ⟨b, off, rfl, h4, h5⟩ := h3 i hi
 exact ⟨b, off, rfl, Nat.lt_of_lt_of_le h4 hb.size, (hb.cell (p := ⟨b, off + i, none⟩) (Nat.lt_of_lt_of_le h4 hB)).trans h5⟩
theorem IsRow.at0 {w : World} {v : Value} {l : List Int} (h : IsRow w v l) (hl : 0 < l.length) : ∃ b off cap, v = .slice (some ⟨b, off, none⟩) l.length cap ∧ l.length ≤ cap ∧ cap ≤ 9223372036854775807 ∧ b < w.heap.size ∧
  w.cell? ⟨b, off, none⟩ = some (.int .i64 (iAt l 0)) ∧ ∀ i, i < l.length → w.cell? ⟨b, off + i, none⟩ = some (.int .i64 (iAt l i)) := by
 obtain ⟨a, cap, rfl, h1, h2, h3⟩ := h
 obtain ⟨b, off, rfl, h4, h5⟩ := h3 0 hl
 refine ⟨b, off, cap, rfl, h1, h2, h4, by simpa using h5, fun i hi => ?_⟩
 obtain ⟨b', off', h7, h8, h9⟩ := h3 i hi
 simp only [Option.some.injEq, Addr.mk.injEq, and_true] at h7
 obtain ⟨rfl, rfl⟩ := h7
 exact h9
theorem IsRow.nil (w : World) : IsRow w (.slice none 0 0) [] := ⟨none, 0, rfl, Nat.le_refl _, by omega, fun i hi => by simp at hi⟩
def encI (c : List Int) : List Value := c.map (Value.int .i64)
theorem encI_length (c : List Int) : (encI c).length = c.length := by simp [encI]
theorem encI_append (c d : List Int) : encI (c ++ d) = encI c ++ encI d := by simp [encI]
theorem encI_at (c : List Int) (i : Nat) (h : i < c.length) : (encI c)[i]? = some (.int .i64 (iAt c i)) := by
 simp [encI, iAt, List.getD_eq_getElem?_getD, List.getElem?_eq_getElem h]
theorem encI_one (l : List Int) : ∀ u ∈ encI l, u.oneCell' = true := by
 intro u hu
 obtain ⟨x, _, rfl⟩ := List.mem_map.1 hu
 simp [Value.oneCell']
def OwnIs (w : World) (base : Nat) (v : Value) (c : List Int) : Prop := w.ownsRow base 3 1 v c.length (encI c)
theorem OwnIs.nil (w : World) (base : Nat) : OwnIs w base (.slice none 0 0) [] := World.ownsRow_nil _ _ _ _
theorem OwnIs.val {w : World} {base : Nat} {v : Value} {c : List Int} (h : OwnIs w base v c) : ∃ a cap, v = .slice a c.length cap ∧ c.length ≤ cap ∧ cap ≤ 9223372036854775807 := by
 rcases h.2 with ⟨hv, h0⟩ | ⟨g, cap, cur, hv, hg, hc, hn, hm, _⟩
 ·exact ⟨none, 0, by rw [hv, h0], by omega, by omega⟩
 ·exact ⟨_, cap, hv, hn, hm⟩
theorem OwnIs.row {w : World} {base : Nat} {v : Value} {c : List Int} (h : OwnIs w base v c) : IsRow w v c := by
 rcases Nat.eq_zero_or_pos c.length with h0 | h0
 ·have hc : c = [] := List.eq_nil_of_length_eq_zero h0
  subst hc
  rcases h.2 with ⟨hv, _⟩ | ⟨g, cap, cur, hv, hg, hc, hn, hm, _⟩
  ·exact ⟨none, 0, hv, Nat.le_refl _, by omega, fun i hi => by simp at hi⟩
  ·exact ⟨_, cap, hv, hn, hm, fun i hi => by simp at hi⟩
 ·obtain ⟨g, cap, rfl, hb, hlt⟩ := World.ownsRow.form h h0
  have hcap : c.length ≤ cap ∧ cap ≤ maxLen := by
   rcases h.2 with ⟨hv, _⟩ | ⟨g', cap', cur, hv, hg, hc, hn, hm, _⟩
   ·simp at hv
   ·simp only [Value.slice.injEq] at hv; obtain ⟨-, -, rfl⟩ := hv; exact ⟨hn, hm⟩
  refine ⟨_, cap, rfl, hcap.1, hcap.2, fun i hi => ⟨g, 0, rfl, hlt, ?_⟩⟩
  rw [Nat.zero_add]; exact (World.ownsRow.cellAt h i (by omega)).trans (encI_at c i hi)
theorem OwnIs.app {w : World} {base : Nat} {v : Value} {c : List Int} {a : Int} (h : w.ownsRow base 3 1 v (c.length + 1) (encI c ++ [.int .i64 a])) : OwnIs w base v (c ++ [a]) := by
 unfold OwnIs
 rw [encI_append, show (c ++ [a]).length = c.length + 1 by simp]
 exact h
theorem isrow_lit (w : World) (c : List Int) (t : TypeId) (hc : c.length ≤ 9223372036854775807) : IsRow (w.alloc (.cells (encI c).toArray t)) (.slice (some ⟨w.heap.size, 0, none⟩) c.length c.length) c := by
 refine ⟨_, c.length, rfl, Nat.le_refl _, hc, fun i hi => ⟨w.heap.size, 0, rfl, by simp, ?_⟩⟩
 rw [Nat.zero_add, World.cell?_alloc_new]
 simpa using encI_at c i hi
theorem infoInt : (Try.prog.info? 3).map (fun i => (i.zero, i.size, i.bytes)) = some (some (.int .i64 0), 1, 8) := by kernel_rfl
end Go.Proofs.Ytlmcoollkmhanaa
