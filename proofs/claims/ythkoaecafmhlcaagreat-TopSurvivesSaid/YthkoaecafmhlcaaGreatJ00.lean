/- Parts IvP IvA IvC IvM IvO IsO App Apq Aps of the proof, joined. -/
import Derived.Below
import Derived.Calls
import Derived.Laws.World
import Derived.Deep.Draws
import Derived.Test.YthkoaecafmhlcaaGreatProg
import Derived.WalkKit
import Derived.WalkSpells
import Derived.WalkLawsBesides
import Derived.Deep.QuietTactic
import Derived.BigQuiet
import Derived.BigRegion
import Derived.Deep.AppendLies
import Derived.Deep.Onto
import Derived.WalkSmall
import Derived.Maps.AppendAt
import Derived.Deep.RegionLaw
import Derived.RangeFuncRecord
/- Plain mathematics of lists of intervals: no program in sight. -/
namespace Go.Proofs.YthkoaecafmhlcaaGreat
open Go.RowKit

def validB (lo hi : Int) : Bool := decide (0 ≤ lo ∧ lo ≤ hi ∧ hi ≤ 3000000000000000)
def mx (a b : Int) : Int := if b > a then b else a
def mn (a b : Int) : Int := if b < a then b else a
theorem mx_spec (a b : Int) : a ≤ mx a b ∧ b ≤ mx a b ∧ (mx a b = a ∨ mx a b = b) := by unfold mx; split <;> omega
theorem mn_spec (a b : Int) : mn a b ≤ a ∧ mn a b ≤ b ∧ (mn a b = a ∨ mn a b = b) := by unfold mn; split <;> omega
theorem validB_iff (lo hi : Int) : validB lo hi = true ↔ 0 ≤ lo ∧ lo ≤ hi ∧ hi ≤ 3000000000000000 := by simp [validB]
def ivEq (a b c d : Int) : Bool := decide (a = c ∧ b = d)
theorem hide {p : Prop} (h : p) : Hid p := h
theorem below_drewN {B : Nat} {a w : World} (h : Below B a w) (n : Nat) : Below B a (w.drewN n) := ⟨h.os, h.tape, h.output, h.size, h.block⟩
theorem old1 (w : World) (o1 : Obj) {b : Nat} (h : b < w.heap.size) (off : Nat) : (w.alloc o1).cell? ⟨b, off, none⟩ = w.cell? ⟨b, off, none⟩ ∧ (w.alloc o1).frozen? ⟨b, off, none⟩ = w.frozen? ⟨b, off, none⟩ :=
 ⟨((Below.refl w.heap.size w).alloc (Nat.le_refl _) o1).cell (p := ⟨b, off, none⟩) h, ((Below.refl w.heap.size w).alloc (Nat.le_refl _) o1).frozen (p := ⟨b, off, none⟩) h⟩
theorem bk {W w1 : World} {B : Nat} (hb : Below B W w1) (q : Nat) (hq : q < B) : (∀ o, w1.cell? ⟨q, o, none⟩ = W.cell? ⟨q, o, none⟩) ∧ (∀ o, w1.frozen? ⟨q, o, none⟩ = W.frozen? ⟨q, o, none⟩) :=
 ⟨fun o => hb.cell (p := ⟨q, o, none⟩) hq, fun o => hb.frozen (p := ⟨q, o, none⟩) hq⟩
theorem ret_bool {a b : Bool} (h : a = b) : Ending.returned (.bool a) = Ending.returned (.bool b) := by rw [h]
theorem ret_int {k : IntKind} {a b : Int} (h : a = b) : Ending.returned (.int k a) = Ending.returned (.int k b) := by rw [h]
end Go.Proofs.YthkoaecafmhlcaaGreat
/- The small functions of package interval and of its reference: what each call returns. -/
namespace Go.Proofs.YthkoaecafmhlcaaGreat
open Go.RowKit
theorem run_max_mx {P : Program} {w : World} (ts : Array TypeId) (t : TypeId) (k k' : IntKind) (x y : Int) : (Builtin.max_ ts t #[.int k x, .int k' y]).run P w = .ok (.int k (mx x y)) w := by rw [run_max_int2]; rfl
theorem run_min_mn {P : Program} {w : World} (ts : Array TypeId) (t : TypeId) (k k' : IntKind) (x y : Int) : (Builtin.min_ ts t #[.int k x, .int k' y]).run P w = .ok (.int k (mn x y)) w := by rw [run_min_int2]; rfl
attribute [local go_sem ↓] run_max_mx run_min_mn

set_option maxRecDepth 100000 in
set_option maxHeartbeats 400000 in
theorem Valid_any (lo hi : Int) (w : World) :
  Calls Tryz.prog 38 #[.agg #[.int .i64 lo, .int .i64 hi]] w fun e w' => e = .returned (.bool (validB lo hi)) ∧ w' = w.alloc (.cells #[.int .i64 lo, .int .i64 hi] 62) := by
 go_enter Tryz.func38, Tryz.ntmps38
 go_wp2
 all_goals go_ret
 all_goals exact ⟨ret_bool (by unfold validB; rw [Bool.eq_iff_iff]; simp only [decide_eq_true_eq, Bool.false_eq_true, false_iff]; omega), rfl⟩
end Go.Proofs.YthkoaecafmhlcaaGreat
/- The reference's Hull, Same and after: what each call returns. -/
namespace Go.Proofs.YthkoaecafmhlcaaGreat
open Go.RowKit
theorem run_eql_iv (w : World) (a b c d : Int) : (binOp .eql 62 (.agg #[.int .i64 a, .int .i64 b]) (.agg #[.int .i64 c, .int .i64 d])).run Tryz.prog w = .ok (.bool (ivEq a b c d)) w := by
 simp [go_sem, Tryz.underlying62]
 by_cases h1 : a = c <;> by_cases h2 : b = d <;> simp [ivEq, h1, h2]
theorem run_neq_iv (w : World) (a b c d : Int) : (binOp .neq 62 (.agg #[.int .i64 a, .int .i64 b]) (.agg #[.int .i64 c, .int .i64 d])).run Tryz.prog w = .ok (.bool (!ivEq a b c d)) w := by
 simp [go_sem, Tryz.underlying62]
 by_cases h1 : a = c <;> by_cases h2 : b = d <;> simp [ivEq, h1, h2]
attribute [local go_sem ↓] run_max_mx run_min_mn run_eql_iv run_neq_iv
end Go.Proofs.YthkoaecafmhlcaaGreat
/- Plain mathematics of covers: lists of intervals that rise and are apart are known by their times; the reference's sweep. -/
namespace Go.Proofs.YthkoaecafmhlcaaGreat
open Go.RowKit

end Go.Proofs.YthkoaecafmhlcaaGreat
/- A row of intervals that the call owns, as a list. -/
namespace Go.Proofs.YthkoaecafmhlcaaGreat
open Go.RowKit

theorem cells_new (w : World) (cs : List Value) (t : TypeId) : ∀ j u, cs[j]? = some u → (w.alloc (.cells cs.toArray t)).cell? ((⟨w.heap.size, 0, none⟩ : Addr).add j) = some u := by
 intro j u hj
 have e : ((⟨w.heap.size, 0, none⟩ : Addr).add j) = ⟨w.heap.size, j, none⟩ := by
  unfold Addr.add
  split
  ·rename_i h; subst h; rfl
  ·simp
 rw [e, World.cell?_alloc_new]
 simpa using hj
theorem grown_keeps {w w' : World} {row : Option Nat} (hg : w.grownBy w' row) {b : Nat} (hb : b < w.heap.size) (hne : some b ≠ row) : (∀ o, w'.cell? ⟨b, o, none⟩ = w.cell? ⟨b, o, none⟩) ∧ (∀ o, w'.frozen? ⟨b, o, none⟩ = w.frozen? ⟨b, o, none⟩) :=
 ⟨fun o => World.cell?_of_block (a := ⟨b, o, none⟩) (hg.block b hb hne), fun o => World.frozen?_of_block (a := ⟨b, o, none⟩) (hg.block b hb hne)⟩
theorem ownsRow_val {w : World} {base e size n : Nat} {v : Value} {xs : List Value} (h : w.ownsRow base e size v n xs) : ∃ a cap, v = .slice a n cap := by
 rcases h.2 with ⟨hv, h0⟩ | ⟨g, cap, cur, hv, _⟩
 ·exact ⟨none, 0, by rw [hv, h0]⟩
 ·exact ⟨_, cap, hv⟩
section
variable {T : TypeId}
theorem ownsRow_below {w w' : World} {base e size n : Nat} {v : Value} {xs : List Value} (h : w.ownsRow base e size v n xs) (hb : Below w.heap.size w w') : w'.ownsRow base e size v n xs := by
 refine ⟨h.1, ?_⟩
 rcases h.2 with h1 | ⟨g, cap, cur, hv, hg, hc, r⟩
 ·exact .inl h1
 ·refine .inr ⟨g, cap, cur, hv, hg, ?_, r⟩
  have hlt : g < w.heap.size := by
   rcases Nat.lt_or_ge g w.heap.size with hlt | hge
   ·exact hlt
   ·rw [Array.getElem?_eq_none hge] at hc; cases hc
  rw [hb.block g hlt]
  exact hc
end
end Go.Proofs.YthkoaecafmhlcaaGreat
/- A row of integers: what came in, and what the call owns. -/
namespace Go.Proofs.YthkoaecafmhlcaaGreat
open Go.RowKit

def iAt (l : List Int) (i : Nat) : Int := l.getD i 0
theorem iAt_lt (l : List Int) (i : Nat) (h : i < l.length) : iAt l i = l[i] := by simp [iAt, List.getD_eq_getElem?_getD, List.getElem?_eq_getElem h]
theorem iAt_mem {l : List Int} {k : Nat} (hk : k < l.length) : iAt l k ∈ l := by rw [iAt_lt l k hk]; exact List.getElem_mem hk
theorem take_snoc_is (l : List Int) (k : Nat) (h : k < l.length) : l.take (k + 1) = l.take k ++ [iAt l k] := by
 rw [List.take_succ_eq_append_getElem h, iAt_lt l k h]
def IsRow (w : World) (v : Value) (l : List Int) : Prop :=
 ∃ a cap, v = .slice a l.length cap ∧ l.length ≤ cap ∧ cap ≤ 9223372036854775807 ∧ ∀ i, i < l.length → ∃ b off, a = some ⟨b, off, none⟩ ∧ b < w.heap.size ∧
  w.cell? ⟨b, off + i, none⟩ = some (.int .i64 (iAt l i))
theorem IsRow.below {w w' : World} {v : Value} {l : List Int} (h : IsRow w v l) {B : Nat} (hB : w.heap.size ≤ B) (hb : Below B w w') : IsRow w' v l := by
 obtain ⟨a, cap, rfl, h1, h2, h3⟩ := h
 refine ⟨a, cap, rfl, h1, h2, fun i hi => ?_⟩
 obtain ⟨b, off, rfl, h4, h5⟩ := h3 i hi
 exact ⟨b, off, rfl, Nat.lt_of_lt_of_le h4 hb.size, (hb.cell (p := ⟨b, off + i, none⟩) (Nat.lt_of_lt_of_le h4 hB)).trans h5⟩
theorem IsRow.at0 {w : World} {v : Value} {l : List Int} (h : IsRow w v l) (hl : 0 < l.length) : ∃ b off cap, v = .slice (some ⟨b, off, none⟩) l.length cap ∧ l.length ≤ cap ∧ cap ≤ 9223372036854775807 ∧ b < w.heap.size ∧
  w.cell? ⟨b, off, none⟩ = some (.int .i64 (iAt l 0)) ∧ ∀ i, i < l.length → w.cell? ⟨b, off + i, none⟩ = some (.int .i64 (iAt l i)) := by
 obtain ⟨a, cap, rfl, h1, h2, h3⟩ := h
 obtain ⟨b, off, rfl, h4, h5⟩ := h3 0 hl
 refine ⟨b, off, cap, rfl, h1, h2, h4, by simpa using h5, fun i hi => ?_⟩
 obtain ⟨b', off', h7, h8, h9⟩ := h3 i hi
 simp only [Option.some.injEq, Addr.mk.injEq, and_true] at h7
 obtain ⟨rfl, rfl⟩ := h7
 exact h9
def encI (c : List Int) : List Value := c.map (Value.int .i64)
theorem encI_length (c : List Int) : (encI c).length = c.length := by simp [encI]
theorem encI_append (c d : List Int) : encI (c ++ d) = encI c ++ encI d := by simp [encI]
theorem encI_at (c : List Int) (i : Nat) (h : i < c.length) : (encI c)[i]? = some (.int .i64 (iAt c i)) := by
 simp [encI, iAt, List.getD_eq_getElem?_getD, List.getElem?_eq_getElem h]
theorem encI_one (l : List Int) : ∀ u ∈ encI l, u.oneCell' = true := by
 intro u hu
 obtain ⟨x, _, rfl⟩ := List.mem_map.1 hu
 simp [Value.oneCell']
def OwnIs (w : World) (base : Nat) (v : Value) (c : List Int) : Prop := w.ownsRow base 3 1 v c.length (encI c)
theorem OwnIs.nil (w : World) (base : Nat) : OwnIs w base (.slice none 0 0) [] := World.ownsRow_nil _ _ _ _
theorem OwnIs.mono {w : World} {base b2 : Nat} {v : Value} {c : List Int} (h : OwnIs w base v c) (hb : b2 ≤ base) : OwnIs w b2 v c := World.ownsRow.mono h hb
theorem OwnIs.val {w : World} {base : Nat} {v : Value} {c : List Int} (h : OwnIs w base v c) : ∃ a cap, v = .slice a c.length cap ∧ c.length ≤ cap ∧ cap ≤ 9223372036854775807 := by
 rcases h.2 with ⟨hv, h0⟩ | ⟨g, cap, cur, hv, hg, hc, hn, hm, _⟩
 ·exact ⟨none, 0, by rw [hv, h0], by omega, by omega⟩
 ·exact ⟨_, cap, hv, hn, hm⟩
theorem OwnIs.row {w : World} {base : Nat} {v : Value} {c : List Int} (h : OwnIs w base v c) : IsRow w v c := by
 rcases Nat.eq_zero_or_pos c.length with h0 | h0
 ·have hc : c = [] := List.eq_nil_of_length_eq_zero h0
  subst hc
  rcases h.2 with ⟨hv, _⟩ | ⟨g, cap, cur, hv, hg, hc, hn, hm, _⟩
  ·exact ⟨none, 0, hv, Nat.le_refl _, by omega, fun i hi => by simp at hi⟩
  ·exact ⟨_, cap, hv, hn, hm, fun i hi => by simp at hi⟩
 ·obtain ⟨g, cap, rfl, hb, hlt⟩ := World.ownsRow.form h h0
  have hcap : c.length ≤ cap ∧ cap ≤ maxLen := by
   rcases h.2 with ⟨hv, _⟩ | ⟨g', cap', cur, hv, hg, hc, hn, hm, _⟩
   ·simp at hv
   ·simp only [Value.slice.injEq] at hv; obtain ⟨-, -, rfl⟩ := hv; exact ⟨hn, hm⟩
  refine ⟨_, cap, rfl, hcap.1, hcap.2, fun i hi => ⟨g, 0, rfl, hlt, ?_⟩⟩
  rw [Nat.zero_add]; exact (World.ownsRow.cellAt h i (by omega)).trans (encI_at c i hi)
theorem OwnIs.app {w : World} {base : Nat} {v : Value} {c : List Int} {a : Int} (h : w.ownsRow base 3 1 v (c.length + 1) (encI c ++ [.int .i64 a])) : OwnIs w base v (c ++ [a]) := by
 unfold OwnIs
 rw [encI_append, show (c ++ [a]).length = c.length + 1 by simp]
 exact h
theorem infoInt : (Tryz.prog.info? 3).map (fun i => (i.zero, i.size, i.bytes)) = some (some (.int .i64 0), 1, 8) := by kernel_rfl
end Go.Proofs.YthkoaecafmhlcaaGreat
/- append of a row that came in, nil or not, to a row of the call's own. -/
namespace Go.Proofs.YthkoaecafmhlcaaGreat
open Go.RowKit
section
variable {P : Program}
theorem run_append_src0 (w : World) (base : Nat) (t ty e : TypeId) (i : TypeInfo) (size : Nat) (ht : P.underlying t = some (.slice e)) (hi : P.info? e = some i)
  (v : Value) (n : Nat) (xs : List Value) (hown : w.ownsRow base e size v n xs) (c : Nat) : (Builtin.append_ #[t, t] ty #[v, .slice none 0 c]).run P w = .ok v w := by
 rcases hown.2 with ⟨rfl, rfl⟩ | ⟨g, cap, cur, rfl, _, _, hnc, _⟩
 ·simp [Builtin.append_, run_underlying ht, sizeOf, typeInfo, hi, Builtin.lenOf, Builtin.firstCells]
 ·simp [Builtin.append_, run_underlying ht, sizeOf, typeInfo, hi, Builtin.lenOf, Builtin.firstCells, hnc, storeCells]
def SrcRow (w : World) (vx : Value) (m size : Nat) (news : List Value) : Prop :=
 ∃ A c, vx = .slice A m c ∧ news.length = m * size ∧ (A = none → m = 0) ∧ ∀ ad, A = some ad → ∀ j u, news[j]? = some u → w.cell? (ad.add j) = some u
theorem wpList_append_src {ops : Array Oper} {rest : List Oper} {o : Oper} {a : Act} {Q : Exit → Act → World → Prop} (w : World) (hgd : o.guard = none) (s x : Operand) (t : TypeId)
  (ho : o.op = .call { callee := .builtin .append, args := #[s, x], argTypes := #[t, t] })
  (base : Nat) (e : TypeId) (i : TypeInfo) (z : Value) (size bytes : Nat) (ht : P.underlying t = some (.slice e)) (hi : P.info? e = some i) (hz : i.zero = some z)
  (hsize : i.size = size) (hby : i.bytes = bytes) (hzs : z.cells.size = size) (hsz : 0 < size)
  (v : Value) (n : Nat) (xs : List Value) (hs : a.eval s = v) (hown : w.ownsRow base e size v n xs)
  (vx : Value) (m : Nat) (news : List Value) (hx : a.eval x = vx) (hr : SrcRow w vx m size news) (h1 : ∀ u ∈ news, u.oneCell' = true)
  (h63 : n + m ≤ maxLen) (hbytes : (n + m) * bytes ≤ 140737488355328) (hbase : base ≤ w.heap.size)
  (h : ∀ v' w', w'.ownsRow base e size v' (n + m) (xs ++ news) → w.grownBy w' v.ownBlock → (v'.ownBlock = v.ownBlock ∨ v'.ownBlock = some w.heap.size) → wpList P ops Q rest (a.put o.dst v') w') : wpList P ops Q (o :: rest) a w := by
 obtain ⟨A, c, rfl, hl, hA, hc⟩ := hr
 refine wpList_plain hgd fun K hK => ?_
 have key : ∃ v' w', (Builtin.append_ #[t, t] o.type #[v, .slice A m c]).run P w = .ok v' w' ∧ w'.ownsRow base e size v' (n + m) (xs ++ news) ∧ w.grownBy w' v.ownBlock ∧ (v'.ownBlock = v.ownBlock ∨ v'.ownBlock = some w.heap.size) := by
  rcases A with _ | ad
  ·obtain rfl := hA rfl
   have hn : news = [] := List.eq_nil_of_length_eq_zero (by simpa using hl)
   subst hn
   exact ⟨v, w, run_append_src0 w base t o.type e i size ht hi v n xs hown c, by simpa using hown, World.grownBy.refl w _, .inl rfl⟩
  ·obtain ⟨v', w', hrun, h2, h3, _, h5⟩ := run_append_own_at (P := P) w base t o.type e i z size bytes ht hi hz hsize hby hzs hsz v n xs hown ad m c news hl (hc ad rfl) h1 h63 hbytes hbase
   exact ⟨v', w', hrun, h2, h3, h5⟩
 obtain ⟨v', w', hrun, h2, h3, h4⟩ := key
 unfold Oper.wp execOp
 simp only [ho, resolve, invoke, builtin, Sem.run_bind, Sem.run_pure, Result.andThen_ok, List.map_toArray, List.map_cons, List.map_nil, hs, hx, hrun]
 exact hK _ _ (h v' w' h2 h3 h4)
end
theorem src_is {w : World} {v : Value} {l : List Int} (h : IsRow w v l) : SrcRow w v l.length 1 (encI l) := by
 obtain ⟨a, cap, rfl, h1, h2, h3⟩ := h
 refine ⟨a, cap, rfl, by rw [encI_length, Nat.mul_one], fun ha => ?_, fun ad had j u hj => ?_⟩
 ·rcases Nat.eq_zero_or_pos l.length with h0 | h0
  ·exact h0
  ·obtain ⟨b, off, e, _⟩ := h3 0 h0
   rw [ha] at e; cases e
 ·have hjl : j < l.length := by rw [← encI_length]; exact (List.getElem?_eq_some_iff.1 hj).1
  obtain ⟨b, off, e, _, h5⟩ := h3 j hjl
  rw [had] at e
  cases e
  rw [encI_at l j hjl] at hj
  cases hj
  rw [Go.WideShapes.add_plain]
  exact h5
end Go.Proofs.YthkoaecafmhlcaaGreat
/- Steps of a region that draws its order: an append to an owned row, a call of a function; rows of intervals as cells. -/
namespace Go.Proofs.YthkoaecafmhlcaaGreat
open Go.RowKit
theorem step_append_own {P : Program} {ops : Array Oper} {o : Oper} {a : Act} {w : World} {K : Act → World → Prop} {Q : Exit → Act → World → Prop} {E : Prop}
  (hg : o.guard = none) (s x : Operand) (t : TypeId) (hop : o.op = Op.call { callee := Callee.builtin Builtin.append, args := #[s, x], argTypes := #[t, t] })
  (base : Nat) (e : TypeId) (i : TypeInfo) (z : Value) (size bytes : Nat) (h1 : P.underlying t = some (.slice e)) (h2 : P.info? e = some i) (h3 : i.zero = some z) (h4 : i.size = size) (h5 : i.bytes = bytes) (h6 : z.cells.size = size) (h7 : 0 < size)
  (v : Value) (n : Nat) (olds : List Value) (hs : a.eval s = v) (hown : w.ownsRow base e size v n olds)
  (ad : Addr) (m c : Nat) (news : List Value) (hx : a.eval x = .slice (some ad) m c) (hn : news.length = m * size) (hc : ∀ j u, news[j]? = some u → w.cell? (ad.add j) = some u) (h1c : ∀ u ∈ news, u.oneCell' = true)
  (b1 : n + m ≤ maxLen) (b2 : (n + m) * bytes ≤ 140737488355328) (b3 : base ≤ w.heap.size)
  (hK : ∀ v' w', w'.ownsRow base e size v' (n + m) (olds ++ news) → w.grownBy w' v.ownBlock → K (a.put o.dst v') w') :
  if Region.wanted o (yielded ops a.tmps) = true then Oper.wp P o a w K Q else E := by
 have hw : Region.wanted o (yielded ops a.tmps) = true := by simp [Region.wanted, hg]
 rw [if_pos hw]
 obtain ⟨v', w', hrun, r1, r2, _⟩ := run_append_own (P := P) w base t o.type e i z size bytes h1 h2 h3 h4 h5 h6 h7 v n olds hown ad m c news hn hc h1c b1 b2 b3
 unfold Oper.wp
 simp [execOp, hop, resolve, invoke, builtin, hs, hx, hrun, Result.andThen]
 exact hK v' w' r1 r2
theorem step_call1 {P : Program} {ops : Array Oper} {o : Oper} {a : Act} {w : World} {K : Act → World → Prop} {Q : Exit → Act → World → Prop} {E : Prop}
  (hg : o.guard = none) (x : Operand) (f : FuncId) (ts : Array TypeId) (hop : o.op = Op.call { callee := Callee.value (Operand.func f), args := #[x], argTypes := ts })
  (v : Value) (hx : a.eval x = v) (eg : ∀ args w, (callFunc f args).run P w = .ok (.enter f args) w) {R : Ending → World → Prop} (hC : Calls P f #[v] w R) (hK : ∀ e w', R e w' → ∃ u, e = .returned u ∧ K (a.put o.dst u) w') :
  if Region.wanted o (yielded ops a.tmps) = true then Oper.wp P o a w K Q else E := by
 have hw : Region.wanted o (yielded ops a.tmps) = true := by simp [Region.wanted, hg]
 rw [if_pos hw]
 have hr : (execOp a.eval o).run P w = .ok (.enter f #[v]) w := by
  simp [execOp, hop, resolve, invoke, go_sem, eg]
  subst hx; cases x <;> first | rfl | simp [Act.eval]
 unfold Oper.wp
 rw [hr, Oper.upon_enter]
 refine hC.mono ?_
 intro e w' h
 obtain ⟨u, rfl, hk⟩ := hK e w' h
 exact hk
end Go.Proofs.YthkoaecafmhlcaaGreat
/- append of a row that came in, nil or not, as a step of a region that draws. -/
namespace Go.Proofs.YthkoaecafmhlcaaGreat
open Go.RowKit

theorem run_append_src {P : Program} (w : World) (base : Nat) (t ty e : TypeId) (i : TypeInfo) (z : Value) (size bytes : Nat) (ht : P.underlying t = some (.slice e)) (hi : P.info? e = some i) (hz : i.zero = some z)
  (hsize : i.size = size) (hby : i.bytes = bytes) (hzs : z.cells.size = size) (hsz : 0 < size)
  (v : Value) (n : Nat) (xs : List Value) (hown : w.ownsRow base e size v n xs) (vx : Value) (m : Nat) (news : List Value) (hr : SrcRow w vx m size news) (h1 : ∀ u ∈ news, u.oneCell' = true)
  (h63 : n + m ≤ maxLen) (hbytes : (n + m) * bytes ≤ 140737488355328) (hbase : base ≤ w.heap.size) :
  ∃ v' w', (Builtin.append_ #[t, t] ty #[v, vx]).run P w = .ok v' w' ∧ w'.ownsRow base e size v' (n + m) (xs ++ news) ∧ w.grownBy w' v.ownBlock ∧ (v'.ownBlock = v.ownBlock ∨ v'.ownBlock = some w.heap.size) := by
 obtain ⟨A, c, rfl, hl, hA, hc⟩ := hr
 rcases A with _ | ad
 ·obtain rfl := hA rfl
  have hn : news = [] := List.eq_nil_of_length_eq_zero (by simpa using hl)
  subst hn
  exact ⟨v, w, run_append_src0 w base t ty e i size ht hi v n xs hown c, by simpa using hown, World.grownBy.refl w _, .inl rfl⟩
 ·obtain ⟨v', w', hrun, h2, h3, _, h5⟩ := run_append_own_at (P := P) w base t ty e i z size bytes ht hi hz hsize hby hzs hsz v n xs hown ad m c news hl (hc ad rfl) h1 h63 hbytes hbase
  exact ⟨v', w', hrun, h2, h3, h5⟩
theorem step_append_src {P : Program} {ops : Array Oper} {o : Oper} {a : Act} {w : World} {K : Act → World → Prop} {Q : Exit → Act → World → Prop} {E : Prop}
  (hg : o.guard = none) (s x : Operand) (t : TypeId) (hop : o.op = Op.call { callee := Callee.builtin Builtin.append, args := #[s, x], argTypes := #[t, t] })
  (base : Nat) (e : TypeId) (i : TypeInfo) (z : Value) (size bytes : Nat) (h1 : P.underlying t = some (.slice e)) (h2 : P.info? e = some i) (h3 : i.zero = some z) (h4 : i.size = size) (h5 : i.bytes = bytes) (h6 : z.cells.size = size) (h7 : 0 < size)
  (v : Value) (n : Nat) (olds : List Value) (hs : a.eval s = v) (hown : w.ownsRow base e size v n olds)
  (vx : Value) (m : Nat) (news : List Value) (hx : a.eval x = vx) (hr : SrcRow w vx m size news) (h1c : ∀ u ∈ news, u.oneCell' = true)
  (b1 : n + m ≤ maxLen) (b2 : (n + m) * bytes ≤ 140737488355328) (b3 : base ≤ w.heap.size)
  (hK : ∀ v' w', w'.ownsRow base e size v' (n + m) (olds ++ news) → w.grownBy w' v.ownBlock → (v'.ownBlock = v.ownBlock ∨ v'.ownBlock = some w.heap.size) → K (a.put o.dst v') w') :
  if Region.wanted o (yielded ops a.tmps) = true then Oper.wp P o a w K Q else E := by
 have hw : Region.wanted o (yielded ops a.tmps) = true := by simp [Region.wanted, hg]
 rw [if_pos hw]
 obtain ⟨v', w', hrun, r1, r2, r3⟩ := run_append_src (P := P) w base t o.type e i z size bytes h1 h2 h3 h4 h5 h6 h7 v n olds hown vx m news hr h1c b1 b2 b3
 unfold Oper.wp
 simp [execOp, hop, resolve, invoke, builtin, hs, hx, hrun, Result.andThen]
 exact hK v' w' r1 r2 r3
end Go.Proofs.YthkoaecafmhlcaaGreat
