/- Steps of a region that draws its order: an append to an owned row, a call of a function; rows of intervals as cells. -/
import Derived.Test.YtodkmbjhdckjiaaDoorIvO
import Derived.Deep.RegionLaw
import Derived.RangeFuncRecord
namespace Go.Proofs.YtodkmbjhdckjiaaDoor
open Go.RowKit
theorem step_append_own {P : Program} {ops : Array Oper} {o : Oper} {a : Act} {w : World} {K : Act → World → Prop} {Q : Exit → Act → World → Prop} {E : Prop}
    (hg : o.guard = none) (s x : Operand) (t : TypeId) (hop : o.op = Op.call { callee := Callee.builtin Builtin.append, args := #[s, x], argTypes := #[t, t] })
    (base : Nat) (e : TypeId) (i : TypeInfo) (z : Value) (size bytes : Nat) (h1 : P.underlying t = some (.slice e)) (h2 : P.info? e = some i) (h3 : i.zero = some z) (h4 : i.size = size) (h5 : i.bytes = bytes) (h6 : z.cells.size = size) (h7 : 0 < size)
    (v : Value) (n : Nat) (olds : List Value) (hs : a.eval s = v) (hown : w.ownsRow base e size v n olds)
    (ad : Addr) (m c : Nat) (news : List Value) (hx : a.eval x = .slice (some ad) m c) (hn : news.length = m * size) (hc : ∀ j u, news[j]? = some u → w.cell? (ad.add j) = some u) (h1c : ∀ u ∈ news, u.oneCell' = true)
    (b1 : n + m ≤ maxLen) (b2 : (n + m) * bytes ≤ 140737488355328) (b3 : base ≤ w.heap.size)
    (hK : ∀ v' w', w'.ownsRow base e size v' (n + m) (olds ++ news) → w.grownBy w' v.ownBlock → K (a.put o.dst v') w') :
    if Region.wanted o (yielded ops a.tmps) = true then Oper.wp P o a w K Q else E := by
  have hw : Region.wanted o (yielded ops a.tmps) = true := by simp [Region.wanted, hg]
  rw [if_pos hw]
  obtain ⟨v', w', hrun, r1, r2, _⟩ := run_append_own (P := P) w base t o.type e i z size bytes h1 h2 h3 h4 h5 h6 h7 v n olds hown ad m c news hn hc h1c b1 b2 b3
  unfold Oper.wp
  simp [execOp, hop, resolve, invoke, builtin, hs, hx, hrun, Result.andThen]
  exact hK v' w' r1 r2
theorem own_new0 {w : World} {base q : Nat} (T : TypeId) (hh : w.heap[q]? = some (.cells #[] T)) (h : base ≤ q) : OwnP T w base (.slice (some ⟨q, 0, none⟩) 0 0) [] :=
  ⟨rfl, .inr ⟨q, 0, #[], rfl, h, hh, Nat.le_refl _, Nat.zero_le _, rfl, rfl⟩⟩
theorem heap_d1 (W : World) (o : Obj) : ((W.alloc o).drew).heap[W.heap.size]? = some o := World.alloc_heap_new W o
theorem heap_d2 (W : World) (o o2 : Obj) : (((W.alloc o).alloc o2).drew).heap[W.heap.size]? = some o := by
  show ((W.alloc o).alloc o2).heap[W.heap.size]? = some o
  rw [Below.heap_alloc _ _ _ (by simp)]; exact World.alloc_heap_new W o
theorem heap_d3 (W : World) (o o2 : Obj) : (((W.alloc o).alloc o2).drew).heap[W.heap.size + 1]? = some o2 := by
  have h := World.alloc_heap_new (W.alloc o) o2
  rwa [World.size_alloc] at h
theorem two_cells {w : World} {B : Nat} {x y : Value} (h0 : w.cell? ⟨B, 0, none⟩ = some x) (h1 : w.cell? ⟨B, 1, none⟩ = some y) : ∀ j u, [x, y][j]? = some u → w.cell? ((⟨B, 0, none⟩ : Addr).add j) = some u := by
  intro j u hj
  match j, hj with
  | 0, hj => simp at hj; subst hj; simpa [Addr.add] using h0
  | 1, hj => simp at hj; subst hj; simpa [Addr.add] using h1
theorem encL_one (l : List Iv) : ∀ u ∈ encL l, u.oneCell' = true := by
  intro u hu
  simp only [encL, List.mem_flatMap] at hu
  obtain ⟨p, _, hu⟩ := hu
  simp at hu
  rcases hu with rfl | rfl <;> rfl
theorem ivrow_cells {w : World} {b off n cap : Nat} {l : List Iv} (h : IvRow w (.slice (some ⟨b, off, none⟩) n cap) l) : ∀ j u, (encL l)[j]? = some u → w.cell? ((⟨b, off, none⟩ : Addr).add j) = some u := by
  obtain ⟨a, cap', e, h1, h2, h3⟩ := h
  cases e
  intro j u hj
  have hjl : j < l.length * 2 := by
    rw [← encL_length]
    exact (List.getElem?_eq_some_iff.1 hj).1
  obtain ⟨b', off', e, _, h5, h6⟩ := h3 (j / 2) (by omega)
  cases e
  have h7 := encL_at l (j / 2) (by omega)
  rcases Nat.mod_two_eq_zero_or_one j with h | h
  · have e : j = j / 2 * 2 := by omega
    rw [e] at hj ⊢
    rw [h7.1] at hj
    cases hj
    simp only [Addr.add]
    split
    · rename_i h0; rw [h0] at h5; simpa using h5
    · exact h5
  · have e : j = j / 2 * 2 + 1 := by omega
    rw [e] at hj ⊢
    rw [h7.2] at hj
    cases hj
    simp only [Addr.add]
    split
    · omega
    · exact h6
theorem heap_n2 (W : World) (o o2 : Obj) : ((W.alloc o).alloc o2).heap[W.heap.size + 1]? = some o2 := by
  have h := World.alloc_heap_new (W.alloc o) o2
  rwa [World.size_alloc] at h
theorem step_call1 {P : Program} {ops : Array Oper} {o : Oper} {a : Act} {w : World} {K : Act → World → Prop} {Q : Exit → Act → World → Prop} {E : Prop}
    (hg : o.guard = none) (x : Operand) (f : FuncId) (ts : Array TypeId) (hop : o.op = Op.call { callee := Callee.value (Operand.func f), args := #[x], argTypes := ts })
    (v : Value) (hx : a.eval x = v) (eg : ∀ args w, (callFunc f args).run P w = .ok (.enter f args) w) {R : Ending → World → Prop} (hC : Calls P f #[v] w R) (hK : ∀ e w', R e w' → ∃ u, e = .returned u ∧ K (a.put o.dst u) w') :
    if Region.wanted o (yielded ops a.tmps) = true then Oper.wp P o a w K Q else E := by
  have hw : Region.wanted o (yielded ops a.tmps) = true := by simp [Region.wanted, hg]
  rw [if_pos hw]
  have hr : (execOp a.eval o).run P w = .ok (.enter f #[v]) w := by
    simp [execOp, hop, resolve, invoke, go_sem, eg]
    subst hx; cases x <;> first | rfl | simp [Act.eval]
  unfold Oper.wp
  rw [hr, Oper.upon_enter]
  refine hC.mono ?_
  intro e w' h
  obtain ⟨u, rfl, hk⟩ := hK e w' h
  exact hk
end Go.Proofs.YtodkmbjhdckjiaaDoor
