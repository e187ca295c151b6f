
/- A loop over an iterator that turns blocks of its own (a captured counter, a list that it fills): the caller's invariant is told which blocks are the iterator's. No program in sight. -/
import Derived.RangeFuncNested
import Derived.RangeFuncBound
import Derived.RangeFuncCalls
import Derived.RangeFuncLeaves
import Derived.RangeFuncWrites
import Derived.OwnWalkIn
namespace Go.Proofs.Ytlmcoollkmhanaa
open Go Go.RowKit
variable {F : Fence} {n : Nat} {P : Program} {α : Type}

def KeepH (H : Nat → Prop) (A B : World) : Prop := A.heap.size ≤ B.heap.size ∧ ∀ q, H q → B.heap[q]? = A.heap[q]?
theorem KeepH.refl (H : Nat → Prop) (A : World) : KeepH H A A := ⟨Nat.le_refl _, fun _ _ => rfl⟩
theorem KeepH.trans {H : Nat → Prop} {A B C : World} (h : KeepH H A B) (k : KeepH H B C) : KeepH H A C := ⟨Nat.le_trans h.1 k.1, fun q h1 => (k.2 q h1).trans (h.2 q h1)⟩
theorem KeepH.cell {H : Nat → Prop} {A B : World} (h : KeepH H A B) {b : Nat} (h1 : H b) (o : Nat) : B.cell? ⟨b, o, none⟩ = A.cell? ⟨b, o, none⟩ := World.cell?_of_block (a := ⟨b, o, none⟩) (h.2 b h1)
theorem KeepH.frozen {H : Nat → Prop} {A B : World} (h : KeepH H A B) {b : Nat} (h1 : H b) (o : Nat) : B.frozen? ⟨b, o, none⟩ = A.frozen? ⟨b, o, none⟩ := World.frozen?_of_block (a := ⟨b, o, none⟩) (h.2 b h1)
def AbidesH {β : Type} (B : Nat) (J : (Nat → Prop) → β → World → Prop) : Prop :=
 ∀ H H' s W W' row, J H s W → W.grownBy W' row → (∀ r, row = some r → H r ∨ (B ≤ r ∧ ∃ o : Obj, W.heap[r]? = some o ∧ o.isWalk = true)) → (∀ r, H' r → H r ∨ (W.heap.size ≤ r ∧ r < W'.heap.size)) → J H' s W'
def OwnH {β : Type} (B : Nat) (I : (Nat → Prop) → β → World → Prop) : Prop :=
 ∀ H H' s W W' row, I H s W → W.grownBy W' row → (∀ r, row = some r → H r ∨ (B ≤ r ∧ ∃ o : Obj, W.heap[r]? = some o ∧ o.isCells = false)) → (∀ r, H' r → H r ∨ (W.heap.size ≤ r ∧ r < W'.heap.size)) → I H' s W'
theorem OwnH.alloc {β : Type} {B : Nat} {I : (Nat → Prop) → β → World → Prop} (h : OwnH B I) {H : Nat → Prop} {s : β} {W : World} (o : Obj) (hs : I H s W) : I H s (W.alloc o) :=
 h H H s W _ none hs (World.grownBy_alloc W o none) (fun r e => by cases e) (fun r hr => .inl hr)
theorem OwnH.putObj {β : Type} {B : Nat} {I : (Nat → Prop) → β → World → Prop} (h : OwnH B I) {H : Nat → Prop} {s : β} {W : World} {l : Nat} {o : Obj} (o' : Obj) (hs : I H s W) (hB : B ≤ l) (hl : W.heap[l]? = some o) (ho : o.isCells = false) : I H s (W.putObj l o') :=
 h H H s W _ (some l) hs (grownBy_putObj' W l o') (fun r e => by cases e; exact .inr ⟨hB, o, hl, ho⟩) (fun r hr => .inl hr)
def hidPost (B : Nat) (K0 : Nat → Prop) (I : (Nat → Prop) → List α → World → Prop) (H : Nat → Prop) (xs : List α) (W : World) : Exit → Act → World → Prop
 | .normal, _, W' => KeepsFrom B W W' ∧ KeepH (fun r => H r ∨ K0 r) W W' ∧ I H xs W'
 | _, _, _ => False

theorem hidPost_normal {B : Nat} {K0 : Nat → Prop} {I : (Nat → Prop) → List α → World → Prop} {H : Nat → Prop} {xs : List α} {W : World} {e : Exit} {a : Act} {W' : World} (h : hidPost B K0 I H xs W e a W') : e = .normal ∧ KeepsFrom B W W' ∧ KeepH (fun r => H r ∨ K0 r) W W' ∧ I H xs W' := by
 cases e with
 | normal => exact ⟨rfl, h⟩
 | _ => exact h.elim

theorem keepH_put {H : Nat → Prop} {W : World} {l : Nat} {o : Obj} (h : ¬ H l) : KeepH H W (W.putObj l o) :=
 ⟨(grownBy_putObj' W l o).size, fun q hq => World.putObj_heap_other (fun e => h (by rw [← e]; exact hq))⟩

theorem append_block {w : World} {t ty : TypeId} (base : Nat) (e : TypeId) (i : TypeInfo) (z : Value) (size bytes : Nat) (ht : P.underlying t = some (.slice e)) (hi : P.info? e = some i) (hz : i.zero = some z) (hsize : i.size = size) (hby : i.bytes = bytes) (hzs : z.cells.size = size) (hsz : 0 < size) {v : Value} {k : Nat} {xs : List Value} (hown : w.ownsRow base e size v k xs)
  (ad : Addr) (m c : Nat) (news : List Value) (hl : news.length = m * size) (hnews : ∀ j u, news[j]? = some u → w.cell? (ad.add j) = some u) (h1 : ∀ u ∈ news, u.oneCell' = true) (h63 : k + m ≤ maxLen) (hbytes : (k + m) * bytes ≤ 140737488355328)
  {v' : Value} {w' : World} (hrun : (Builtin.append_ #[t, t] ty #[v, .slice (some ad) m c]).run P w = .ok v' w') : ∀ r, v'.ownBlock = some r → v.ownBlock = some r ∨ w.heap.size ≤ r := by
 subst hsize hby
 have h63' : k + m ≤ 9223372036854775807 := h63
 rcases hown.2 with ⟨rfl, rfl⟩ | ⟨g, cap, cur, rfl, hbg, hg, hnc, hcm, hcs, htake⟩
 ·by_cases hm : m = 0
  ·subst hm
   have hn : news = [] := List.eq_nil_of_length_eq_zero (by simpa using hl)
   subst hn
   have hr : (Builtin.append_ #[t, t] ty #[.slice none 0 0, .slice (some ad) 0 c]).run P w = .ok (.slice none 0 0) w := by
    simp [Builtin.append_, run_underlying ht, sizeOf, typeInfo, hi, Builtin.lenOf, Builtin.firstCells, loadCells, loadCellsFrom]
   rw [hr] at hrun
   cases hrun
   intro r hr; exact .inl hr
  ·have hr := run_append_nil (P := P) w t ty e i z ht hi hz ad m c news hl hnews (by omega) (by omega) (by have hb := hbytes; simp only [Nat.zero_add] at hb; omega)
   rw [hr] at hrun
   cases hrun
   intro r hr; simp [Value.ownBlock] at hr; omega
 ·by_cases hroom : k + m ≤ cap
  ·have hfit : k * i.size + news.length ≤ cur.size := by rw [hl, hcs, ← Nat.add_mul]; exact Nat.mul_le_mul_right _ hroom
   have hr := run_append_room (P := P) w t ty e i ht hi g k cap cur hg ad m c news hl hnews h1 hroom hfit
   rw [hr] at hrun
   cases hrun
   intro r hr; exact .inl hr
  ·have holds : ∀ j u, xs[j]? = some u → w.cell? ((⟨g, 0, none⟩ : Addr).add j) = some u := hown.cells (g := g) rfl
   have hr := run_append_grow (P := P) w t ty e i z ht hi hz ⟨g, 0, none⟩ k cap xs hown.1 holds ad m c news hl hnews (by omega) (by omega) (growslice_fits (by omega) hbytes)
   rw [hr] at hrun
   cases hrun
   intro r hr; simp [Value.ownBlock] at hr; omega
theorem wpListIn_append_new {F : Fence} {n : Nat} {P : Program} (w : World) {ops : Array Oper} {rest : List Oper} {o : Oper} {a : Act} {Q : Exit → Act → World → Prop}
  (hg : o.guard = none) (s x : Operand) (t : TypeId) (hop : o.op = Op.call { callee := Callee.builtin Builtin.append, args := #[s, x], argTypes := #[t, t] })
  (base : Nat) (e : TypeId) (i : TypeInfo) (z : Value) (size bytes : Nat) (h1 : P.underlying t = some (.slice e)) (h2 : P.info? e = some i) (h3 : i.zero = some z) (h4 : i.size = size) (h5 : i.bytes = bytes) (h6 : z.cells.size = size) (h7 : 0 < size)
  (v : Value) (k : Nat) (xs : List Value) (hs : a.eval s = v) (hown : w.ownsRow base e size v k xs) (ad : Addr) (m c : Nat) (news : List Value) (hx : a.eval x = .slice (some ad) m c) (hn : news.length = m * size)
  (hc : ∀ j u, news[j]? = some u → w.cell? (ad.add j) = some u) (h1c : ∀ u ∈ news, u.oneCell' = true) (b1 : k + m ≤ maxLen) (b2 : (k + m) * bytes ≤ 140737488355328) (b3 : base ≤ w.heap.size)
  (hK : ∀ v' w', w'.ownsRow base e size v' (k + m) (xs ++ news) → w.grownBy w' v.ownBlock → (∀ r, v'.ownBlock = some r → v.ownBlock = some r ∨ w.heap.size ≤ r) → wpListIn F n P ops Q rest (a.put o.dst v') w') :
  wpListIn F n P ops Q (o :: rest) a w := by
 refine wpListIn_plain hg fun K hK' => ?_
 obtain ⟨v', w', hrun, r1, r2, _⟩ := run_append_own (P := P) w base t o.type e i z size bytes h1 h2 h3 h4 h5 h6 h7 v k xs hown ad m c news hn hc h1c b1 b2 b3
 have hb := append_block base e i z size bytes h1 h2 h3 h4 h5 h6 h7 hown ad m c news hn hc h1c b1 b2 hrun
 unfold Oper.wpIn
 refine ⟨?_, ?_⟩
 ·simp [Oper.about, hop, resolve, Target.leads, Sem.run_pure]
 ·rw [Oper.semAt_plain F _ _ (by rw [hop]; intro c hc'; cases hc')]
  simp [execOp, hop, resolve, invoke, builtin, hs, hx, hrun, Result.andThen]
  exact hK' _ _ (hK v' w' r1 r2 hb)
end Go.Proofs.Ytlmcoollkmhanaa
