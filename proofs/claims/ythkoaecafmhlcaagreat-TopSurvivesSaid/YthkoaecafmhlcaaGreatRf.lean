/- A loop over an iterator that turns blocks of its own (a captured counter, a list that it fills): the caller's invariant is told which blocks are the iterator's. No program in sight. -/
import Derived.RangeFuncNested
import Derived.RangeFuncBound
import Derived.RangeFuncCalls
import Derived.RangeFuncLeaves
import Derived.RangeFuncWrites
import Derived.OwnWalkIn
namespace Go.Proofs.YthkoaecafmhlcaaGreat
open Go Go.RowKit
variable {F : Fence} {n : Nat} {P : Program} {α : Type}

def KeepH (H : Nat → Prop) (A B : World) : Prop := A.heap.size ≤ B.heap.size ∧ ∀ q, H q → B.heap[q]? = A.heap[q]?
theorem KeepH.refl (H : Nat → Prop) (A : World) : KeepH H A A := ⟨Nat.le_refl _, fun _ _ => rfl⟩
theorem KeepH.trans {H : Nat → Prop} {A B C : World} (h : KeepH H A B) (k : KeepH H B C) : KeepH H A C := ⟨Nat.le_trans h.1 k.1, fun q h1 => (k.2 q h1).trans (h.2 q h1)⟩
theorem KeepH.cell {H : Nat → Prop} {A B : World} (h : KeepH H A B) {b : Nat} (h1 : H b) (o : Nat) : B.cell? ⟨b, o, none⟩ = A.cell? ⟨b, o, none⟩ := World.cell?_of_block (a := ⟨b, o, none⟩) (h.2 b h1)
theorem KeepH.frozen {H : Nat → Prop} {A B : World} (h : KeepH H A B) {b : Nat} (h1 : H b) (o : Nat) : B.frozen? ⟨b, o, none⟩ = A.frozen? ⟨b, o, none⟩ := World.frozen?_of_block (a := ⟨b, o, none⟩) (h.2 b h1)
theorem KeepH.grown {H : Nat → Prop} {A B : World} {row : Option Nat} (hg : A.grownBy B row) (hH : ∀ r, H r → r < A.heap.size) (hr : ∀ r, row = some r → ¬ H r) : KeepH H A B :=
 ⟨hg.size, fun q h1 => hg.block q (hH q h1) fun e => hr q e.symm h1⟩
def AbidesH {β : Type} (B : Nat) (J : (Nat → Prop) → β → World → Prop) : Prop :=
 ∀ H H' s W W' row, J H s W → W.grownBy W' row → (∀ r, row = some r → H r ∨ (B ≤ r ∧ ∃ o : Obj, W.heap[r]? = some o ∧ o.isWalk = true)) → (∀ r, H' r → H r ∨ (W.heap.size ≤ r ∧ r < W'.heap.size)) → J H' s W'
def OwnH {β : Type} (B : Nat) (I : (Nat → Prop) → β → World → Prop) : Prop :=
 ∀ H H' s W W' row, I H s W → W.grownBy W' row → (∀ r, row = some r → H r ∨ (B ≤ r ∧ ∃ o : Obj, W.heap[r]? = some o ∧ o.isCells = false)) → (∀ r, H' r → H r ∨ (W.heap.size ≤ r ∧ r < W'.heap.size)) → I H' s W'
theorem OwnH.alloc {β : Type} {B : Nat} {I : (Nat → Prop) → β → World → Prop} (h : OwnH B I) {H : Nat → Prop} {s : β} {W : World} (o : Obj) (hs : I H s W) : I H s (W.alloc o) :=
 h H H s W _ none hs (World.grownBy_alloc W o none) (fun r e => by cases e) (fun r hr => .inl hr)
theorem OwnH.putObj {β : Type} {B : Nat} {I : (Nat → Prop) → β → World → Prop} (h : OwnH B I) {H : Nat → Prop} {s : β} {W : World} {l : Nat} {o : Obj} (o' : Obj) (hs : I H s W) (hB : B ≤ l) (hl : W.heap[l]? = some o) (ho : o.isCells = false) : I H s (W.putObj l o') :=
 h H H s W _ (some l) hs (grownBy_putObj' W l o') (fun r e => by cases e; exact .inr ⟨hB, o, hl, ho⟩) (fun r hr => .inl hr)
def SeqHid (F : Fence) (n : Nat) (P : Program) (g : Nat) (lb : Array Value) (encs : α → Array Value) (S : List α → Prop) (N : Nat) (K0 H0 : Nat → Prop) (w : World) : Prop :=
 ∀ (l : Nat) (J : (Nat → Prop) → List α → World → Prop) (W : World), Below w.heap.size w W → AbidesH W.heap.size J →
  (∀ H pre x W1, J H pre W1 → pre.length < N → YieldAt F (n - 1) P l (encs x) W1 fun e W' => e = .returned (.bool true) ∧ J H (pre ++ [x]) W' ∧ KeepH (fun r => H r ∨ K0 r) W1 W') →
  J H0 [] W →
  CallsIn F n P g (#[.func (.yield l) #[] #[]] ++ lb) W fun e W' => (∃ v, e = .returned v) ∧ ∃ H xs, S xs ∧ J H xs W'
def hidPost (B : Nat) (K0 : Nat → Prop) (I : (Nat → Prop) → List α → World → Prop) (H : Nat → Prop) (xs : List α) (W : World) : Exit → Act → World → Prop
 | .normal, _, W' => KeepsFrom B W W' ∧ KeepH (fun r => H r ∨ K0 r) W W' ∧ I H xs W'
 | _, _, _ => False

theorem hidPost_normal {B : Nat} {K0 : Nat → Prop} {I : (Nat → Prop) → List α → World → Prop} {H : Nat → Prop} {xs : List α} {W : World} {e : Exit} {a : Act} {W' : World} (h : hidPost B K0 I H xs W e a W') : e = .normal ∧ KeepsFrom B W W' ∧ KeepH (fun r => H r ∨ K0 r) W W' ∧ I H xs W' := by
 cases e with
 | normal => exact ⟨rfl, h⟩
 | _ => exact h.elim

theorem keepH_put {H : Nat → Prop} {W : World} {l : Nat} {o : Obj} (h : ¬ H l) : KeepH H W (W.putObj l o) :=
 ⟨(grownBy_putObj' W l o).size, fun q hq => World.putObj_heap_other (fun e => h (by rw [← e]; exact hq))⟩

theorem wpIn_rangeFunc_hid {g : Operand} {ps : Array Tmp} {assign body : Code} {Q : Exit → Act → World → Prop} {a : Act} {w : World}
  (hro : F.round = none) (h1 : 1 ≤ n) {gf : Nat} {lb : Array Value} (hg : a.eval g = .func (.func gf) #[] lb) (hFg : F.fn gf) (eg : ∀ args w, (callFunc gf args).run P w = .ok (.enter gf args) w)
  {encs : α → Array Value} {S : List α → Prop} {N : Nat} {K0 H0 : Nat → Prop} {w0 : World} (hseq : SeqHid F (n - 1) P gf lb encs S N K0 H0 w0) (hK0 : ∀ r, K0 r → r < w.heap.size) (hb0 : Below w0.heap.size w0 w) (hH0 : ∀ r, H0 r → r < w.heap.size) (hps : ∀ x, (encs x).size = ps.size)
  (I : (Nat → Prop) → List α → World → Prop) (hI : OwnH w.heap.size I) (h0 : I H0 [] w) (Ax : α → Act → World → Prop) (hAx : ∀ x a', OwnFrom w.heap.size (fun (_ : Unit) W => Ax x a' W))
  (hassign : ∀ (l : Nat) (H : Nat → Prop) (pre : List α) (x : α) (W : World) (K : Act → World → Prop), I H pre W → (∀ r, H r → r < W.heap.size) → (∀ a' W', KeepsFrom w.heap.size W W' → KeepH (fun r => H r ∨ K0 r) W W' → I H pre W' → Ax x a' W' → K a' W') →
   assign.wpIn (F.inRound l) (n - 1 - 1) P (Exit.then K (fun _ _ _ => False)) { tmps := (ps.zip (encs x)).foldl (fun t (p, v) => t.setIfInBounds p v) a.tmps, defers := [] } W)
  (hbody : ∀ (l : Nat) (H : Nat → Prop) (pre : List α) (x : α) (a' : Act) (W : World), w.heap.size ≤ l → (∃ r, W.heap[l]? = some (.loop r)) → (∀ r, H r → r < W.heap.size) → ¬ H l → I H pre W → Ax x a' W → pre.length < N → body.wpIn (F.inRound l) (n - 1 - 1) P (hidPost w.heap.size K0 I H (pre ++ [x]) W) a' W)
  (hdone : ∀ (D : Nat) (H : Nat → Prop) (xs : List α) (W : World), w.heap.size ≤ D → S xs → I H xs W → W.heap[D]? = some (.deferred (some [])) → Q .normal { a with defers := { target := .collected D, args := #[] } :: a.defers } W) :
  (Code.rangeFunc g ps assign body).wpIn F n P Q a w := by
 refine wpIn_rangeFunc ?_
 intro fn hfn
 rw [hro]
 let rec' : LoopState → Option Code → Loop := fun st pe => { state := st, pending := pe, fn, tmps := a.tmps, params := ps, assign, body, defers := w.heap.size }
 obtain ⟨rc, hrc⟩ : ∃ rc, rc = rec' := ⟨_, rfl⟩
 obtain ⟨W1, hW1⟩ : ∃ W1, (w.alloc (.deferred (some []))).alloc (.loop (rc .ready none)) = W1 := ⟨_, rfl⟩
 have hz1 : W1.heap.size = w.heap.size + 2 := by rw [← hW1]; simp
 have hL1 : W1.heap[w.heap.size + 1]? = some (.loop (rc .ready none)) := by
  rw [← hW1]; have := World.alloc_heap_new (w.alloc (.deferred (some []))) (.loop (rc .ready none)); rwa [World.size_alloc] at this
 have hD1 : W1.heap[w.heap.size]? = some (.deferred (some [])) := by
  rw [← hW1]; exact (Below.heap_alloc _ _ _ (by simp)).trans (World.alloc_heap_new w _)
 have hI1 : I H0 [] W1 := by rw [← hW1]; exact hI.alloc _ (hI.alloc _ h0)
 have hb1 : Below w0.heap.size w0 W1 := by
  rw [← hW1]; exact hb0.trans ((((Below.refl _ w).alloc (Nat.le_refl _) _).alloc (by simp) _).mono hb0.size)
 refine ⟨w.heap.size + 1, [{ target := .collected w.heap.size, args := #[] }], W1, { target := .fn (.func gf) lb, args := #[.func (.yield (w.heap.size + 1)) #[] #[]] }, W1, gf,
  #[.func (.yield (w.heap.size + 1)) #[] #[]] ++ lb, W1, ?_, ?_, ?_, ?_, fun _ => h1, ?_⟩
 ·rw [← hW1, hrc]; exact run_enterLoop_outer _ _ _ _ _
 ·simp only [resolve, hg]; simp [go_sem]
 ·intro f' hf'; simp [Target.leads] at hf'; subst hf'; exact hFg
 ·simp [invoke, go_sem, eg]
 ·refine (hseq (w.heap.size + 1)
   (fun H pre W => I H pre W ∧ (∀ r, H r → r < W.heap.size) ∧ ¬ H (w.heap.size + 1) ∧ ¬ H w.heap.size ∧ W.heap[w.heap.size + 1]? = some (.loop (rc .ready none)) ∧ W.heap[w.heap.size]? = some (.deferred (some []))) W1 hb1 ?_ ?_
   ⟨hI1, fun r hr => by have := hH0 r hr; omega, fun h => by have := hH0 _ h; omega, fun h => by have := hH0 _ h; omega, hL1, hD1⟩).mono ?_
  ·intro H H' s A B row ⟨hi, hlt, hn1, hn2, hl, hd⟩ hgr hr hH'
   have hsl := (Array.getElem?_eq_some_iff.1 hl).1
   have hne : ∀ k, (k = w.heap.size + 1 ∨ k = w.heap.size) → some k ≠ row := by
    intro k hk e
    rcases hr k e.symm with h | ⟨h, _⟩
    ·rcases hk with rfl | rfl
     ·exact hn1 h
     ·exact hn2 h
    ·omega
   have hgs := hgr.size
   refine ⟨hI H H' s A B row hi hgr (fun r e => ?_) hH', fun r h => ?_, fun h => ?_, fun h => ?_, (hgr.block _ hsl (hne _ (.inl rfl))).trans hl, (hgr.block _ (by omega) (hne _ (.inr rfl))).trans hd⟩
   ·rcases hr r e with h | ⟨h, o, ho, hw⟩
    ·exact .inl h
    ·exact .inr ⟨by omega, o, ho, Obj.not_cells_of_walk hw⟩
   ·rcases hH' r h with h | h
    ·have := hlt r h; omega
    ·exact h.2
   ·rcases hH' _ h with h | h
    ·exact hn1 h
    ·omega
   ·rcases hH' _ h with h | h
    ·exact hn2 h
    ·omega
  ·rintro H pre x W ⟨hi, hlt, hn1, hn2, hl, hd⟩ hlen
   have hy := run_yield (P := P) (args := encs x) hl (by rw [hrc]; exact hps x)
   rw [hrc] at hy
   refine ⟨fn, _, assign, body, hy, roundIn_of_wpIn hfn (hassign _ H pre x W _ hi hlt ?_)⟩
   intro a' Wa hkf hkh hia hax
   have hla := hkf.same _ _ (by omega) hl rfl
   have hda := hkf.same _ _ (Nat.le_refl _) hd rfl
   have hsl := (Array.getElem?_eq_some_iff.1 hla).1
   have hlt2 : ∀ r, H r → r < Wa.heap.size := fun r h => Nat.lt_of_lt_of_le (hlt r h) hkh.1
   refine ⟨_, run_beginRound hla (by rw [hrc]), ?_⟩
   obtain ⟨Wb, hWb⟩ : ∃ Wb, Wb = Wa.putObj (w.heap.size + 1) (.loop { rc .ready none with state := .busy }) := ⟨_, rfl⟩
   rw [← hWb]
   have hlb : Wb.heap[w.heap.size + 1]? = some (.loop { rc .ready none with state := .busy }) := by rw [hWb]; exact World.putObj_heap_same hsl
   have hdb : Wb.heap[w.heap.size]? = some (.deferred (some [])) := by rw [hWb]; exact (World.putObj_heap_other (by omega)).trans hda
   have hnK : ¬ (H (w.heap.size + 1) ∨ K0 (w.heap.size + 1)) := by
    rintro (h | h)
    ·exact hn1 h
    ·have := hK0 _ h; omega
   have hkb : KeepH (fun r => H r ∨ K0 r) Wa Wb := by rw [hWb]; exact keepH_put hnK
   have hib : I H pre Wb := by rw [hWb]; exact hI.putObj _ hia (by omega) hla rfl
   have haxb : Ax x a' Wb := by rw [hWb]; exact (hAx x a').putObj (s := ()) _ hax (by omega) hla rfl
   refine wpIn_mono (hbody _ H pre x a' Wb (by omega) ⟨_, hlb⟩ (fun r h => Nat.lt_of_lt_of_le (hlt2 r h) hkb.1) hn1 hib haxb hlen) ?_
   intro e a3 W3 hp
   obtain ⟨rfl, hk3, hh3, hi3⟩ := hidPost_normal hp
   have hl3 := hk3.same _ _ (by omega) hlb rfl
   have hd3 := hk3.same _ _ (Nat.le_refl _) hdb rfl
   have hs3 := (Array.getElem?_eq_some_iff.1 hl3).1
   have hend := run_endRound (P := P) none hl3
   have hkc : KeepH (fun r => H r ∨ K0 r) W (W3.putObj (w.heap.size + 1) (.loop (rc .ready none))) := ((hkh.trans hkb).trans hh3).trans (keepH_put hnK)
   refine ⟨_, _, (by rw [hrc] at hend ⊢; exact hend), rfl, ⟨hI.putObj _ hi3 (by omega) hl3 rfl, fun r h => Nat.lt_of_lt_of_le (hlt r h) hkc.1, hn1, hn2, World.putObj_heap_same hs3, (World.putObj_heap_other (by omega)).trans hd3⟩, hkc⟩
  ·rintro e W2 ⟨⟨v, rfl⟩, H, xs, hS, hi, hlt, hn1, hn2, hl, hd⟩
   refine ⟨none, _, (by have := run_endLoop (P := P) hl (by rw [hrc]; simp [rec']); rw [hrc] at this; exact this), hdone _ H xs _ (Nat.le_refl _) hS (hI.putObj _ hi (by omega) hl rfl) ((World.putObj_heap_other (by omega)).trans hd)⟩
theorem append_block {w : World} {t ty : TypeId} (base : Nat) (e : TypeId) (i : TypeInfo) (z : Value) (size bytes : Nat) (ht : P.underlying t = some (.slice e)) (hi : P.info? e = some i) (hz : i.zero = some z) (hsize : i.size = size) (hby : i.bytes = bytes) (hzs : z.cells.size = size) (hsz : 0 < size) {v : Value} {k : Nat} {xs : List Value} (hown : w.ownsRow base e size v k xs)
  (ad : Addr) (m c : Nat) (news : List Value) (hl : news.length = m * size) (hnews : ∀ j u, news[j]? = some u → w.cell? (ad.add j) = some u) (h1 : ∀ u ∈ news, u.oneCell' = true) (h63 : k + m ≤ maxLen) (hbytes : (k + m) * bytes ≤ 140737488355328)
  {v' : Value} {w' : World} (hrun : (Builtin.append_ #[t, t] ty #[v, .slice (some ad) m c]).run P w = .ok v' w') : ∀ r, v'.ownBlock = some r → v.ownBlock = some r ∨ w.heap.size ≤ r := by
 subst hsize hby
 have h63' : k + m ≤ 9223372036854775807 := h63
 rcases hown.2 with ⟨rfl, rfl⟩ | ⟨g, cap, cur, rfl, hbg, hg, hnc, hcm, hcs, htake⟩
 ·by_cases hm : m = 0
  ·subst hm
   have hn : news = [] := List.eq_nil_of_length_eq_zero (by simpa using hl)
   subst hn
   have hr : (Builtin.append_ #[t, t] ty #[.slice none 0 0, .slice (some ad) 0 c]).run P w = .ok (.slice none 0 0) w := by
    simp [Builtin.append_, run_underlying ht, sizeOf, typeInfo, hi, Builtin.lenOf, Builtin.firstCells, loadCells, loadCellsFrom]
   rw [hr] at hrun
   cases hrun
   intro r hr; exact .inl hr
  ·have hr := run_append_nil (P := P) w t ty e i z ht hi hz ad m c news hl hnews (by omega) (by omega) (by have hb := hbytes; simp only [Nat.zero_add] at hb; omega)
   rw [hr] at hrun
   cases hrun
   intro r hr; simp [Value.ownBlock] at hr; omega
 ·by_cases hroom : k + m ≤ cap
  ·have hfit : k * i.size + news.length ≤ cur.size := by rw [hl, hcs, ← Nat.add_mul]; exact Nat.mul_le_mul_right _ hroom
   have hr := run_append_room (P := P) w t ty e i ht hi g k cap cur hg ad m c news hl hnews h1 hroom hfit
   rw [hr] at hrun
   cases hrun
   intro r hr; exact .inl hr
  ·have holds : ∀ j u, xs[j]? = some u → w.cell? ((⟨g, 0, none⟩ : Addr).add j) = some u := hown.cells (g := g) rfl
   have hr := run_append_grow (P := P) w t ty e i z ht hi hz ⟨g, 0, none⟩ k cap xs hown.1 holds ad m c news hl hnews (by omega) (by omega) (growslice_fits (by omega) hbytes)
   rw [hr] at hrun
   cases hrun
   intro r hr; simp [Value.ownBlock] at hr; omega
theorem wpListIn_append_new {F : Fence} {n : Nat} {P : Program} (w : World) {ops : Array Oper} {rest : List Oper} {o : Oper} {a : Act} {Q : Exit → Act → World → Prop}
  (hg : o.guard = none) (s x : Operand) (t : TypeId) (hop : o.op = Op.call { callee := Callee.builtin Builtin.append, args := #[s, x], argTypes := #[t, t] })
  (base : Nat) (e : TypeId) (i : TypeInfo) (z : Value) (size bytes : Nat) (h1 : P.underlying t = some (.slice e)) (h2 : P.info? e = some i) (h3 : i.zero = some z) (h4 : i.size = size) (h5 : i.bytes = bytes) (h6 : z.cells.size = size) (h7 : 0 < size)
  (v : Value) (k : Nat) (xs : List Value) (hs : a.eval s = v) (hown : w.ownsRow base e size v k xs) (ad : Addr) (m c : Nat) (news : List Value) (hx : a.eval x = .slice (some ad) m c) (hn : news.length = m * size)
  (hc : ∀ j u, news[j]? = some u → w.cell? (ad.add j) = some u) (h1c : ∀ u ∈ news, u.oneCell' = true) (b1 : k + m ≤ maxLen) (b2 : (k + m) * bytes ≤ 140737488355328) (b3 : base ≤ w.heap.size)
  (hK : ∀ v' w', w'.ownsRow base e size v' (k + m) (xs ++ news) → w.grownBy w' v.ownBlock → (∀ r, v'.ownBlock = some r → v.ownBlock = some r ∨ w.heap.size ≤ r) → wpListIn F n P ops Q rest (a.put o.dst v') w') :
  wpListIn F n P ops Q (o :: rest) a w := by
 refine wpListIn_plain hg fun K hK' => ?_
 obtain ⟨v', w', hrun, r1, r2, _⟩ := run_append_own (P := P) w base t o.type e i z size bytes h1 h2 h3 h4 h5 h6 h7 v k xs hown ad m c news hn hc h1c b1 b2 b3
 have hb := append_block base e i z size bytes h1 h2 h3 h4 h5 h6 h7 hown ad m c news hn hc h1c b1 b2 hrun
 unfold Oper.wpIn
 refine ⟨?_, ?_⟩
 ·simp [Oper.about, hop, resolve, Target.leads, Sem.run_pure]
 ·rw [Oper.semAt_plain F _ _ (by rw [hop]; intro c hc'; cases hc')]
  simp [execOp, hop, resolve, invoke, builtin, hs, hx, hrun, Result.andThen]
  exact hK' _ _ (hK v' w' r1 r2 hb)
end Go.Proofs.YthkoaecafmhlcaaGreat
