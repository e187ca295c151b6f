/- A loop over an iterator that hands in values of which it vouches something in the world of the yield (a row of its own): the body is left by its end alone. No program in sight. -/
import Derived.RangeFuncNested
import Derived.RangeFuncBound
import Derived.RangeFuncCalls
import Derived.RangeFuncLeaves
import Derived.RangeFuncWrites
import Derived.OwnWalkIn
namespace Go.Proofs.Ytiaahfccebmkdaa
open Go Go.RowKit
variable {F : Fence} {n : Nat} {P : Program} {α : Type}

/-- The contract of an iterator that vouches G of what it hands in, and relies on Kp. -/
def SeqGuar (F : Fence) (n : Nat) (P : Program) (g : Nat) (lb : Array Value) (encs : α → Array Value) (Kp : World → World → Prop) (G : α → World → Prop) (S : List α → Prop) (w : World) : Prop :=
  ∀ (l : Nat) (J : List α → World → Prop) (W : World), Below w.heap.size w W → AbidesFrom W.heap.size J →
    (∀ pre x W1, J pre W1 → G x W1 → YieldAt F (n - 1) P l (encs x) W1 fun e W' => e = .returned (.bool true) ∧ J (pre ++ [x]) W' ∧ Kp W1 W') →
    J [] W →
    CallsIn F n P g (#[.func (.yield l) #[] #[]] ++ lb) W fun e W' => (∃ v, e = .returned v) ∧ ∃ xs, S xs ∧ J xs W'

/-- How the body of a round is left: by its end alone. -/
def guarPost (B : Nat) (Kp : World → World → Prop) (I : List α → World → Prop) (xs : List α) (W : World) : Exit → Act → World → Prop
  | .normal, _, W' => KeepsFrom B W W' ∧ Kp W W' ∧ I xs W'
  | _, _, _ => False
theorem guarPost_normal {B : Nat} {Kp : World → World → Prop} {I : List α → World → Prop} {xs : List α} {W : World} {e : Exit} {a : Act} {W' : World} (h : guarPost B Kp I xs W e a W') : e = .normal ∧ KeepsFrom B W W' ∧ Kp W W' ∧ I xs W' := by
  cases e with
  | normal => exact ⟨rfl, h⟩
  | _ => exact h.elim

theorem wpIn_rangeFunc_guar {g : Operand} {ps : Array Tmp} {assign body : Code} {Q : Exit → Act → World → Prop} {a : Act} {w : World}
    (hro : F.round = none) (h1 : 1 ≤ n) {gf : Nat} {lb : Array Value} (hg : a.eval g = .func (.func gf) #[] lb) (hFg : F.fn gf) (eg : ∀ args w, (callFunc gf args).run P w = .ok (.enter gf args) w)
    {encs : α → Array Value} {Kp : World → World → Prop} {G : α → World → Prop} {S : List α → Prop} {w0 : World} (hseq : SeqGuar F (n - 1) P gf lb encs Kp G S w0)
    (hKt : ∀ {A B C : World}, Kp A B → Kp B C → Kp A C) (hKb : ∀ (W : World) (l : Nat) (o o' : Obj), w.heap.size ≤ l → W.heap[l]? = some o → o.isCells = false → o.isWalk = false → Kp W (W.putObj l o')) (hb0 : Below w0.heap.size w0 w) (hps : ∀ x, (encs x).size = ps.size)
    (I : List α → World → Prop) (hI : OwnFrom w.heap.size I) (h0 : I [] w) (Ax : α → Act → World → Prop) (hAx : ∀ x a', OwnFrom w.heap.size (fun (_ : Unit) W => Ax x a' W))
    (hassign : ∀ (l : Nat) (pre : List α) (x : α) (W : World) (K : Act → World → Prop), I pre W → G x W → (∀ a' W', KeepsFrom w.heap.size W W' → Kp W W' → I pre W' → Ax x a' W' → K a' W') →
      assign.wpIn (F.inRound l) (n - 1 - 1) P (Exit.then K (fun _ _ _ => False)) { tmps := (ps.zip (encs x)).foldl (fun t (p, v) => t.setIfInBounds p v) a.tmps, defers := [] } W)
    (hbody : ∀ (l : Nat) (pre : List α) (x : α) (a' : Act) (W : World), w.heap.size ≤ l → (∃ r, W.heap[l]? = some (.loop r)) → I pre W → Ax x a' W → body.wpIn (F.inRound l) (n - 1 - 1) P (guarPost w.heap.size Kp I (pre ++ [x]) W) a' W)
    (hdone : ∀ (D : Nat) (xs : List α) (W : World), w.heap.size ≤ D → S xs → I xs W → W.heap[D]? = some (.deferred (some [])) → Q .normal { a with defers := { target := .collected D, args := #[] } :: a.defers } W) :
    (Code.rangeFunc g ps assign body).wpIn F n P Q a w := by
  refine wpIn_rangeFunc ?_
  intro fn hfn
  rw [hro]
  let rec' : LoopState → Option Code → Loop := fun st pe => { state := st, pending := pe, fn, tmps := a.tmps, params := ps, assign, body, defers := w.heap.size }
  obtain ⟨rc, hrc⟩ : ∃ rc, rc = rec' := ⟨_, rfl⟩
  obtain ⟨W1, hW1⟩ : ∃ W1, (w.alloc (.deferred (some []))).alloc (.loop (rc .ready none)) = W1 := ⟨_, rfl⟩
  have hz1 : W1.heap.size = w.heap.size + 2 := by rw [← hW1]; simp
  have hL1 : W1.heap[w.heap.size + 1]? = some (.loop (rc .ready none)) := by
    rw [← hW1]; have := World.alloc_heap_new (w.alloc (.deferred (some []))) (.loop (rc .ready none)); rwa [World.size_alloc] at this
  have hD1 : W1.heap[w.heap.size]? = some (.deferred (some [])) := by
    rw [← hW1]; exact (Below.heap_alloc _ _ _ (by simp)).trans (World.alloc_heap_new w _)
  have hI1 : I [] W1 := by rw [← hW1]; exact hI.alloc _ (hI.alloc _ h0)
  have hb1 : Below w0.heap.size w0 W1 := by
    rw [← hW1]; exact hb0.trans ((((Below.refl _ w).alloc (Nat.le_refl _) _).alloc (by simp) _).mono hb0.size)
  refine ⟨w.heap.size + 1, [{ target := .collected w.heap.size, args := #[] }], W1, { target := .fn (.func gf) lb, args := #[.func (.yield (w.heap.size + 1)) #[] #[]] }, W1, gf,
    #[.func (.yield (w.heap.size + 1)) #[] #[]] ++ lb, W1, ?_, ?_, ?_, ?_, fun _ => h1, ?_⟩
  · rw [← hW1, hrc]; exact run_enterLoop_outer _ _ _ _ _
  · simp only [resolve, hg]; simp [go_sem]
  · intro f' hf'; simp [Target.leads] at hf'; subst hf'; exact hFg
  · simp [invoke, go_sem, eg]
  · refine (hseq (w.heap.size + 1) (fun pre W => I pre W ∧ W.heap[w.heap.size + 1]? = some (.loop (rc .ready none)) ∧ W.heap[w.heap.size]? = some (.deferred (some []))) W1 hb1 ?_ ?_ ⟨hI1, hL1, hD1⟩).mono ?_
    · intro s A B row ⟨hi, hl, hd⟩ hgr hr
      have hsl := (Array.getElem?_eq_some_iff.1 hl).1
      have hne : ∀ k, (k = w.heap.size + 1 ∨ k = w.heap.size) → some k ≠ row := by
        intro k hk e
        have := (hr k e.symm).1
        omega
      refine ⟨hI s A B row hi hgr (fun r e => ?_), (hgr.block _ hsl (hne _ (.inl rfl))).trans hl, (hgr.block _ (by omega) (hne _ (.inr rfl))).trans hd⟩
      obtain ⟨h, o, ho, hw⟩ := hr r e
      exact ⟨by omega, o, ho, Obj.not_cells_of_walk hw⟩
    · rintro pre x W ⟨hi, hl, hd⟩ hGx
      have hy := run_yield (P := P) (args := encs x) hl (by rw [hrc]; exact hps x)
      rw [hrc] at hy
      refine ⟨fn, _, assign, body, hy, roundIn_of_wpIn hfn (hassign _ pre x W _ hi hGx ?_)⟩
      intro a' Wa hkf hkh hia hax
      have hla := hkf.same _ _ (by omega) hl rfl
      have hda := hkf.same _ _ (Nat.le_refl _) hd rfl
      have hsl := (Array.getElem?_eq_some_iff.1 hla).1
      refine ⟨_, run_beginRound hla (by rw [hrc]), ?_⟩
      obtain ⟨Wb, hWb⟩ : ∃ Wb, Wb = Wa.putObj (w.heap.size + 1) (.loop { rc .ready none with state := .busy }) := ⟨_, rfl⟩
      rw [← hWb]
      have hlb : Wb.heap[w.heap.size + 1]? = some (.loop { rc .ready none with state := .busy }) := by rw [hWb]; exact World.putObj_heap_same hsl
      have hdb : Wb.heap[w.heap.size]? = some (.deferred (some [])) := by rw [hWb]; exact (World.putObj_heap_other (by omega)).trans hda
      have hkb : Kp Wa Wb := by rw [hWb]; exact hKb _ _ _ _ (by omega) hla rfl rfl
      have hib : I pre Wb := by rw [hWb]; exact hI.putObj _ hia (by omega) hla rfl
      have haxb : Ax x a' Wb := by rw [hWb]; exact (hAx x a').putObj (s := ()) _ hax (by omega) hla rfl
      refine wpIn_mono (hbody _ pre x a' Wb (by omega) ⟨_, hlb⟩ hib haxb) ?_
      intro e a3 W3 hp
      obtain ⟨rfl, hk3, hh3, hi3⟩ := guarPost_normal hp
      have hl3 := hk3.same _ _ (by omega) hlb rfl
      have hd3 := hk3.same _ _ (Nat.le_refl _) hdb rfl
      have hs3 := (Array.getElem?_eq_some_iff.1 hl3).1
      have hend := run_endRound (P := P) none hl3
      have hkc : Kp W (W3.putObj (w.heap.size + 1) (.loop (rc .ready none))) := hKt (hKt (hKt hkh hkb) hh3) (hKb _ _ _ _ (by omega) hl3 rfl rfl)
      refine ⟨_, _, (by rw [hrc] at hend ⊢; exact hend), rfl, ⟨hI.putObj _ hi3 (by omega) hl3 rfl, World.putObj_heap_same hs3, (World.putObj_heap_other (by omega)).trans hd3⟩, hkc⟩
    · rintro e W2 ⟨⟨v, rfl⟩, xs, hS, hi, hl, hd⟩
      refine ⟨none, _, (by have := run_endLoop (P := P) hl (by rw [hrc]; simp [rec']); rw [hrc] at this; exact this), hdone _ xs _ (Nat.le_refl _) hS (hI.putObj _ hi (by omega) hl rfl) ((World.putObj_heap_other (by omega)).trans hd)⟩

/-- All blocks of cells but two lie as they lay. -/
def KeepC (b1 b2 : Nat) (A B : World) : Prop := A.heap.size ≤ B.heap.size ∧ ∀ q o, A.heap[q]? = some o → o.isCells = true → q ≠ b1 → q ≠ b2 → B.heap[q]? = some o
theorem KeepC.refl (b1 b2 : Nat) (A : World) : KeepC b1 b2 A A := ⟨Nat.le_refl _, fun _ _ h _ _ _ => h⟩
theorem KeepC.trans {b1 b2 : Nat} {A B C : World} (h : KeepC b1 b2 A B) (k : KeepC b1 b2 B C) : KeepC b1 b2 A C := ⟨Nat.le_trans h.1 k.1, fun q o h1 h2 h3 h4 => k.2 q o (h.2 q o h1 h2 h3 h4) h2 h3 h4⟩
theorem KeepC.put {b1 b2 : Nat} {W : World} {l : Nat} {o : Obj} (o' : Obj) (hl : W.heap[l]? = some o) (hc : o.isCells = false) : KeepC b1 b2 W (W.putObj l o') :=
  ⟨(grownBy_putObj' W l o').size, fun q p hq hp _ _ => (World.putObj_heap_other (fun e => by subst e; rw [hl] at hq; cases hq; rw [hc] at hp; cases hp)).trans hq⟩
theorem KeepC.of_below {b1 b2 : Nat} {A B : World} (h : Below A.heap.size A B) : KeepC b1 b2 A B := ⟨h.size, fun q _ hq _ _ _ => (h.block q (Array.getElem?_eq_some_iff.1 hq).1).trans hq⟩
theorem KeepC.grown {b1 b2 : Nat} {A B : World} {row : Option Nat} (h : A.grownBy B row) (hr : ∀ r, row = some r → r = b1 ∨ r = b2 ∨ ∃ o : Obj, A.heap[r]? = some o ∧ o.isCells = false) : KeepC b1 b2 A B :=
  ⟨h.size, fun q o hq hc h1 h2 => (h.block q (Array.getElem?_eq_some_iff.1 hq).1 (fun e => by
    rcases hr q e.symm with h | h | ⟨p, h, h'⟩
    · exact h1 h
    · exact h2 h
    · rw [h] at hq; cases hq; rw [h'] at hc; cases hc)).trans hq⟩
theorem KeepC.set {b1 b2 : Nat} {A B : World} (h : KeepC b1 b2 A B) {p : Addr} (hp : p.block = b1 ∨ p.block = b2) (u : Value) : KeepC b1 b2 A (B.setCell p u) :=
  h.trans ⟨by simp [World.setCell], fun q o hq _ h1 h2 => (Below.heap_setCell B p u q (fun e => by rcases hp with hp | hp <;> omega)).trans hq⟩
theorem cells_of_cell {W : World} {p : Addr} {v : Value} (h : W.cell? p = some v) : ∃ o, W.heap[p.block]? = some o ∧ o.isCells = true := by
  have hlt := World.block_lt_of_cell? _ _ h
  refine ⟨W.heap[p.block], by simp [hlt], ?_⟩
  have h2 := h
  unfold World.cell? at h2
  simp only [Array.getElem?_eq_getElem hlt] at h2
  generalize W.heap[p.block] = o at *
  cases o <;> first | rfl | (simp at h2)
theorem KeepC.cell {b1 b2 : Nat} {A B : World} (h : KeepC b1 b2 A B) {b o : Nat} {v : Value} (hc : A.cell? ⟨b, o, none⟩ = some v) (h1 : b ≠ b1) (h2 : b ≠ b2) : B.cell? ⟨b, o, none⟩ = some v := by
  obtain ⟨ob, g1, g2⟩ := cells_of_cell hc
  exact (World.cell?_of_block (a := ⟨b, o, none⟩) ((h.2 b ob g1 g2 h1 h2).trans g1.symm)).trans hc
end Go.Proofs.Ytiaahfccebmkdaa
