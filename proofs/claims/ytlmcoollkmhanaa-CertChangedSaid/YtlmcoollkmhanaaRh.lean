
/- A loop over an iterator that turns blocks of its own and vouches something of what it hands in; also within a round of another loop. No program in sight. -/
import Derived.Test.YtlmcoollkmhanaaRf
namespace Go.Proofs.Ytlmcoollkmhanaa
open Go Go.RowKit
variable {F : Fence} {n : Nat} {P : Program} {α : Type}

def SeqHG (F : Fence) (n : Nat) (P : Program) (g : Nat) (lb : Array Value) (encs : α → Array Value) (G : (Nat → Prop) → α → World → Prop) (S : List α → Prop) (N : Nat) (K0 H0 : Nat → Prop) (w : World) : Prop :=
 ∀ (l : Nat) (J : (Nat → Prop) → List α → World → Prop) (W : World), Below w.heap.size w W → AbidesH W.heap.size J →
  (∀ H pre x W1, J H pre W1 → G H x W1 → pre.length < N → YieldAt F (n - 1) P l (encs x) W1 fun e W' => e = .returned (.bool true) ∧ J H (pre ++ [x]) W' ∧ KeepH (fun r => H r ∨ K0 r) W1 W') →
  J H0 [] W →
  CallsIn F n P g (#[.func (.yield l) #[] #[]] ++ lb) W fun e W' => (∃ v, e = .returned v) ∧ ∃ H xs, S xs ∧ J H xs W'
theorem SeqHG.inRound {g : Nat} {lb : Array Value} {encs : α → Array Value} {G : (Nat → Prop) → α → World → Prop} {S : List α → Prop} {N : Nat} {K0 H0 : Nat → Prop} {w : World} (l : Nat) (h : SeqHG F n P g lb encs G S N K0 H0 w) : SeqHG (F.inRound l) n P g lb encs G S N K0 H0 w := h

theorem wpIn_rangeFunc_hg {g : Operand} {ps : Array Tmp} {assign body : Code} {Q : Exit → Act → World → Prop} {a : Act} {w : World}
  (hro : F.round = none) (h1 : 1 ≤ n) {gf : Nat} {lb : Array Value} (hg : a.eval g = .func (.func gf) #[] lb) (hFg : F.fn gf) (eg : ∀ args w, (callFunc gf args).run P w = .ok (.enter gf args) w)
  {encs : α → Array Value} {G : (Nat → Prop) → α → World → Prop} {S : List α → Prop} {N : Nat} {K0 H0 : Nat → Prop} {w0 : World} (hseq : SeqHG F (n - 1) P gf lb encs G S N K0 H0 w0) (hK0 : ∀ r, K0 r → r < w.heap.size) (hb0 : Below w0.heap.size w0 w) (hH0 : ∀ r, H0 r → r < w.heap.size) (hps : ∀ x, (encs x).size = ps.size)
  (I : (Nat → Prop) → List α → World → Prop) (hI : OwnH w.heap.size I) (h0 : I H0 [] w) (Ax : (Nat → Prop) → α → Act → World → Prop) (hAx : ∀ H x a', OwnFrom w.heap.size (fun (_ : Unit) W => Ax H x a' W))
  (hassign : ∀ (l : Nat) (H : Nat → Prop) (pre : List α) (x : α) (W : World) (K : Act → World → Prop), I H pre W → G H x W → (∀ r, H r → r < W.heap.size) → (∀ a' W', KeepsFrom w.heap.size W W' → KeepH (fun r => H r ∨ K0 r) W W' → I H pre W' → Ax H x a' W' → K a' W') →
   assign.wpIn (F.inRound l) (n - 1 - 1) P (Exit.then K (fun _ _ _ => False)) { tmps := (ps.zip (encs x)).foldl (fun t (p, v) => t.setIfInBounds p v) a.tmps, defers := [] } W)
  (hbody : ∀ (l : Nat) (H : Nat → Prop) (pre : List α) (x : α) (a' : Act) (W : World), w.heap.size ≤ l → (∃ r, W.heap[l]? = some (.loop r)) → (∀ r, H r → r < W.heap.size) → ¬ H l → I H pre W → Ax H x a' W → pre.length < N → body.wpIn (F.inRound l) (n - 1 - 1) P (hidPost w.heap.size K0 I H (pre ++ [x]) W) a' W)
  (hdone : ∀ (D : Nat) (H : Nat → Prop) (xs : List α) (W : World), w.heap.size ≤ D → S xs → I H xs W → W.heap[D]? = some (.deferred (some [])) → Q .normal { a with defers := { target := .collected D, args := #[] } :: a.defers } W) :
  (Code.rangeFunc g ps assign body).wpIn F n P Q a w := by
 refine wpIn_rangeFunc ?_
 intro fn hfn
 rw [hro]
 let rec' : LoopState → Option Code → Loop := fun st pe => { state := st, pending := pe, fn, tmps := a.tmps, params := ps, assign, body, defers := w.heap.size }
 obtain ⟨rc, hrc⟩ : ∃ rc, rc = rec' := ⟨_, rfl⟩
 obtain ⟨W1, hW1⟩ : ∃ W1, (w.alloc (.deferred (some []))).alloc (.loop (rc .ready none)) = W1 := ⟨_, rfl⟩
 have hz1 : W1.heap.size = w.heap.size + 2 := by rw [← hW1]; simp
 have hL1 : W1.heap[w.heap.size + 1]? = some (.loop (rc .ready none)) := by
  rw [← hW1]; have := World.alloc_heap_new (w.alloc (.deferred (some []))) (.loop (rc .ready none)); rwa [World.size_alloc] at this
 have hD1 : W1.heap[w.heap.size]? = some (.deferred (some [])) := by
  rw [← hW1]; exact (Below.heap_alloc _ _ _ (by simp)).trans (World.alloc_heap_new w _)
 have hI1 : I H0 [] W1 := by rw [← hW1]; exact hI.alloc _ (hI.alloc _ h0)
 have hb1 : Below w0.heap.size w0 W1 := by
  rw [← hW1]; exact hb0.trans ((((Below.refl _ w).alloc (Nat.le_refl _) _).alloc (by simp) _).mono hb0.size)
 refine ⟨w.heap.size + 1, [{ target := .collected w.heap.size, args := #[] }], W1, { target := .fn (.func gf) lb, args := #[.func (.yield (w.heap.size + 1)) #[] #[]] }, W1, gf,
  #[.func (.yield (w.heap.size + 1)) #[] #[]] ++ lb, W1, ?_, ?_, ?_, ?_, fun _ => h1, ?_⟩
 ·rw [← hW1, hrc]; exact run_enterLoop_outer _ _ _ _ _
 ·simp only [resolve, hg]; simp [go_sem]
 ·intro f' hf'; simp [Target.leads] at hf'; subst hf'; exact hFg
 ·simp [invoke, go_sem, eg]
 ·refine (hseq (w.heap.size + 1)
   (fun H pre W => I H pre W ∧ (∀ r, H r → r < W.heap.size) ∧ ¬ H (w.heap.size + 1) ∧ ¬ H w.heap.size ∧ W.heap[w.heap.size + 1]? = some (.loop (rc .ready none)) ∧ W.heap[w.heap.size]? = some (.deferred (some []))) W1 hb1 ?_ ?_
   ⟨hI1, fun r hr => by have := hH0 r hr; omega, fun h => by have := hH0 _ h; omega, fun h => by have := hH0 _ h; omega, hL1, hD1⟩).mono ?_
  ·intro H H' s A B row ⟨hi, hlt, hn1, hn2, hl, hd⟩ hgr hr hH'
   have hsl := (Array.getElem?_eq_some_iff.1 hl).1
   have hne : ∀ k, (k = w.heap.size + 1 ∨ k = w.heap.size) → some k ≠ row := by
    intro k hk e
    rcases hr k e.symm with h | ⟨h, _⟩
    ·rcases hk with rfl | rfl
     ·exact hn1 h
     ·exact hn2 h
    ·omega
   have hgs := hgr.size
   refine ⟨hI H H' s A B row hi hgr (fun r e => ?_) hH', fun r h => ?_, fun h => ?_, fun h => ?_, (hgr.block _ hsl (hne _ (.inl rfl))).trans hl, (hgr.block _ (by omega) (hne _ (.inr rfl))).trans hd⟩
   ·rcases hr r e with h | ⟨h, o, ho, hw⟩
    ·exact .inl h
    ·exact .inr ⟨by omega, o, ho, Obj.not_cells_of_walk hw⟩
   ·rcases hH' r h with h | h
    ·have := hlt r h; omega
    ·exact h.2
   ·rcases hH' _ h with h | h
    ·exact hn1 h
    ·omega
   ·rcases hH' _ h with h | h
    ·exact hn2 h
    ·omega
  ·rintro H pre x W ⟨hi, hlt, hn1, hn2, hl, hd⟩ hGx hlen
   have hy := run_yield (P := P) (args := encs x) hl (by rw [hrc]; exact hps x)
   rw [hrc] at hy
   refine ⟨fn, _, assign, body, hy, roundIn_of_wpIn hfn (hassign _ H pre x W _ hi hGx hlt ?_)⟩
   intro a' Wa hkf hkh hia hax
   have hla := hkf.same _ _ (by omega) hl rfl
   have hda := hkf.same _ _ (Nat.le_refl _) hd rfl
   have hsl := (Array.getElem?_eq_some_iff.1 hla).1
   have hlt2 : ∀ r, H r → r < Wa.heap.size := fun r h => Nat.lt_of_lt_of_le (hlt r h) hkh.1
   refine ⟨_, run_beginRound hla (by rw [hrc]), ?_⟩
   obtain ⟨Wb, hWb⟩ : ∃ Wb, Wb = Wa.putObj (w.heap.size + 1) (.loop { rc .ready none with state := .busy }) := ⟨_, rfl⟩
   rw [← hWb]
   have hlb : Wb.heap[w.heap.size + 1]? = some (.loop { rc .ready none with state := .busy }) := by rw [hWb]; exact World.putObj_heap_same hsl
   have hdb : Wb.heap[w.heap.size]? = some (.deferred (some [])) := by rw [hWb]; exact (World.putObj_heap_other (by omega)).trans hda
   have hnK : ¬ (H (w.heap.size + 1) ∨ K0 (w.heap.size + 1)) := by
    rintro (h | h)
    ·exact hn1 h
    ·have := hK0 _ h; omega
   have hkb : KeepH (fun r => H r ∨ K0 r) Wa Wb := by rw [hWb]; exact keepH_put hnK
   have hib : I H pre Wb := by rw [hWb]; exact hI.putObj _ hia (by omega) hla rfl
   have haxb : Ax H x a' Wb := by rw [hWb]; exact (hAx H x a').putObj (s := ()) _ hax (by omega) hla rfl
   refine wpIn_mono (hbody _ H pre x a' Wb (by omega) ⟨_, hlb⟩ (fun r h => Nat.lt_of_lt_of_le (hlt2 r h) hkb.1) hn1 hib haxb hlen) ?_
   intro e a3 W3 hp
   obtain ⟨rfl, hk3, hh3, hi3⟩ := hidPost_normal hp
   have hl3 := hk3.same _ _ (by omega) hlb rfl
   have hd3 := hk3.same _ _ (Nat.le_refl _) hdb rfl
   have hs3 := (Array.getElem?_eq_some_iff.1 hl3).1
   have hend := run_endRound (P := P) none hl3
   have hkc : KeepH (fun r => H r ∨ K0 r) W (W3.putObj (w.heap.size + 1) (.loop (rc .ready none))) := ((hkh.trans hkb).trans hh3).trans (keepH_put hnK)
   refine ⟨_, _, (by rw [hrc] at hend ⊢; exact hend), rfl, ⟨hI.putObj _ hi3 (by omega) hl3 rfl, fun r h => Nat.lt_of_lt_of_le (hlt r h) hkc.1, hn1, hn2, World.putObj_heap_same hs3, (World.putObj_heap_other (by omega)).trans hd3⟩, hkc⟩
  ·rintro e W2 ⟨⟨v, rfl⟩, H, xs, hS, hi, hlt, hn1, hn2, hl, hd⟩
   refine ⟨none, _, (by have := run_endLoop (P := P) hl (by rw [hrc]; simp [rec']); rw [hrc] at this; exact this), hdone _ H xs _ (Nat.le_refl _) hS (hI.putObj _ hi (by omega) hl rfl) ((World.putObj_heap_other (by omega)).trans hd)⟩
theorem wpIn_rangeFunc_hgN {g : Operand} {ps : Array Tmp} {assign body : Code} {Q : Exit → Act → World → Prop} {a : Act} {w : World}
  {l₀ : Nat} {r₀ : Loop} (hro : F.round = some l₀) (hl₀ : w.heap[l₀]? = some (.loop r₀)) (h1 : 1 ≤ n) {gf : Nat} {lb : Array Value} (hg : a.eval g = .func (.func gf) #[] lb) (hFg : F.fn gf) (eg : ∀ args w, (callFunc gf args).run P w = .ok (.enter gf args) w)
  {encs : α → Array Value} {G : (Nat → Prop) → α → World → Prop} {S : List α → Prop} {N : Nat} {K0 H0 : Nat → Prop} {w0 : World} (hseq : SeqHG F (n - 1) P gf lb encs G S N K0 H0 w0) (hK0 : ∀ r, K0 r → r < w.heap.size) (hb0 : Below w0.heap.size w0 w) (hH0 : ∀ r, H0 r → r < w.heap.size) (hps : ∀ x, (encs x).size = ps.size)
  (I : (Nat → Prop) → List α → World → Prop) (hI : OwnH w.heap.size I) (h0 : I H0 [] w) (Ax : (Nat → Prop) → α → Act → World → Prop) (hAx : ∀ H x a', OwnFrom w.heap.size (fun (_ : Unit) W => Ax H x a' W))
  (hassign : ∀ (l : Nat) (H : Nat → Prop) (pre : List α) (x : α) (W : World) (K : Act → World → Prop), I H pre W → G H x W → (∀ r, H r → r < W.heap.size) → (∀ a' W', KeepsFrom w.heap.size W W' → KeepH (fun r => H r ∨ K0 r) W W' → I H pre W' → Ax H x a' W' → K a' W') →
   assign.wpIn (F.inRound l) (n - 1 - 1) P (Exit.then K (fun _ _ _ => False)) { tmps := (ps.zip (encs x)).foldl (fun t (p, v) => t.setIfInBounds p v) a.tmps, defers := [] } W)
  (hbody : ∀ (l : Nat) (H : Nat → Prop) (pre : List α) (x : α) (a' : Act) (W : World), w.heap.size ≤ l → (∃ r, W.heap[l]? = some (.loop r)) → (∀ r, H r → r < W.heap.size) → ¬ H l → I H pre W → Ax H x a' W → pre.length < N → body.wpIn (F.inRound l) (n - 1 - 1) P (hidPost w.heap.size K0 I H (pre ++ [x]) W) a' W)
  (hdone : ∀ (H : Nat → Prop) (xs : List α) (W : World), S xs → I H xs W → Q .normal a W) :
  (Code.rangeFunc g ps assign body).wpIn F n P Q a w := by
 refine wpIn_rangeFunc ?_
 intro fn hfn
 rw [hro]
 let rec' : LoopState → Option Code → Loop := fun st pe => { state := st, pending := pe, fn, tmps := a.tmps, params := ps, assign, body, defers := r₀.defers }
 obtain ⟨rc, hrc⟩ : ∃ rc, rc = rec' := ⟨_, rfl⟩
 obtain ⟨W1, hW1⟩ : ∃ W1, w.alloc (.loop (rc .ready none)) = W1 := ⟨_, rfl⟩
 have hz1 : W1.heap.size = w.heap.size + 1 := by rw [← hW1]; simp
 have hL1 : W1.heap[w.heap.size]? = some (.loop (rc .ready none)) := by rw [← hW1]; exact World.alloc_heap_new w _
 have hI1 : I H0 [] W1 := by rw [← hW1]; exact hI.alloc _ h0
 have hb1 : Below w0.heap.size w0 W1 := by
  rw [← hW1]; exact hb0.trans (((Below.refl _ w).alloc (Nat.le_refl _) _).mono hb0.size)
 refine ⟨w.heap.size, [], W1, { target := .fn (.func gf) lb, args := #[.func (.yield w.heap.size) #[] #[]] }, W1, gf,
  #[.func (.yield w.heap.size) #[] #[]] ++ lb, W1, ?_, ?_, ?_, ?_, fun _ => h1, ?_⟩
 ·rw [← hW1, hrc]; exact run_enterLoop_inner hl₀ _ _ _ _ _
 ·simp only [resolve, hg]; simp [go_sem]
 ·intro f' hf'; simp [Target.leads] at hf'; subst hf'; exact hFg
 ·simp [invoke, go_sem, eg]
 ·refine (hseq w.heap.size
   (fun H pre W => I H pre W ∧ (∀ r, H r → r < W.heap.size) ∧ ¬ H w.heap.size ∧ W.heap[w.heap.size]? = some (.loop (rc .ready none))) W1 hb1 ?_ ?_
   ⟨hI1, fun r hr => by have := hH0 r hr; omega, fun h => by have := hH0 _ h; omega, hL1⟩).mono ?_
  ·intro H H' s A B row ⟨hi, hlt, hn1, hl⟩ hgr hr hH'
   have hsl := (Array.getElem?_eq_some_iff.1 hl).1
   have hne : some w.heap.size ≠ row := by
    intro e
    rcases hr _ e.symm with h | ⟨h, _⟩
    ·exact hn1 h
    ·omega
   have hgs := hgr.size
   refine ⟨hI H H' s A B row hi hgr (fun r e => ?_) hH', fun r h => ?_, fun h => ?_, (hgr.block _ hsl hne).trans hl⟩
   ·rcases hr r e with h | ⟨h, o, ho, hw⟩
    ·exact .inl h
    ·exact .inr ⟨by omega, o, ho, Obj.not_cells_of_walk hw⟩
   ·rcases hH' r h with h | h
    ·have := hlt r h; omega
    ·exact h.2
   ·rcases hH' _ h with h | h
    ·exact hn1 h
    ·omega
  ·rintro H pre x W ⟨hi, hlt, hn1, hl⟩ hGx hlen
   have hy := run_yield (P := P) (args := encs x) hl (by rw [hrc]; exact hps x)
   rw [hrc] at hy
   refine ⟨fn, _, assign, body, hy, roundIn_of_wpIn hfn (hassign _ H pre x W _ hi hGx hlt ?_)⟩
   intro a' Wa hkf hkh hia hax
   have hla := hkf.same _ _ (Nat.le_refl _) hl rfl
   have hsl := (Array.getElem?_eq_some_iff.1 hla).1
   have hlt2 : ∀ r, H r → r < Wa.heap.size := fun r h => Nat.lt_of_lt_of_le (hlt r h) hkh.1
   refine ⟨_, run_beginRound hla (by rw [hrc]), ?_⟩
   obtain ⟨Wb, hWb⟩ : ∃ Wb, Wb = Wa.putObj w.heap.size (.loop { rc .ready none with state := .busy }) := ⟨_, rfl⟩
   rw [← hWb]
   have hlb : Wb.heap[w.heap.size]? = some (.loop { rc .ready none with state := .busy }) := by rw [hWb]; exact World.putObj_heap_same hsl
   have hnK : ¬ (H w.heap.size ∨ K0 w.heap.size) := by
    rintro (h | h)
    ·exact hn1 h
    ·have := hK0 _ h; omega
   have hkb : KeepH (fun r => H r ∨ K0 r) Wa Wb := by rw [hWb]; exact keepH_put hnK
   have hib : I H pre Wb := by rw [hWb]; exact hI.putObj _ hia (Nat.le_refl _) hla rfl
   have haxb : Ax H x a' Wb := by rw [hWb]; exact (hAx H x a').putObj (s := ()) _ hax (Nat.le_refl _) hla rfl
   refine wpIn_mono (hbody _ H pre x a' Wb (Nat.le_refl _) ⟨_, hlb⟩ (fun r h => Nat.lt_of_lt_of_le (hlt2 r h) hkb.1) hn1 hib haxb hlen) ?_
   intro e a3 W3 hp
   obtain ⟨rfl, hk3, hh3, hi3⟩ := hidPost_normal hp
   have hl3 := hk3.same _ _ (Nat.le_refl _) hlb rfl
   have hs3 := (Array.getElem?_eq_some_iff.1 hl3).1
   have hend := run_endRound (P := P) none hl3
   have hkc : KeepH (fun r => H r ∨ K0 r) W (W3.putObj w.heap.size (.loop (rc .ready none))) := ((hkh.trans hkb).trans hh3).trans (keepH_put hnK)
   refine ⟨_, _, (by rw [hrc] at hend ⊢; exact hend), rfl, ⟨hI.putObj _ hi3 (Nat.le_refl _) hl3 rfl, fun r h => Nat.lt_of_lt_of_le (hlt r h) hkc.1, hn1, World.putObj_heap_same hs3⟩, hkc⟩
  ·rintro e W2 ⟨⟨v, rfl⟩, H, xs, hS, hi, hlt, hn1, hl⟩
   refine ⟨none, _, (by have := run_endLoop (P := P) hl (by rw [hrc]; simp [rec']); rw [hrc] at this; exact this), hdone H xs _ hS (hI.putObj _ hi (Nat.le_refl _) hl rfl)⟩
end Go.Proofs.Ytlmcoollkmhanaa
