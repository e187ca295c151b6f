/- Parts Rg Rh Rw of the proof, joined. -/
import Derived.RangeFuncNested
import Derived.RangeFuncBound
import Derived.RangeFuncCalls
import Derived.RangeFuncLeaves
import Derived.RangeFuncWrites
import Derived.OwnWalkIn
import Derived.Test.YthkoaecafmhlcaaGreatRf
import Derived.Test.YthkoaecafmhlcaaGreatJ00
import Derived.Test.YthkoaecafmhlcaaGreatJ02
/- A loop over an iterator that hands in values of which it vouches something in the world of the yield (a row of its own): the body is left by its end alone. No program in sight. -/
namespace Go.Proofs.YthkoaecafmhlcaaGreat
open Go Go.RowKit
variable {F : Fence} {n : Nat} {P : Program} {α : Type}

theorem cells_of_cell {W : World} {p : Addr} {v : Value} (h : W.cell? p = some v) : ∃ o, W.heap[p.block]? = some o ∧ o.isCells = true := by
 have hlt := World.block_lt_of_cell? _ _ h
 refine ⟨W.heap[p.block], by simp [hlt], ?_⟩
 have h2 := h
 unfold World.cell? at h2
 simp only [Array.getElem?_eq_getElem hlt] at h2
 generalize W.heap[p.block] = o at *
 cases o <;> first | rfl | (simp at h2)
end Go.Proofs.YthkoaecafmhlcaaGreat
/- A loop over an iterator that turns blocks of its own and vouches something of what it hands in; also within a round of another loop. No program in sight. -/
namespace Go.Proofs.YthkoaecafmhlcaaGreat
open Go Go.RowKit
variable {F : Fence} {n : Nat} {P : Program} {α : Type}

def SeqHG (F : Fence) (n : Nat) (P : Program) (g : Nat) (lb : Array Value) (encs : α → Array Value) (G : (Nat → Prop) → α → World → Prop) (S : List α → Prop) (N : Nat) (K0 H0 : Nat → Prop) (w : World) : Prop :=
 ∀ (l : Nat) (J : (Nat → Prop) → List α → World → Prop) (W : World), Below w.heap.size w W → AbidesH W.heap.size J →
  (∀ H pre x W1, J H pre W1 → G H x W1 → pre.length < N → YieldAt F (n - 1) P l (encs x) W1 fun e W' => e = .returned (.bool true) ∧ J H (pre ++ [x]) W' ∧ KeepH (fun r => H r ∨ K0 r) W1 W') →
  J H0 [] W →
  CallsIn F n P g (#[.func (.yield l) #[] #[]] ++ lb) W fun e W' => (∃ v, e = .returned v) ∧ ∃ H xs, S xs ∧ J H xs W'
theorem wpIn_rangeFunc_hg {g : Operand} {ps : Array Tmp} {assign body : Code} {Q : Exit → Act → World → Prop} {a : Act} {w : World}
  (hro : F.round = none) (h1 : 1 ≤ n) {gf : Nat} {lb : Array Value} (hg : a.eval g = .func (.func gf) #[] lb) (hFg : F.fn gf) (eg : ∀ args w, (callFunc gf args).run P w = .ok (.enter gf args) w)
  {encs : α → Array Value} {G : (Nat → Prop) → α → World → Prop} {S : List α → Prop} {N : Nat} {K0 H0 : Nat → Prop} {w0 : World} (hseq : SeqHG F (n - 1) P gf lb encs G S N K0 H0 w0) (hK0 : ∀ r, K0 r → r < w.heap.size) (hb0 : Below w0.heap.size w0 w) (hH0 : ∀ r, H0 r → r < w.heap.size) (hps : ∀ x, (encs x).size = ps.size)
  (I : (Nat → Prop) → List α → World → Prop) (hI : OwnH w.heap.size I) (h0 : I H0 [] w) (Ax : (Nat → Prop) → α → Act → World → Prop) (hAx : ∀ H x a', OwnFrom w.heap.size (fun (_ : Unit) W => Ax H x a' W))
  (hassign : ∀ (l : Nat) (H : Nat → Prop) (pre : List α) (x : α) (W : World) (K : Act → World → Prop), I H pre W → G H x W → (∀ r, H r → r < W.heap.size) → (∀ a' W', KeepsFrom w.heap.size W W' → KeepH (fun r => H r ∨ K0 r) W W' → I H pre W' → Ax H x a' W' → K a' W') →
   assign.wpIn (F.inRound l) (n - 1 - 1) P (Exit.then K (fun _ _ _ => False)) { tmps := (ps.zip (encs x)).foldl (fun t (p, v) => t.setIfInBounds p v) a.tmps, defers := [] } W)
  (hbody : ∀ (l : Nat) (H : Nat → Prop) (pre : List α) (x : α) (a' : Act) (W : World), w.heap.size ≤ l → (∃ r, W.heap[l]? = some (.loop r)) → (∀ r, H r → r < W.heap.size) → ¬ H l → I H pre W → Ax H x a' W → pre.length < N → body.wpIn (F.inRound l) (n - 1 - 1) P (hidPost w.heap.size K0 I H (pre ++ [x]) W) a' W)
  (hdone : ∀ (D : Nat) (H : Nat → Prop) (xs : List α) (W : World), w.heap.size ≤ D → S xs → I H xs W → W.heap[D]? = some (.deferred (some [])) → Q .normal { a with defers := { target := .collected D, args := #[] } :: a.defers } W) :
  (Code.rangeFunc g ps assign body).wpIn F n P Q a w := by
 refine wpIn_rangeFunc ?_
 intro fn hfn
 rw [hro]
 let rec' : LoopState → Option Code → Loop := fun st pe => { state := st, pending := pe, fn, tmps := a.tmps, params := ps, assign, body, defers := w.heap.size }
 obtain ⟨rc, hrc⟩ : ∃ rc, rc = rec' := ⟨_, rfl⟩
 obtain ⟨W1, hW1⟩ : ∃ W1, (w.alloc (.deferred (some []))).alloc (.loop (rc .ready none)) = W1 := ⟨_, rfl⟩
 have hz1 : W1.heap.size = w.heap.size + 2 := by rw [← hW1]; simp
 have hL1 : W1.heap[w.heap.size + 1]? = some (.loop (rc .ready none)) := by
  rw [← hW1]; have := World.alloc_heap_new (w.alloc (.deferred (some []))) (.loop (rc .ready none)); rwa [World.size_alloc] at this
 have hD1 : W1.heap[w.heap.size]? = some (.deferred (some [])) := by
  rw [← hW1]; exact (Below.heap_alloc _ _ _ (by simp)).trans (World.alloc_heap_new w _)
 have hI1 : I H0 [] W1 := by rw [← hW1]; exact hI.alloc _ (hI.alloc _ h0)
 have hb1 : Below w0.heap.size w0 W1 := by
  rw [← hW1]; exact hb0.trans ((((Below.refl _ w).alloc (Nat.le_refl _) _).alloc (by simp) _).mono hb0.size)
 refine ⟨w.heap.size + 1, [{ target := .collected w.heap.size, args := #[] }], W1, { target := .fn (.func gf) lb, args := #[.func (.yield (w.heap.size + 1)) #[] #[]] }, W1, gf,
  #[.func (.yield (w.heap.size + 1)) #[] #[]] ++ lb, W1, ?_, ?_, ?_, ?_, fun _ => h1, ?_⟩
 ·rw [← hW1, hrc]; exact run_enterLoop_outer _ _ _ _ _
 ·simp only [resolve, hg]; simp [go_sem]
 ·intro f' hf'; simp [Target.leads] at hf'; subst hf'; exact hFg
 ·simp [invoke, go_sem, eg]
 ·refine (hseq (w.heap.size + 1)
   (fun H pre W => I H pre W ∧ (∀ r, H r → r < W.heap.size) ∧ ¬ H (w.heap.size + 1) ∧ ¬ H w.heap.size ∧ W.heap[w.heap.size + 1]? = some (.loop (rc .ready none)) ∧ W.heap[w.heap.size]? = some (.deferred (some []))) W1 hb1 ?_ ?_
   ⟨hI1, fun r hr => by have := hH0 r hr; omega, fun h => by have := hH0 _ h; omega, fun h => by have := hH0 _ h; omega, hL1, hD1⟩).mono ?_
  ·intro H H' s A B row ⟨hi, hlt, hn1, hn2, hl, hd⟩ hgr hr hH'
   have hsl := (Array.getElem?_eq_some_iff.1 hl).1
   have hne : ∀ k, (k = w.heap.size + 1 ∨ k = w.heap.size) → some k ≠ row := by
    intro k hk e
    rcases hr k e.symm with h | ⟨h, _⟩
    ·rcases hk with rfl | rfl
     ·exact hn1 h
     ·exact hn2 h
    ·omega
   have hgs := hgr.size
   refine ⟨hI H H' s A B row hi hgr (fun r e => ?_) hH', fun r h => ?_, fun h => ?_, fun h => ?_, (hgr.block _ hsl (hne _ (.inl rfl))).trans hl, (hgr.block _ (by omega) (hne _ (.inr rfl))).trans hd⟩
   ·rcases hr r e with h | ⟨h, o, ho, hw⟩
    ·exact .inl h
    ·exact .inr ⟨by omega, o, ho, Obj.not_cells_of_walk hw⟩
   ·rcases hH' r h with h | h
    ·have := hlt r h; omega
    ·exact h.2
   ·rcases hH' _ h with h | h
    ·exact hn1 h
    ·omega
   ·rcases hH' _ h with h | h
    ·exact hn2 h
    ·omega
  ·rintro H pre x W ⟨hi, hlt, hn1, hn2, hl, hd⟩ hGx hlen
   have hy := run_yield (P := P) (args := encs x) hl (by rw [hrc]; exact hps x)
   rw [hrc] at hy
   refine ⟨fn, _, assign, body, hy, roundIn_of_wpIn hfn (hassign _ H pre x W _ hi hGx hlt ?_)⟩
   intro a' Wa hkf hkh hia hax
   have hla := hkf.same _ _ (by omega) hl rfl
   have hda := hkf.same _ _ (Nat.le_refl _) hd rfl
   have hsl := (Array.getElem?_eq_some_iff.1 hla).1
   have hlt2 : ∀ r, H r → r < Wa.heap.size := fun r h => Nat.lt_of_lt_of_le (hlt r h) hkh.1
   refine ⟨_, run_beginRound hla (by rw [hrc]), ?_⟩
   obtain ⟨Wb, hWb⟩ : ∃ Wb, Wb = Wa.putObj (w.heap.size + 1) (.loop { rc .ready none with state := .busy }) := ⟨_, rfl⟩
   rw [← hWb]
   have hlb : Wb.heap[w.heap.size + 1]? = some (.loop { rc .ready none with state := .busy }) := by rw [hWb]; exact World.putObj_heap_same hsl
   have hdb : Wb.heap[w.heap.size]? = some (.deferred (some [])) := by rw [hWb]; exact (World.putObj_heap_other (by omega)).trans hda
   have hnK : ¬ (H (w.heap.size + 1) ∨ K0 (w.heap.size + 1)) := by
    rintro (h | h)
    ·exact hn1 h
    ·have := hK0 _ h; omega
   have hkb : KeepH (fun r => H r ∨ K0 r) Wa Wb := by rw [hWb]; exact keepH_put hnK
   have hib : I H pre Wb := by rw [hWb]; exact hI.putObj _ hia (by omega) hla rfl
   have haxb : Ax H x a' Wb := by rw [hWb]; exact (hAx H x a').putObj (s := ()) _ hax (by omega) hla rfl
   refine wpIn_mono (hbody _ H pre x a' Wb (by omega) ⟨_, hlb⟩ (fun r h => Nat.lt_of_lt_of_le (hlt2 r h) hkb.1) hn1 hib haxb hlen) ?_
   intro e a3 W3 hp
   obtain ⟨rfl, hk3, hh3, hi3⟩ := hidPost_normal hp
   have hl3 := hk3.same _ _ (by omega) hlb rfl
   have hd3 := hk3.same _ _ (Nat.le_refl _) hdb rfl
   have hs3 := (Array.getElem?_eq_some_iff.1 hl3).1
   have hend := run_endRound (P := P) none hl3
   have hkc : KeepH (fun r => H r ∨ K0 r) W (W3.putObj (w.heap.size + 1) (.loop (rc .ready none))) := ((hkh.trans hkb).trans hh3).trans (keepH_put hnK)
   refine ⟨_, _, (by rw [hrc] at hend ⊢; exact hend), rfl, ⟨hI.putObj _ hi3 (by omega) hl3 rfl, fun r h => Nat.lt_of_lt_of_le (hlt r h) hkc.1, hn1, hn2, World.putObj_heap_same hs3, (World.putObj_heap_other (by omega)).trans hd3⟩, hkc⟩
  ·rintro e W2 ⟨⟨v, rfl⟩, H, xs, hS, hi, hlt, hn1, hn2, hl, hd⟩
   refine ⟨none, _, (by have := run_endLoop (P := P) hl (by rw [hrc]; simp [rec']); rw [hrc] at this; exact this), hdone _ H xs _ (Nat.le_refl _) hS (hI.putObj _ hi (by omega) hl rfl) ((World.putObj_heap_other (by omega)).trans hd)⟩
end Go.Proofs.YthkoaecafmhlcaaGreat
/- Rws of elements of several cells each: a row that came in, a row that a call makes; opening of slices and structures cell by cell. -/
namespace Go.Proofs.YthkoaecafmhlcaaGreat
open Go.RowKit

section
variable {α : Type} {en : α → List Value} {C : Nat} {d : α} {T : TypeId}
def ElAt (en : α → List Value) (w : World) (b o : Nat) (x : α) : Prop := ∀ j u, (en x)[j]? = some u → w.cell? ⟨b, o + j, none⟩ = some u
theorem ElAt.of {w w' : World} {b o : Nat} {x : α} (h : ElAt en w b o x) (hc : ∀ i, w'.cell? ⟨b, i, none⟩ = w.cell? ⟨b, i, none⟩) : ElAt en w' b o x := fun j u hj => (hc _).trans (h j u hj)
def Rws (en : α → List Value) (C : Nat) (d : α) (w : World) (v : Value) (l : List α) : Prop :=
 ∃ a cap, v = .slice a l.length cap ∧ l.length ≤ cap ∧ cap ≤ 9223372036854775807 ∧ ∀ i, i < l.length → ∃ b off, a = some ⟨b, off, none⟩ ∧ b < w.heap.size ∧ ElAt en w b (off + i * C) (l.getD i d)
theorem Rws.below {w w' : World} {v : Value} {l : List α} (h : Rws en C d w v l) {B : Nat} (hB : w.heap.size ≤ B) (hb : Below B w w') : Rws en C d w' v l := by
 obtain ⟨a, cap, rfl, h1, h2, h3⟩ := h
 refine ⟨a, cap, rfl, h1, h2, fun i hi => ?_⟩
 obtain ⟨b, off, rfl, h4, h5⟩ := h3 i hi
 exact ⟨b, off, rfl, Nat.lt_of_lt_of_le h4 hb.size, h5.of (bk hb b (Nat.lt_of_lt_of_le h4 hB)).1⟩
theorem Rws.at0 {w : World} {v : Value} {l : List α} (h : Rws en C d w v l) (hl : 0 < l.length) : ∃ b off cap, v = .slice (some ⟨b, off, none⟩) l.length cap ∧ l.length ≤ cap ∧ cap ≤ 9223372036854775807 ∧ b < w.heap.size ∧ ∀ i, i < l.length → ElAt en w b (off + i * C) (l.getD i d) := by
 obtain ⟨a, cap, rfl, h1, h2, h3⟩ := h
 obtain ⟨b, off, rfl, h4, h5⟩ := h3 0 hl
 refine ⟨b, off, cap, rfl, h1, h2, h4, fun i hi => ?_⟩
 obtain ⟨b', off', h7, h8, h9⟩ := h3 i hi
 simp only [Option.some.injEq, Addr.mk.injEq, and_true] at h7
 obtain ⟨rfl, rfl⟩ := h7
 exact h9
theorem Rws.len {w : World} {v : Value} {l : List α} (h : Rws en C d w v l) : ∃ a cap, v = .slice a l.length cap ∧ l.length ≤ cap ∧ cap ≤ 9223372036854775807 := by
 obtain ⟨a, cap, rfl, h1, h2, _⟩ := h
 exact ⟨a, cap, rfl, h1, h2⟩
theorem Rws.nil (w : World) : Rws en C d w (.slice none 0 0) [] := ⟨none, 0, rfl, Nat.le_refl _, by omega, fun i hi => by simp at hi⟩
theorem flat_length (hen : ∀ x, (en x).length = C) (c : List α) : (c.flatMap en).length = c.length * C := by
 induction c with
 | nil => simp
 | cons p c ih => rw [List.flatMap_cons, List.length_append, ih, hen, List.length_cons, Nat.succ_mul]; omega
theorem flat_at (hen : ∀ x, (en x).length = C) (d : α) (c : List α) : ∀ i, i < c.length → ∀ j u, (en (c.getD i d))[j]? = some u → (c.flatMap en)[i * C + j]? = some u := by
 induction c with
 | nil => intro i h; simp at h
 | cons p c ih =>
  intro i h j u hu
  rw [List.flatMap_cons]
  cases i with
  | zero =>
   have hj : j < (en p).length := (List.getElem?_eq_some_iff.1 hu).1
   rw [Nat.zero_mul, Nat.zero_add, List.getElem?_append_left hj]
   exact hu
  | succ i =>
   rw [List.getElem?_append_right (by rw [hen, Nat.succ_mul]; omega), hen, show (i + 1) * C + j - C = i * C + j by rw [Nat.succ_mul]; omega]
   exact ih i (by simpa using h) j u (by simpa using hu)
theorem flat_one (h1 : ∀ x, ∀ u ∈ en x, u.oneCell' = true) (c : List α) : ∀ u ∈ c.flatMap en, u.oneCell' = true := by
 intro u hu
 simp only [List.mem_flatMap] at hu
 obtain ⟨p, _, hu⟩ := hu
 exact h1 p u hu
def Owns (T : TypeId) (en : α → List Value) (C : Nat) (w : World) (base : Nat) (v : Value) (c : List α) : Prop := w.ownsRow base T C v c.length (c.flatMap en)
theorem Owns.nil (w : World) (base : Nat) : Owns T en C w base (.slice none 0 0) [] := World.ownsRow_nil _ _ _ _
theorem Owns.app {w : World} {base : Nat} {v : Value} {c : List α} {x : α} (h : w.ownsRow base T C v (c.length + 1) (c.flatMap en ++ en x)) : Owns T en C w base v (c ++ [x]) := by
 unfold Owns
 rw [List.flatMap_append, show (c ++ [x]).length = c.length + 1 by simp]
 simpa using h
theorem Owns.below {w w' : World} {base : Nat} {v : Value} {c : List α} (h : Owns T en C w base v c) {B : Nat} (hB : w.heap.size ≤ B) (hb : Below B w w') : Owns T en C w' base v c := ownsRow_below h (hb.mono hB)
theorem Owns.mono {w : World} {base b2 : Nat} {v : Value} {c : List α} (h : Owns T en C w base v c) (hb : b2 ≤ base) : Owns T en C w b2 v c := World.ownsRow.mono h hb
theorem Owns.val {w : World} {base : Nat} {v : Value} {c : List α} (h : Owns T en C w base v c) : ∃ a cap, v = .slice a c.length cap ∧ c.length ≤ cap ∧ cap ≤ 9223372036854775807 := by
 rcases h.2 with ⟨hv, h0⟩ | ⟨g, cap, cur, hv, hg, hc, hn, hm, _⟩
 ·exact ⟨none, 0, by rw [hv, h0], by omega, by omega⟩
 ·exact ⟨_, cap, hv, hn, hm⟩
theorem Owns.form {w : World} {base : Nat} {v : Value} {c : List α} (hen : ∀ x, (en x).length = C) (d : α) (h : Owns T en C w base v c) (h0 : 0 < c.length) (_hC : 0 < C) : ∃ g cap, v = .slice (some ⟨g, 0, none⟩) c.length cap ∧ c.length ≤ cap ∧ cap ≤ 9223372036854775807 ∧ base ≤ g ∧ g < w.heap.size ∧ ∀ i, i < c.length → ElAt en w g (i * C) (c.getD i d) := by
 obtain ⟨g, cap, rfl, hb, hlt⟩ := World.ownsRow.form h h0
 have hcap : c.length ≤ cap ∧ cap ≤ maxLen := by
  rcases h.2 with ⟨hv, _⟩ | ⟨g', cap', cur, hv, hg, hc, hn, hm, _⟩
  ·simp at hv
  ·simp only [Value.slice.injEq] at hv; obtain ⟨-, -, rfl⟩ := hv; exact ⟨hn, hm⟩
 refine ⟨g, cap, rfl, hcap.1, hcap.2, hb, hlt, fun i hi j u hu => ?_⟩
 have hj : j < C := by rw [← hen (c.getD i d)]; exact (List.getElem?_eq_some_iff.1 hu).1
 have : i * C + j < c.length * C := by
  have : (i + 1) * C ≤ c.length * C := Nat.mul_le_mul_right C (by omega)
  rw [Nat.succ_mul] at this
  omega
 exact (World.ownsRow.cellAt h _ this).trans (flat_at hen d c i hi j u hu)
theorem Owns.row {w : World} {base : Nat} {v : Value} {c : List α} (hen : ∀ x, (en x).length = C) (d : α) (hC : 0 < C) (h : Owns T en C w base v c) : Rws en C d w v c := by
 rcases Nat.eq_zero_or_pos c.length with h0 | h0
 ·have hc : c = [] := List.eq_nil_of_length_eq_zero h0
  subst hc
  rcases h.2 with ⟨hv, _⟩ | ⟨g, cap, cur, hv, hg, hc, hn, hm, _⟩
  ·exact ⟨none, 0, hv, Nat.le_refl _, by omega, fun i hi => by simp at hi⟩
  ·exact ⟨_, cap, hv, hn, hm, fun i hi => by simp at hi⟩
 ·obtain ⟨g, cap, rfl, h1, h2, h3, h4, h5⟩ := h.form hen d h0 hC
  exact ⟨_, cap, rfl, h1, h2, fun i hi => ⟨g, 0, rfl, h4, by rw [Nat.zero_add]; exact h5 i hi⟩⟩
end
open Go.ChangeShapes Go.WideShapes Go.ChangeAt Go.RowKit Go.Joins Go.Deep
section
variable {H : Type} {enc : TypeId × Value → H} {P : Program} {w : World} {base : Nat} {spare : Nat → Bool} {held : Bool}
def CellP {H : Type} (enc : TypeId × Value → H) (P : Program) (w : World) (base : Nat) (spare : Nat → Bool) (held : Bool) (t : TypeId) (j : Nat) (φ : Value → Prop) : Prop :=
 ∀ (fuel : Nat) (cs : List Value) (x : DataW H × List MemPlace), DataW.trod enc P w base spare held fuel t cs = some x → ∃ v, cs[j]? = some v ∧ φ v
def IsI64 (v : Value) : Prop := ∃ n : Int, v = .int .i64 n ∧ -9223372036854775808 ≤ n ∧ n ≤ 9223372036854775807
def IsBl (v : Value) : Prop := ∃ b : Bool, v = .bool b
theorem CellP.int {t : TypeId} (ht : P.underlying t = some (.int .i64)) : CellP enc P w base spare held t 0 IsI64 := by
 intro fuel cs x h
 obtain ⟨n, rfl, _, hw⟩ := DataW.trod_int ht h
 exact ⟨_, rfl, n, rfl, wf_i64 hw⟩
theorem CellP.bool {t : TypeId} (ht : P.underlying t = some .bool) : CellP enc P w base spare held t 0 IsBl := by
 intro fuel cs x h
 obtain ⟨b, rfl, _⟩ := DataW.trod_bool ht h
 exact ⟨_, rfl, b, rfl⟩
theorem CellP.field {t : TypeId} {fs : Array Field} {j : Nat} {φ : Value → Prop} (ht : P.underlying t = some (.struct fs)) (i : Nat) (f : Field) (hf : fs[i]? = some f) (hj : j < P.cellsOf f.type)
  (h : CellP enc P w base spare held f.type j φ) : CellP enc P w base spare held t (f.offset + j) φ := by
 intro fuel cs x hx
 obtain ⟨xs, n, _, _, hl, hlen, hfld⟩ := DataW.trod_struct ht hx
 have h1 := hfld i f hf
 have hi : i < fs.size := (Array.getElem?_eq_some_iff.1 hf).1
 rw [List.getElem?_eq_getElem (show i < xs.length by omega)] at h1
 obtain ⟨m, h2, h3⟩ := h _ _ _ h1
 refine ⟨m, ?_, h3⟩
 rw [List.getElem?_take_of_lt hj, List.getElem?_drop] at h2
 exact h2
theorem open_row_cell {t e : TypeId} {C : Nat} (φ : Nat → Value → Prop) {fuel : Nat} {cs : List Value} {x : DataW H × List MemPlace} (ht : P.underlying t = some (.slice e)) (hC : P.cellsOf e = C) (hpos : 0 < C)
  (hk : ∀ j, j < C → CellP enc P w base spare held e j (φ j)) (hf : DataW.trod enc P w base spare held fuel t cs = some x) :
  ∃ (a : Option Addr) (len cap : Nat) (G : Nat → Nat → Value), cs = [.slice a len cap] ∧ len ≤ cap ∧ cap ≤ 9223372036854775807 ∧ ∀ i, i < len → ∃ b off, a = some ⟨b, off, none⟩ ∧ b < w.heap.size ∧
   ∀ j, j < C → w.cell? ⟨b, off + i * C + j, none⟩ = some (G i j) ∧ φ j (G i j) := by
 rcases open_slice ht hf with ⟨hcs, _⟩ | ⟨a, len, cap, m, n, D, Pl, hcs, _, hl, hm, hmm, _, hi⟩
 ·exact ⟨none, 0, 0, fun _ _ => .bool false, hcs, Nat.le_refl _, by omega, fun i hi => by omega⟩
 ·have hml : len ≤ m := by rw [hmm]; split <;> omega
  have key : ∀ i j, ∃ q : Value, i < len → j < C → w.cell? (a.add (i * C + j)) = some q ∧ φ j q := by
   intro i j
   by_cases h1 : i < len
   ·by_cases h2 : j < C
    ·obtain ⟨cs', hc, ht'⟩ := hi i (by omega)
     rw [hC] at hc
     obtain ⟨q, h3, h4⟩ := hk j h2 _ _ _ ht'
     obtain ⟨_, hcl, hat⟩ := World.cells?_some hc
     refine ⟨q, fun _ _ => ⟨?_, h4⟩⟩
     rw [← Go.Deep.add_add, hat j h2, h3]
    ·exact ⟨.bool false, fun _ h => absurd h h2⟩
   ·exact ⟨.bool false, fun h => absurd h h1⟩
  have key2 : ∀ i, ∃ g : Nat → Value, ∀ j, i < len → j < C → w.cell? (a.add (i * C + j)) = some (g j) ∧ φ j (g j) := fun i => Classical.skolem.1 (key i)
  obtain ⟨G, hG⟩ := Classical.skolem.1 key2
  refine ⟨some a, len, cap, G, hcs, hl, hm, fun i hil => ?_⟩
  obtain ⟨b, off, spot⟩ := a
  have h0 := hG i 0 hil hpos
  have hspot : spot = none := by
   have h5 := (hG 0 0 (by omega) hpos).1
   rw [show 0 * C + 0 = 0 by omega] at h5
   simpa [Addr.add] using World.cell?_spot h5
  subst hspot
  refine ⟨b, off, rfl, ?_, fun j hj => ?_⟩
  ·have := World.block_lt_of_cell? _ _ h0.1
   rw [Go.WideShapes.add_plain] at this
   exact this
  ·have h6 := hG i j hil hj
   rw [Go.WideShapes.add_plain] at h6
   exact ⟨by rw [Nat.add_assoc]; exact h6.1, h6.2⟩
theorem CellP.rows {α : Type} (en : α → List Value) (d : α) (ok : α → Prop) {t e : TypeId} {C : Nat} (φ : Nat → Value → Prop) (ht : P.underlying t = some (.slice e)) (hC : P.cellsOf e = C) (hpos : 0 < C)
  (hk : ∀ j, j < C → CellP enc P w base spare held e j (φ j)) (hen : ∀ x, (en x).length = C) (hx : ∀ G : Nat → Value, (∀ j, j < C → φ j (G j)) → ∃ x, (∀ j, j < C → (en x)[j]? = some (G j)) ∧ ok x) :
  CellP enc P w base spare held t 0 fun v => ∃ l, Rws en C d w v l ∧ ∀ x, x ∈ l → ok x := by
 intro fuel cs x hf
 obtain ⟨a, len, cap, G, rfl, hl, hm, hc⟩ := open_row_cell φ ht hC hpos hk hf
 have key : ∀ i, ∃ x, i < len → (∀ j, j < C → (en x)[j]? = some (G i j)) ∧ ok x := by
  intro i
  by_cases h : i < len
  ·obtain ⟨b, off, h1, h2, h3⟩ := hc i h
   obtain ⟨x, hx1⟩ := hx (G i) fun j hj => (h3 j hj).2
   exact ⟨x, fun _ => hx1⟩
  ·exact ⟨d, fun h' => absurd h' h⟩
 obtain ⟨F, hF⟩ := Classical.skolem.1 key
 have hlen : ((List.range len).map F).length = len := by simp
 refine ⟨_, rfl, (List.range len).map F, ⟨a, cap, by rw [hlen], by rw [hlen]; exact hl, hm, fun i hi => ?_⟩, fun y hy => ?_⟩
 ·rw [hlen] at hi
  obtain ⟨b, off, h1, h2, h3⟩ := hc i hi
  refine ⟨b, off, h1, h2, fun j u hu => ?_⟩
  have e : ((List.range len).map F).getD i d = F i := by simp [List.getD_eq_getElem?_getD, hi]
  rw [e] at hu
  have hj : j < C := by rw [← hen (F i)]; exact (List.getElem?_eq_some_iff.1 hu).1
  rw [(hF i hi).1 j hj] at hu
  rw [(h3 j hj).1, hu]
 ·simp only [List.mem_map, List.mem_range] at hy
  obtain ⟨i, hi, rfl⟩ := hy
  exact (hF i hi).2
theorem open_agg {t : TypeId} {fs : Array Field} {C : Nat} (φ : Nat → Value → Prop) {r : Reach} {b0 : Nat} {v : Value} {d : DataW H} {p : List MemPlace} (ht : P.underlying t = some (.struct fs)) (hC : P.cellsOf t = C)
  (hk : ∀ j, j < C → CellP enc P w base spare held t j (φ j)) (hok : Value.okWide P w r b0 t v) (h : DataW.Trod enc P w base spare held t v d p) :
  ∃ (cs : Array Value), v = .agg cs ∧ cs.size = C ∧ ∀ j, j < C → ∃ u, cs[j]? = some u ∧ φ j u := by
 obtain ⟨cs, rfl, hsz⟩ := okWide_struct ht hok
 obtain ⟨fuel, hf⟩ := h
 refine ⟨cs, rfl, hsz.trans hC, fun j hj => ?_⟩
 obtain ⟨u, h2, h3⟩ := hk j hj _ _ _ hf
 exact ⟨u, by simpa [Value.cells] using h2, h3⟩
end
section
variable {H : Type} {enc : TypeId × Value → H} {W : World} {base : Nat}
end
end Go.Proofs.YthkoaecafmhlcaaGreat
