
/- Parts Rg PlF PlG of the proof, joined. -/
import Derived.RangeFuncNested
import Derived.RangeFuncBound
import Derived.RangeFuncCalls
import Derived.RangeFuncLeaves
import Derived.RangeFuncWrites
import Derived.OwnWalkIn
import Derived.Test.YtigjljmhpkeahaaGreatGi
import Derived.Test.YtigjljmhpkeahaaGreatGe
import Derived.RangeFuncBox
import Derived.RangeFuncFrom
import Derived.Shelf.Abstract
import Derived.Shelf.AbstractIn
import Derived.Shelf.RegionOpen
import Derived.TacticsInMore
import Derived.LoopNIn
import Derived.LoopIn
import Derived.Sort.QuietIn
import Derived.Sort.BigQuietIn
import Derived.Sort.QuietTacIn
import Derived.BigRegionIn
/- A loop over an iterator that hands in values of which it vouches something in the world of the yield (a row of its own): the body is left by its end alone. No program in sight. -/
namespace Go.Proofs.YtigjljmhpkeahaaGreat
open Go Go.RowKit
variable {F : Fence} {n : Nat} {P : Program} {α : Type}

def SeqGuar (F : Fence) (n : Nat) (P : Program) (g : Nat) (lb : Array Value) (encs : α → Array Value) (Kp : World → World → Prop) (G : α → World → Prop) (S : List α → Prop) (w : World) : Prop :=
 ∀ (l : Nat) (J : List α → World → Prop) (W : World), Below w.heap.size w W → AbidesFrom W.heap.size J →
  (∀ pre x W1, J pre W1 → G x W1 → YieldAt F (n - 1) P l (encs x) W1 fun e W' => e = .returned (.bool true) ∧ J (pre ++ [x]) W' ∧ Kp W1 W') →
  J [] W →
  CallsIn F n P g (#[.func (.yield l) #[] #[]] ++ lb) W fun e W' => (∃ v, e = .returned v) ∧ ∃ xs, S xs ∧ J xs W'

def guarPost (B : Nat) (Kp : World → World → Prop) (I : List α → World → Prop) (xs : List α) (W : World) : Exit → Act → World → Prop
 | .normal, _, W' => KeepsFrom B W W' ∧ Kp W W' ∧ I xs W'
 | _, _, _ => False
theorem guarPost_normal {B : Nat} {Kp : World → World → Prop} {I : List α → World → Prop} {xs : List α} {W : World} {e : Exit} {a : Act} {W' : World} (h : guarPost B Kp I xs W e a W') : e = .normal ∧ KeepsFrom B W W' ∧ Kp W W' ∧ I xs W' := by
 cases e with
 | normal => exact ⟨rfl, h⟩
 | _ => exact h.elim

theorem wpIn_rangeFunc_guar {g : Operand} {ps : Array Tmp} {assign body : Code} {Q : Exit → Act → World → Prop} {a : Act} {w : World}
  (hro : F.round = none) (h1 : 1 ≤ n) {gf : Nat} {lb : Array Value} (hg : a.eval g = .func (.func gf) #[] lb) (hFg : F.fn gf) (eg : ∀ args w, (callFunc gf args).run P w = .ok (.enter gf args) w)
  {encs : α → Array Value} {Kp : World → World → Prop} {G : α → World → Prop} {S : List α → Prop} {w0 : World} (hseq : SeqGuar F (n - 1) P gf lb encs Kp G S w0)
  (hKt : ∀ {A B C : World}, Kp A B → Kp B C → Kp A C) (hKb : ∀ (W : World) (l : Nat) (o o' : Obj), w.heap.size ≤ l → W.heap[l]? = some o → o.isCells = false → o.isWalk = false → Kp W (W.putObj l o')) (hb0 : Below w0.heap.size w0 w) (hps : ∀ x, (encs x).size = ps.size)
  (I : List α → World → Prop) (hI : OwnFrom w.heap.size I) (h0 : I [] w) (Ax : α → Act → World → Prop) (hAx : ∀ x a', OwnFrom w.heap.size (fun (_ : Unit) W => Ax x a' W))
  (hassign : ∀ (l : Nat) (pre : List α) (x : α) (W : World) (K : Act → World → Prop), I pre W → G x W → (∀ a' W', KeepsFrom w.heap.size W W' → Kp W W' → I pre W' → Ax x a' W' → K a' W') →
   assign.wpIn (F.inRound l) (n - 1 - 1) P (Exit.then K (fun _ _ _ => False)) { tmps := (ps.zip (encs x)).foldl (fun t (p, v) => t.setIfInBounds p v) a.tmps, defers := [] } W)
  (hbody : ∀ (l : Nat) (pre : List α) (x : α) (a' : Act) (W : World), w.heap.size ≤ l → (∃ r, W.heap[l]? = some (.loop r)) → I pre W → Ax x a' W → body.wpIn (F.inRound l) (n - 1 - 1) P (guarPost w.heap.size Kp I (pre ++ [x]) W) a' W)
  (hdone : ∀ (D : Nat) (xs : List α) (W : World), w.heap.size ≤ D → S xs → I xs W → W.heap[D]? = some (.deferred (some [])) → Q .normal { a with defers := { target := .collected D, args := #[] } :: a.defers } W) :
  (Code.rangeFunc g ps assign body).wpIn F n P Q a w := by
 refine wpIn_rangeFunc ?_
 intro fn hfn
 rw [hro]
 let rec' : LoopState → Option Code → Loop := fun st pe => { state := st, pending := pe, fn, tmps := a.tmps, params := ps, assign, body, defers := w.heap.size }
 obtain ⟨rc, hrc⟩ : ∃ rc, rc = rec' := ⟨_, rfl⟩
 obtain ⟨W1, hW1⟩ : ∃ W1, (w.alloc (.deferred (some []))).alloc (.loop (rc .ready none)) = W1 := ⟨_, rfl⟩
 have hz1 : W1.heap.size = w.heap.size + 2 := by rw [← hW1]; simp
 have hL1 : W1.heap[w.heap.size + 1]? = some (.loop (rc .ready none)) := by
  rw [← hW1]; have := World.alloc_heap_new (w.alloc (.deferred (some []))) (.loop (rc .ready none)); rwa [World.size_alloc] at this
 have hD1 : W1.heap[w.heap.size]? = some (.deferred (some [])) := by
  rw [← hW1]; exact (Below.heap_alloc _ _ _ (by simp)).trans (World.alloc_heap_new w _)
 have hI1 : I [] W1 := by rw [← hW1]; exact hI.alloc _ (hI.alloc _ h0)
 have hb1 : Below w0.heap.size w0 W1 := by
  rw [← hW1]; exact hb0.trans ((((Below.refl _ w).alloc (Nat.le_refl _) _).alloc (by simp) _).mono hb0.size)
 refine ⟨w.heap.size + 1, [{ target := .collected w.heap.size, args := #[] }], W1, { target := .fn (.func gf) lb, args := #[.func (.yield (w.heap.size + 1)) #[] #[]] }, W1, gf,
  #[.func (.yield (w.heap.size + 1)) #[] #[]] ++ lb, W1, ?_, ?_, ?_, ?_, fun _ => h1, ?_⟩
 ·rw [← hW1, hrc]; exact run_enterLoop_outer _ _ _ _ _
 ·simp only [resolve, hg]; simp [go_sem]
 ·intro f' hf'; simp [Target.leads] at hf'; subst hf'; exact hFg
 ·simp [invoke, go_sem, eg]
 ·refine (hseq (w.heap.size + 1) (fun pre W => I pre W ∧ W.heap[w.heap.size + 1]? = some (.loop (rc .ready none)) ∧ W.heap[w.heap.size]? = some (.deferred (some []))) W1 hb1 ?_ ?_ ⟨hI1, hL1, hD1⟩).mono ?_
  ·intro s A B row ⟨hi, hl, hd⟩ hgr hr
   have hsl := (Array.getElem?_eq_some_iff.1 hl).1
   have hne : ∀ k, (k = w.heap.size + 1 ∨ k = w.heap.size) → some k ≠ row := by
    intro k hk e
    have := (hr k e.symm).1
    omega
   refine ⟨hI s A B row hi hgr (fun r e => ?_), (hgr.block _ hsl (hne _ (.inl rfl))).trans hl, (hgr.block _ (by omega) (hne _ (.inr rfl))).trans hd⟩
   obtain ⟨h, o, ho, hw⟩ := hr r e
   exact ⟨by omega, o, ho, Obj.not_cells_of_walk hw⟩
  ·rintro pre x W ⟨hi, hl, hd⟩ hGx
   have hy := run_yield (P := P) (args := encs x) hl (by rw [hrc]; exact hps x)
   rw [hrc] at hy
   refine ⟨fn, _, assign, body, hy, roundIn_of_wpIn hfn (hassign _ pre x W _ hi hGx ?_)⟩
   intro a' Wa hkf hkh hia hax
   have hla := hkf.same _ _ (by omega) hl rfl
   have hda := hkf.same _ _ (Nat.le_refl _) hd rfl
   have hsl := (Array.getElem?_eq_some_iff.1 hla).1
   refine ⟨_, run_beginRound hla (by rw [hrc]), ?_⟩
   obtain ⟨Wb, hWb⟩ : ∃ Wb, Wb = Wa.putObj (w.heap.size + 1) (.loop { rc .ready none with state := .busy }) := ⟨_, rfl⟩
   rw [← hWb]
   have hlb : Wb.heap[w.heap.size + 1]? = some (.loop { rc .ready none with state := .busy }) := by rw [hWb]; exact World.putObj_heap_same hsl
   have hdb : Wb.heap[w.heap.size]? = some (.deferred (some [])) := by rw [hWb]; exact (World.putObj_heap_other (by omega)).trans hda
   have hkb : Kp Wa Wb := by rw [hWb]; exact hKb _ _ _ _ (by omega) hla rfl rfl
   have hib : I pre Wb := by rw [hWb]; exact hI.putObj _ hia (by omega) hla rfl
   have haxb : Ax x a' Wb := by rw [hWb]; exact (hAx x a').putObj (s := ()) _ hax (by omega) hla rfl
   refine wpIn_mono (hbody _ pre x a' Wb (by omega) ⟨_, hlb⟩ hib haxb) ?_
   intro e a3 W3 hp
   obtain ⟨rfl, hk3, hh3, hi3⟩ := guarPost_normal hp
   have hl3 := hk3.same _ _ (by omega) hlb rfl
   have hd3 := hk3.same _ _ (Nat.le_refl _) hdb rfl
   have hs3 := (Array.getElem?_eq_some_iff.1 hl3).1
   have hend := run_endRound (P := P) none hl3
   have hkc : Kp W (W3.putObj (w.heap.size + 1) (.loop (rc .ready none))) := hKt (hKt (hKt hkh hkb) hh3) (hKb _ _ _ _ (by omega) hl3 rfl rfl)
   refine ⟨_, _, (by rw [hrc] at hend ⊢; exact hend), rfl, ⟨hI.putObj _ hi3 (by omega) hl3 rfl, World.putObj_heap_same hs3, (World.putObj_heap_other (by omega)).trans hd3⟩, hkc⟩
  ·rintro e W2 ⟨⟨v, rfl⟩, xs, hS, hi, hl, hd⟩
   refine ⟨none, _, (by have := run_endLoop (P := P) hl (by rw [hrc]; simp [rec']); rw [hrc] at this; exact this), hdone _ xs _ (Nat.le_refl _) hS (hI.putObj _ hi (by omega) hl rfl) ((World.putObj_heap_other (by omega)).trans hd)⟩

def KeepC (b1 b2 : Nat) (A B : World) : Prop := A.heap.size ≤ B.heap.size ∧ ∀ q o, A.heap[q]? = some o → o.isCells = true → q ≠ b1 → q ≠ b2 → B.heap[q]? = some o
theorem KeepC.refl (b1 b2 : Nat) (A : World) : KeepC b1 b2 A A := ⟨Nat.le_refl _, fun _ _ h _ _ _ => h⟩
theorem KeepC.trans {b1 b2 : Nat} {A B C : World} (h : KeepC b1 b2 A B) (k : KeepC b1 b2 B C) : KeepC b1 b2 A C := ⟨Nat.le_trans h.1 k.1, fun q o h1 h2 h3 h4 => k.2 q o (h.2 q o h1 h2 h3 h4) h2 h3 h4⟩
theorem KeepC.put {b1 b2 : Nat} {W : World} {l : Nat} {o : Obj} (o' : Obj) (hl : W.heap[l]? = some o) (hc : o.isCells = false) : KeepC b1 b2 W (W.putObj l o') :=
 ⟨(grownBy_putObj' W l o').size, fun q p hq hp _ _ => (World.putObj_heap_other (fun e => by subst e; rw [hl] at hq; cases hq; rw [hc] at hp; cases hp)).trans hq⟩
theorem KeepC.of_below {b1 b2 : Nat} {A B : World} (h : Below A.heap.size A B) : KeepC b1 b2 A B := ⟨h.size, fun q _ hq _ _ _ => (h.block q (Array.getElem?_eq_some_iff.1 hq).1).trans hq⟩
theorem KeepC.grown {b1 b2 : Nat} {A B : World} {row : Option Nat} (h : A.grownBy B row) (hr : ∀ r, row = some r → r = b1 ∨ r = b2 ∨ ∃ o : Obj, A.heap[r]? = some o ∧ o.isCells = false) : KeepC b1 b2 A B :=
 ⟨h.size, fun q o hq hc h1 h2 => (h.block q (Array.getElem?_eq_some_iff.1 hq).1 (fun e => by
  rcases hr q e.symm with h | h | ⟨p, h, h'⟩
  ·exact h1 h
  ·exact h2 h
  ·rw [h] at hq; cases hq; rw [h'] at hc; cases hc)).trans hq⟩
theorem KeepC.set {b1 b2 : Nat} {A B : World} (h : KeepC b1 b2 A B) {p : Addr} (hp : p.block = b1 ∨ p.block = b2) (u : Value) : KeepC b1 b2 A (B.setCell p u) :=
 h.trans ⟨by simp [World.setCell], fun q o hq _ h1 h2 => (Below.heap_setCell B p u q (fun e => by rcases hp with hp | hp <;> omega)).trans hq⟩
theorem cells_of_cell {W : World} {p : Addr} {v : Value} (h : W.cell? p = some v) : ∃ o, W.heap[p.block]? = some o ∧ o.isCells = true := by
 have hlt := World.block_lt_of_cell? _ _ h
 refine ⟨W.heap[p.block], by simp [hlt], ?_⟩
 have h2 := h
 unfold World.cell? at h2
 simp only [Array.getElem?_eq_getElem hlt] at h2
 generalize W.heap[p.block] = o at *
 cases o <;> first | rfl | (simp at h2)
theorem KeepC.cell {b1 b2 : Nat} {A B : World} (h : KeepC b1 b2 A B) {b o : Nat} {v : Value} (hc : A.cell? ⟨b, o, none⟩ = some v) (h1 : b ≠ b1) (h2 : b ≠ b2) : B.cell? ⟨b, o, none⟩ = some v := by
 obtain ⟨ob, g1, g2⟩ := cells_of_cell hc
 exact (World.cell?_of_block (a := ⟨b, o, none⟩) ((h.2 b ob g1 g2 h1 h2).trans g1.symm)).trans hc
end Go.Proofs.YtigjljmhpkeahaaGreat
/- Package plan: the rules, and the iterator over all offers. -/
namespace Go.Proofs.YtigjljmhpkeahaaGreat
open Go.RowKit Go.Shelf
attribute [local go_sem] Oper.semAt_some

theorem grown_of_below {A B : World} (h : Below A.heap.size A B) : A.grownBy B none := ⟨h.os, h.tape, h.output, h.size, fun k hk _ => h.block k hk⟩
theorem isrow_keepC {b1 b2 : Nat} {A B : World} {v : Value} {l : List Int} (h : IsRow A v l) (hb : ∀ q, v.ownBlock = some q → q ≠ b1 ∧ q ≠ b2) (k : KeepC b1 b2 A B) : IsRow B v l := by
 obtain ⟨a, cap, rfl, h1, h2, h3⟩ := h
 refine ⟨a, cap, rfl, h1, h2, fun i hi => ?_⟩
 obtain ⟨b, off, rfl, h4, h5⟩ := h3 i hi
 obtain ⟨n1, n2⟩ := hb b rfl
 exact ⟨b, off, rfl, Nat.lt_of_lt_of_le h4 k.1, k.cell h5 n1 n2⟩
theorem isrow_keepC0 {b1 b2 : Nat} {w A B : World} {v : Value} {l : List Int} (h : IsRow w v l) (hA : Below w.heap.size w A) (h1 : w.heap.size ≤ b1) (h2 : w.heap.size ≤ b2) (k : KeepC b1 b2 A B) : IsRow B v l := by
 obtain ⟨a, cap, rfl, g1, g2, g3⟩ := h
 refine ⟨a, cap, rfl, g1, g2, fun i hi => ?_⟩
 obtain ⟨b, off, rfl, h4, h5⟩ := g3 i hi
 exact ⟨b, off, rfl, Nat.lt_of_lt_of_le h4 (Nat.le_trans hA.size k.1), k.cell ((hA.cell (p := ⟨b, off + i, none⟩) h4).trans h5) (by omega) (by omega)⟩
theorem prrow_keepC0 {b1 b2 : Nat} {w A B : World} {v : Value} {l : List Pr} (h : PrRow w v l) (hA : Below w.heap.size w A) (h1 : w.heap.size ≤ b1) (h2 : w.heap.size ≤ b2) (k : KeepC b1 b2 A B) : PrRow B v l := by
 obtain ⟨a, cap, rfl, g1, g2, g3⟩ := h
 refine ⟨a, cap, rfl, g1, g2, fun i hi => ?_⟩
 obtain ⟨b, off, rfl, h4, h5⟩ := g3 i hi
 have hc : ∀ o v, w.cell? ⟨b, o, none⟩ = some v → B.cell? ⟨b, o, none⟩ = some v := fun o v hv => k.cell ((hA.cell (p := ⟨b, o, none⟩) h4).trans hv) (by omega) (by omega)
 obtain ⟨c0, c1, c2, c3, c4, c5, c6, c7⟩ := h5
 exact ⟨b, off, rfl, Nat.lt_of_lt_of_le h4 (Nat.le_trans hA.size k.1), hc _ _ c0, hc _ _ c1, hc _ _ c2, hc _ _ c3, hc _ _ c4, hc _ _ c5, hc _ _ c6, hc _ _ c7⟩
set_option maxRecDepth 100000 in
set_option maxHeartbeats 1000000 in
theorem rules_any (r f lo tm : Int) (pv : Value) (w : World) :
  Calls Tryz.prog 74 #[.agg #[.int .i64 r, .int .i64 f, .int .i64 lo, .int .i64 tm, pv]] w fun e w' => e = .returned (.slice (some ⟨w.heap.size + 1, 0, none⟩) 5 5) ∧
   w' = (w.alloc (.cells #[.int .i64 r, .int .i64 f, .int .i64 lo, .int .i64 tm, pv] 24)).alloc (.cells #[.func (.func 121) #[] #[.pointer (some ⟨w.heap.size, 0, none⟩)], .func (.func 123) #[] #[], .func (.func 125) #[] #[], .func (.func 126) #[] #[], .func (.func 128) #[] #[]] 154) := by
 go_enter Tryz.func74, Tryz.ntmps74
 go_wp2_with fail
 go_ret
 exact ⟨by first | rfl | (simp; done), rfl⟩
set_option maxRecDepth 100000 in
set_option maxHeartbeats 1000000 in
theorem offers_any (r f lo tm : Int) (pv v : Value) (pl : List Int) (w : World) (hv : IsRow w v pl) :
  Calls Tryz.prog 120 #[.agg #[.int .i64 r, .int .i64 f, .int .i64 lo, .int .i64 tm, pv], v] w fun e w' => e = .returned (.func (.func 165) #[] #[.pointer (some ⟨w.heap.size, 0, none⟩), .pointer (some ⟨w.heap.size + 1, 0, none⟩)]) ∧
   w' = (w.alloc (.cells #[.int .i64 r, .int .i64 f, .int .i64 lo, .int .i64 tm, pv] 24)).alloc (.cells #[v] 25) := by
 obtain ⟨a, cap, rfl, -⟩ := hv
 go_enter Tryz.func120, Tryz.ntmps120
 go_wp2_with fail
 go_ret
 exact ⟨by first | rfl | (simp; done), rfl⟩
end Go.Proofs.YtigjljmhpkeahaaGreat
/- Package plan: the iterator over all offers, walked. -/
namespace Go.Proofs.YtigjljmhpkeahaaGreat
open Go.RowKit Go.Shelf
attribute [local go_sem] Oper.semAt_some

def OfG (s : Si) (b1 b2 B : Nat) (x : Value × Of) (W : World) : Prop :=
 IsRow W x.1 x.2.use ∧ (∀ q, x.1.ownBlock = some q → (q ≠ b1 ∧ q ≠ b2) ∧ B ≤ q) ∧ rgB s x.2.use x.2.ev = true ∧ x.2.wd = wdt s x.2.use x.2.ev
def ofEnc (x : Value × Of) : Array Value := #[.agg #[x.1, .int .i64 x.2.ev, .int .i64 x.2.wd]]
theorem bits_one (m : Nat) (i : Nat) (hm : m < 9223372036854775808) : bits BinOp.and IntKind.i64 ((m : Int) / 2 ^ i) 1 = ((m / 2 ^ i % 2 : Nat) : Int) := by
 have e : (m : Int) / 2 ^ i = ((m / 2 ^ i : Nat) : Int) := by push_cast; rfl
 rw [e]
 have hd : m / 2 ^ i < 9223372036854775808 := Nat.lt_of_le_of_lt (Nat.div_le_self _ _) hm
 generalize m / 2 ^ i = a at *
 have h1 : (BitVec.ofInt 64 (a : Int)).toNat = a := by
  rw [BitVec.ofInt_natCast, BitVec.toNat_ofNat]; exact Nat.mod_eq_of_lt (by omega)
 show IntKind.i64.wrap ((BitVec.ofInt 64 (a : Int) &&& BitVec.ofInt 64 (1 : Int)).toNat : Int) = _
 rw [BitVec.toNat_and, h1, show (BitVec.ofInt 64 (1 : Int)).toNat = 1 from rfl, Nat.and_one_is_mod]
 exact IntWalk.i64_in _ (by omega)
set_option maxRecDepth 100000 in
set_option maxHeartbeats 2000000 in
theorem offers_in (n : Nat) (hn : 2 ≤ n) (l Bs Bp bo bf B : Nat) (r f lo tm : Int) (pv : Value) (ps : List Pr) (v : Value) (pl : List Int) (w W : World) (hp : PrRow w pv ps) (hv : IsRow w v pl) (hl : ps.length ≤ 10) (hpl : pl.length ≤ 10)
  (hA : Below w.heap.size w W) (ho : w.heap.size ≤ bo) (hf : w.heap.size ≤ bf) (hBW : B ≤ W.heap.size) (hoW : bo < W.heap.size) (hfW : bf < W.heap.size) (hs1 : Bs ≠ bo) (hs2 : Bs ≠ bf) (hp1 : Bp ≠ bo) (hp2 : Bp ≠ bf)
  (hS : W.cell? ⟨Bs, 0, none⟩ = some (.int .i64 r) ∧ W.cell? ⟨Bs, 1, none⟩ = some (.int .i64 f) ∧ W.cell? ⟨Bs, 2, none⟩ = some (.int .i64 lo) ∧ W.cell? ⟨Bs, 3, none⟩ = some (.int .i64 tm) ∧ W.cell? ⟨Bs, 4, none⟩ = some pv) (hP : W.cell? ⟨Bp, 0, none⟩ = some v)
  (J : List (Value × Of) → World → Prop) (hJ : AbidesFrom W.heap.size J)
  (hY : ∀ pre x W1, J pre W1 → OfG ⟨r, f, lo, tm, ps⟩ bo bf B x W1 → YieldAt Fence.wide (n - 1) Tryz.prog l (ofEnc x) W1 fun e W' => e = .returned (.bool true) ∧ J (pre ++ [x]) W' ∧ KeepC bo bf W1 W')
  (h0 : J [] W) :
  CallsIn Fence.wide n Tryz.prog 165 #[.func (.yield l) #[] #[], .pointer (some ⟨Bs, 0, none⟩), .pointer (some ⟨Bp, 0, none⟩)] W fun e W' => (∃ v, e = .returned v) ∧ ∃ xs, xs.map (·.2) = ofL ⟨r, f, lo, tm, ps⟩ pl ∧ J xs W' := by
 have hn1 : 1 ≤ n := by omega
 have hR : ∀ V, KeepC bo bf W V → (V.cell? ⟨Bs, 0, none⟩ = some (.int .i64 r) ∧ V.cell? ⟨Bs, 1, none⟩ = some (.int .i64 f) ∧ V.cell? ⟨Bs, 2, none⟩ = some (.int .i64 lo) ∧ V.cell? ⟨Bs, 3, none⟩ = some (.int .i64 tm) ∧ V.cell? ⟨Bs, 4, none⟩ = some pv ∧ V.cell? ⟨Bp, 0, none⟩ = some v) ∧ PrRow V pv ps ∧ IsRow V v pl ∧ W.heap.size ≤ V.heap.size :=
  fun V h => ⟨⟨h.cell hS.1 hs1 hs2, h.cell hS.2.1 hs1 hs2, h.cell hS.2.2.1 hs1 hs2, h.cell hS.2.2.2.1 hs1 hs2, h.cell hS.2.2.2.2 hs1 hs2, h.cell hP hp1 hp2⟩, prrow_keepC0 hp hA ho hf h, isrow_keepC0 hv hA ho hf h, h.1⟩
 have HR := hide hR
 obtain ⟨pa, pc, rfl, -, -⟩ := hp.len
 obtain ⟨va, vc, rfl, -, -⟩ := id hv
 clear hR hS hP hp hv
 have h2l : 2 ^ ps.length ≤ 1024 := by
  have := Nat.pow_le_pow_right (n := 2) (by omega) hl
  omega
 obtain ⟨N, hN⟩ : ∃ N, N = 2 ^ ps.length := ⟨_, rfl⟩
 have hL : ofL ⟨r, f, lo, tm, ps⟩ pl = ofTo ⟨r, f, lo, tm, ps⟩ pl N := by rw [hN]; rfl
 rw [hL]
 have hsh : (1 : Int) * 2 ^ ps.length = N := by rw [hN]; simp
 rw [← hN] at h2l
 have HN := hide hN
 clear hL hN
 obtain ⟨i0, hi, hz0, hz1, hz2⟩ := info_parts infoIs
 refine callsIn_of_wp Tryz.func165 rfl trivial ?_ rfl
 simp only [Tryz.ntmps165, List.size_toArray, List.length_cons, List.length_nil, Nat.reduceAdd, Nat.reduceSub, Array.replicate_succ, Array.replicate_zero, List.push_toArray, List.append_toArray, List.nil_append, List.cons_append]
 obtain ⟨⟨a0, a1, a2, a3, a4, a5⟩, -, -, -⟩ := HR.out W (KeepC.refl _ _ _)
 gi_wp2
 clear a0 a1 a2 a3 a4 a5
 gi_loopw [16] (fun s16 wr => ∃ (m : Nat) (pre : List (Value × Of)), m ≤ N ∧ s16 = .int .i64 m ∧ Hid (pre.map (·.2) = ofTo ⟨r, f, lo, tm, ps⟩ pl m) ∧ J pre wr ∧ KeepC bo bf W wr) (fun s16 _ => N - (intOf s16).toNat)
 case atStart => exact ⟨0, [], Nat.zero_le _, rfl, hide rfl, h0, KeepC.refl _ _ _⟩
 case round =>
  obtain ⟨m, pre, hm, rfl, Hp, hJr, hK⟩ := hrel
  by_cases hlt : m < N
  ·obtain ⟨⟨a0, a1, a2, a3, a4, a5⟩, -, -, az⟩ := HR.out wr hK
   gi_wp2
   clear a0 a1 a2 a3 a4 a5
   obtain ⟨wo, hwo⟩ : ∃ wo : World, wo = wr := ⟨_, rfl⟩
   subst hwo
   gi_loopw [5, 22] (fun s5 s22 wi => ∃ k : Nat, k ≤ ps.length ∧ s22 = .int .i64 k ∧ OwnIs wi wo.heap.size s5 (mkL m k) ∧ Below wo.heap.size wo wi) (fun _ s22 _ => ps.length - (intOf s22).toNat)
   case atStart => exact ⟨0, Nat.zero_le _, rfl, OwnIs.nil _ _, Below.refl _ _⟩
   case round =>
    obtain ⟨k, hk, rfl, hown, hB⟩ := hrel
    obtain ⟨oa, ocap, hov, q1, q2⟩ := hown.val
    have hlen := mkL_len m k
    have hlow := World.ownsRow.lt hown
    have hz := hB.size
    have hmk : mkL m (k + 1) = if m / 2 ^ k % 2 = 1 then mkL m k ++ [(k : Int)] else mkL m k := rfl
    have Hmk := hide hmk
    clear hmk
    by_cases hlk : k < ps.length
    ·have hb := bits_one m k (by omega)
     have hmin : min k 64 = k := by omega
     have I1 : (0 : Int) ≤ (k : Int) := by omega
     have hown' := hown
     unfold OwnIs at hown'
     subst hov
     by_cases hbit : m / 2 ^ k % 2 = 1
     ·rw [hbit] at hb
      have Hbit := hide hbit
      clear hbit
      gi_wp2_with (gi_at_builtin; refine wpListIn_append_own _ rfl _ _ 25 rfl wo.heap.size 3 i0 (.int .i64 0) 1 8 Tryz.underlying25 hi hz0 hz1 hz2 rfl (by decide) _ (mkL m k).length (encI (mkL m k)) rfl (World.ownsRow.alloc hown' _) ⟨wr.heap.size, 0, none⟩ 1 1 [.int .i64 (k : Int)] rfl rfl (cells_new wr [.int .i64 (k : Int)] _) (by simp [Value.oneCell']) (by unfold maxLen; omega) (by omega) (by simp; omega) ?_; intro v4 w4 hown4 hg4 _; obtain ⟨a4, cap4, rfl⟩ := ownsRow_val hown4)
      go_roundw
      case rel => exact ⟨k + 1, by omega, by go_num, by rw [Hmk.out, if_pos Hbit.out]; exact OwnIs.app hown4, (hB.alloc hz _).grown hg4 (by simp; omega) (fun r h => (hlow r h).1)⟩
      case measure => simp [intOf]; omega
     ·have hb0 : m / 2 ^ k % 2 = 0 := by omega
      rw [hb0] at hb
      have Hbit := hide hbit
      clear hbit hb0
      gi_wp2
      go_roundw
      case rel => exact ⟨k + 1, by omega, by go_num, by rw [Hmk.out, if_neg Hbit.out]; exact hown, hB⟩
      case measure => simp [intOf]; omega
    ·obtain rfl : k = ps.length := by omega
     have hgr : wo.grownBy wr none := grown_of_below hB
     have hKr : KeepC bo bf W wr := hK.trans (KeepC.of_below hB)
     have hJr2 := hJ _ _ _ none hJr hgr (fun r h => by cases h)
     have hrow := hown.row
     have hblk : ∀ q, (Value.slice oa (mkL m ps.length).length ocap).ownBlock = some q → (q ≠ bo ∧ q ≠ bf) ∧ B ≤ q := fun q hq => by
      have := (hlow q (by rw [hov]; exact hq)).1
      refine ⟨⟨?_, ?_⟩, ?_⟩ <;> omega
     subst hov
     clear hown hlow
     obtain ⟨⟨a0, a1, a2, a3, a4, a5⟩, -, -, az2⟩ := HR.out wr hKr
     have HJr := hide hJr2
     have HKr := hide hKr
     have Hrow := hide hrow
     have Hblk := hide hblk
     generalize hU : mkL m ps.length = U at *
     have HU := hide hU
     clear hJr2 hKr hrow hblk hU hJr hK hgr hB
     gi_wp2
     clear a0 a1 a2 a3 a4 a5
     obtain ⟨wu, hwu⟩ : ∃ wu : World, wu = wr := ⟨_, rfl⟩
     subst hwu
     gi_loopw [37] (fun s37 wp => ∃ (j : Nat) (pr : List (Value × Of)), j ≤ pl.length ∧ s37 = .int .i64 j ∧ Hid (pr.map (·.2) = ofTo ⟨r, f, lo, tm, ps⟩ pl m ++ perTo ⟨r, f, lo, tm, ps⟩ U pl j) ∧ J pr wp ∧ KeepC bo bf W wp ∧ IsRow wp (.slice oa U.length ocap) U) (fun s37 _ => pl.length - (intOf s37).toNat)
     case atStart => exact ⟨0, pre, Nat.zero_le _, rfl, hide (by rw [Hp.out]; simp [perTo]), HJr.out, HKr.out, Hrow.out⟩
     case round =>
      obtain ⟨j, pr, hj, rfl, Hq, hJq, hKq, hrq⟩ := hrel
      by_cases hlj : j < pl.length
      ·obtain ⟨⟨a0, a1, a2, a3, a4, a5⟩, g1, g2, az3⟩ := HR.out wr hKq
       have g2' := g2
       obtain ⟨va', vc', hve, -, -, g3⟩ := g2
       obtain ⟨rfl, -, rfl⟩ : va = va' ∧ True ∧ vc = vc' := by cases hve; exact ⟨rfl, trivial, rfl⟩
       obtain ⟨b, off, rfl, g4, g5⟩ := g3 j hlj
       have I1 : (0 : Int) ≤ (j : Int) := by omega
       have I2 : (j : Int) < (pl.length : Int) := by omega
       have hpe : perTo ⟨r, f, lo, tm, ps⟩ U pl (j + 1) = if rgB ⟨r, f, lo, tm, ps⟩ U (iAt pl j) = true then perTo ⟨r, f, lo, tm, ps⟩ U pl j ++ [⟨U, iAt pl j, wdt ⟨r, f, lo, tm, ps⟩ U (iAt pl j)⟩] else perTo ⟨r, f, lo, tm, ps⟩ U pl j := rfl
       have Hpe := hide hpe
       clear hve g3 hpe
       generalize iAt pl j = ev at *
       have hwE : wdEr ⟨r, f, lo, tm, ps⟩ U ev = if rgB ⟨r, f, lo, tm, ps⟩ U ev = true then 0 else 1 := by
        unfold wdEr; cases rgB ⟨r, f, lo, tm, ps⟩ U ev <;> rfl
       have hw := fun V (h : Below wr.heap.size wr V) => wdWidthS_any r f lo tm _ ps _ U ev V (g1.below (Nat.le_refl _) h) (hrq.below (Nat.le_refl _) h)
       have hwd : ∃ x, wdt ⟨r, f, lo, tm, ps⟩ U ev = x := ⟨_, rfl⟩
       obtain ⟨wd, hwd⟩ := hwd
       rw [hwd] at Hpe hw
       have Hwd := hide hwd
       have Hw := hide hw
       clear hwd hw g1 g2'
       have hBs := World.block_lt_of_cell? _ _ a0
       simp only at hBs
       have ho := fun o => World.cell?_alloc_lt wr (.cells #[.slice oa U.length ocap, .int .i64 ev] 27) ⟨Bs, o, none⟩ hBs
       have a0' := (ho 0).trans a0
       have a1' := (ho 1).trans a1
       have a2' := (ho 2).trans a2
       have a3' := (ho 3).trans a3
       have a4' := (ho 4).trans a4
       clear ho a0 a1 a2 a3 a4 a5
       cases hG : rgB ⟨r, f, lo, tm, ps⟩ U ev with
       | true =>
        rw [hG, if_pos rfl] at hwE
        rw [hwE] at Hw
        have HG := hide hG
        have HrQ := hide hrq
        clear hwE hG hrq
        gi_wp2_with fail
        refine ⟨trivial, (callsIn_wide.2 (Hw.out _ (by ((with_reducible repeat' first | exact .refl _ _ | refine .alloc ?_ ?_ _ | refine .setCell ?_ ?_ _ | refine .drew ?_ | refine below_drewN ?_ _) <;> first | omega | simp <;> omega)))).mono ?_⟩
        rintro e w1 ⟨rfl, b1⟩
        obtain ⟨kb1_0, fb1_0, zb1_0, zab1_0, zbb1_0, zcb1_0, zdb1_0, zeb1_0⟩ := bk3 b1 (wr.heap.size) (by first | omega | simp <;> omega)
        have bw : Below wr.heap.size wr w1 := (by ((with_reducible repeat' first | exact .refl _ _ | exact b1 | refine .alloc ?_ ?_ _ | refine .setCell ?_ ?_ _ | refine .drew ?_ | refine below_drewN ?_ _ | refine Below.trans ?_ (b1.mono ?_)) <;> first | omega | simp <;> omega))
        have hJ1 := hJ _ _ _ none hJq (grown_of_below bw) (fun r h => by cases h)
        have hr1 := HrQ.out.below (Nat.le_refl _) bw
        obtain ⟨fn, tmps, assign, body, hy, hR⟩ := hY pr (.slice oa U.length ocap, ⟨U, ev, wd⟩) w1 hJ1 ⟨hr1, Hblk.out, HG.out, Hwd.out.symm⟩
        have hk1 : KeepC bo bf W w1 := hKq.trans (KeepC.of_below bw)
        simp only [ofEnc] at hy
        gi_wp2_with fail
        refine hR.mono ?_
        rintro e w3 ⟨rfl, hJ3, hk3⟩
        have Hr3 := hide (isrow_keepC hr1 (fun q hq => (Hblk.out q hq).1) hk3)
        gi_wp2
        go_roundw
        case rel => exact ⟨j + 1, _, by omega, by go_num, hide (by rw [Hpe.out, if_pos HG.out, ← List.append_assoc, ← Hq.out]; simp), hJ3, hk1.trans hk3, Hr3.out⟩
        case measure => simp [intOf]; omega
       | false =>
        rw [hG, if_neg (by simp)] at hwE
        rw [hwE] at Hw
        have HG := hide hG
        have HrQ := hide hrq
        clear hwE hG hrq
        gi_wp2_with fail
        refine ⟨trivial, (callsIn_wide.2 (Hw.out _ (by ((with_reducible repeat' first | exact .refl _ _ | refine .alloc ?_ ?_ _ | refine .setCell ?_ ?_ _ | refine .drew ?_ | refine below_drewN ?_ _) <;> first | omega | simp <;> omega)))).mono ?_⟩
        rintro e w1 ⟨rfl, b1⟩
        obtain ⟨kb1_0, fb1_0, zb1_0, zab1_0, zbb1_0, zcb1_0, zdb1_0, zeb1_0⟩ := bk3 b1 (wr.heap.size) (by first | omega | simp <;> omega)
        have bw : Below wr.heap.size wr w1 := (by ((with_reducible repeat' first | exact .refl _ _ | exact b1 | refine .alloc ?_ ?_ _ | refine .setCell ?_ ?_ _ | refine .drew ?_ | refine below_drewN ?_ _ | refine Below.trans ?_ (b1.mono ?_)) <;> first | omega | simp <;> omega))
        have hJ1 := hJ _ _ _ none hJq (grown_of_below bw) (fun r h => by cases h)
        have hr1 := HrQ.out.below (Nat.le_refl _) bw
        gi_wp2_with (refine wpListIn_skip rfl rfl ?_)
        go_roundw
        case rel => exact ⟨j + 1, pr, by omega, by go_num, hide (by rw [Hpe.out, if_neg (by rw [HG.out]; simp)]; exact Hq.out), hJ1, hKq.trans (KeepC.of_below bw), hr1⟩
        case measure => simp [intOf]; omega
      ·obtain rfl : j = pl.length := by omega
       have hof : ofTo ⟨r, f, lo, tm, ps⟩ pl (m + 1) = ofTo ⟨r, f, lo, tm, ps⟩ pl m ++ perTo ⟨r, f, lo, tm, ps⟩ U pl pl.length := by rw [HU.out.symm]; rfl
       have Hof := hide hof
       clear hof
       gi_wp2
       go_roundw
       case rel => exact ⟨m + 1, pr, by omega, by go_num, by rw [Hof.out]; exact Hq, hJq, hKq⟩
       case measure => simp [intOf]; omega
  ·obtain rfl : m = N := by omega
   gi_wp2
   go_end0
   exact ⟨⟨_, rfl⟩, pre, Hp.out, hJr⟩
end Go.Proofs.YtigjljmhpkeahaaGreat
