
/- Package cert: Make. -/
import Derived.Test.YtlmcoollkmhanaaCtG
import Derived.Test.YtlmcoollkmhanaaSto
namespace Go.Proofs.Ytlmcoollkmhanaa
open Go.RowKit

structure Ct where
 use : List Int
 ev : Int
 bd : Int
 wo : Int
 cs : List Cs
def ct0 : Ct := ⟨[], 0, 0, 0, []⟩
def valCt (x : Ct) (uv cv : Value) : Value := .agg #[uv, .int .i64 x.ev, .int .i64 x.bd, .int .i64 x.wo, cv]
def mkB (s : Si) (use : List Int) (ev pm : Int) : Bool := rgB s use ev && inB pm 0 3000000000000000
def mkE (s : Si) (use : List Int) (ev pm : Int) : Int := if mkB s use ev pm = true then (if use.length ≤ 8 then (if wdt s use ev ≤ pm then 0 else 50) else 2) else 1
def mkX (s : Si) (use : List Int) (ev pm : Int) : Ct := if mkE s use ev pm = 0 then ⟨use, ev, pm, wdt s use ev, csL s use ev⟩ else ct0
def CtRet (w w' : World) (x : Ct) (uv cv : Value) : Prop := OwnIs w' w.heap.size uv x.use ∧ OwnCs w' w.heap.size (fun _ => False) cv x.cs
theorem OwnCs.mono {V : World} {base b' : Nat} {N : Nat → Prop} {v : Value} {cs : List Cs} (h : OwnCs V base N v cs) (hb : b' ≤ base) : OwnCs V b' N v cs := by
 obtain ⟨xs, h1, h2, h3, h4⟩ := h
 exact ⟨xs, h1, World.ownsRow.mono h2 hb, h3, fun x hx => ⟨(h4 x hx).1, fun q hq => Nat.le_trans hb ((h4 x hx).2.1 q hq), fun q hq => Nat.le_trans hb ((h4 x hx).2.2 q hq)⟩⟩
theorem CtRet.none (w w' : World) : CtRet w w' ct0 (.slice none 0 0) (.slice none 0 0) := ⟨⟨by simp [encI, ct0], .inl ⟨rfl, rfl⟩⟩, OwnCs.nil _ _ _⟩
def MkPost (w : World) (s : Si) (use : List Int) (ev pm : Int) (e : Ending) (w' : World) : Prop :=
 ∃ uv cv, e = .returned (.tuple #[valCt (mkX s use ev pm) uv cv, .int .i64 (mkE s use ev pm)]) ∧ CtRet w w' (mkX s use ev pm) uv cv ∧ Below w.heap.size w w'
theorem MkPost.err {w w' : World} {s : Si} {use : List Int} {ev pm E : Int} (hE : mkE s use ev pm = E) (h0 : E ≠ 0) (hb : Below w.heap.size w w') :
  MkPost w s use ev pm (.returned (.tuple #[.agg #[.slice none 0 0, .int .i64 0, .int .i64 0, .int .i64 0, .slice none 0 0], .int .i64 E])) w' := by
 have hx : mkX s use ev pm = ct0 := by unfold mkX; rw [if_neg (by rw [hE]; exact h0)]
 exact ⟨.slice none 0 0, .slice none 0 0, by rw [hx, hE]; rfl, by rw [hx]; exact CtRet.none _ _, hb⟩
def ButX (N x : Nat) (A B : World) : Prop := A.heap.size ≤ B.heap.size ∧ ∀ k, k < N → k ≠ x → B.heap[k]? = A.heap[k]?
theorem ButX.refl (N x : Nat) (A : World) : ButX N x A A := ⟨Nat.le_refl _, fun _ _ _ => rfl⟩
theorem ButX.trans {N x : Nat} {A B C : World} (h : ButX N x A B) (k : ButX N x B C) : ButX N x A C := ⟨Nat.le_trans h.1 k.1, fun q h1 h2 => (k.2 q h1 h2).trans (h.2 q h1 h2)⟩
theorem ButX.below {N M x : Nat} {A B C : World} (h : ButX N x A B) (k : Below M B C) (hm : N ≤ M) : ButX N x A C := h.trans ⟨k.size, fun q h1 _ => k.block q (by omega)⟩
theorem ButX.set {N x : Nat} {A B : World} (h : ButX N x A B) {p : Addr} (hp : p.block = x) (u : Value) : ButX N x A (B.setCell p u) :=
 h.trans ⟨by simp [World.setCell], fun q _ h2 => Below.heap_setCell B p u q (fun e => by omega)⟩
def M4c (V : World) (xb : Nat) (u : Value) (ev t : Int) (c : Value) : Prop := V.cell? ⟨xb, 0, none⟩ = some u ∧ V.cell? ⟨xb, 1, none⟩ = some (.int .i64 ev) ∧ V.cell? ⟨xb, 2, none⟩ = some (.int .i64 t) ∧ V.cell? ⟨xb, 4, none⟩ = some c
theorem M4c.of {V W : World} {xb : Nat} {u : Value} {ev t : Int} {c : Value} (h : M4c V xb u ev t c) (hb : W.heap[xb]? = V.heap[xb]?) : M4c W xb u ev t c := by
 have k : ∀ o, W.cell? ⟨xb, o, none⟩ = V.cell? ⟨xb, o, none⟩ := fun o => World.cell?_of_block (a := ⟨xb, o, none⟩) hb
 exact ⟨(k 0).trans h.1, (k 1).trans h.2.1, (k 2).trans h.2.2.1, (k 4).trans h.2.2.2⟩
theorem M4c.set {V : World} {xb : Nat} {u : Value} {ev t : Int} {c : Value} (h : M4c V xb u ev t c) (x : Value) : M4c (V.setCell ⟨xb, 3, none⟩ x) xb u ev t c :=
 ⟨set_other _ h.1 (by intro h; simp at h), set_other _ h.2.1 (by intro h; simp at h), set_other _ h.2.2.1 (by intro h; simp at h), set_other _ h.2.2.2 (by intro h; simp at h)⟩
theorem ownsRow_setCell_ne31 {w : World} {base e size n : Nat} {v : Value} {xs : List Value} (h : w.ownsRow base e size v n xs) {p : Addr} (hp : ∀ q, v.ownBlock = some q → q ≠ p.block) (u : Value) : (w.setCell p u).ownsRow base e size v n xs := by
 refine ⟨h.1, ?_⟩
 rcases h.2 with h1 | ⟨g, cap, cur, hv, hg, hc, r⟩
 ·exact .inl h1
 ·exact .inr ⟨g, cap, cur, hv, hg, (Below.heap_setCell w p u g (hp g (by rw [hv]; rfl))).trans hc, r⟩
theorem owns_but31 {w w' : World} {base e size n : Nat} {v : Value} {xs : List Value} (h : w.ownsRow base e size v n xs) (hb : ∀ k, v.ownBlock = some k → w'.heap[k]? = w.heap[k]?) : w'.ownsRow base e size v n xs := by
 refine ⟨h.1, ?_⟩
 rcases h.2 with h1 | ⟨g, cap, cur, hv, hg, hc, r⟩
 ·exact .inl h1
 ·exact .inr ⟨g, cap, cur, hv, hg, (hb g (by rw [hv]; rfl)).trans hc, r⟩
set_option maxRecDepth 100000 in
set_option maxHeartbeats 2000000 in
theorem Make_any (r f lo tm : Int) (pv : Value) (ps : List Pr) (uv : Value) (use : List Int) (ev pm : Int) (w : World) (hp : PrRow w pv ps) (hu : IsRow w uv use) :
  Calls Try.prog 8 #[.agg #[.int .i64 r, .int .i64 f, .int .i64 lo, .int .i64 tm, pv], .agg #[uv, .int .i64 ev], .int .i64 pm] w (MkPost w ⟨r, f, lo, tm, ps⟩ use ev pm) := by
 have hR : ∀ W : World, Below w.heap.size w W → PrRow W pv ps ∧ IsRow W uv use := fun W hW => ⟨hp.below (Nat.le_refl _) hW, hu.below (Nat.le_refl _) hW⟩
 have HR := hide hR
 obtain ⟨ua, uc, rfl, vq1, vq2, -⟩ := id hu
 obtain ⟨W0, hW0⟩ : ∃ W : World, W = ((w.alloc (.cells #[.int .i64 r, .int .i64 f, .int .i64 lo, .int .i64 tm, pv] 24)).alloc (.cells #[.slice ua use.length uc, .int .i64 ev] 27)).alloc (.cells #[.slice none 0 0, .int .i64 0, .int .i64 0, .int .i64 0, .slice none 0 0] 35) := ⟨_, rfl⟩
 have hS : ∀ V : World, Below (w.heap.size + 3) W0 V → (V.cell? ⟨w.heap.size, 0, none⟩ = some (.int .i64 r) ∧ V.cell? ⟨w.heap.size, 1, none⟩ = some (.int .i64 f) ∧ V.cell? ⟨w.heap.size, 2, none⟩ = some (.int .i64 lo) ∧ V.cell? ⟨w.heap.size, 3, none⟩ = some (.int .i64 tm) ∧ V.cell? ⟨w.heap.size, 4, none⟩ = some pv) ∧
   (V.cell? ⟨w.heap.size + 1, 0, none⟩ = some (.slice ua use.length uc) ∧ V.cell? ⟨w.heap.size + 1, 1, none⟩ = some (.int .i64 ev)) ∧
   (V.cell? ⟨w.heap.size + 1 + 1, 0, none⟩ = some (.slice none 0 0) ∧ V.cell? ⟨w.heap.size + 1 + 1, 1, none⟩ = some (.int .i64 0) ∧ V.cell? ⟨w.heap.size + 1 + 1, 2, none⟩ = some (.int .i64 0) ∧ V.cell? ⟨w.heap.size + 1 + 1, 3, none⟩ = some (.int .i64 0) ∧ V.cell? ⟨w.heap.size + 1 + 1, 4, none⟩ = some (.slice none 0 0)) ∧
   (V.frozen? ⟨w.heap.size + 1 + 1, 0, none⟩ = false ∧ V.frozen? ⟨w.heap.size + 1 + 1, 1, none⟩ = false ∧ V.frozen? ⟨w.heap.size + 1 + 1, 2, none⟩ = false ∧ V.frozen? ⟨w.heap.size + 1 + 1, 3, none⟩ = false ∧ V.frozen? ⟨w.heap.size + 1 + 1, 4, none⟩ = false) ∧ w.heap.size + 3 ≤ V.heap.size ∧ Below w.heap.size w V := by
  intro V hV
  have bW : Below w.heap.size w W0 := by rw [hW0]; ((with_reducible repeat' first | exact .refl _ _ | refine .alloc ?_ ?_ _ | refine .setCell ?_ ?_ _ | refine .drew ?_ | refine below_drewN ?_ _) <;> first | omega | simp <;> omega)
  have zW : W0.heap.size = w.heap.size + 3 := by rw [hW0]; simp
  have hz := hV.size
  have h0 := (bk hV w.heap.size (by omega)).1
  have h1 := (bk hV (w.heap.size + 1) (by omega)).1
  have h2 := bk hV (w.heap.size + 1 + 1) (by omega)
  refine ⟨⟨(h0 _).trans ?_, (h0 _).trans ?_, (h0 _).trans ?_, (h0 _).trans ?_, (h0 _).trans ?_⟩, ⟨(h1 _).trans ?_, (h1 _).trans ?_⟩, ⟨(h2.1 _).trans ?_, (h2.1 _).trans ?_, (h2.1 _).trans ?_, (h2.1 _).trans ?_, (h2.1 _).trans ?_⟩, ⟨(h2.2 _).trans ?_, (h2.2 _).trans ?_, (h2.2 _).trans ?_, (h2.2 _).trans ?_, (h2.2 _).trans ?_⟩, by omega, bW.trans (hV.mono (by omega))⟩ <;> rw [hW0] <;> simp [go_sem]
 have HS := hide hS
 clear hR hS hp hu
 cases h1 : mkB ⟨r, f, lo, tm, ps⟩ use ev pm with
 | false =>
  have hE : mkE ⟨r, f, lo, tm, ps⟩ use ev pm = 1 := by unfold mkE; rw [h1, if_neg (by simp)]
  have HE := hide hE
  clear hE
  unfold mkB at h1
  cases h2 : rgB ⟨r, f, lo, tm, ps⟩ use ev with
  | false =>
   clear h1
   go_enter Try.func8, Try.ntmps8
   go_upto_region 1 with fail
   rw [← hW0]
   clear hW0
   have B0 : Below (w.heap.size + 3) W0 W0 := Below.refl _ _
   obtain ⟨⟨y0, y1, y2, y3, y4⟩, ⟨x0, x1⟩, ⟨v0, v1, v2, v3, v4⟩, ⟨f0, f1, f2, f3, f4⟩, z0, b0⟩ := HS.out W0 B0
   go_wp2_with (go_at_call 16; (with_reducible refine (wdRight_any r f lo tm _ ps _ use ev _ (HR.out _ b0).1 (HR.out _ b0).2).mono ?_); rintro e w1 ⟨rfl, k1⟩; rw [h2]; have B1 : Below (w.heap.size + 3) W0 w1 := B0.trans (k1.mono z0); clear y0 y1 y2 y3 y4 x0 x1 v0 v1 v2 v3 v4 f0 f1 f2 f3 f4 z0 b0 k1 B0; obtain ⟨⟨y0, y1, y2, y3, y4⟩, ⟨x0, x1⟩, ⟨v0, v1, v2, v3, v4⟩, ⟨f0, f1, f2, f3, f4⟩, z0, b0⟩ := HS.out w1 B1)
   have d := stores_at (w.heap.size + 1 + 1) [.slice none 0 0, .int .i64 0, .int .i64 0, .int .i64 0, .slice none 0 0] 0 (w1) (ex5 v0 v1 v2 v3 v4); have d0 : (((((w1.setCell ⟨w.heap.size + 1 + 1, 0, none⟩ (.slice none 0 0)).setCell ⟨w.heap.size + 1 + 1, 1, none⟩ (.int .i64 0)).setCell ⟨w.heap.size + 1 + 1, 2, none⟩ (.int .i64 0)).setCell ⟨w.heap.size + 1 + 1, 3, none⟩ (.int .i64 0)).setCell ⟨w.heap.size + 1 + 1, 4, none⟩ (.slice none 0 0)).cell? ⟨w.heap.size + 1 + 1, 0, none⟩ = some (.slice none 0 0) := d 0 _ rfl; have d1 : (((((w1.setCell ⟨w.heap.size + 1 + 1, 0, none⟩ (.slice none 0 0)).setCell ⟨w.heap.size + 1 + 1, 1, none⟩ (.int .i64 0)).setCell ⟨w.heap.size + 1 + 1, 2, none⟩ (.int .i64 0)).setCell ⟨w.heap.size + 1 + 1, 3, none⟩ (.int .i64 0)).setCell ⟨w.heap.size + 1 + 1, 4, none⟩ (.slice none 0 0)).cell? ⟨w.heap.size + 1 + 1, 1, none⟩ = some (.int .i64 0) := d 1 _ rfl; have d2 : (((((w1.setCell ⟨w.heap.size + 1 + 1, 0, none⟩ (.slice none 0 0)).setCell ⟨w.heap.size + 1 + 1, 1, none⟩ (.int .i64 0)).setCell ⟨w.heap.size + 1 + 1, 2, none⟩ (.int .i64 0)).setCell ⟨w.heap.size + 1 + 1, 3, none⟩ (.int .i64 0)).setCell ⟨w.heap.size + 1 + 1, 4, none⟩ (.slice none 0 0)).cell? ⟨w.heap.size + 1 + 1, 2, none⟩ = some (.int .i64 0) := d 2 _ rfl; have d3 : (((((w1.setCell ⟨w.heap.size + 1 + 1, 0, none⟩ (.slice none 0 0)).setCell ⟨w.heap.size + 1 + 1, 1, none⟩ (.int .i64 0)).setCell ⟨w.heap.size + 1 + 1, 2, none⟩ (.int .i64 0)).setCell ⟨w.heap.size + 1 + 1, 3, none⟩ (.int .i64 0)).setCell ⟨w.heap.size + 1 + 1, 4, none⟩ (.slice none 0 0)).cell? ⟨w.heap.size + 1 + 1, 3, none⟩ = some (.int .i64 0) := d 3 _ rfl; have d4 : (((((w1.setCell ⟨w.heap.size + 1 + 1, 0, none⟩ (.slice none 0 0)).setCell ⟨w.heap.size + 1 + 1, 1, none⟩ (.int .i64 0)).setCell ⟨w.heap.size + 1 + 1, 2, none⟩ (.int .i64 0)).setCell ⟨w.heap.size + 1 + 1, 3, none⟩ (.int .i64 0)).setCell ⟨w.heap.size + 1 + 1, 4, none⟩ (.slice none 0 0)).cell? ⟨w.heap.size + 1 + 1, 4, none⟩ = some (.slice none 0 0) := d 4 _ rfl
   exact bodyPost_ret (v := .tuple #[.agg #[.slice none 0 0, .int .i64 0, .int .i64 0, .int .i64 0, .slice none 0 0], .int .i64 (1)]) (by simp [results, Try.results8, go_sem, d0, d1, d2, d3, d4]) rfl (MkPost.err HE.out (by decide) (by ((with_reducible repeat' first | exact .refl _ _ | exact b0 | refine .alloc ?_ ?_ _ | refine .setCell ?_ ?_ _ | refine .drew ?_ | refine below_drewN ?_ _ | refine Below.trans ?_ (b0.mono ?_)) <;> first | omega | simp <;> omega)))
  | true =>
   rw [h2, Bool.true_and] at h1
   have h3 : pm < 0 ∨ 3000000000000000 < pm := by
    unfold inB at h1
    simp only [decide_eq_false_iff_not] at h1
    omega
   clear h1
   rcases h3 with h3 | h3
   ·have h4 := h3
    go_enter Try.func8, Try.ntmps8
    go_upto_region 1 with fail
    rw [← hW0]
    clear hW0
    have B0 : Below (w.heap.size + 3) W0 W0 := Below.refl _ _
    obtain ⟨⟨y0, y1, y2, y3, y4⟩, ⟨x0, x1⟩, ⟨v0, v1, v2, v3, v4⟩, ⟨f0, f1, f2, f3, f4⟩, z0, b0⟩ := HS.out W0 B0
    go_wp2_with (go_at_call 16; (with_reducible refine (wdRight_any r f lo tm _ ps _ use ev _ (HR.out _ b0).1 (HR.out _ b0).2).mono ?_); rintro e w1 ⟨rfl, k1⟩; rw [h2]; have B1 : Below (w.heap.size + 3) W0 w1 := B0.trans (k1.mono z0); clear y0 y1 y2 y3 y4 x0 x1 v0 v1 v2 v3 v4 f0 f1 f2 f3 f4 z0 b0 k1 B0; obtain ⟨⟨y0, y1, y2, y3, y4⟩, ⟨x0, x1⟩, ⟨v0, v1, v2, v3, v4⟩, ⟨f0, f1, f2, f3, f4⟩, z0, b0⟩ := HS.out w1 B1)
    have d := stores_at (w.heap.size + 1 + 1) [.slice none 0 0, .int .i64 0, .int .i64 0, .int .i64 0, .slice none 0 0] 0 (w1) (ex5 v0 v1 v2 v3 v4); have d0 : (((((w1.setCell ⟨w.heap.size + 1 + 1, 0, none⟩ (.slice none 0 0)).setCell ⟨w.heap.size + 1 + 1, 1, none⟩ (.int .i64 0)).setCell ⟨w.heap.size + 1 + 1, 2, none⟩ (.int .i64 0)).setCell ⟨w.heap.size + 1 + 1, 3, none⟩ (.int .i64 0)).setCell ⟨w.heap.size + 1 + 1, 4, none⟩ (.slice none 0 0)).cell? ⟨w.heap.size + 1 + 1, 0, none⟩ = some (.slice none 0 0) := d 0 _ rfl; have d1 : (((((w1.setCell ⟨w.heap.size + 1 + 1, 0, none⟩ (.slice none 0 0)).setCell ⟨w.heap.size + 1 + 1, 1, none⟩ (.int .i64 0)).setCell ⟨w.heap.size + 1 + 1, 2, none⟩ (.int .i64 0)).setCell ⟨w.heap.size + 1 + 1, 3, none⟩ (.int .i64 0)).setCell ⟨w.heap.size + 1 + 1, 4, none⟩ (.slice none 0 0)).cell? ⟨w.heap.size + 1 + 1, 1, none⟩ = some (.int .i64 0) := d 1 _ rfl; have d2 : (((((w1.setCell ⟨w.heap.size + 1 + 1, 0, none⟩ (.slice none 0 0)).setCell ⟨w.heap.size + 1 + 1, 1, none⟩ (.int .i64 0)).setCell ⟨w.heap.size + 1 + 1, 2, none⟩ (.int .i64 0)).setCell ⟨w.heap.size + 1 + 1, 3, none⟩ (.int .i64 0)).setCell ⟨w.heap.size + 1 + 1, 4, none⟩ (.slice none 0 0)).cell? ⟨w.heap.size + 1 + 1, 2, none⟩ = some (.int .i64 0) := d 2 _ rfl; have d3 : (((((w1.setCell ⟨w.heap.size + 1 + 1, 0, none⟩ (.slice none 0 0)).setCell ⟨w.heap.size + 1 + 1, 1, none⟩ (.int .i64 0)).setCell ⟨w.heap.size + 1 + 1, 2, none⟩ (.int .i64 0)).setCell ⟨w.heap.size + 1 + 1, 3, none⟩ (.int .i64 0)).setCell ⟨w.heap.size + 1 + 1, 4, none⟩ (.slice none 0 0)).cell? ⟨w.heap.size + 1 + 1, 3, none⟩ = some (.int .i64 0) := d 3 _ rfl; have d4 : (((((w1.setCell ⟨w.heap.size + 1 + 1, 0, none⟩ (.slice none 0 0)).setCell ⟨w.heap.size + 1 + 1, 1, none⟩ (.int .i64 0)).setCell ⟨w.heap.size + 1 + 1, 2, none⟩ (.int .i64 0)).setCell ⟨w.heap.size + 1 + 1, 3, none⟩ (.int .i64 0)).setCell ⟨w.heap.size + 1 + 1, 4, none⟩ (.slice none 0 0)).cell? ⟨w.heap.size + 1 + 1, 4, none⟩ = some (.slice none 0 0) := d 4 _ rfl
    exact bodyPost_ret (v := .tuple #[.agg #[.slice none 0 0, .int .i64 0, .int .i64 0, .int .i64 0, .slice none 0 0], .int .i64 (1)]) (by simp [results, Try.results8, go_sem, d0, d1, d2, d3, d4]) rfl (MkPost.err HE.out (by decide) (by ((with_reducible repeat' first | exact .refl _ _ | exact b0 | refine .alloc ?_ ?_ _ | refine .setCell ?_ ?_ _ | refine .drew ?_ | refine below_drewN ?_ _ | refine Below.trans ?_ (b0.mono ?_)) <;> first | omega | simp <;> omega)))
   ·have h4 : ¬ pm < 0 := by omega
    go_enter Try.func8, Try.ntmps8
    go_upto_region 1 with fail
    rw [← hW0]
    clear hW0
    have B0 : Below (w.heap.size + 3) W0 W0 := Below.refl _ _
    obtain ⟨⟨y0, y1, y2, y3, y4⟩, ⟨x0, x1⟩, ⟨v0, v1, v2, v3, v4⟩, ⟨f0, f1, f2, f3, f4⟩, z0, b0⟩ := HS.out W0 B0
    go_wp2_with (go_at_call 16; (with_reducible refine (wdRight_any r f lo tm _ ps _ use ev _ (HR.out _ b0).1 (HR.out _ b0).2).mono ?_); rintro e w1 ⟨rfl, k1⟩; rw [h2]; have B1 : Below (w.heap.size + 3) W0 w1 := B0.trans (k1.mono z0); clear y0 y1 y2 y3 y4 x0 x1 v0 v1 v2 v3 v4 f0 f1 f2 f3 f4 z0 b0 k1 B0; obtain ⟨⟨y0, y1, y2, y3, y4⟩, ⟨x0, x1⟩, ⟨v0, v1, v2, v3, v4⟩, ⟨f0, f1, f2, f3, f4⟩, z0, b0⟩ := HS.out w1 B1)
    have d := stores_at (w.heap.size + 1 + 1) [.slice none 0 0, .int .i64 0, .int .i64 0, .int .i64 0, .slice none 0 0] 0 (w1) (ex5 v0 v1 v2 v3 v4); have d0 : (((((w1.setCell ⟨w.heap.size + 1 + 1, 0, none⟩ (.slice none 0 0)).setCell ⟨w.heap.size + 1 + 1, 1, none⟩ (.int .i64 0)).setCell ⟨w.heap.size + 1 + 1, 2, none⟩ (.int .i64 0)).setCell ⟨w.heap.size + 1 + 1, 3, none⟩ (.int .i64 0)).setCell ⟨w.heap.size + 1 + 1, 4, none⟩ (.slice none 0 0)).cell? ⟨w.heap.size + 1 + 1, 0, none⟩ = some (.slice none 0 0) := d 0 _ rfl; have d1 : (((((w1.setCell ⟨w.heap.size + 1 + 1, 0, none⟩ (.slice none 0 0)).setCell ⟨w.heap.size + 1 + 1, 1, none⟩ (.int .i64 0)).setCell ⟨w.heap.size + 1 + 1, 2, none⟩ (.int .i64 0)).setCell ⟨w.heap.size + 1 + 1, 3, none⟩ (.int .i64 0)).setCell ⟨w.heap.size + 1 + 1, 4, none⟩ (.slice none 0 0)).cell? ⟨w.heap.size + 1 + 1, 1, none⟩ = some (.int .i64 0) := d 1 _ rfl; have d2 : (((((w1.setCell ⟨w.heap.size + 1 + 1, 0, none⟩ (.slice none 0 0)).setCell ⟨w.heap.size + 1 + 1, 1, none⟩ (.int .i64 0)).setCell ⟨w.heap.size + 1 + 1, 2, none⟩ (.int .i64 0)).setCell ⟨w.heap.size + 1 + 1, 3, none⟩ (.int .i64 0)).setCell ⟨w.heap.size + 1 + 1, 4, none⟩ (.slice none 0 0)).cell? ⟨w.heap.size + 1 + 1, 2, none⟩ = some (.int .i64 0) := d 2 _ rfl; have d3 : (((((w1.setCell ⟨w.heap.size + 1 + 1, 0, none⟩ (.slice none 0 0)).setCell ⟨w.heap.size + 1 + 1, 1, none⟩ (.int .i64 0)).setCell ⟨w.heap.size + 1 + 1, 2, none⟩ (.int .i64 0)).setCell ⟨w.heap.size + 1 + 1, 3, none⟩ (.int .i64 0)).setCell ⟨w.heap.size + 1 + 1, 4, none⟩ (.slice none 0 0)).cell? ⟨w.heap.size + 1 + 1, 3, none⟩ = some (.int .i64 0) := d 3 _ rfl; have d4 : (((((w1.setCell ⟨w.heap.size + 1 + 1, 0, none⟩ (.slice none 0 0)).setCell ⟨w.heap.size + 1 + 1, 1, none⟩ (.int .i64 0)).setCell ⟨w.heap.size + 1 + 1, 2, none⟩ (.int .i64 0)).setCell ⟨w.heap.size + 1 + 1, 3, none⟩ (.int .i64 0)).setCell ⟨w.heap.size + 1 + 1, 4, none⟩ (.slice none 0 0)).cell? ⟨w.heap.size + 1 + 1, 4, none⟩ = some (.slice none 0 0) := d 4 _ rfl
    exact bodyPost_ret (v := .tuple #[.agg #[.slice none 0 0, .int .i64 0, .int .i64 0, .int .i64 0, .slice none 0 0], .int .i64 (1)]) (by simp [results, Try.results8, go_sem, d0, d1, d2, d3, d4]) rfl (MkPost.err HE.out (by decide) (by ((with_reducible repeat' first | exact .refl _ _ | exact b0 | refine .alloc ?_ ?_ _ | refine .setCell ?_ ?_ _ | refine .drew ?_ | refine below_drewN ?_ _ | refine Below.trans ?_ (b0.mono ?_)) <;> first | omega | simp <;> omega)))
 | true =>
  obtain ⟨hrg, hpm⟩ := (Bool.and_eq_true _ _).mp h1
  have hpm2 : 0 ≤ pm ∧ pm ≤ 3000000000000000 := of_decide_eq_true hpm
  by_cases h8 : use.length ≤ 8
  ·have hE : mkE ⟨r, f, lo, tm, ps⟩ use ev pm = if wdt ⟨r, f, lo, tm, ps⟩ use ev ≤ pm then 0 else 50 := by unfold mkE; rw [h1, if_pos rfl, if_pos h8]
   have HE := hide hE
   have HC := hide (fun (V : World) (hV : Below w.heap.size w V) => cases_any r f lo tm pv ps (.slice ua use.length uc) use ev V (HR.out V hV).1 (HR.out V hV).2 hrg h8)
   clear hE h1 hpm
   have hn1 : ¬ pm < 0 := by omega
   have hn2 : ¬ 3000000000000000 < pm := by omega
   have hn3 : ¬ (8 : Int) < (use.length : Int) := by omega
   go_enter Try.func8, Try.ntmps8
   go_upto_region 1 with fail
   rw [← hW0]
   clear hW0
   have B0 : Below (w.heap.size + 3) W0 W0 := Below.refl _ _
   obtain ⟨⟨y0, y1, y2, y3, y4⟩, ⟨x0, x1⟩, ⟨v0, v1, v2, v3, v4⟩, ⟨f0, f1, f2, f3, f4⟩, z0, b0⟩ := HS.out W0 B0
   go_upto_region 6 with (first | (go_at_call 16; (with_reducible refine (wdRight_any r f lo tm _ ps _ use ev _ (HR.out _ b0).1 (HR.out _ b0).2).mono ?_); rintro e w1 ⟨rfl, k1⟩; rw [hrg]; have B1 : Below (w.heap.size + 3) W0 w1 := B0.trans (k1.mono z0); clear y0 y1 y2 y3 y4 x0 x1 v0 v1 v2 v3 v4 f0 f1 f2 f3 f4 z0 b0 k1 B0; obtain ⟨⟨y0, y1, y2, y3, y4⟩, ⟨x0, x1⟩, ⟨v0, v1, v2, v3, v4⟩, ⟨f0, f1, f2, f3, f4⟩, z0, b0⟩ := HS.out w1 B1) | (go_at_call 21; (with_reducible refine (HC.out _ b0).mono ?_); rintro e w2 ⟨cv, rfl, hcr, hcb, k2⟩; have B2 : Below (w.heap.size + 3) W0 w2 := B1.trans (k2.mono z0); have hco := hcr.mono (b' := w.heap.size + 3) (by omega); clear hcr; have hcr := hco.row; clear y0 y1 y2 y3 y4 x0 x1 v0 v1 v2 v3 v4 f0 f1 f2 f3 f4 z0 b0 k2 B1; obtain ⟨⟨y0, y1, y2, y3, y4⟩, ⟨x0, x1⟩, ⟨v0, v1, v2, v3, v4⟩, ⟨f0, f1, f2, f3, f4⟩, z0, b0⟩ := HS.out w2 B2))
   obtain ⟨ca, cc, hcv, cq1, cq2⟩ := hcr.len
   subst hcv
   have hX : ∀ V : World, Below w2.heap.size w2 V → V.cell? ⟨w.heap.size + 1, 0, none⟩ = some (.slice ua use.length uc) ∧ V.cell? ⟨w.heap.size + 1, 1, none⟩ = some (.int .i64 ev) := fun V hV => by
    have hx := HS.out V (B2.trans (hV.mono z0))
    exact hx.2.1
   have HX := hide hX
   have Hcr := hide hcr
   have Hco := hide hco
   have Hcb := hide hcb
   have HB2 := hide B2
   have Hur := hide (HR.out _ b0).2
   have hbw := b0
   have Hbw := hide hbw
   clear hX hcr hco hcb B2 hbw y0 y1 y2 y3 y4 v0 v1 v2 v3 v4 f0 f1 f2 f3 f4 b0
   have z2 : w.heap.size + 3 ≤ w2.heap.size := z0
   obtain ⟨NC, hNC⟩ : ∃ n, n = (csL ⟨r, f, lo, tm, ps⟩ use ev).length := ⟨_, rfl⟩
   rw [← hNC] at Hcb cq1 Hcr Hco ⊢
   have HNC := hide hNC
   clear hNC
   go_upto_region 8 with fail
   generalize (Value.bool (decide (pm < 0) || decide (3000000000000000 < pm))) = b13
   generalize (Value.bool (decide ((8 : Int) < (use.length : Int)))) = b27
   go_cut [10] (fun s10 wx => ∃ xb va vc, s10 = .pointer (some ⟨xb, 0, none⟩) ∧ (wx.cell? ⟨xb, 0, none⟩ = some (.slice va use.length vc) ∧ wx.cell? ⟨xb, 1, none⟩ = some (.int .i64 ev) ∧ wx.cell? ⟨xb, 2, none⟩ = some (.int .i64 pm) ∧ wx.cell? ⟨xb, 3, none⟩ = some (.int .i64 0) ∧ wx.cell? ⟨xb, 4, none⟩ = some (.slice ca NC cc)) ∧ wx.frozen? ⟨xb, 3, none⟩ = false ∧ OwnIs wx w2.heap.size (.slice va use.length vc) use ∧ (∀ q, (Value.slice va use.length vc).ownBlock = some q → q ≠ xb) ∧ w2.heap.size ≤ xb ∧ xb < wx.heap.size ∧ Below w2.heap.size w2 wx)
   case first =>
    have zd : w2.drew.heap.size = w2.heap.size := rfl
    go_region_held3 (fun W => W.cell? ⟨w.heap.size + 1, 0, none⟩ = some (.slice ua use.length uc) ∧ W.cell? ⟨w.heap.size + 1, 1, none⟩ = some (.int .i64 ev)) (exact HX.out _ (by ((with_reducible repeat' first | exact .refl _ _ | exact k6 | refine .alloc ?_ ?_ _ | refine .setCell ?_ ?_ _ | refine .drew ?_ | refine below_drewN ?_ _ | refine Below.trans ?_ (k6.mono ?_)) <;> first | omega | simp <;> omega)))
     (first | (go_at_call 22; (with_reducible refine (CloneW_any _ use _ (Hur.out.below (Nat.le_refl _) (by ((with_reducible repeat' first | exact .refl _ _ | refine .alloc ?_ ?_ _ | refine .setCell ?_ ?_ _ | refine .drew ?_ | refine below_drewN ?_ _) <;> first | omega | simp <;> omega))) (by omega)).mono ?_); rintro e w6 ⟨cv, rfl, hcv, k6⟩; obtain ⟨va, vc, hce, -, -⟩ := hcv.val; subst hce; (first | (have tt := made5 k6; obtain ⟨t0, t1, t2, t3, t4, g0, g1, g2, g3, g4, tz⟩ := tt) | (have tt := made5D k6; obtain ⟨t0, t1, t2, t3, t4, g0, g1, g2, g3, g4, tz⟩ := tt) | (have tz : w2.heap.size ≤ w6.heap.size := k6.size))))
    all_goals have hown1 : OwnIs w6 w2.heap.size (.slice va use.length vc) use := World.ownsRow.mono hcv (by simp)
    all_goals have hlow := World.ownsRow.lt hcv
    all_goals go_wp2
    all_goals go_meet
    ·refine ⟨w6.heap.size, va, vc, rfl, ⟨by simp, by simp, by simp, by simp, by simp⟩, by simp [go_sem], World.ownsRow.alloc hown1 _, fun q hq => ?_, tz, by simp, (by ((with_reducible repeat' first | exact .refl _ _ | exact k6 | refine .alloc ?_ ?_ _ | refine .setCell ?_ ?_ _ | refine .drew ?_ | refine below_drewN ?_ _ | refine Below.trans ?_ (k6.mono ?_)) <;> first | omega | simp <;> omega))⟩
     have := (hlow q hq).2
     omega
    ·have d := stores_at (w2.heap.size) [.slice va use.length vc, .int .i64 ev, .int .i64 pm, .int .i64 0, .slice ca NC cc] 0 (w6) (ex5 t0 t1 t2 t3 t4); have d0 : (((((w6.setCell ⟨w2.heap.size, 0, none⟩ (.slice va use.length vc)).setCell ⟨w2.heap.size, 1, none⟩ (.int .i64 ev)).setCell ⟨w2.heap.size, 2, none⟩ (.int .i64 pm)).setCell ⟨w2.heap.size, 3, none⟩ (.int .i64 0)).setCell ⟨w2.heap.size, 4, none⟩ (.slice ca NC cc)).cell? ⟨w2.heap.size, 0, none⟩ = some (.slice va use.length vc) := d 0 _ rfl; have d1 : (((((w6.setCell ⟨w2.heap.size, 0, none⟩ (.slice va use.length vc)).setCell ⟨w2.heap.size, 1, none⟩ (.int .i64 ev)).setCell ⟨w2.heap.size, 2, none⟩ (.int .i64 pm)).setCell ⟨w2.heap.size, 3, none⟩ (.int .i64 0)).setCell ⟨w2.heap.size, 4, none⟩ (.slice ca NC cc)).cell? ⟨w2.heap.size, 1, none⟩ = some (.int .i64 ev) := d 1 _ rfl; have d2 : (((((w6.setCell ⟨w2.heap.size, 0, none⟩ (.slice va use.length vc)).setCell ⟨w2.heap.size, 1, none⟩ (.int .i64 ev)).setCell ⟨w2.heap.size, 2, none⟩ (.int .i64 pm)).setCell ⟨w2.heap.size, 3, none⟩ (.int .i64 0)).setCell ⟨w2.heap.size, 4, none⟩ (.slice ca NC cc)).cell? ⟨w2.heap.size, 2, none⟩ = some (.int .i64 pm) := d 2 _ rfl; have d3 : (((((w6.setCell ⟨w2.heap.size, 0, none⟩ (.slice va use.length vc)).setCell ⟨w2.heap.size, 1, none⟩ (.int .i64 ev)).setCell ⟨w2.heap.size, 2, none⟩ (.int .i64 pm)).setCell ⟨w2.heap.size, 3, none⟩ (.int .i64 0)).setCell ⟨w2.heap.size, 4, none⟩ (.slice ca NC cc)).cell? ⟨w2.heap.size, 3, none⟩ = some (.int .i64 0) := d 3 _ rfl; have d4 : (((((w6.setCell ⟨w2.heap.size, 0, none⟩ (.slice va use.length vc)).setCell ⟨w2.heap.size, 1, none⟩ (.int .i64 ev)).setCell ⟨w2.heap.size, 2, none⟩ (.int .i64 pm)).setCell ⟨w2.heap.size, 3, none⟩ (.int .i64 0)).setCell ⟨w2.heap.size, 4, none⟩ (.slice ca NC cc)).cell? ⟨w2.heap.size, 4, none⟩ = some (.slice ca NC cc) := d 4 _ rfl
     have hne : ∀ q, (Value.slice va use.length vc).ownBlock = some q → q ≠ w2.heap.size := fun q hq => by
      have := (hlow q hq).1
      simp at this
      omega
     refine ⟨w2.heap.size, va, vc, rfl, ⟨d0, d1, d2, d3, d4⟩, by simp [go_sem, g3], ?_, hne, Nat.le_refl _, by simpa [World.setCell] using tz, (by ((with_reducible repeat' first | exact .refl _ _ | exact k6 | refine .alloc ?_ ?_ _ | refine .setCell ?_ ?_ _ | refine .drew ?_ | refine below_drewN ?_ _ | refine Below.trans ?_ (k6.mono ?_)) <;> first | omega | simp <;> omega))⟩
     exact ownsRow_setCell_ne31 (ownsRow_setCell_ne31 (ownsRow_setCell_ne31 (ownsRow_setCell_ne31 (ownsRow_setCell_ne31 hown1 (p := ⟨w2.heap.size, 0, none⟩) hne _) (p := ⟨w2.heap.size, 1, none⟩) hne _) (p := ⟨w2.heap.size, 2, none⟩) hne _) (p := ⟨w2.heap.size, 3, none⟩) hne _) (p := ⟨w2.heap.size, 4, none⟩) hne _
   case rest =>
    obtain ⟨xb, va, vc, rfl, ⟨m0, m1, m2, m3, m4⟩, fr3, hown, hne, hxb0, hxb, Bc⟩ := hcut
    obtain ⟨wa, hwa⟩ : ∃ W : World, W = wc := ⟨_, rfl⟩
    subst hwa
    have Hxb := hide (And.intro hown hne)
    have hM4 : Hid (M4c wa xb (.slice va use.length vc) ev pm (.slice ca NC cc)) := hide ⟨m0, m1, m2, m4⟩
    clear x0 x1 hown hne m0 m1 m2 m4
    go_wp2_with fail
    go_loopw [54] (fun s54 wx => ∃ k : Nat, k ≤ NC ∧ s54 = .int .i64 k ∧ wx.cell? ⟨xb, 3, none⟩ = some (.int .i64 (mxC (csL ⟨r, f, lo, tm, ps⟩ use ev) k)) ∧ wx.frozen? ⟨xb, 3, none⟩ = false ∧ Below w2.heap.size w2 wx ∧ Hid (ButX wa.heap.size xb wa wx) ∧ Hid (M4c wx xb (.slice va use.length vc) ev pm (.slice ca NC cc))) (fun s54 _ => NC - (intOf s54).toNat)
    case atStart => exact ⟨0, Nat.zero_le _, rfl, m3, fr3, Bc, hide (ButX.refl _ _ _), hM4⟩
    case round =>
     obtain ⟨k, hk, rfl, c3, fr, hB, HX3, HM⟩ := hrel
     by_cases hlt : k < NC
     ·have hk2 : k < (csL ⟨r, f, lo, tm, ps⟩ use ev).length := by rw [← HNC.out]; exact hlt
      obtain ⟨cb, co, ccap, u1, u2, hcv, hcb, ⟨e0, e1, e2⟩, ⟨l1, n1, rfl, -⟩, ⟨l2, n2, rfl, -⟩⟩ := (Hcr.out.below (Nat.le_refl _) hB).at_ hk2
      rw [← HNC.out] at hcv
      simp only [Value.slice.injEq] at hcv
      obtain ⟨rfl, -, rfl⟩ := hcv
      obtain ⟨CW, hCW⟩ : ∃ x, x = (csAt (csL ⟨r, f, lo, tm, ps⟩ use ev) k).wd := ⟨_, rfl⟩
      obtain ⟨MX, hMX⟩ : ∃ x, x = mxC (csL ⟨r, f, lo, tm, ps⟩ use ev) k := ⟨_, rfl⟩
      rw [← hCW] at e2
      rw [← hMX] at c3
      have hsn : mxC (csL ⟨r, f, lo, tm, ps⟩ use ev) (k + 1) = mx MX CW := by rw [mxC, ← hCW, ← hMX]
      have Hsn := hide hsn
      have hxr : xb < wr.heap.size := World.block_lt_of_cell? _ _ c3
      have HB := hide hB
      clear hCW hMX hsn hB hk2
      go_wp2
      have hxs : xb < (wr.setCell ⟨xb, 3, none⟩ (.int .i64 (max MX CW))).heap.size := by simpa [World.setCell] using hxr
      have hmx : mx MX CW = max MX CW := by unfold mx; split <;> omega
      have hws := HX3.out.1
      refine ⟨⟨k + 1, by omega, by go_num, ?_, ?_, ?_, hide ?_, hide ?_⟩, by simp [intOf]; omega⟩
      ·rw [Hsn.out, hmx]
       exact (World.cell?_of_block (a := ⟨xb, 3, none⟩) (Below.heap_alloc _ _ _ hxs)).trans (set_same _ c3)
      ·exact (World.frozen?_of_block (a := ⟨xb, 3, none⟩) (Below.heap_alloc _ _ _ hxs)).trans (by rw [World.frozen?_setCell]; exact fr)
      ·exact (HB.out.setCell (p := ⟨xb, 3, none⟩) hxb0 _).alloc (by have := HB.out.size; simpa [World.setCell] using this) _
      ·exact (HX3.out.set (p := ⟨xb, 3, none⟩) rfl _).below ((Below.refl _ _).alloc (Nat.le_refl _) _) (by simpa [World.setCell] using hws)
      ·exact (HM.out.set _).of (Below.heap_alloc _ _ _ hxs)
     ·obtain rfl : k = NC := by omega
      have hmw : mxC (csL ⟨r, f, lo, tm, ps⟩ use ev) k = wdt ⟨r, f, lo, tm, ps⟩ use ev := by
       have h := (mxC_cs hrg).1
       rw [← HNC.out] at h
       exact h
      rw [hmw] at c3
      have BW : Below (w.heap.size + 3) W0 wr := HB2.out.trans (hB.mono z2)
      obtain ⟨-, -, ⟨v0, v1, v2, v3, v4⟩, ⟨f0, f1, f2, f3, f4⟩, z0, b0⟩ := HS.out wr BW
      have HBr := hide hB
      clear hmw hB BW
      by_cases hw : wdt ⟨r, f, lo, tm, ps⟩ use ev ≤ pm
      ·have hE : mkE ⟨r, f, lo, tm, ps⟩ use ev pm = 0 := by rw [HE.out, if_pos hw]
       have hXx : mkX ⟨r, f, lo, tm, ps⟩ use ev pm = ⟨use, ev, pm, wdt ⟨r, f, lo, tm, ps⟩ use ev, csL ⟨r, f, lo, tm, ps⟩ use ev⟩ := by unfold mkX; rw [if_pos hE]
       have HE2 := hide (And.intro hE hXx)
       have hn4 : ¬ pm < wdt ⟨r, f, lo, tm, ps⟩ use ev := by omega
       obtain ⟨m0, m1, m2, m4⟩ := HM.out
       clear hE hXx hw
       go_wp2
       have d := stores_at (w.heap.size + 1 + 1) [.slice va use.length vc, .int .i64 ev, .int .i64 pm, .int .i64 (wdt ⟨r, f, lo, tm, ps⟩ use ev), .slice ca k cc] 0 (wr) (ex5 v0 v1 v2 v3 v4); have d0 : (((((wr.setCell ⟨w.heap.size + 1 + 1, 0, none⟩ (.slice va use.length vc)).setCell ⟨w.heap.size + 1 + 1, 1, none⟩ (.int .i64 ev)).setCell ⟨w.heap.size + 1 + 1, 2, none⟩ (.int .i64 pm)).setCell ⟨w.heap.size + 1 + 1, 3, none⟩ (.int .i64 (wdt ⟨r, f, lo, tm, ps⟩ use ev))).setCell ⟨w.heap.size + 1 + 1, 4, none⟩ (.slice ca k cc)).cell? ⟨w.heap.size + 1 + 1, 0, none⟩ = some (.slice va use.length vc) := d 0 _ rfl; have d1 : (((((wr.setCell ⟨w.heap.size + 1 + 1, 0, none⟩ (.slice va use.length vc)).setCell ⟨w.heap.size + 1 + 1, 1, none⟩ (.int .i64 ev)).setCell ⟨w.heap.size + 1 + 1, 2, none⟩ (.int .i64 pm)).setCell ⟨w.heap.size + 1 + 1, 3, none⟩ (.int .i64 (wdt ⟨r, f, lo, tm, ps⟩ use ev))).setCell ⟨w.heap.size + 1 + 1, 4, none⟩ (.slice ca k cc)).cell? ⟨w.heap.size + 1 + 1, 1, none⟩ = some (.int .i64 ev) := d 1 _ rfl; have d2 : (((((wr.setCell ⟨w.heap.size + 1 + 1, 0, none⟩ (.slice va use.length vc)).setCell ⟨w.heap.size + 1 + 1, 1, none⟩ (.int .i64 ev)).setCell ⟨w.heap.size + 1 + 1, 2, none⟩ (.int .i64 pm)).setCell ⟨w.heap.size + 1 + 1, 3, none⟩ (.int .i64 (wdt ⟨r, f, lo, tm, ps⟩ use ev))).setCell ⟨w.heap.size + 1 + 1, 4, none⟩ (.slice ca k cc)).cell? ⟨w.heap.size + 1 + 1, 2, none⟩ = some (.int .i64 pm) := d 2 _ rfl; have d3 : (((((wr.setCell ⟨w.heap.size + 1 + 1, 0, none⟩ (.slice va use.length vc)).setCell ⟨w.heap.size + 1 + 1, 1, none⟩ (.int .i64 ev)).setCell ⟨w.heap.size + 1 + 1, 2, none⟩ (.int .i64 pm)).setCell ⟨w.heap.size + 1 + 1, 3, none⟩ (.int .i64 (wdt ⟨r, f, lo, tm, ps⟩ use ev))).setCell ⟨w.heap.size + 1 + 1, 4, none⟩ (.slice ca k cc)).cell? ⟨w.heap.size + 1 + 1, 3, none⟩ = some (.int .i64 (wdt ⟨r, f, lo, tm, ps⟩ use ev)) := d 3 _ rfl; have d4 : (((((wr.setCell ⟨w.heap.size + 1 + 1, 0, none⟩ (.slice va use.length vc)).setCell ⟨w.heap.size + 1 + 1, 1, none⟩ (.int .i64 ev)).setCell ⟨w.heap.size + 1 + 1, 2, none⟩ (.int .i64 pm)).setCell ⟨w.heap.size + 1 + 1, 3, none⟩ (.int .i64 (wdt ⟨r, f, lo, tm, ps⟩ use ev))).setCell ⟨w.heap.size + 1 + 1, 4, none⟩ (.slice ca k cc)).cell? ⟨w.heap.size + 1 + 1, 4, none⟩ = some (.slice ca k cc) := d 4 _ rfl
       refine bodyPost_ret (v := .tuple #[.agg #[.slice va use.length vc, .int .i64 ev, .int .i64 pm, .int .i64 (wdt ⟨r, f, lo, tm, ps⟩ use ev), .slice ca k cc], .int .i64 0]) (by simp [results, Try.results8, go_sem, d0, d1, d2, d3, d4]) rfl ⟨.slice va use.length vc, .slice ca k cc, by rw [HE2.out.1, HE2.out.2]; rfl, ?_, (by ((with_reducible repeat' first | exact .refl _ _ | exact b0 | refine .alloc ?_ ?_ _ | refine .setCell ?_ ?_ _ | refine .drew ?_ | refine below_drewN ?_ _ | refine Below.trans ?_ (b0.mono ?_)) <;> first | omega | simp <;> omega))⟩
       rw [HE2.out.2]
       have hu9 : OwnIs wr w2.heap.size (.slice va use.length vc) use := by
        refine owns_but31 Hxb.out.1 fun q hq => ?_
        exact HX3.out.2 q (World.ownsRow.lt Hxb.out.1 q hq).2 (Hxb.out.2 q hq)
       have hne : ∀ q, (Value.slice va use.length vc).ownBlock = some q → q ≠ w.heap.size + 1 + 1 := fun q hq => by have := (World.ownsRow.lt hu9 q hq).1; omega
       have hu10 := ownsRow_setCell_ne31 (ownsRow_setCell_ne31 (ownsRow_setCell_ne31 (ownsRow_setCell_ne31 (ownsRow_setCell_ne31 hu9 (p := ⟨w.heap.size + 1 + 1, 0, none⟩) hne (.slice va use.length vc)) (p := ⟨w.heap.size + 1 + 1, 1, none⟩) hne (.int .i64 ev)) (p := ⟨w.heap.size + 1 + 1, 2, none⟩) hne (.int .i64 pm)) (p := ⟨w.heap.size + 1 + 1, 3, none⟩) hne (.int .i64 (wdt ⟨r, f, lo, tm, ps⟩ use ev))) (p := ⟨w.heap.size + 1 + 1, 4, none⟩) hne (.slice ca k cc)
       refine ⟨World.ownsRow.mono hu10 (by omega), (OwnCs.move (M := fun _ => False) Hco.out.low ⟨?_, fun q o hq hc hn => ?_⟩ (fun _ _ h => h.elim)).mono (by omega)⟩
       ·have := HBr.out.size
        simpa [World.setCell] using this
       ·have hlt := (Array.getElem?_eq_some_iff.1 hq).1
        rw [Below.heap_setCell _ _ _ q (by simp only; omega), Below.heap_setCell _ _ _ q (by simp only; omega), Below.heap_setCell _ _ _ q (by simp only; omega), Below.heap_setCell _ _ _ q (by simp only; omega), Below.heap_setCell _ _ _ q (by simp only; omega)]
        exact (HBr.out.block q hlt).trans hq
      ·have hE : mkE ⟨r, f, lo, tm, ps⟩ use ev pm = 50 := by rw [HE.out, if_neg hw]
       have HE2 := hide hE
       have hn4 : pm < wdt ⟨r, f, lo, tm, ps⟩ use ev := by omega
       clear hE hw
       go_wp2
       have d := stores_at (w.heap.size + 1 + 1) [.slice none 0 0, .int .i64 0, .int .i64 0, .int .i64 0, .slice none 0 0] 0 (wr) (ex5 v0 v1 v2 v3 v4); have d0 : (((((wr.setCell ⟨w.heap.size + 1 + 1, 0, none⟩ (.slice none 0 0)).setCell ⟨w.heap.size + 1 + 1, 1, none⟩ (.int .i64 0)).setCell ⟨w.heap.size + 1 + 1, 2, none⟩ (.int .i64 0)).setCell ⟨w.heap.size + 1 + 1, 3, none⟩ (.int .i64 0)).setCell ⟨w.heap.size + 1 + 1, 4, none⟩ (.slice none 0 0)).cell? ⟨w.heap.size + 1 + 1, 0, none⟩ = some (.slice none 0 0) := d 0 _ rfl; have d1 : (((((wr.setCell ⟨w.heap.size + 1 + 1, 0, none⟩ (.slice none 0 0)).setCell ⟨w.heap.size + 1 + 1, 1, none⟩ (.int .i64 0)).setCell ⟨w.heap.size + 1 + 1, 2, none⟩ (.int .i64 0)).setCell ⟨w.heap.size + 1 + 1, 3, none⟩ (.int .i64 0)).setCell ⟨w.heap.size + 1 + 1, 4, none⟩ (.slice none 0 0)).cell? ⟨w.heap.size + 1 + 1, 1, none⟩ = some (.int .i64 0) := d 1 _ rfl; have d2 : (((((wr.setCell ⟨w.heap.size + 1 + 1, 0, none⟩ (.slice none 0 0)).setCell ⟨w.heap.size + 1 + 1, 1, none⟩ (.int .i64 0)).setCell ⟨w.heap.size + 1 + 1, 2, none⟩ (.int .i64 0)).setCell ⟨w.heap.size + 1 + 1, 3, none⟩ (.int .i64 0)).setCell ⟨w.heap.size + 1 + 1, 4, none⟩ (.slice none 0 0)).cell? ⟨w.heap.size + 1 + 1, 2, none⟩ = some (.int .i64 0) := d 2 _ rfl; have d3 : (((((wr.setCell ⟨w.heap.size + 1 + 1, 0, none⟩ (.slice none 0 0)).setCell ⟨w.heap.size + 1 + 1, 1, none⟩ (.int .i64 0)).setCell ⟨w.heap.size + 1 + 1, 2, none⟩ (.int .i64 0)).setCell ⟨w.heap.size + 1 + 1, 3, none⟩ (.int .i64 0)).setCell ⟨w.heap.size + 1 + 1, 4, none⟩ (.slice none 0 0)).cell? ⟨w.heap.size + 1 + 1, 3, none⟩ = some (.int .i64 0) := d 3 _ rfl; have d4 : (((((wr.setCell ⟨w.heap.size + 1 + 1, 0, none⟩ (.slice none 0 0)).setCell ⟨w.heap.size + 1 + 1, 1, none⟩ (.int .i64 0)).setCell ⟨w.heap.size + 1 + 1, 2, none⟩ (.int .i64 0)).setCell ⟨w.heap.size + 1 + 1, 3, none⟩ (.int .i64 0)).setCell ⟨w.heap.size + 1 + 1, 4, none⟩ (.slice none 0 0)).cell? ⟨w.heap.size + 1 + 1, 4, none⟩ = some (.slice none 0 0) := d 4 _ rfl
       exact bodyPost_ret (v := .tuple #[.agg #[.slice none 0 0, .int .i64 0, .int .i64 0, .int .i64 0, .slice none 0 0], .int .i64 (50)]) (by simp [results, Try.results8, go_sem, d0, d1, d2, d3, d4]) rfl (MkPost.err HE2.out (by decide) (by ((with_reducible repeat' first | exact .refl _ _ | exact b0 | refine .alloc ?_ ?_ _ | refine .setCell ?_ ?_ _ | refine .drew ?_ | refine below_drewN ?_ _ | refine Below.trans ?_ (b0.mono ?_)) <;> first | omega | simp <;> omega)))
  ·have hE : mkE ⟨r, f, lo, tm, ps⟩ use ev pm = 2 := by unfold mkE; rw [h1, if_pos rfl, if_neg h8]
   have HE := hide hE
   clear hE h1 hpm
   go_enter Try.func8, Try.ntmps8
   go_upto_region 1 with fail
   rw [← hW0]
   clear hW0
   have B0 : Below (w.heap.size + 3) W0 W0 := Below.refl _ _
   obtain ⟨⟨y0, y1, y2, y3, y4⟩, ⟨x0, x1⟩, ⟨v0, v1, v2, v3, v4⟩, ⟨f0, f1, f2, f3, f4⟩, z0, b0⟩ := HS.out W0 B0
   go_wp2_with (go_at_call 16; (with_reducible refine (wdRight_any r f lo tm _ ps _ use ev _ (HR.out _ b0).1 (HR.out _ b0).2).mono ?_); rintro e w1 ⟨rfl, k1⟩; rw [hrg]; have B1 : Below (w.heap.size + 3) W0 w1 := B0.trans (k1.mono z0); clear y0 y1 y2 y3 y4 x0 x1 v0 v1 v2 v3 v4 f0 f1 f2 f3 f4 z0 b0 k1 B0; obtain ⟨⟨y0, y1, y2, y3, y4⟩, ⟨x0, x1⟩, ⟨v0, v1, v2, v3, v4⟩, ⟨f0, f1, f2, f3, f4⟩, z0, b0⟩ := HS.out w1 B1)
   have d := stores_at (w.heap.size + 1 + 1) [.slice none 0 0, .int .i64 0, .int .i64 0, .int .i64 0, .slice none 0 0] 0 (w1) (ex5 v0 v1 v2 v3 v4); have d0 : (((((w1.setCell ⟨w.heap.size + 1 + 1, 0, none⟩ (.slice none 0 0)).setCell ⟨w.heap.size + 1 + 1, 1, none⟩ (.int .i64 0)).setCell ⟨w.heap.size + 1 + 1, 2, none⟩ (.int .i64 0)).setCell ⟨w.heap.size + 1 + 1, 3, none⟩ (.int .i64 0)).setCell ⟨w.heap.size + 1 + 1, 4, none⟩ (.slice none 0 0)).cell? ⟨w.heap.size + 1 + 1, 0, none⟩ = some (.slice none 0 0) := d 0 _ rfl; have d1 : (((((w1.setCell ⟨w.heap.size + 1 + 1, 0, none⟩ (.slice none 0 0)).setCell ⟨w.heap.size + 1 + 1, 1, none⟩ (.int .i64 0)).setCell ⟨w.heap.size + 1 + 1, 2, none⟩ (.int .i64 0)).setCell ⟨w.heap.size + 1 + 1, 3, none⟩ (.int .i64 0)).setCell ⟨w.heap.size + 1 + 1, 4, none⟩ (.slice none 0 0)).cell? ⟨w.heap.size + 1 + 1, 1, none⟩ = some (.int .i64 0) := d 1 _ rfl; have d2 : (((((w1.setCell ⟨w.heap.size + 1 + 1, 0, none⟩ (.slice none 0 0)).setCell ⟨w.heap.size + 1 + 1, 1, none⟩ (.int .i64 0)).setCell ⟨w.heap.size + 1 + 1, 2, none⟩ (.int .i64 0)).setCell ⟨w.heap.size + 1 + 1, 3, none⟩ (.int .i64 0)).setCell ⟨w.heap.size + 1 + 1, 4, none⟩ (.slice none 0 0)).cell? ⟨w.heap.size + 1 + 1, 2, none⟩ = some (.int .i64 0) := d 2 _ rfl; have d3 : (((((w1.setCell ⟨w.heap.size + 1 + 1, 0, none⟩ (.slice none 0 0)).setCell ⟨w.heap.size + 1 + 1, 1, none⟩ (.int .i64 0)).setCell ⟨w.heap.size + 1 + 1, 2, none⟩ (.int .i64 0)).setCell ⟨w.heap.size + 1 + 1, 3, none⟩ (.int .i64 0)).setCell ⟨w.heap.size + 1 + 1, 4, none⟩ (.slice none 0 0)).cell? ⟨w.heap.size + 1 + 1, 3, none⟩ = some (.int .i64 0) := d 3 _ rfl; have d4 : (((((w1.setCell ⟨w.heap.size + 1 + 1, 0, none⟩ (.slice none 0 0)).setCell ⟨w.heap.size + 1 + 1, 1, none⟩ (.int .i64 0)).setCell ⟨w.heap.size + 1 + 1, 2, none⟩ (.int .i64 0)).setCell ⟨w.heap.size + 1 + 1, 3, none⟩ (.int .i64 0)).setCell ⟨w.heap.size + 1 + 1, 4, none⟩ (.slice none 0 0)).cell? ⟨w.heap.size + 1 + 1, 4, none⟩ = some (.slice none 0 0) := d 4 _ rfl
   exact bodyPost_ret (v := .tuple #[.agg #[.slice none 0 0, .int .i64 0, .int .i64 0, .int .i64 0, .slice none 0 0], .int .i64 (2)]) (by simp [results, Try.results8, go_sem, d0, d1, d2, d3, d4]) rfl (MkPost.err HE.out (by decide) (by ((with_reducible repeat' first | exact .refl _ _ | exact b0 | refine .alloc ?_ ?_ _ | refine .setCell ?_ ?_ _ | refine .drew ?_ | refine below_drewN ?_ _ | refine Below.trans ?_ (b0.mono ?_)) <;> first | omega | simp <;> omega)))
end Go.Proofs.Ytlmcoollkmhanaa
