
/- Parts PlK PlM PlN PlO PlQ of the proof, joined. -/
import Derived.Test.YtigjljmhpkeahaaGreatGi
import Derived.Test.YtigjljmhpkeahaaGreatGl
import Derived.Deep.RegionHeld3
import Derived.Test.YtigjljmhpkeahaaGreatGj
import Derived.Test.YtigjljmhpkeahaaGreatGk
import Derived.Test.YtigjljmhpkeahaaGreatGg
import Derived.OwnWalk
import Derived.Deep.DeepCutAuto
import Derived.Test.YtigjljmhpkeahaaGreatGc
import Derived.Test.YtigjljmhpkeahaaGreatGe
/- Package plan: Best. -/
namespace Go.Proofs.YtigjljmhpkeahaaGreat
open Go.RowKit

theorem ckE_zero {s : Si} {pl : List Int} (h : ckE s pl = 0) : siB s = true ∧ prdB s.tm pl = true ∧ s.ps.length ≤ 10 ∧ 1 ≤ pl.length ∧ pl.length ≤ 10 := by
 unfold ckE at h
 split at h
 ·rename_i h1
  split at h
  ·have h2 := h1.2
   unfold prdB at h2
   rw [Bool.and_eq_true, decide_eq_true_eq] at h2
   exact ⟨h1.1, h1.2, by assumption, h2.2.1, h2.2.2⟩
  ·omega
 ·omega
theorem RlAt.below {w W : World} {rb sb : Nat} {nr : Bool} (h : RlAt w rb nr sb) {B : Nat} (hB : Below B w W) (hs : rb < B) : RlAt W rb nr sb := fun k hk => ((bk hB rb hs).1 k).trans (h k hk)
theorem rules_at (w : World) (r f lo tm : Int) (pv : Value) {w' : World} (h : w' = (w.alloc (.cells #[.int .i64 r, .int .i64 f, .int .i64 lo, .int .i64 tm, pv] 24)).alloc (.cells #[.func (.func 121) #[] #[.pointer (some ⟨w.heap.size, 0, none⟩)], .func (.func 123) #[] #[], .func (.func 125) #[] #[], .func (.func 126) #[] #[], .func (.func 128) #[] #[]] 154)) :
  StAt w' w.heap.size r f lo tm pv ∧ RlAt w' (w.heap.size + 1) false w.heap.size ∧ w'.heap.size = w.heap.size + 2 ∧ Below w.heap.size w w' := by
 subst h
 refine ⟨⟨?_, ?_, ?_, ?_, ?_⟩, ?_, by simp, by ((with_reducible repeat' first | exact .refl _ _ | refine .alloc ?_ ?_ _ | refine .setCell ?_ ?_ _ | refine .drew ?_ | refine below_drewN ?_ _) <;> first | omega | simp <;> omega)⟩
 ·simp
 ·simp
 ·simp
 ·simp
 ·simp
 ·intro k hk
  rcases (by omega : k = 0 ∨ k = 1 ∨ k = 2 ∨ k = 3 ∨ k = 4) with rfl | rfl | rfl | rfl | rfl <;> simp [rlC, go_sem]
theorem made_cells {W V : World} {o0 o1 o2 : Value} {t : TypeId} (b : Below (W.alloc (.cells #[o0, o1, o2] t)).heap.size (W.alloc (.cells #[o0, o1, o2] t)) V) :
  V.cell? ⟨W.heap.size, 0, none⟩ = some o0 ∧ V.cell? ⟨W.heap.size, 1, none⟩ = some o1 ∧ V.cell? ⟨W.heap.size, 2, none⟩ = some o2 ∧ V.frozen? ⟨W.heap.size, 0, none⟩ = false ∧ V.frozen? ⟨W.heap.size, 1, none⟩ = false ∧ V.frozen? ⟨W.heap.size, 2, none⟩ = false ∧ W.heap.size < V.heap.size := by
 have h := bk b W.heap.size (by simp)
 have z := b.size
 simp only [World.size_alloc] at z
 refine ⟨(h.1 _).trans (by simp), (h.1 _).trans (by simp), (h.1 _).trans (by simp), (h.2 _).trans (by simp [go_sem]), (h.2 _).trans (by simp [go_sem]), (h.2 _).trans (by simp [go_sem]), by omega⟩
theorem size_drew (W : World) : W.drew.heap.size = W.heap.size := rfl
theorem made_cellsD {W V : World} {o0 o1 o2 : Value} {t : TypeId} (b : Below (W.alloc (.cells #[o0, o1, o2] t)).drew.heap.size (W.alloc (.cells #[o0, o1, o2] t)).drew V) :
  V.cell? ⟨W.heap.size, 0, none⟩ = some o0 ∧ V.cell? ⟨W.heap.size, 1, none⟩ = some o1 ∧ V.cell? ⟨W.heap.size, 2, none⟩ = some o2 ∧ V.frozen? ⟨W.heap.size, 0, none⟩ = false ∧ V.frozen? ⟨W.heap.size, 1, none⟩ = false ∧ V.frozen? ⟨W.heap.size, 2, none⟩ = false ∧ W.heap.size < V.heap.size := by
 have h := made_cells (W := W) (V := V) (o0 := o0) (o1 := o1) (o2 := o2) (t := t) ⟨b.os, b.tape, b.output, b.size, b.block⟩
 exact h
theorem kept_cells {W V : World} {g : Nat} {o0 o1 o2 : Value} (b : Below W.heap.size W V) (h : W.cell? ⟨g, 0, none⟩ = some o0 ∧ W.cell? ⟨g, 1, none⟩ = some o1 ∧ W.cell? ⟨g, 2, none⟩ = some o2 ∧ W.frozen? ⟨g, 0, none⟩ = false ∧ W.frozen? ⟨g, 1, none⟩ = false ∧ W.frozen? ⟨g, 2, none⟩ = false ∧ g < W.heap.size) :
  V.cell? ⟨g, 0, none⟩ = some o0 ∧ V.cell? ⟨g, 1, none⟩ = some o1 ∧ V.cell? ⟨g, 2, none⟩ = some o2 ∧ V.frozen? ⟨g, 0, none⟩ = false ∧ V.frozen? ⟨g, 1, none⟩ = false ∧ V.frozen? ⟨g, 2, none⟩ = false ∧ g < V.heap.size := by
 have k := bk b g h.2.2.2.2.2.2
 have z := b.size
 exact ⟨(k.1 _).trans h.1, (k.1 _).trans h.2.1, (k.1 _).trans h.2.2.1, (k.2 _).trans h.2.2.2.1, (k.2 _).trans h.2.2.2.2.1, (k.2 _).trans h.2.2.2.2.2.1, by omega⟩
theorem isrow_lt {w : World} {v : Value} {l : List Int} (h : IsRow w v l) (h0 : 0 < l.length) : ∀ q, v.ownBlock = some q → q < w.heap.size := by
 obtain ⟨a, cap, rfl, h1, h2, h3⟩ := h
 obtain ⟨b, off, rfl, h4, _⟩ := h3 0 h0
 intro q hq; cases hq; exact h4
theorem isrow_set {W : World} {v : Value} {l : List Int} (h : IsRow W v l) (p : Addr) (u : Value) (hb : 0 < l.length → ∀ q, v.ownBlock = some q → q ≠ p.block) : IsRow (W.setCell p u) v l := by
 obtain ⟨a, cap, rfl, h1, h2, h3⟩ := h
 refine ⟨a, cap, rfl, h1, h2, fun i hi => ?_⟩
 obtain ⟨b, off, rfl, h4, h5⟩ := h3 i hi
 refine ⟨b, off, rfl, by simpa [World.setCell] using h4, set_other _ h5 fun e => hb (by omega) b rfl (by rw [← e])⟩
theorem put3 {W0 V : World} {n g : Nat} {uv o0 o1 o2 a b : Value} {l : List Int} (c0 : V.cell? ⟨g, 0, none⟩ = some o0) (c1 : V.cell? ⟨g, 1, none⟩ = some o1) (c2 : V.cell? ⟨g, 2, none⟩ = some o2) (hg : n ≤ g) (hgV : g < V.heap.size) (hrow : IsRow V uv l) (hown : ∀ q, uv.ownBlock = some q → n ≤ q ∧ (0 < l.length → q ≠ g)) (hB : Below n W0 V) :
  n ≤ g ∧ g < (((V.setCell ⟨g, 0, none⟩ uv).setCell ⟨g, 1, none⟩ a).setCell ⟨g, 2, none⟩ b).heap.size ∧ (((V.setCell ⟨g, 0, none⟩ uv).setCell ⟨g, 1, none⟩ a).setCell ⟨g, 2, none⟩ b).cell? ⟨g, 0, none⟩ = some uv ∧ (((V.setCell ⟨g, 0, none⟩ uv).setCell ⟨g, 1, none⟩ a).setCell ⟨g, 2, none⟩ b).cell? ⟨g, 1, none⟩ = some a ∧ (((V.setCell ⟨g, 0, none⟩ uv).setCell ⟨g, 1, none⟩ a).setCell ⟨g, 2, none⟩ b).cell? ⟨g, 2, none⟩ = some b ∧
   IsRow (((V.setCell ⟨g, 0, none⟩ uv).setCell ⟨g, 1, none⟩ a).setCell ⟨g, 2, none⟩ b) uv l ∧ (∀ q, uv.ownBlock = some q → n ≤ q ∧ (0 < l.length → q ≠ g)) ∧ Below n W0 (((V.setCell ⟨g, 0, none⟩ uv).setCell ⟨g, 1, none⟩ a).setCell ⟨g, 2, none⟩ b) := by
 have hn := fun h0 q hq => (hown q hq).2 h0
 refine ⟨hg, by simpa [World.setCell] using hgV, ?_, ?_, ?_, isrow_set (isrow_set (isrow_set hrow _ _ hn) _ _ hn) _ _ hn, hown, ((hB.setCell (p := ⟨g, 0, none⟩) hg _).setCell (p := ⟨g, 1, none⟩) hg _).setCell (p := ⟨g, 2, none⟩) hg _⟩
 ·refine set_other _ (set_other _ (set_same _ c0) ?_) ?_ <;> (intro h; simp at h)
 ·refine set_other _ (set_same _ (set_other _ c1 ?_)) ?_ <;> (intro h; simp at h)
 ·refine set_same _ (set_other _ (set_other _ c2 ?_) ?_) <;> (intro h; simp at h)
theorem put3A {W0 U : World} {n : Nat} {uv a b : Value} {t : TypeId} {l : List Int} (hg : n ≤ U.heap.size) (hrow : IsRow U uv l) (hown : ∀ q, uv.ownBlock = some q → n ≤ q ∧ (0 < l.length → q ≠ U.heap.size)) (hB : Below n W0 U) :
  n ≤ U.heap.size ∧ U.heap.size < (U.alloc (.cells #[uv, a, b] t)).heap.size ∧ (U.alloc (.cells #[uv, a, b] t)).cell? ⟨U.heap.size, 0, none⟩ = some uv ∧ (U.alloc (.cells #[uv, a, b] t)).cell? ⟨U.heap.size, 1, none⟩ = some a ∧ (U.alloc (.cells #[uv, a, b] t)).cell? ⟨U.heap.size, 2, none⟩ = some b ∧
   IsRow (U.alloc (.cells #[uv, a, b] t)) uv l ∧ (∀ q, uv.ownBlock = some q → n ≤ q ∧ (0 < l.length → q ≠ U.heap.size)) ∧ Below n W0 (U.alloc (.cells #[uv, a, b] t)) :=
 ⟨hg, by simp, by simp, by simp, by simp, hrow.below (Nat.le_refl _) (by ((with_reducible repeat' first | exact .refl _ _ | refine .alloc ?_ ?_ _ | refine .setCell ?_ ?_ _ | refine .drew ?_ | refine below_drewN ?_ _) <;> first | omega | simp <;> omega)), hown, hB.alloc hg _⟩
set_option maxRecDepth 100000 in
set_option maxHeartbeats 1600000 in
theorem plB_any (r f lo tm : Int) (pv : Value) (ps : List Pr) (v : Value) (pl : List Int) (x : Int) (w : World) (hp : PrRow w pv ps) (hv : IsRow w v pl) :
  Calls Tryz.prog 28 #[.agg #[.int .i64 r, .int .i64 f, .int .i64 lo, .int .i64 tm, pv], v, .int .i64 x] w fun e w' => ∃ uv, e = .returned (.tuple #[.agg #[uv, .int .i64 (accO (bsO ⟨r, f, lo, tm, ps⟩ pl x)).ev], .bool (bsO ⟨r, f, lo, tm, ps⟩ pl x).isSome, .int .i64 (bsE ⟨r, f, lo, tm, ps⟩ pl x)]) ∧
   IsRow w' uv (accO (bsO ⟨r, f, lo, tm, ps⟩ pl x)).use ∧ (∀ q, uv.ownBlock = some q → w.heap.size ≤ q) ∧ Below w.heap.size w w' := by
 have hR : ∀ W : World, Below w.heap.size w W → PrRow W pv ps ∧ IsRow W v pl := fun W hW => ⟨hp.below (Nat.le_refl _) hW, hv.below (Nat.le_refl _) hW⟩
 have HR := hide hR
 obtain ⟨pa, pc, rfl, pq1, pq2⟩ := hp.len
 obtain ⟨va, vc, rfl, vq1, vq2, -⟩ := id hv
 obtain ⟨W0, hW0⟩ : ∃ W : World, W = (w.alloc (.cells #[.int .i64 r, .int .i64 f, .int .i64 lo, .int .i64 tm, .slice pa ps.length pc] 24)).alloc (.cells #[.slice none 0 0, .int .i64 0] 27) := ⟨_, rfl⟩
 have zW : W0.heap.size = w.heap.size + 2 := by rw [hW0]; simp
 have bW : Below w.heap.size w W0 := by rw [hW0]; ((with_reducible repeat' first | exact .refl _ _ | refine .alloc ?_ ?_ _ | refine .setCell ?_ ?_ _ | refine .drew ?_ | refine below_drewN ?_ _) <;> first | omega | simp <;> omega)
 have hS : ∀ W : World, Below (w.heap.size + 2) W0 W → W.cell? ⟨w.heap.size, 0, none⟩ = some (.int .i64 r) ∧ W.cell? ⟨w.heap.size, 1, none⟩ = some (.int .i64 f) ∧ W.cell? ⟨w.heap.size, 2, none⟩ = some (.int .i64 lo) ∧ W.cell? ⟨w.heap.size, 3, none⟩ = some (.int .i64 tm) ∧ W.cell? ⟨w.heap.size, 4, none⟩ = some (.slice pa ps.length pc) ∧
   W.cell? ⟨w.heap.size + 1, 0, none⟩ = some (.slice none 0 0) ∧ W.cell? ⟨w.heap.size + 1, 1, none⟩ = some (.int .i64 0) ∧ W.frozen? ⟨w.heap.size + 1, 0, none⟩ = false ∧ W.frozen? ⟨w.heap.size + 1, 1, none⟩ = false ∧ Below w.heap.size w W ∧ w.heap.size + 2 ≤ W.heap.size := by
  intro W hW
  obtain ⟨y0, y1, y2, y3, y4, v0, v1, f0, f1⟩ : W0.cell? ⟨w.heap.size, 0, none⟩ = some (.int .i64 r) ∧ W0.cell? ⟨w.heap.size, 1, none⟩ = some (.int .i64 f) ∧ W0.cell? ⟨w.heap.size, 2, none⟩ = some (.int .i64 lo) ∧ W0.cell? ⟨w.heap.size, 3, none⟩ = some (.int .i64 tm) ∧ W0.cell? ⟨w.heap.size, 4, none⟩ = some (.slice pa ps.length pc) ∧ W0.cell? ⟨w.heap.size + 1, 0, none⟩ = some (.slice none 0 0) ∧ W0.cell? ⟨w.heap.size + 1, 1, none⟩ = some (.int .i64 0) ∧ W0.frozen? ⟨w.heap.size + 1, 0, none⟩ = false ∧ W0.frozen? ⟨w.heap.size + 1, 1, none⟩ = false := by
   rw [hW0]; refine ⟨?_, ?_, ?_, ?_, ?_, ?_, ?_, ?_, ?_⟩ <;> simp [go_sem]
  have h0 := (bk hW w.heap.size (by omega)).1
  have h1 := (bk hW (w.heap.size + 1) (by omega)).1
  have h2 := (bk hW (w.heap.size + 1) (by omega)).2
  exact ⟨(h0 _).trans y0, (h0 _).trans y1, (h0 _).trans y2, (h0 _).trans y3, (h0 _).trans y4, (h1 _).trans v0, (h1 _).trans v1, (h2 _).trans f0, (h2 _).trans f1, bW.trans (hW.mono (by omega)), by have := hW.size; omega⟩
 have HS := hide hS
 clear hR hS hp hv
 by_cases hx : 0 ≤ x ∧ x ≤ 3000000000000000
 ·have d1 : decide (x < 0) = false := decide_eq_false (by omega)
  have d2 : decide (3000000000000000 < x) = false := decide_eq_false (by omega)
  have hbe : bsE ⟨r, f, lo, tm, ps⟩ pl x = ckE ⟨r, f, lo, tm, ps⟩ pl := by unfold bsE; rw [if_pos hx]
  obtain ⟨E, hE⟩ : ∃ E, E = ckE ⟨r, f, lo, tm, ps⟩ pl := ⟨_, rfl⟩
  by_cases hE0 : E = 0
  ·subst hE0
   obtain ⟨-, -, hl, -, hpl⟩ := ckE_zero hE.symm
   have hbo : bsO ⟨r, f, lo, tm, ps⟩ pl x = bstO false ⟨r, f, lo, tm, ps⟩ pl x := by unfold bsO; rw [hbe, ← hE]; rfl
   rw [hbo, hbe, ← hE]
   simp only at hl
   have hK := fun (W : World) sb rb (h : Below w.heap.size w W) (hs : StAt W sb r f lo tm (.slice pa ps.length pc)) (hr : RlAt W rb false sb) (h1 : sb < W.heap.size) (h2 : rb < W.heap.size) => plBest_any false r f lo tm _ ps _ pl x sb rb W (HR.out _ h).1 (HR.out _ h).2 hl hpl hs h1 hr h2
   generalize bstO false ⟨r, f, lo, tm, ps⟩ pl x = res at *
   have HK := hide hK
   have HE := hide hE
   clear hbe hbo hx hE hK hl hpl
   go_enter Tryz.func28, Tryz.ntmps28
   go_upto_region 1 with fail
   rw [← hW0]
   clear hW0
   obtain ⟨y0, y1, y2, y3, y4, v0, v1, f0, f1, b0, z0⟩ := HS.out W0 (Below.refl _ _)
   go_wp2_with fail
   refine (plCheck_any r f lo tm _ ps _ pl _ (HR.out _ b0).1 (HR.out _ b0).2).mono ?_
   rintro e w1 ⟨rfl, c1⟩
   rw [← HE.out]
   have B1 : Below (w.heap.size + 2) W0 w1 := (by ((with_reducible repeat' first | exact .refl _ _ | exact c1 | refine .alloc ?_ ?_ _ | refine .setCell ?_ ?_ _ | refine .drew ?_ | refine below_drewN ?_ _ | refine Below.trans ?_ (c1.mono ?_)) <;> first | omega | simp <;> omega))
   clear y0 y1 y2 y3 y4 v0 v1 f0 f1 b0 z0
   obtain ⟨y0, y1, y2, y3, y4, v0, v1, f0, f1, b1, z1⟩ := HS.out w1 B1
   have zd : w1.drew.heap.size = w1.heap.size := rfl
   go_upto_region 6 with fail
   go_cut [10, 11] (fun s10 s11 wx => ∃ g uv, s10 = .pointer (some ⟨g, 0, none⟩) ∧ s11 = .bool res.isSome ∧ w.heap.size + 2 ≤ g ∧ g < wx.heap.size ∧ wx.cell? ⟨g, 0, none⟩ = some uv ∧ wx.cell? ⟨g, 1, none⟩ = some (.int .i64 (accO res).ev) ∧ wx.cell? ⟨g, 2, none⟩ = some (.int .i64 (accO res).wd) ∧ IsRow wx uv (accO res).use ∧ (∀ q, uv.ownBlock = some q → w.heap.size + 2 ≤ q ∧ (0 < (accO res).use.length → q ≠ g)) ∧ Below (w.heap.size + 2) W0 wx)
   case first =>
    have z1a : w.heap.size < w1.heap.size := by omega
    have z1b : w.heap.size + 1 < w1.heap.size := by omega
    have tok1 : True := trivial
    have tok2 : True := trivial
    have HB1 := hide B1
    clear B1
    go_region_with (first
     | (go_at_call 74; have _t := tok1; clear tok1; refine (rules_any r f lo tm _ _).mono ?_; rintro e w2 ⟨rfl, hw2⟩; obtain ⟨s1, s2, s3, b2⟩ := rules_at _ r f lo tm _ hw2; clear hw2; obtain ⟨s3a, s3b⟩ := Nat.le_antisymm_iff.1 s3; clear s3; (try simp only [World.size_alloc, size_drew] at s1 s2 s3a s3b); (first | have mm := made_cells b2 | have mm := made_cellsD b2 | skip); have B2 : Below (w.heap.size + 2) W0 w2 := (by ((with_reducible repeat' first | exact .refl _ _ | exact b2 | exact HB1.out | refine .alloc ?_ ?_ _ | refine .setCell ?_ ?_ _ | refine .drew ?_ | refine below_drewN ?_ _ | refine Below.trans ?_ (b2.mono ?_) | refine Below.trans ?_ (HB1.out.mono ?_)) <;> first | omega | simp <;> omega)); obtain ⟨x0, x1, x2, x3, x4, -, -, -, -, q1, q2⟩ := HS.out w2 B2; have q3 := Nat.lt_of_succ_lt (show w.heap.size + 1 < w2.heap.size from q2); have q4 := (show w.heap.size + 1 < w2.heap.size from q2); have HB2 := hide B2; have S1 := hide s1; have S2 := hide s2; clear B2 s1 s2)
     | (go_at_call 73; have _t := tok2; clear tok2; refine (HK.out _ _ _ (by ((with_reducible repeat' first | exact .refl _ _ | exact q1 | refine .alloc ?_ ?_ _ | refine .setCell ?_ ?_ _ | refine .drew ?_ | refine below_drewN ?_ _ | refine Below.trans ?_ (q1.mono ?_)) <;> first | omega | simp <;> omega)) (S1.out.below (B := w2.heap.size) (by ((with_reducible repeat' first | exact .refl _ _ | refine .alloc ?_ ?_ _ | refine .setCell ?_ ?_ _ | refine .drew ?_ | refine below_drewN ?_ _) <;> first | omega | simp <;> omega)) (by omega)) (S2.out.below (B := w2.heap.size) (by ((with_reducible repeat' first | exact .refl _ _ | refine .alloc ?_ ?_ _ | refine .setCell ?_ ?_ _ | refine .drew ?_ | refine below_drewN ?_ _) <;> first | omega | simp <;> omega)) (by omega)) (by first | omega | (simp; omega)) (by first | omega | (simp; omega))).mono ?_; rintro e w3 ⟨uv, rfl, hrow, hown, b3⟩; (try simp only [World.size_alloc] at hown); obtain ⟨ua, uc, huv, -⟩ := id hrow; subst huv; have Hrow := hide hrow; have hlt := isrow_lt hrow; have Hlt := hide hlt; have Hown := hide hown; clear hrow hlt hown; (first | (have tt := made_cells b3; obtain ⟨t0, t1, t2, t3, t4, t5, t6⟩ := tt) | (have tt := kept_cells b3 mm; obtain ⟨t0, t1, t2, t3, t4, t5, t6⟩ := tt) | skip); have z3 := b3.size; (try simp at z3)))
    all_goals go_wp2
    all_goals go_meet
    all_goals refine ⟨_, .slice ua (accO res).use.length uc, rfl, rfl, ?_⟩
    all_goals first
     | exact put3 (uv := .slice ua (accO res).use.length uc) (a := .int .i64 (accO res).ev) (b := .int .i64 (accO res).wd) (l := (accO res).use) t0 t1 t2 (by omega) t6 Hrow.out (fun q hq => ⟨by have := Hown.out q hq; omega, fun h0 e => by have := Hown.out q hq; have := Hlt.out h0 q hq; omega⟩) (by ((with_reducible repeat' first | exact .refl _ _ | exact b3 | exact HB2.out | refine .alloc ?_ ?_ _ | refine .setCell ?_ ?_ _ | refine .drew ?_ | refine below_drewN ?_ _ | refine Below.trans ?_ (b3.mono ?_) | refine Below.trans ?_ (HB2.out.mono ?_)) <;> first | omega | simp <;> omega))
     | exact put3A (U := w3) (uv := .slice ua (accO res).use.length uc) (t := 114) (a := .int .i64 (accO res).ev) (b := .int .i64 (accO res).wd) (l := (accO res).use) (by omega) Hrow.out (fun q hq => ⟨by have := Hown.out q hq; omega, fun h0 e => by have := Hown.out q hq; have := Hlt.out h0 q hq; omega⟩) (by ((with_reducible repeat' first | exact .refl _ _ | exact b3 | exact HB2.out | refine .alloc ?_ ?_ _ | refine .setCell ?_ ?_ _ | refine .drew ?_ | refine below_drewN ?_ _ | refine Below.trans ?_ (b3.mono ?_) | refine Below.trans ?_ (HB2.out.mono ?_)) <;> first | omega | simp <;> omega))
   case rest =>
    obtain ⟨g, uv, rfl, rfl, hg1, hg2, g0, g1, g2, hrow, hown, Bc⟩ := hcut
    clear y0 y1 y2 y3 y4 v0 v1 f0 f1 b1 z1
    obtain ⟨y0, y1, y2, y3, y4, v0, v1, f0, f1, bc, zc⟩ := HS.out wc Bc
    obtain ⟨ua, uc, huv, -⟩ := id hrow
    subst huv
    have hgw : g < wc.heap.size := hg2
    have hne : g ≠ w.heap.size + 1 := by omega
    have Hg := hide (And.intro hg1 hne)
    have Hrow := hide hrow
    have Hown := hide hown
    clear hg1 hne hrow hown
    go_wp2_with fail
    have Hn : ∀ q, (Value.slice ua (accO res).use.length uc).ownBlock = some q → q ≠ w.heap.size + 1 := fun q hq e => by have := (Hown.out q hq).1; omega
    have d0 : ((wc.setCell ⟨w.heap.size + 1, 0, none⟩ (.slice ua (accO res).use.length uc)).setCell ⟨w.heap.size + 1, 1, none⟩ (.int .i64 (accO res).ev)).cell? ⟨w.heap.size + 1, 0, none⟩ = some (.slice ua (accO res).use.length uc) := set_other _ (set_same _ v0) (by intro h; simp at h)
    have d1 : ((wc.setCell ⟨w.heap.size + 1, 0, none⟩ (.slice ua (accO res).use.length uc)).setCell ⟨w.heap.size + 1, 1, none⟩ (.int .i64 (accO res).ev)).cell? ⟨w.heap.size + 1, 1, none⟩ = some (.int .i64 (accO res).ev) := set_same _ (set_other _ v1 (by intro h; simp at h))
    exact bodyPost_ret (v := .tuple #[.agg #[.slice ua (accO res).use.length uc, .int .i64 (accO res).ev], .bool res.isSome, .int .i64 0]) (by simp [results, Tryz.results28, go_sem, d0, d1]) rfl ⟨_, rfl, isrow_set (isrow_set Hrow.out _ _ fun _ => Hn) _ _ fun _ => Hn, fun q hq => by have := (Hown.out q hq).1; omega, (by ((with_reducible repeat' first | exact .refl _ _ | exact bc | refine .alloc ?_ ?_ _ | refine .setCell ?_ ?_ _ | refine .drew ?_ | refine below_drewN ?_ _ | refine Below.trans ?_ (bc.mono ?_)) <;> first | omega | simp <;> omega))⟩
  ·have hbo : bsO ⟨r, f, lo, tm, ps⟩ pl x = none := by unfold bsO; rw [hbe, ← hE, if_neg hE0]
   rw [hbo, hbe, ← hE]
   have HE := hide hE
   have hEn : (E != 0) = true := by rw [bne_iff_ne]; exact hE0
   clear hbe hbo hx hE hE0
   go_enter Tryz.func28, Tryz.ntmps28
   go_upto_region 1 with fail
   rw [← hW0]
   clear hW0
   obtain ⟨y0, y1, y2, y3, y4, v0, v1, f0, f1, b0, z0⟩ := HS.out W0 (Below.refl _ _)
   go_wp2_with fail
   refine (plCheck_any r f lo tm _ ps _ pl _ (HR.out _ b0).1 (HR.out _ b0).2).mono ?_
   rintro e w1 ⟨rfl, c1⟩
   rw [← HE.out]
   have B1 : Below (w.heap.size + 2) W0 w1 := (by ((with_reducible repeat' first | exact .refl _ _ | exact c1 | refine .alloc ?_ ?_ _ | refine .setCell ?_ ?_ _ | refine .drew ?_ | refine below_drewN ?_ _ | refine Below.trans ?_ (c1.mono ?_)) <;> first | omega | simp <;> omega))
   clear y0 y1 y2 y3 y4 v0 v1 f0 f1 b0 z0
   obtain ⟨y0, y1, y2, y3, y4, v0, v1, f0, f1, b1, z1⟩ := HS.out w1 B1
   go_wp2_with fail
   have d0 : ((w1.setCell ⟨w.heap.size + 1, 0, none⟩ (.slice none 0 0)).setCell ⟨w.heap.size + 1, 1, none⟩ (.int .i64 0)).cell? ⟨w.heap.size + 1, 0, none⟩ = some (.slice none 0 0) := set_other _ (set_same _ v0) (by intro h; simp at h)
   have d1 : ((w1.setCell ⟨w.heap.size + 1, 0, none⟩ (.slice none 0 0)).setCell ⟨w.heap.size + 1, 1, none⟩ (.int .i64 0)).cell? ⟨w.heap.size + 1, 1, none⟩ = some (.int .i64 0) := set_same _ (set_other _ v1 (by intro h; simp at h))
   exact bodyPost_ret (v := .tuple #[.agg #[.slice none 0 0, .int .i64 0], .bool false, .int .i64 E]) (by simp [results, Tryz.results28, go_sem, d0, d1]) rfl ⟨_, rfl, IsRow.nil _, fun q hq => by simp [Value.ownBlock] at hq, (by ((with_reducible repeat' first | exact .refl _ _ | exact b1 | refine .alloc ?_ ?_ _ | refine .setCell ?_ ?_ _ | refine .drew ?_ | refine below_drewN ?_ _ | refine Below.trans ?_ (b1.mono ?_)) <;> first | omega | simp <;> omega))⟩
 ·have hbe : bsE ⟨r, f, lo, tm, ps⟩ pl x = 1 := by unfold bsE; rw [if_neg hx]
  have hbo : bsO ⟨r, f, lo, tm, ps⟩ pl x = none := by unfold bsO; rw [hbe]; rfl
  rw [hbo, hbe]
  clear hbe hbo
  go_enter Tryz.func28, Tryz.ntmps28
  go_upto_region 1 with fail
  rw [← hW0]
  clear hW0
  obtain ⟨y0, y1, y2, y3, y4, v0, v1, f0, f1, b0, z0⟩ := HS.out W0 (Below.refl _ _)
  by_cases hx1 : x < 0
  ·clear hx
   go_wp2_with fail
   have d0 : ((W0.setCell ⟨w.heap.size + 1, 0, none⟩ (.slice none 0 0)).setCell ⟨w.heap.size + 1, 1, none⟩ (.int .i64 0)).cell? ⟨w.heap.size + 1, 0, none⟩ = some (.slice none 0 0) := set_other _ (set_same _ v0) (by intro h; simp at h)
   have d1 : ((W0.setCell ⟨w.heap.size + 1, 0, none⟩ (.slice none 0 0)).setCell ⟨w.heap.size + 1, 1, none⟩ (.int .i64 0)).cell? ⟨w.heap.size + 1, 1, none⟩ = some (.int .i64 0) := set_same _ (set_other _ v1 (by intro h; simp at h))
   exact bodyPost_ret (v := .tuple #[.agg #[.slice none 0 0, .int .i64 0], .bool false, .int .i64 1]) (by simp [results, Tryz.results28, go_sem, d0, d1]) rfl ⟨_, rfl, IsRow.nil _, fun q hq => by simp [Value.ownBlock] at hq, (by ((with_reducible repeat' first | exact .refl _ _ | exact b0 | refine .alloc ?_ ?_ _ | refine .setCell ?_ ?_ _ | refine .drew ?_ | refine below_drewN ?_ _ | refine Below.trans ?_ (b0.mono ?_)) <;> first | omega | simp <;> omega))⟩
  ·have hx2 : 3000000000000000 < x := by omega
   have d2 : decide (3000000000000000 < x) = true := decide_eq_true hx2
   have d1 : decide (x < 0) = false := decide_eq_false hx1
   clear hx
   go_wp2_with fail
   have d0 : ((W0.setCell ⟨w.heap.size + 1, 0, none⟩ (.slice none 0 0)).setCell ⟨w.heap.size + 1, 1, none⟩ (.int .i64 0)).cell? ⟨w.heap.size + 1, 0, none⟩ = some (.slice none 0 0) := set_other _ (set_same _ v0) (by intro h; simp at h)
   have d1 : ((W0.setCell ⟨w.heap.size + 1, 0, none⟩ (.slice none 0 0)).setCell ⟨w.heap.size + 1, 1, none⟩ (.int .i64 0)).cell? ⟨w.heap.size + 1, 1, none⟩ = some (.int .i64 0) := set_same _ (set_other _ v1 (by intro h; simp at h))
   exact bodyPost_ret (v := .tuple #[.agg #[.slice none 0 0, .int .i64 0], .bool false, .int .i64 1]) (by simp [results, Tryz.results28, go_sem, d0, d1]) rfl ⟨_, rfl, IsRow.nil _, fun q hq => by simp [Value.ownBlock] at hq, (by ((with_reducible repeat' first | exact .refl _ _ | exact b0 | refine .alloc ?_ ?_ _ | refine .setCell ?_ ?_ _ | refine .drew ?_ | refine below_drewN ?_ _ | refine Below.trans ?_ (b0.mono ?_)) <;> first | omega | simp <;> omega))⟩
end Go.Proofs.YtigjljmhpkeahaaGreat
/- The reference's small functions of chapter 30, and those of the laws: Use, lists, Same, in, three. -/
namespace Go.Proofs.YtigjljmhpkeahaaGreat
open Go.RowKit

end Go.Proofs.YtigjljmhpkeahaaGreat
/- The reference's Same and Periods, the laws' usable. -/
namespace Go.Proofs.YtigjljmhpkeahaaGreat
open Go.RowKit

end Go.Proofs.YtigjljmhpkeahaaGreat
/- Package plan: Narrow. -/
namespace Go.Proofs.YtigjljmhpkeahaaGreat
open Go.RowKit

theorem rules_raw (w : World) (r f lo tm : Int) (pv : Value) {w' : World} (h : w' = (w.alloc (.cells #[.int .i64 r, .int .i64 f, .int .i64 lo, .int .i64 tm, pv] 24)).alloc (.cells #[.func (.func 121) #[] #[.pointer (some ⟨w.heap.size, 0, none⟩)], .func (.func 123) #[] #[], .func (.func 125) #[] #[], .func (.func 126) #[] #[], .func (.func 128) #[] #[]] 154)) :
  w'.cell? ⟨w.heap.size + 1, 0, none⟩ = some (.func (.func 121) #[] #[.pointer (some ⟨w.heap.size, 0, none⟩)]) ∧ w'.cell? ⟨w.heap.size + 1, 1, none⟩ = some (.func (.func 123) #[] #[]) ∧ w'.frozen? ⟨w.heap.size + 1, 0, none⟩ = false ∧ w'.frozen? ⟨w.heap.size + 1, 1, none⟩ = false := by
 subst h
 refine ⟨?_, ?_, ?_, ?_⟩ <;> simp [go_sem]
theorem rl_swap {W : World} {rb sb : Nat} (h : RlAt W rb false sb) : RlAt ((W.setCell ⟨rb, 0, none⟩ (.func (.func 123) #[] #[])).setCell ⟨rb, 1, none⟩ (.func (.func 121) #[] #[.pointer (some ⟨sb, 0, none⟩)])).drew rb true sb := by
 intro k hk
 have h0 := h 0 (by omega)
 have h1 := h 1 (by omega)
 rcases (by omega : k = 0 ∨ k = 1 ∨ k = 2 ∨ k = 3 ∨ k = 4) with rfl | rfl | rfl | rfl | rfl
 ·exact set_other _ (set_same _ h0) (by intro h; simp at h)
 ·exact set_same _ (set_other _ h1 (by intro h; simp at h))
 ·exact set_other _ (set_other _ (h 2 (by omega)) (by intro h; simp at h)) (by intro h; simp at h)
 ·exact set_other _ (set_other _ (h 3 (by omega)) (by intro h; simp at h)) (by intro h; simp at h)
 ·exact set_other _ (set_other _ (h 4 (by omega)) (by intro h; simp at h)) (by intro h; simp at h)
theorem st_swap {W : World} {rb sb : Nat} {r f lo tm : Int} {pv u v : Value} (h : StAt W sb r f lo tm pv) (hn : sb ≠ rb) : StAt ((W.setCell ⟨rb, 0, none⟩ u).setCell ⟨rb, 1, none⟩ v).drew sb r f lo tm pv := by
 have hc : ∀ o x, W.cell? ⟨sb, o, none⟩ = some x → ((W.setCell ⟨rb, 0, none⟩ u).setCell ⟨rb, 1, none⟩ v).drew.cell? ⟨sb, o, none⟩ = some x := fun o x hx => set_other _ (set_other _ hx (by intro h; cases h; exact hn rfl)) (by intro h; cases h; exact hn rfl)
 exact ⟨hc _ _ h.1, hc _ _ h.2.1, hc _ _ h.2.2.1, hc _ _ h.2.2.2.1, hc _ _ h.2.2.2.2⟩
set_option maxRecDepth 100000 in
set_option maxHeartbeats 1600000 in
theorem plN_any (r f lo tm : Int) (pv : Value) (ps : List Pr) (v : Value) (pl : List Int) (w : World) (hp : PrRow w pv ps) (hv : IsRow w v pl) :
  Calls Tryz.prog 61 #[.agg #[.int .i64 r, .int .i64 f, .int .i64 lo, .int .i64 tm, pv], v] w fun e w' => ∃ uv, e = .returned (.tuple #[.agg #[uv, .int .i64 (accO (nwO ⟨r, f, lo, tm, ps⟩ pl)).ev], .int .i64 (accO (nwO ⟨r, f, lo, tm, ps⟩ pl)).wd, .int .i64 (nwE ⟨r, f, lo, tm, ps⟩ pl)]) ∧
   IsRow w' uv (accO (nwO ⟨r, f, lo, tm, ps⟩ pl)).use ∧ (∀ q, uv.ownBlock = some q → w.heap.size ≤ q) ∧ Below w.heap.size w w' := by
 have hR : ∀ W : World, Below w.heap.size w W → PrRow W pv ps ∧ IsRow W v pl := fun W hW => ⟨hp.below (Nat.le_refl _) hW, hv.below (Nat.le_refl _) hW⟩
 have HR := hide hR
 obtain ⟨pa, pc, rfl, pq1, pq2⟩ := hp.len
 obtain ⟨va, vc, rfl, vq1, vq2, -⟩ := id hv
 obtain ⟨W0, hW0⟩ : ∃ W : World, W = (w.alloc (.cells #[.int .i64 r, .int .i64 f, .int .i64 lo, .int .i64 tm, .slice pa ps.length pc] 24)).alloc (.cells #[.slice none 0 0, .int .i64 0] 27) := ⟨_, rfl⟩
 have zW : W0.heap.size = w.heap.size + 2 := by rw [hW0]; simp
 have bW : Below w.heap.size w W0 := by rw [hW0]; ((with_reducible repeat' first | exact .refl _ _ | refine .alloc ?_ ?_ _ | refine .setCell ?_ ?_ _ | refine .drew ?_ | refine below_drewN ?_ _) <;> first | omega | simp <;> omega)
 have hS : ∀ W : World, Below (w.heap.size + 2) W0 W → W.cell? ⟨w.heap.size, 0, none⟩ = some (.int .i64 r) ∧ W.cell? ⟨w.heap.size, 1, none⟩ = some (.int .i64 f) ∧ W.cell? ⟨w.heap.size, 2, none⟩ = some (.int .i64 lo) ∧ W.cell? ⟨w.heap.size, 3, none⟩ = some (.int .i64 tm) ∧ W.cell? ⟨w.heap.size, 4, none⟩ = some (.slice pa ps.length pc) ∧
   W.cell? ⟨w.heap.size + 1, 0, none⟩ = some (.slice none 0 0) ∧ W.cell? ⟨w.heap.size + 1, 1, none⟩ = some (.int .i64 0) ∧ W.frozen? ⟨w.heap.size + 1, 0, none⟩ = false ∧ W.frozen? ⟨w.heap.size + 1, 1, none⟩ = false ∧ Below w.heap.size w W ∧ w.heap.size + 2 ≤ W.heap.size := by
  intro W hW
  obtain ⟨y0, y1, y2, y3, y4, v0, v1, f0, f1⟩ : W0.cell? ⟨w.heap.size, 0, none⟩ = some (.int .i64 r) ∧ W0.cell? ⟨w.heap.size, 1, none⟩ = some (.int .i64 f) ∧ W0.cell? ⟨w.heap.size, 2, none⟩ = some (.int .i64 lo) ∧ W0.cell? ⟨w.heap.size, 3, none⟩ = some (.int .i64 tm) ∧ W0.cell? ⟨w.heap.size, 4, none⟩ = some (.slice pa ps.length pc) ∧ W0.cell? ⟨w.heap.size + 1, 0, none⟩ = some (.slice none 0 0) ∧ W0.cell? ⟨w.heap.size + 1, 1, none⟩ = some (.int .i64 0) ∧ W0.frozen? ⟨w.heap.size + 1, 0, none⟩ = false ∧ W0.frozen? ⟨w.heap.size + 1, 1, none⟩ = false := by
   rw [hW0]; refine ⟨?_, ?_, ?_, ?_, ?_, ?_, ?_, ?_, ?_⟩ <;> simp [go_sem]
  have h0 := (bk hW w.heap.size (by omega)).1
  have h1 := (bk hW (w.heap.size + 1) (by omega)).1
  have h2 := (bk hW (w.heap.size + 1) (by omega)).2
  exact ⟨(h0 _).trans y0, (h0 _).trans y1, (h0 _).trans y2, (h0 _).trans y3, (h0 _).trans y4, (h1 _).trans v0, (h1 _).trans v1, (h2 _).trans f0, (h2 _).trans f1, bW.trans (hW.mono (by omega)), by have := hW.size; omega⟩
 have HS := hide hS
 clear hR hS hp hv
 obtain ⟨E, hE⟩ : ∃ E, E = ckE ⟨r, f, lo, tm, ps⟩ pl := ⟨_, rfl⟩
 by_cases hE0 : E = 0
 ·subst hE0
  obtain ⟨-, -, hl, -, hpl⟩ := ckE_zero hE.symm
  have hbo : nwO ⟨r, f, lo, tm, ps⟩ pl = bstO true ⟨r, f, lo, tm, ps⟩ pl 9223372036854775807 := by unfold nwO; rw [← hE]; rfl
  have hbe : nwE ⟨r, f, lo, tm, ps⟩ pl = if (bstO true ⟨r, f, lo, tm, ps⟩ pl 9223372036854775807).isSome then 0 else 20 := by unfold nwE; rw [← hE, hbo]; rfl
  rw [hbo, hbe]
  simp only at hl
  have hK := fun (W : World) sb rb (h : Below w.heap.size w W) (hs : StAt W sb r f lo tm (.slice pa ps.length pc)) (hr : RlAt W rb true sb) (h1 : sb < W.heap.size) (h2 : rb < W.heap.size) => plBest_any true r f lo tm _ ps _ pl 9223372036854775807 sb rb W (HR.out _ h).1 (HR.out _ h).2 hl hpl hs h1 hr h2
  generalize bstO true ⟨r, f, lo, tm, ps⟩ pl 9223372036854775807 = res at *
  cases hS : res.isSome with
  | false =>
   have hacc : accO res = of0 := by cases res with | none => rfl | some x => simp at hS
   rw [if_neg (by simp)]
   rw [hacc]
   simp only [hS] at hK
   clear hacc
   have HK := hide hK
   have HE := hide hE
   clear hbe hbo hE hK hl hpl
   go_enter Tryz.func61, Tryz.ntmps61
   go_upto_region 1 with fail
   rw [← hW0]
   clear hW0
   obtain ⟨y0, y1, y2, y3, y4, v0, v1, f0, f1, b0, z0⟩ := HS.out W0 (Below.refl _ _)
   go_wp2_with fail
   refine (plCheck_any r f lo tm _ ps _ pl _ (HR.out _ b0).1 (HR.out _ b0).2).mono ?_
   rintro e w1 ⟨rfl, c1⟩
   rw [← HE.out]
   have B1 : Below (w.heap.size + 2) W0 w1 := (by ((with_reducible repeat' first | exact .refl _ _ | exact c1 | refine .alloc ?_ ?_ _ | refine .setCell ?_ ?_ _ | refine .drew ?_ | refine below_drewN ?_ _ | refine Below.trans ?_ (c1.mono ?_)) <;> first | omega | simp <;> omega))
   clear y0 y1 y2 y3 y4 v0 v1 f0 f1 b0 z0
   obtain ⟨y0, y1, y2, y3, y4, v0, v1, f0, f1, b1, z1⟩ := HS.out w1 B1
   go_wp2_with fail
   refine (rules_any r f lo tm _ _).mono ?_
   rintro e w2 ⟨rfl, hw2⟩
   obtain ⟨s1, s2, s3, b2⟩ := rules_at _ r f lo tm _ hw2
   obtain ⟨g0, g1, gf0, gf1⟩ := rules_raw _ r f lo tm _ hw2
   have z1' : w.heap.size + 2 ≤ w1.heap.size := z1
   have B2 : Below (w.heap.size + 2) W0 w2 := (by ((with_reducible repeat' first | exact .refl _ _ | exact b2 | exact B1 | refine .alloc ?_ ?_ _ | refine .setCell ?_ ?_ _ | refine .drew ?_ | refine below_drewN ?_ _ | refine Below.trans ?_ (b2.mono ?_) | refine Below.trans ?_ (B1.mono ?_)) <;> first | omega | simp <;> omega))
   clear hw2 y0 y1 y2 y3 y4 v0 v1 f0 f1 b1
   obtain ⟨sb, hsb⟩ : ∃ sb, sb = w1.heap.size := ⟨_, rfl⟩
   obtain ⟨rb, hrb⟩ : ∃ rb, rb = w1.heap.size + 1 := ⟨_, rfl⟩
   rw [← hrb, ← hsb] at s2
   rw [← hsb] at s1
   rw [← hrb, ← hsb] at g0
   rw [← hrb] at g1 gf0 gf1
   have e1 : w.heap.size + 2 ≤ sb := by omega
   have e2 : sb < rb := by omega
   have e3 : rb < w2.heap.size := by omega
   have S1 := hide s1
   have S2 := hide s2
   rw [← hrb]
   clear s1 s2 s3 hrb hsb z1 z1'
   obtain ⟨y0, y1, y2, y3, y4, v0, v1, f0, f1, b2', z2⟩ := HS.out w2 B2
   go_wp2_with fail
   go_region
   obtain ⟨V, hV⟩ : ∃ V : World, V = ((w2.setCell ⟨rb, 0, none⟩ (.func (.func 123) #[] #[])).setCell ⟨rb, 1, none⟩ (.func (.func 121) #[] #[.pointer (some ⟨sb, 0, none⟩)])).drew := ⟨_, rfl⟩
   have t1 : RlAt V rb true sb := by rw [hV]; exact rl_swap S2.out
   have t2 : StAt V sb r f lo tm (.slice pa ps.length pc) := by rw [hV]; exact st_swap S1.out (by omega)
   have B3 : Below (w.heap.size + 2) W0 V := by rw [hV]; exact ((B2.setCell (p := ⟨rb, 0, none⟩) (by show _ ≤ rb; omega) _).setCell (p := ⟨rb, 1, none⟩) (by show _ ≤ rb; omega) _).drew
   have zV : V.heap.size = w2.heap.size := by rw [hV]; simp [World.setCell, World.drew]
   rw [← hV]
   have zv1 : sb < V.heap.size := by omega
   have zv2 : rb < V.heap.size := by omega
   clear hV g0 g1 gf0 gf1 S1 S2 y0 y1 y2 y3 y4 v0 v1 f0 f1 b2' z2 b2 B2 zV e3
   obtain ⟨y0, y1, y2, y3, y4, v0, v1, f0, f1, b3, z3⟩ := HS.out V B3
   go_wp2_with fail
   refine (HK.out V sb rb b3 t2 t1 zv1 zv2).mono ?_
   rintro e w3 ⟨uv, rfl, hrow, hown, c3⟩
   obtain ⟨ua, uc, huv, -⟩ := id hrow
   subst huv
   have B4 : Below (w.heap.size + 2) W0 w3 := (by ((with_reducible repeat' first | exact .refl _ _ | exact c3 | exact B3 | refine .alloc ?_ ?_ _ | refine .setCell ?_ ?_ _ | refine .drew ?_ | refine below_drewN ?_ _ | refine Below.trans ?_ (c3.mono ?_) | refine Below.trans ?_ (B3.mono ?_)) <;> first | omega | simp <;> omega))
   have hown' : ∀ q, (Value.slice ua (accO res).use.length uc).ownBlock = some q → w.heap.size + 2 ≤ q := fun q hq => by have := hown q hq; omega
   have Hrow := hide hrow
   have Hown := hide hown'
   clear hrow hown hown' y0 y1 y2 y3 y4 v0 v1 f0 f1 t1 t2
   obtain ⟨y0, y1, y2, y3, y4, v0, v1, f0, f1, b4, z4⟩ := HS.out w3 B4
   have za : w.heap.size < w3.heap.size := by omega
   have zb : w.heap.size + 1 < w3.heap.size := by omega
   go_wp2_with fail
   have dz : w.heap.size + 1 < ((w3.setCell ⟨w.heap.size + 1, 0, none⟩ (.slice none 0 0)).setCell ⟨w.heap.size + 1, 1, none⟩ (.int .i64 0)).heap.size := by simpa [World.setCell] using zb
   have d0 : (((w3.setCell ⟨w.heap.size + 1, 0, none⟩ (.slice none 0 0)).setCell ⟨w.heap.size + 1, 1, none⟩ (.int .i64 0)).alloc (.cells #[.slice ua (accO res).use.length uc, .int .i64 (accO res).ev, .int .i64 (accO res).wd] 114)).cell? ⟨w.heap.size + 1, 0, none⟩ = some (.slice none 0 0) := (World.cell?_alloc_lt _ _ _ dz).trans (set_other _ (set_same _ v0) (by intro h; simp at h))
   have d1 : (((w3.setCell ⟨w.heap.size + 1, 0, none⟩ (.slice none 0 0)).setCell ⟨w.heap.size + 1, 1, none⟩ (.int .i64 0)).alloc (.cells #[.slice ua (accO res).use.length uc, .int .i64 (accO res).ev, .int .i64 (accO res).wd] 114)).cell? ⟨w.heap.size + 1, 1, none⟩ = some (.int .i64 0) := (World.cell?_alloc_lt _ _ _ dz).trans (set_same _ (set_other _ v1 (by intro h; simp at h)))
   exact bodyPost_ret (v := .tuple #[.agg #[.slice none 0 0, .int .i64 0], .int .i64 0, .int .i64 20]) (by simp [results, Tryz.results61, go_sem, d0, d1]) rfl ⟨_, rfl, IsRow.nil _, fun q hq => by simp [Value.ownBlock] at hq, (by ((with_reducible repeat' first | exact .refl _ _ | exact b4 | refine .alloc ?_ ?_ _ | refine .setCell ?_ ?_ _ | refine .drew ?_ | refine below_drewN ?_ _ | refine Below.trans ?_ (b4.mono ?_)) <;> first | omega | simp <;> omega))⟩
  | true =>
   rw [if_pos rfl]
   simp only [hS] at hK
   have HK := hide hK
   have HE := hide hE
   clear hbe hbo hE hK hl hpl
   go_enter Tryz.func61, Tryz.ntmps61
   go_upto_region 1 with fail
   rw [← hW0]
   clear hW0
   obtain ⟨y0, y1, y2, y3, y4, v0, v1, f0, f1, b0, z0⟩ := HS.out W0 (Below.refl _ _)
   go_wp2_with fail
   refine (plCheck_any r f lo tm _ ps _ pl _ (HR.out _ b0).1 (HR.out _ b0).2).mono ?_
   rintro e w1 ⟨rfl, c1⟩
   rw [← HE.out]
   have B1 : Below (w.heap.size + 2) W0 w1 := (by ((with_reducible repeat' first | exact .refl _ _ | exact c1 | refine .alloc ?_ ?_ _ | refine .setCell ?_ ?_ _ | refine .drew ?_ | refine below_drewN ?_ _ | refine Below.trans ?_ (c1.mono ?_)) <;> first | omega | simp <;> omega))
   clear y0 y1 y2 y3 y4 v0 v1 f0 f1 b0 z0
   obtain ⟨y0, y1, y2, y3, y4, v0, v1, f0, f1, b1, z1⟩ := HS.out w1 B1
   go_wp2_with fail
   refine (rules_any r f lo tm _ _).mono ?_
   rintro e w2 ⟨rfl, hw2⟩
   obtain ⟨s1, s2, s3, b2⟩ := rules_at _ r f lo tm _ hw2
   obtain ⟨g0, g1, gf0, gf1⟩ := rules_raw _ r f lo tm _ hw2
   have z1' : w.heap.size + 2 ≤ w1.heap.size := z1
   have B2 : Below (w.heap.size + 2) W0 w2 := (by ((with_reducible repeat' first | exact .refl _ _ | exact b2 | exact B1 | refine .alloc ?_ ?_ _ | refine .setCell ?_ ?_ _ | refine .drew ?_ | refine below_drewN ?_ _ | refine Below.trans ?_ (b2.mono ?_) | refine Below.trans ?_ (B1.mono ?_)) <;> first | omega | simp <;> omega))
   clear hw2 y0 y1 y2 y3 y4 v0 v1 f0 f1 b1
   obtain ⟨sb, hsb⟩ : ∃ sb, sb = w1.heap.size := ⟨_, rfl⟩
   obtain ⟨rb, hrb⟩ : ∃ rb, rb = w1.heap.size + 1 := ⟨_, rfl⟩
   rw [← hrb, ← hsb] at s2
   rw [← hsb] at s1
   rw [← hrb, ← hsb] at g0
   rw [← hrb] at g1 gf0 gf1
   have e1 : w.heap.size + 2 ≤ sb := by omega
   have e2 : sb < rb := by omega
   have e3 : rb < w2.heap.size := by omega
   have S1 := hide s1
   have S2 := hide s2
   rw [← hrb]
   clear s1 s2 s3 hrb hsb z1 z1'
   obtain ⟨y0, y1, y2, y3, y4, v0, v1, f0, f1, b2', z2⟩ := HS.out w2 B2
   go_wp2_with fail
   go_region
   obtain ⟨V, hV⟩ : ∃ V : World, V = ((w2.setCell ⟨rb, 0, none⟩ (.func (.func 123) #[] #[])).setCell ⟨rb, 1, none⟩ (.func (.func 121) #[] #[.pointer (some ⟨sb, 0, none⟩)])).drew := ⟨_, rfl⟩
   have t1 : RlAt V rb true sb := by rw [hV]; exact rl_swap S2.out
   have t2 : StAt V sb r f lo tm (.slice pa ps.length pc) := by rw [hV]; exact st_swap S1.out (by omega)
   have B3 : Below (w.heap.size + 2) W0 V := by rw [hV]; exact ((B2.setCell (p := ⟨rb, 0, none⟩) (by show _ ≤ rb; omega) _).setCell (p := ⟨rb, 1, none⟩) (by show _ ≤ rb; omega) _).drew
   have zV : V.heap.size = w2.heap.size := by rw [hV]; simp [World.setCell, World.drew]
   rw [← hV]
   have zv1 : sb < V.heap.size := by omega
   have zv2 : rb < V.heap.size := by omega
   clear hV g0 g1 gf0 gf1 S1 S2 y0 y1 y2 y3 y4 v0 v1 f0 f1 b2' z2 b2 B2 zV e3
   obtain ⟨y0, y1, y2, y3, y4, v0, v1, f0, f1, b3, z3⟩ := HS.out V B3
   go_wp2_with fail
   refine (HK.out V sb rb b3 t2 t1 zv1 zv2).mono ?_
   rintro e w3 ⟨uv, rfl, hrow, hown, c3⟩
   obtain ⟨ua, uc, huv, -⟩ := id hrow
   subst huv
   have B4 : Below (w.heap.size + 2) W0 w3 := (by ((with_reducible repeat' first | exact .refl _ _ | exact c3 | exact B3 | refine .alloc ?_ ?_ _ | refine .setCell ?_ ?_ _ | refine .drew ?_ | refine below_drewN ?_ _ | refine Below.trans ?_ (c3.mono ?_) | refine Below.trans ?_ (B3.mono ?_)) <;> first | omega | simp <;> omega))
   have hown' : ∀ q, (Value.slice ua (accO res).use.length uc).ownBlock = some q → w.heap.size + 2 ≤ q := fun q hq => by have := hown q hq; omega
   have Hrow := hide hrow
   have Hown := hide hown'
   clear hrow hown hown' y0 y1 y2 y3 y4 v0 v1 f0 f1 t1 t2
   obtain ⟨y0, y1, y2, y3, y4, v0, v1, f0, f1, b4, z4⟩ := HS.out w3 B4
   have za : w.heap.size < w3.heap.size := by omega
   have zb : w.heap.size + 1 < w3.heap.size := by omega
   go_wp2_with fail
   go_region
   go_wp2_with fail
   have Hn : ∀ q, (Value.slice ua (accO res).use.length uc).ownBlock = some q → q ≠ w.heap.size + 1 := fun q hq e => by have := Hown.out q hq; omega
   have dz : w.heap.size + 1 < ((w3.setCell ⟨w.heap.size + 1, 0, none⟩ (.slice ua (accO res).use.length uc)).setCell ⟨w.heap.size + 1, 1, none⟩ (.int .i64 (accO res).ev)).heap.size := by simpa [World.setCell] using zb
   have d0 : (((w3.setCell ⟨w.heap.size + 1, 0, none⟩ (.slice ua (accO res).use.length uc)).setCell ⟨w.heap.size + 1, 1, none⟩ (.int .i64 (accO res).ev)).alloc (.cells #[.slice ua (accO res).use.length uc, .int .i64 (accO res).ev, .int .i64 (accO res).wd] 114)).drew.cell? ⟨w.heap.size + 1, 0, none⟩ = some (.slice ua (accO res).use.length uc) := (World.cell?_alloc_lt _ _ _ dz).trans (set_other _ (set_same _ v0) (by intro h; simp at h))
   have d1 : (((w3.setCell ⟨w.heap.size + 1, 0, none⟩ (.slice ua (accO res).use.length uc)).setCell ⟨w.heap.size + 1, 1, none⟩ (.int .i64 (accO res).ev)).alloc (.cells #[.slice ua (accO res).use.length uc, .int .i64 (accO res).ev, .int .i64 (accO res).wd] 114)).drew.cell? ⟨w.heap.size + 1, 1, none⟩ = some (.int .i64 (accO res).ev) := (World.cell?_alloc_lt _ _ _ dz).trans (set_same _ (set_other _ v1 (by intro h; simp at h)))
   exact bodyPost_ret (v := .tuple #[.agg #[.slice ua (accO res).use.length uc, .int .i64 (accO res).ev], .int .i64 (accO res).wd, .int .i64 0]) (by simp [results, Tryz.results61, go_sem, d0, d1]) rfl ⟨_, rfl, IsRow.below (w := (w3.setCell ⟨w.heap.size + 1, 0, none⟩ (.slice ua (accO res).use.length uc)).setCell ⟨w.heap.size + 1, 1, none⟩ (.int .i64 (accO res).ev)) (isrow_set (isrow_set Hrow.out _ _ fun _ => Hn) _ _ fun _ => Hn) (Nat.le_refl _) (by ((with_reducible repeat' first | exact .refl _ _ | refine .alloc ?_ ?_ _ | refine .setCell ?_ ?_ _ | refine .drew ?_ | refine below_drewN ?_ _) <;> first | omega | simp <;> omega)), fun q hq => by have := Hown.out q hq; omega, (by ((with_reducible repeat' first | exact .refl _ _ | exact b4 | refine .alloc ?_ ?_ _ | refine .setCell ?_ ?_ _ | refine .drew ?_ | refine below_drewN ?_ _ | refine Below.trans ?_ (b4.mono ?_)) <;> first | omega | simp <;> omega))⟩
 ·have hbo : nwO ⟨r, f, lo, tm, ps⟩ pl = none := by unfold nwO; rw [← hE, if_neg hE0]
  have hbe : nwE ⟨r, f, lo, tm, ps⟩ pl = E := by unfold nwE; rw [← hE, if_neg hE0]
  rw [hbo, hbe]
  have HE := hide hE
  have hEn : (E != 0) = true := by rw [bne_iff_ne]; exact hE0
  clear hbe hbo hE hE0
  go_enter Tryz.func61, Tryz.ntmps61
  go_upto_region 1 with fail
  rw [← hW0]
  clear hW0
  obtain ⟨y0, y1, y2, y3, y4, v0, v1, f0, f1, b0, z0⟩ := HS.out W0 (Below.refl _ _)
  go_wp2_with fail
  refine (plCheck_any r f lo tm _ ps _ pl _ (HR.out _ b0).1 (HR.out _ b0).2).mono ?_
  rintro e w1 ⟨rfl, c1⟩
  rw [← HE.out]
  have B1 : Below (w.heap.size + 2) W0 w1 := (by ((with_reducible repeat' first | exact .refl _ _ | exact c1 | refine .alloc ?_ ?_ _ | refine .setCell ?_ ?_ _ | refine .drew ?_ | refine below_drewN ?_ _ | refine Below.trans ?_ (c1.mono ?_)) <;> first | omega | simp <;> omega))
  clear y0 y1 y2 y3 y4 v0 v1 f0 f1 b0 z0
  obtain ⟨y0, y1, y2, y3, y4, v0, v1, f0, f1, b1, z1⟩ := HS.out w1 B1
  go_wp2_with fail
  have d0 : ((w1.setCell ⟨w.heap.size + 1, 0, none⟩ (.slice none 0 0)).setCell ⟨w.heap.size + 1, 1, none⟩ (.int .i64 0)).cell? ⟨w.heap.size + 1, 0, none⟩ = some (.slice none 0 0) := set_other _ (set_same _ v0) (by intro h; simp at h)
  have d1 : ((w1.setCell ⟨w.heap.size + 1, 0, none⟩ (.slice none 0 0)).setCell ⟨w.heap.size + 1, 1, none⟩ (.int .i64 0)).cell? ⟨w.heap.size + 1, 1, none⟩ = some (.int .i64 0) := set_same _ (set_other _ v1 (by intro h; simp at h))
  exact bodyPost_ret (v := .tuple #[.agg #[.slice none 0 0, .int .i64 0], .int .i64 0, .int .i64 E]) (by simp [results, Tryz.results61, go_sem, d0, d1]) rfl ⟨_, rfl, IsRow.nil _, fun q hq => by simp [Value.ownBlock] at hq, (by ((with_reducible repeat' first | exact .refl _ _ | exact b1 | refine .alloc ?_ ?_ _ | refine .setCell ?_ ?_ _ | refine .drew ?_ | refine below_drewN ?_ _ | refine Below.trans ?_ (b1.mono ?_)) <;> first | omega | simp <;> omega))⟩
end Go.Proofs.YtigjljmhpkeahaaGreat
/- Plain laws of plans: the best one of the offers. -/
namespace Go.Proofs.YtigjljmhpkeahaaGreat
open Lib (compareInt)

theorem cmpInt_lt (x y : Int) : compareInt x y < 0 ↔ x < y := by unfold compareInt; split <;> (try split) <;> constructor <;> intro _ <;> omega
theorem cmpInt_eq (x y : Int) : compareInt x y = 0 ↔ x = y := by unfold compareInt; split <;> (try split) <;> constructor <;> intro _ <;> omega
theorem cmpInt_le (x y : Int) : compareInt x y ≤ 0 ↔ x ≤ y := by unfold compareInt; split <;> (try split) <;> constructor <;> intro _ <;> omega
theorem cmpInt_gt (x y : Int) : 0 < compareInt x y ↔ y < x := by unfold compareInt; split <;> (try split) <;> constructor <;> intro _ <;> omega
theorem cross_trans {a b c x y z : Int} (hx : 0 < x) (hy : 0 < y) (hz : 0 < z) (h1 : a * y ≤ b * x) (h2 : b * z ≤ c * y) : a * z ≤ c * x := by
 have e1 : a * y * z ≤ b * x * z := Int.mul_le_mul_of_nonneg_right h1 (by omega)
 have e2 : b * z * x ≤ c * y * x := Int.mul_le_mul_of_nonneg_right h2 (by omega)
 have e3 : a * z * y = a * y * z := by rw [Int.mul_assoc, Int.mul_comm z y, ← Int.mul_assoc]
 have e4 : c * x * y = c * y * x := by rw [Int.mul_assoc, Int.mul_comm x y, ← Int.mul_assoc]
 have e5 : b * x * z = b * z * x := by rw [Int.mul_assoc, Int.mul_comm x z, ← Int.mul_assoc]
 exact Int.le_of_mul_le_mul_right (by omega : a * z * y ≤ c * x * y) hy
def OfV (o : Of) : Prop := 0 < o.ev
def LeX (nr : Bool) (ps : List Pr) (a b : Of) : Prop := c1 nr ps a b < 0 ∨ (c1 nr ps a b = 0 ∧ c2 nr ps a b ≤ 0)
theorem cmpC_trans {ps : List Pr} {a b c : Of} (ha : OfV a) (hb : OfV b) (hc : OfV c) (h1 : cmpC ps a b ≤ 0) (h2 : cmpC ps b c ≤ 0) : cmpC ps a c ≤ 0 := by
 unfold cmpC cmpS at *
 rw [cmpInt_le] at *
 exact cross_trans ha hb hc h1 h2
theorem cmpC_flip (ps : List Pr) (a b : Of) : (cmpC ps b a < 0 ↔ 0 < cmpC ps a b) ∧ (cmpC ps b a = 0 ↔ cmpC ps a b = 0) ∧ (cmpC ps b a ≤ 0 ↔ 0 ≤ cmpC ps a b) := by
 have h1 : cmpC ps b a < 0 ↔ 0 < cmpC ps a b := by unfold cmpC cmpS; rw [cmpInt_lt, cmpInt_gt]
 have h2 : cmpC ps b a = 0 ↔ cmpC ps a b = 0 := by unfold cmpC cmpS; rw [cmpInt_eq, cmpInt_eq]; exact eq_comm
 exact ⟨h1, h2, by omega⟩
theorem cmpW_trans {a b c : Of} (h1 : cmpW a b ≤ 0) (h2 : cmpW b c ≤ 0) : cmpW a c ≤ 0 := by
 unfold cmpW at *
 rw [cmpInt_le] at *
 omega
theorem cmpW_flip (a b : Of) : (cmpW b a < 0 ↔ 0 < cmpW a b) ∧ (cmpW b a = 0 ↔ cmpW a b = 0) ∧ (cmpW b a ≤ 0 ↔ 0 ≤ cmpW a b) := by
 have h1 : cmpW b a < 0 ↔ 0 < cmpW a b := by unfold cmpW; rw [cmpInt_lt, cmpInt_gt]
 have h2 : cmpW b a = 0 ↔ cmpW a b = 0 := by unfold cmpW; rw [cmpInt_eq, cmpInt_eq]; exact eq_comm
 exact ⟨h1, h2, by omega⟩
theorem c1_trans {nr : Bool} {ps : List Pr} {a b c : Of} (ha : OfV a) (hb : OfV b) (hc : OfV c) (h1 : c1 nr ps a b ≤ 0) (h2 : c1 nr ps b c ≤ 0) : c1 nr ps a c ≤ 0 := by
 cases nr
 ·exact cmpC_trans ha hb hc h1 h2
 ·exact cmpW_trans h1 h2
theorem c2_trans {nr : Bool} {ps : List Pr} {a b c : Of} (ha : OfV a) (hb : OfV b) (hc : OfV c) (h1 : c2 nr ps a b ≤ 0) (h2 : c2 nr ps b c ≤ 0) : c2 nr ps a c ≤ 0 := by
 cases nr
 ·exact cmpW_trans h1 h2
 ·exact cmpC_trans ha hb hc h1 h2
theorem c1_flip (nr : Bool) (ps : List Pr) (a b : Of) : (c1 nr ps b a < 0 ↔ 0 < c1 nr ps a b) ∧ (c1 nr ps b a = 0 ↔ c1 nr ps a b = 0) ∧ (c1 nr ps b a ≤ 0 ↔ 0 ≤ c1 nr ps a b) := by
 cases nr
 ·exact cmpC_flip ps a b
 ·exact cmpW_flip a b
theorem c2_flip (nr : Bool) (ps : List Pr) (a b : Of) : (c2 nr ps b a < 0 ↔ 0 < c2 nr ps a b) ∧ (c2 nr ps b a = 0 ↔ c2 nr ps a b = 0) ∧ (c2 nr ps b a ≤ 0 ↔ 0 ≤ c2 nr ps a b) := by
 cases nr
 ·exact cmpW_flip a b
 ·exact cmpC_flip ps a b
theorem LeX.refl (nr : Bool) (ps : List Pr) (a : Of) : LeX nr ps a a := by
 have h1 := c1_flip nr ps a a
 have h2 := c2_flip nr ps a a
 exact .inr ⟨by omega, by omega⟩
theorem LeX.trans {nr : Bool} {ps : List Pr} {a b c : Of} (ha : OfV a) (hb : OfV b) (hc : OfV c) (h1 : LeX nr ps a b) (h2 : LeX nr ps b c) : LeX nr ps a c := by
 have l1 : c1 nr ps a b ≤ 0 := by rcases h1 with h | h <;> omega
 have l2 : c1 nr ps b c ≤ 0 := by rcases h2 with h | h <;> omega
 have l3 := c1_trans ha hb hc l1 l2
 by_cases h0 : c1 nr ps a c < 0
 ·exact .inl h0
 ·have e0 : c1 nr ps a c = 0 := by omega
  have f1 := c1_flip nr ps a c
  have f2 := c1_flip nr ps a b
  have f3 := c1_flip nr ps b c
  have t1 := c1_trans (nr := nr) (ps := ps) hc ha hb (by omega) l1
  have t2 := c1_trans (nr := nr) (ps := ps) hb hc ha l2 (by omega)
  have e1 : c1 nr ps a b = 0 := by omega
  have e2 : c1 nr ps b c = 0 := by omega
  refine .inr ⟨e0, c2_trans ha hb hc ?_ ?_⟩
  ·rcases h1 with h | h
   ·omega
   ·exact h.2
  ·rcases h2 with h | h
   ·omega
   ·exact h.2
theorem btr_true {nr : Bool} {ps : List Pr} {a b : Of} (h : btr nr ps a b = true) : LeX nr ps a b := by
 unfold btr at h
 by_cases h1 : c1 nr ps a b ≠ 0
 ·rw [if_pos h1] at h
  exact .inl (of_decide_eq_true h)
 ·rw [if_neg h1] at h
  by_cases h2 : c2 nr ps a b ≠ 0
  ·rw [if_pos h2] at h
   have := of_decide_eq_true h
   exact .inr ⟨by omega, by omega⟩
  ·exact .inr ⟨by omega, by omega⟩
theorem btr_false {nr : Bool} {ps : List Pr} {a b : Of} (h : btr nr ps a b = false) : LeX nr ps b a := by
 have f1 := c1_flip nr ps a b
 have f2 := c2_flip nr ps a b
 unfold btr at h
 by_cases h1 : c1 nr ps a b ≠ 0
 ·rw [if_pos h1] at h
  have := of_decide_eq_false h
  exact .inl (by omega)
 ·rw [if_neg h1] at h
  by_cases h2 : c2 nr ps a b ≠ 0
  ·rw [if_pos h2] at h
   have := of_decide_eq_false h
   exact .inr ⟨by omega, by omega⟩
  ·exact .inr ⟨by omega, by omega⟩
def BsSpec (nr : Bool) (ps : List Pr) (most : Int) (l : List Of) : Option Of → Prop
 | none => ∀ o, o ∈ l → most < o.wd
 | some b => b ∈ l ∧ b.wd ≤ most ∧ ∀ o, o ∈ l → o.wd ≤ most → LeX nr ps b o
theorem bs_step {nr : Bool} {ps : List Pr} {most : Int} {d : List Of} {acc : Option Of} {x : Of} (hv : ∀ o, o ∈ d ++ [x] → OfV o) (h : BsSpec nr ps most d acc) : BsSpec nr ps most (d ++ [x]) (bstS nr ps most acc x) := by
 cases acc with
 | none =>
  simp only [bstS]
  split
  ·rename_i hx
   refine ⟨by simp, hx, fun o ho hle => ?_⟩
   rcases List.mem_append.1 ho with h1 | h1
   ·have := h o h1; omega
   ·rw [List.mem_singleton] at h1; subst h1; exact LeX.refl _ _ _
  ·rename_i hx
   intro o ho
   rcases List.mem_append.1 ho with h1 | h1
   ·exact h o h1
   ·rw [List.mem_singleton] at h1; subst h1; omega
 | some b =>
  obtain ⟨h1, h2, h3⟩ := h
  have hb : OfV b := hv b (by simp [h1])
  have hx : OfV x := hv x (by simp)
  simp only [bstS]
  split
  ·rename_i hc
   refine ⟨by simp, hc.1, fun o ho hle => ?_⟩
   rcases List.mem_append.1 ho with h4 | h4
   ·exact LeX.trans hx hb (hv o ho) (btr_true hc.2) (h3 o h4 hle)
   ·rw [List.mem_singleton] at h4; subst h4; exact LeX.refl _ _ _
  ·rename_i hc
   refine ⟨by simp [h1], h2, fun o ho hle => ?_⟩
   rcases List.mem_append.1 ho with h4 | h4
   ·exact h3 o h4 hle
   ·rw [List.mem_singleton] at h4
    subst h4
    exact btr_false (by cases hq : btr nr ps o b with | false => rfl | true => exact absurd ⟨hle, hq⟩ hc)
theorem bs_fold {nr : Bool} {ps : List Pr} {most : Int} : ∀ (l d : List Of) (acc : Option Of), (∀ o, o ∈ d ++ l → OfV o) → BsSpec nr ps most d acc → BsSpec nr ps most (d ++ l) (l.foldl (bstS nr ps most) acc)
 | [], d, acc, _, h => by simpa using h
 | x :: l, d, acc, hv, h => by
  have h2 := bs_fold l (d ++ [x]) (bstS nr ps most acc x) (by simpa using hv) (bs_step (fun o ho => hv o (by simp at ho ⊢; rcases ho with h | h <;> simp [h])) h)
  simpa using h2
theorem bst_spec {nr : Bool} {s : Si} {pl : List Int} {most : Int} (hv : ∀ o, o ∈ ofL s pl → OfV o) : BsSpec nr s.ps most (ofL s pl) (bstO nr s pl most) := by
 have := bs_fold (nr := nr) (ps := s.ps) (most := most) (ofL s pl) [] none (by simpa using hv) (fun o ho => by simp at ho)
 rw [List.nil_append] at this
 exact this
theorem ofL_mem (s : Si) (pl : List Int) (o : Of) : o ∈ ofL s pl ↔ ∃ m j, m < 2 ^ s.ps.length ∧ j < pl.length ∧ rgB s (mkL m s.ps.length) (iAt pl j) = true ∧ o = ⟨mkL m s.ps.length, iAt pl j, wdt s (mkL m s.ps.length) (iAt pl j)⟩ := ofTo_mem s pl _ o
theorem rg_ev {s : Si} {use : List Int} {ev : Int} (h : rgB s use ev = true) : 0 < ev := by
 obtain ⟨h2, h3, -⟩ := (rgB_iff _ _ _).1 h
 have := (siN_iff _).1 ((siB_iff _).1 h2).1
 omega
theorem ofL_v {s : Si} {pl : List Int} {o : Of} (h : o ∈ ofL s pl) : OfV o ∧ rgB s o.use o.ev = true ∧ o.wd = wdt s o.use o.ev ∧ o.ev ∈ pl := by
 obtain ⟨m, j, h1, h2, h3, rfl⟩ := (ofL_mem s pl o).1 h
 exact ⟨rg_ev h3, h3, rfl, iAt_mem h2⟩
theorem bsO_some {s : Si} {pl : List Int} {x : Int} {b : Of} (h : bsO s pl x = some b) : bsE s pl x = 0 ∧ bstO false s pl x = some b ∧ (0 ≤ x ∧ x ≤ 3000000000000000) ∧ ckE s pl = 0 := by
 unfold bsO at h
 split at h
 ·rename_i h0
  have h0' := h0
  unfold bsE at h0'
  split at h0'
  ·rename_i hx
   exact ⟨h0, h, hx, h0'⟩
  ·omega
 ·cases h
theorem bst_some {nr : Bool} {s : Si} {pl : List Int} {x : Int} {b : Of} (h : bstO nr s pl x = some b) : b ∈ ofL s pl ∧ b.wd ≤ x ∧ ∀ o, o ∈ ofL s pl → o.wd ≤ x → LeX nr s.ps b o := by
 have := bst_spec (nr := nr) (s := s) (pl := pl) (most := x) (fun o ho => (ofL_v ho).1)
 rw [h] at this
 exact this
theorem bst_no {nr : Bool} {s : Si} {pl : List Int} {x : Int} (h : bstO nr s pl x = none) : ∀ o, o ∈ ofL s pl → x < o.wd := by
 have := bst_spec (nr := nr) (s := s) (pl := pl) (most := x) (fun o ho => (ofL_v ho).1)
 rw [h] at this
 exact this
theorem wdt_bd {s : Si} {use : List Int} {ev : Int} (h : rgB s use ev = true) : 0 ≤ wdt s use ev ∧ wdt s use ev ≤ 1004000000000010 := by
 have e1 : wdt s use ev = worst (wdL s.ps use) s.f s.lo + grw s.r (ev + s.tm) := by unfold wdt; rw [h]; rfl
 have h1 := worst_bd29 (rg_spOk h)
 have h2 := grw_bd (rg_elOk h)
 omega
theorem best_narrow {s : Si} {pl : List Int} {x : Int} (hck : ckE s pl = 0) (hx : 0 ≤ x ∧ x ≤ 3000000000000000) : bsE s pl x = 0 ∧
  ((nwO s pl = none ∧ nwE s pl = 20 ∧ bsO s pl x = none) ∨ ∃ n, nwO s pl = some n ∧ nwE s pl = 0 ∧ (bsO s pl x).isSome = decide (n.wd ≤ x)) := by
 have hE : bsE s pl x = 0 := by unfold bsE; rw [if_pos hx]; exact hck
 refine ⟨hE, ?_⟩
 have hb : bsO s pl x = bstO false s pl x := by unfold bsO; rw [if_pos hE]
 have hn : nwO s pl = bstO true s pl 9223372036854775807 := by unfold nwO; rw [if_pos hck]
 have he : nwE s pl = if (nwO s pl).isSome then 0 else 20 := by unfold nwE; rw [if_pos hck]
 cases hN : nwO s pl with
 | none =>
  rw [hN] at he
  refine .inl ⟨rfl, he, ?_⟩
  cases hB : bsO s pl x with
  | none => rfl
  | some b =>
   rw [hb] at hB
   have h1 := (bst_some hB).1
   rw [hn] at hN
   have h2 := bst_no hN b h1
   have h3 := ofL_v h1
   have h4 := wdt_bd h3.2.1
   rw [h3.2.2.1] at h2
   omega
 | some n =>
  rw [hN] at he
  rw [hn] at hN
  obtain ⟨m1, m2, m3⟩ := bst_some hN
  refine .inr ⟨n, rfl, he, ?_⟩
  rw [hb]
  cases hB : bstO false s pl x with
  | none =>
   have := bst_no hB n m1
   exact (decide_eq_false (by omega)).symm
  | some b =>
   obtain ⟨k1, k2, -⟩ := bst_some hB
   have h3 := ofL_v k1
   have h4 := wdt_bd h3.2.1
   have := m3 b k1 (by rw [h3.2.2.1]; omega)
   refine (decide_eq_true ?_).symm
   have hc : cmpW n b ≤ 0 := by
    rcases this with h | h
    ·have : cmpW n b < 0 := h; omega
    ·have : cmpW n b = 0 := h.1; omega
   have : n.wd ≤ b.wd := by unfold cmpW at hc; rw [cmpInt_le] at hc; exact hc
   omega
end Go.Proofs.YtigjljmhpkeahaaGreat
