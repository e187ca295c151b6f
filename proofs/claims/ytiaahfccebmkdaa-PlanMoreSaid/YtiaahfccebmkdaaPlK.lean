/- Package plan: Best. -/
import Derived.Test.YtiaahfccebmkdaaPlD
import Derived.Test.YtiaahfccebmkdaaPlJ
import Derived.Deep.RegionHeld3
namespace Go.Proofs.Ytiaahfccebmkdaa
open Go.RowKit

theorem ckE_zero {s : Si} {pl : List Int} (h : ckE s pl = 0) : siB s = true ∧ prdB s.tm pl = true ∧ s.ps.length ≤ 10 ∧ 1 ≤ pl.length ∧ pl.length ≤ 10 := by
  unfold ckE at h
  split at h
  · rename_i h1
    split at h
    · have h2 := h1.2
      unfold prdB at h2
      rw [Bool.and_eq_true, decide_eq_true_eq] at h2
      exact ⟨h1.1, h1.2, by assumption, h2.2.1, h2.2.2⟩
    · omega
  · omega
theorem RlAt.below {w W : World} {rb sb : Nat} {nr : Bool} (h : RlAt w rb nr sb) {B : Nat} (hB : Below B w W) (hs : rb < B) : RlAt W rb nr sb := fun k hk => ((bk hB rb hs).1 k).trans (h k hk)
theorem rules_at (w : World) (r f lo tm : Int) (pv : Value) {w' : World} (h : w' = (w.alloc (.cells #[.int .i64 r, .int .i64 f, .int .i64 lo, .int .i64 tm, pv] 24)).alloc (.cells #[.func (.func 43) #[] #[.pointer (some ⟨w.heap.size, 0, none⟩)], .func (.func 44) #[] #[], .func (.func 46) #[] #[], .func (.func 47) #[] #[], .func (.func 49) #[] #[]] 75)) :
    StAt w' w.heap.size r f lo tm pv ∧ RlAt w' (w.heap.size + 1) false w.heap.size ∧ w'.heap.size = w.heap.size + 2 ∧ Below w.heap.size w w' := by
  subst h
  refine ⟨⟨?_, ?_, ?_, ?_, ?_⟩, ?_, by simp, by ((repeat' (first | with_reducible exact Below.refl _ _ | with_reducible refine Below.alloc ?_ ?_ _ | with_reducible refine Below.setCell ?_ ?_ _ | with_reducible refine Below.drew ?_ | with_reducible refine below_drewN ?_ _)) <;> (first | omega | (simp; done) | (simp; omega)))⟩
  · simp
  · simp
  · simp
  · simp
  · simp
  · intro k hk
    rcases (by omega : k = 0 ∨ k = 1 ∨ k = 2 ∨ k = 3 ∨ k = 4) with rfl | rfl | rfl | rfl | rfl <;> simp [rlC, go_sem]
theorem made_cells {W V : World} {o0 o1 o2 : Value} {t : TypeId} (b : Below (W.alloc (.cells #[o0, o1, o2] t)).heap.size (W.alloc (.cells #[o0, o1, o2] t)) V) :
    V.cell? ⟨W.heap.size, 0, none⟩ = some o0 ∧ V.cell? ⟨W.heap.size, 1, none⟩ = some o1 ∧ V.cell? ⟨W.heap.size, 2, none⟩ = some o2 ∧ V.frozen? ⟨W.heap.size, 0, none⟩ = false ∧ V.frozen? ⟨W.heap.size, 1, none⟩ = false ∧ V.frozen? ⟨W.heap.size, 2, none⟩ = false ∧ W.heap.size < V.heap.size := by
  have h := bk b W.heap.size (by simp)
  have z := b.size
  simp only [World.size_alloc] at z
  refine ⟨(h.1 _).trans (by simp), (h.1 _).trans (by simp), (h.1 _).trans (by simp), (h.2 _).trans (by simp [go_sem]), (h.2 _).trans (by simp [go_sem]), (h.2 _).trans (by simp [go_sem]), by omega⟩
theorem size_drew (W : World) : W.drew.heap.size = W.heap.size := rfl
theorem made_cellsD {W V : World} {o0 o1 o2 : Value} {t : TypeId} (b : Below (W.alloc (.cells #[o0, o1, o2] t)).drew.heap.size (W.alloc (.cells #[o0, o1, o2] t)).drew V) :
    V.cell? ⟨W.heap.size, 0, none⟩ = some o0 ∧ V.cell? ⟨W.heap.size, 1, none⟩ = some o1 ∧ V.cell? ⟨W.heap.size, 2, none⟩ = some o2 ∧ V.frozen? ⟨W.heap.size, 0, none⟩ = false ∧ V.frozen? ⟨W.heap.size, 1, none⟩ = false ∧ V.frozen? ⟨W.heap.size, 2, none⟩ = false ∧ W.heap.size < V.heap.size := by
  have h := made_cells (W := W) (V := V) (o0 := o0) (o1 := o1) (o2 := o2) (t := t) ⟨b.os, b.tape, b.output, b.size, b.block⟩
  exact h
theorem kept_cells {W V : World} {g : Nat} {o0 o1 o2 : Value} (b : Below W.heap.size W V) (h : W.cell? ⟨g, 0, none⟩ = some o0 ∧ W.cell? ⟨g, 1, none⟩ = some o1 ∧ W.cell? ⟨g, 2, none⟩ = some o2 ∧ W.frozen? ⟨g, 0, none⟩ = false ∧ W.frozen? ⟨g, 1, none⟩ = false ∧ W.frozen? ⟨g, 2, none⟩ = false ∧ g < W.heap.size) :
    V.cell? ⟨g, 0, none⟩ = some o0 ∧ V.cell? ⟨g, 1, none⟩ = some o1 ∧ V.cell? ⟨g, 2, none⟩ = some o2 ∧ V.frozen? ⟨g, 0, none⟩ = false ∧ V.frozen? ⟨g, 1, none⟩ = false ∧ V.frozen? ⟨g, 2, none⟩ = false ∧ g < V.heap.size := by
  have k := bk b g h.2.2.2.2.2.2
  have z := b.size
  exact ⟨(k.1 _).trans h.1, (k.1 _).trans h.2.1, (k.1 _).trans h.2.2.1, (k.2 _).trans h.2.2.2.1, (k.2 _).trans h.2.2.2.2.1, (k.2 _).trans h.2.2.2.2.2.1, by omega⟩
theorem isrow_lt {w : World} {v : Value} {l : List Int} (h : IsRow w v l) (h0 : 0 < l.length) : ∀ q, v.ownBlock = some q → q < w.heap.size := by
  obtain ⟨a, cap, rfl, h1, h2, h3⟩ := h
  obtain ⟨b, off, rfl, h4, _⟩ := h3 0 h0
  intro q hq; cases hq; exact h4
theorem isrow_set {W : World} {v : Value} {l : List Int} (h : IsRow W v l) (p : Addr) (u : Value) (hb : 0 < l.length → ∀ q, v.ownBlock = some q → q ≠ p.block) : IsRow (W.setCell p u) v l := by
  obtain ⟨a, cap, rfl, h1, h2, h3⟩ := h
  refine ⟨a, cap, rfl, h1, h2, fun i hi => ?_⟩
  obtain ⟨b, off, rfl, h4, h5⟩ := h3 i hi
  refine ⟨b, off, rfl, by simpa [World.setCell] using h4, set_other _ h5 fun e => hb (by omega) b rfl (by rw [← e])⟩
/-- An offer put into a block of its own. -/
theorem put3 {W0 V : World} {n g : Nat} {uv o0 o1 o2 a b : Value} {l : List Int} (c0 : V.cell? ⟨g, 0, none⟩ = some o0) (c1 : V.cell? ⟨g, 1, none⟩ = some o1) (c2 : V.cell? ⟨g, 2, none⟩ = some o2) (hg : n ≤ g) (hgV : g < V.heap.size) (hrow : IsRow V uv l) (hown : ∀ q, uv.ownBlock = some q → n ≤ q ∧ (0 < l.length → q ≠ g)) (hB : Below n W0 V) :
    n ≤ g ∧ g < (((V.setCell ⟨g, 0, none⟩ uv).setCell ⟨g, 1, none⟩ a).setCell ⟨g, 2, none⟩ b).heap.size ∧ (((V.setCell ⟨g, 0, none⟩ uv).setCell ⟨g, 1, none⟩ a).setCell ⟨g, 2, none⟩ b).cell? ⟨g, 0, none⟩ = some uv ∧ (((V.setCell ⟨g, 0, none⟩ uv).setCell ⟨g, 1, none⟩ a).setCell ⟨g, 2, none⟩ b).cell? ⟨g, 1, none⟩ = some a ∧ (((V.setCell ⟨g, 0, none⟩ uv).setCell ⟨g, 1, none⟩ a).setCell ⟨g, 2, none⟩ b).cell? ⟨g, 2, none⟩ = some b ∧
      IsRow (((V.setCell ⟨g, 0, none⟩ uv).setCell ⟨g, 1, none⟩ a).setCell ⟨g, 2, none⟩ b) uv l ∧ (∀ q, uv.ownBlock = some q → n ≤ q ∧ (0 < l.length → q ≠ g)) ∧ Below n W0 (((V.setCell ⟨g, 0, none⟩ uv).setCell ⟨g, 1, none⟩ a).setCell ⟨g, 2, none⟩ b) := by
  have hn := fun h0 q hq => (hown q hq).2 h0
  refine ⟨hg, by simpa [World.setCell] using hgV, ?_, ?_, ?_, isrow_set (isrow_set (isrow_set hrow _ _ hn) _ _ hn) _ _ hn, hown, ((hB.setCell (p := ⟨g, 0, none⟩) hg _).setCell (p := ⟨g, 1, none⟩) hg _).setCell (p := ⟨g, 2, none⟩) hg _⟩
  · refine set_other _ (set_other _ (set_same _ c0) ?_) ?_ <;> (intro h; simp at h)
  · refine set_other _ (set_same _ (set_other _ c1 ?_)) ?_ <;> (intro h; simp at h)
  · refine set_same _ (set_other _ (set_other _ c2 ?_) ?_) <;> (intro h; simp at h)
theorem put3A {W0 U : World} {n : Nat} {uv a b : Value} {t : TypeId} {l : List Int} (hg : n ≤ U.heap.size) (hrow : IsRow U uv l) (hown : ∀ q, uv.ownBlock = some q → n ≤ q ∧ (0 < l.length → q ≠ U.heap.size)) (hB : Below n W0 U) :
    n ≤ U.heap.size ∧ U.heap.size < (U.alloc (.cells #[uv, a, b] t)).heap.size ∧ (U.alloc (.cells #[uv, a, b] t)).cell? ⟨U.heap.size, 0, none⟩ = some uv ∧ (U.alloc (.cells #[uv, a, b] t)).cell? ⟨U.heap.size, 1, none⟩ = some a ∧ (U.alloc (.cells #[uv, a, b] t)).cell? ⟨U.heap.size, 2, none⟩ = some b ∧
      IsRow (U.alloc (.cells #[uv, a, b] t)) uv l ∧ (∀ q, uv.ownBlock = some q → n ≤ q ∧ (0 < l.length → q ≠ U.heap.size)) ∧ Below n W0 (U.alloc (.cells #[uv, a, b] t)) :=
  ⟨hg, by simp, by simp, by simp, by simp, hrow.below (Nat.le_refl _) (by ((repeat' (first | with_reducible exact Below.refl _ _ | with_reducible refine Below.alloc ?_ ?_ _ | with_reducible refine Below.setCell ?_ ?_ _ | with_reducible refine Below.drew ?_ | with_reducible refine below_drewN ?_ _)) <;> (first | omega | (simp; done) | (simp; omega)))), hown, hB.alloc hg _⟩
set_option maxRecDepth 100000 in
set_option maxHeartbeats 1600000 in
theorem plB_any (r f lo tm : Int) (pv : Value) (ps : List Pr) (v : Value) (pl : List Int) (x : Int) (w : World) (hp : PrRow w pv ps) (hv : IsRow w v pl) :
    Calls Try.prog 11 #[.agg #[.int .i64 r, .int .i64 f, .int .i64 lo, .int .i64 tm, pv], v, .int .i64 x] w fun e w' => ∃ uv, e = .returned (.tuple #[.agg #[uv, .int .i64 (accO (bsO ⟨r, f, lo, tm, ps⟩ pl x)).ev], .bool (bsO ⟨r, f, lo, tm, ps⟩ pl x).isSome, .int .i64 (bsE ⟨r, f, lo, tm, ps⟩ pl x)]) ∧
      IsRow w' uv (accO (bsO ⟨r, f, lo, tm, ps⟩ pl x)).use ∧ (∀ q, uv.ownBlock = some q → w.heap.size ≤ q) ∧ Below w.heap.size w w' := by
  have hR : ∀ W : World, Below w.heap.size w W → PrRow W pv ps ∧ IsRow W v pl := fun W hW => ⟨hp.below (Nat.le_refl _) hW, hv.below (Nat.le_refl _) hW⟩
  have HR := hide hR
  obtain ⟨pa, pc, rfl, pq1, pq2⟩ := hp.len
  obtain ⟨va, vc, rfl, vq1, vq2, -⟩ := id hv
  obtain ⟨W0, hW0⟩ : ∃ W : World, W = (w.alloc (.cells #[.int .i64 r, .int .i64 f, .int .i64 lo, .int .i64 tm, .slice pa ps.length pc] 24)).alloc (.cells #[.slice none 0 0, .int .i64 0] 29) := ⟨_, rfl⟩
  have zW : W0.heap.size = w.heap.size + 2 := by rw [hW0]; simp
  have bW : Below w.heap.size w W0 := by rw [hW0]; ((repeat' (first | with_reducible exact Below.refl _ _ | with_reducible refine Below.alloc ?_ ?_ _ | with_reducible refine Below.setCell ?_ ?_ _ | with_reducible refine Below.drew ?_ | with_reducible refine below_drewN ?_ _)) <;> (first | omega | (simp; done) | (simp; omega)))
  have hS : ∀ W : World, Below (w.heap.size + 2) W0 W → W.cell? ⟨w.heap.size, 0, none⟩ = some (.int .i64 r) ∧ W.cell? ⟨w.heap.size, 1, none⟩ = some (.int .i64 f) ∧ W.cell? ⟨w.heap.size, 2, none⟩ = some (.int .i64 lo) ∧ W.cell? ⟨w.heap.size, 3, none⟩ = some (.int .i64 tm) ∧ W.cell? ⟨w.heap.size, 4, none⟩ = some (.slice pa ps.length pc) ∧
      W.cell? ⟨w.heap.size + 1, 0, none⟩ = some (.slice none 0 0) ∧ W.cell? ⟨w.heap.size + 1, 1, none⟩ = some (.int .i64 0) ∧ W.frozen? ⟨w.heap.size + 1, 0, none⟩ = false ∧ W.frozen? ⟨w.heap.size + 1, 1, none⟩ = false ∧ Below w.heap.size w W ∧ w.heap.size + 2 ≤ W.heap.size := by
    intro W hW
    obtain ⟨y0, y1, y2, y3, y4, v0, v1, f0, f1⟩ : W0.cell? ⟨w.heap.size, 0, none⟩ = some (.int .i64 r) ∧ W0.cell? ⟨w.heap.size, 1, none⟩ = some (.int .i64 f) ∧ W0.cell? ⟨w.heap.size, 2, none⟩ = some (.int .i64 lo) ∧ W0.cell? ⟨w.heap.size, 3, none⟩ = some (.int .i64 tm) ∧ W0.cell? ⟨w.heap.size, 4, none⟩ = some (.slice pa ps.length pc) ∧ W0.cell? ⟨w.heap.size + 1, 0, none⟩ = some (.slice none 0 0) ∧ W0.cell? ⟨w.heap.size + 1, 1, none⟩ = some (.int .i64 0) ∧ W0.frozen? ⟨w.heap.size + 1, 0, none⟩ = false ∧ W0.frozen? ⟨w.heap.size + 1, 1, none⟩ = false := by
      rw [hW0]; refine ⟨?_, ?_, ?_, ?_, ?_, ?_, ?_, ?_, ?_⟩ <;> simp [go_sem]
    have h0 := (bk hW w.heap.size (by omega)).1
    have h1 := (bk hW (w.heap.size + 1) (by omega)).1
    have h2 := (bk hW (w.heap.size + 1) (by omega)).2
    exact ⟨(h0 _).trans y0, (h0 _).trans y1, (h0 _).trans y2, (h0 _).trans y3, (h0 _).trans y4, (h1 _).trans v0, (h1 _).trans v1, (h2 _).trans f0, (h2 _).trans f1, bW.trans (hW.mono (by omega)), by have := hW.size; omega⟩
  have HS := hide hS
  clear hR hS hp hv
  by_cases hx : 0 ≤ x ∧ x ≤ 3000000000000000
  · have d1 : decide (x < 0) = false := decide_eq_false (by omega)
    have d2 : decide (3000000000000000 < x) = false := decide_eq_false (by omega)
    have hbe : bsE ⟨r, f, lo, tm, ps⟩ pl x = ckE ⟨r, f, lo, tm, ps⟩ pl := by unfold bsE; rw [if_pos hx]
    obtain ⟨E, hE⟩ : ∃ E, E = ckE ⟨r, f, lo, tm, ps⟩ pl := ⟨_, rfl⟩
    by_cases hE0 : E = 0
    · subst hE0
      obtain ⟨-, -, hl, -, hpl⟩ := ckE_zero hE.symm
      have hbo : bsO ⟨r, f, lo, tm, ps⟩ pl x = bstO false ⟨r, f, lo, tm, ps⟩ pl x := by unfold bsO; rw [hbe, ← hE]; rfl
      rw [hbo, hbe, ← hE]
      simp only at hl
      have hK := fun (W : World) sb rb (h : Below w.heap.size w W) (hs : StAt W sb r f lo tm (.slice pa ps.length pc)) (hr : RlAt W rb false sb) (h1 : sb < W.heap.size) (h2 : rb < W.heap.size) => plBest_any false r f lo tm _ ps _ pl x sb rb W (HR.out _ h).1 (HR.out _ h).2 hl hpl hs h1 hr h2
      generalize bstO false ⟨r, f, lo, tm, ps⟩ pl x = res at *
      have HK := hide hK
      have HE := hide hE
      clear hbe hbo hx hE hK hl hpl
      go_enter Try.func11, Try.ntmps11
      go_upto_region 1 with fail
      rw [← hW0]
      clear hW0
      obtain ⟨y0, y1, y2, y3, y4, v0, v1, f0, f1, b0, z0⟩ := HS.out W0 (Below.refl _ _)
      go_wp2_with fail
      refine (plCheck_any r f lo tm _ ps _ pl _ (HR.out _ b0).1 (HR.out _ b0).2).mono ?_
      rintro e w1 ⟨rfl, c1⟩
      rw [← HE.out]
      have B1 : Below (w.heap.size + 2) W0 w1 := (by ((repeat' (first | with_reducible exact Below.refl _ _ | with_reducible exact c1 | with_reducible refine Below.alloc ?_ ?_ _ | with_reducible refine Below.setCell ?_ ?_ _ | with_reducible refine Below.drew ?_ | with_reducible refine below_drewN ?_ _ | with_reducible refine Below.trans ?_ (c1.mono ?_))) <;> (first | omega | (simp; done) | (simp; omega))))
      clear y0 y1 y2 y3 y4 v0 v1 f0 f1 b0 z0
      obtain ⟨y0, y1, y2, y3, y4, v0, v1, f0, f1, b1, z1⟩ := HS.out w1 B1
      have zd : w1.drew.heap.size = w1.heap.size := rfl
      go_upto_region 6 with fail
      go_cut [10, 11] (fun s10 s11 wx => ∃ g uv, s10 = .pointer (some ⟨g, 0, none⟩) ∧ s11 = .bool res.isSome ∧ w.heap.size + 2 ≤ g ∧ g < wx.heap.size ∧ wx.cell? ⟨g, 0, none⟩ = some uv ∧ wx.cell? ⟨g, 1, none⟩ = some (.int .i64 (accO res).ev) ∧ wx.cell? ⟨g, 2, none⟩ = some (.int .i64 (accO res).wd) ∧ IsRow wx uv (accO res).use ∧ (∀ q, uv.ownBlock = some q → w.heap.size + 2 ≤ q ∧ (0 < (accO res).use.length → q ≠ g)) ∧ Below (w.heap.size + 2) W0 wx)
      case first =>
        have z1a : w.heap.size < w1.heap.size := by omega
        have z1b : w.heap.size + 1 < w1.heap.size := by omega
        have tok1 : True := trivial
        have tok2 : True := trivial
        have HB1 := hide B1
        clear B1
        go_region_with (first
          | (go_at_call 26; have _t := tok1; clear tok1; refine (rules_any r f lo tm _ _).mono ?_; rintro e w2 ⟨rfl, hw2⟩; obtain ⟨s1, s2, s3, b2⟩ := rules_at _ r f lo tm _ hw2; clear hw2; obtain ⟨s3a, s3b⟩ := Nat.le_antisymm_iff.1 s3; clear s3; (try simp only [World.size_alloc, size_drew] at s1 s2 s3a s3b); (first | have mm := made_cells b2 | have mm := made_cellsD b2 | skip); have B2 : Below (w.heap.size + 2) W0 w2 := (by ((repeat' (first | with_reducible exact Below.refl _ _ | with_reducible exact b2 | with_reducible exact HB1.out | with_reducible refine Below.alloc ?_ ?_ _ | with_reducible refine Below.setCell ?_ ?_ _ | with_reducible refine Below.drew ?_ | with_reducible refine below_drewN ?_ _ | with_reducible refine Below.trans ?_ (b2.mono ?_) | with_reducible refine Below.trans ?_ (HB1.out.mono ?_))) <;> (first | omega | (simp; done) | (simp; omega)))); obtain ⟨x0, x1, x2, x3, x4, -, -, -, -, q1, q2⟩ := HS.out w2 B2; have q3 := Nat.lt_of_succ_lt (show w.heap.size + 1 < w2.heap.size from q2); have q4 := (show w.heap.size + 1 < w2.heap.size from q2); have HB2 := hide B2; have S1 := hide s1; have S2 := hide s2; clear B2 s1 s2)
          | (go_at_call 25; have _t := tok2; clear tok2; refine (HK.out _ _ _ (by ((repeat' (first | with_reducible exact Below.refl _ _ | with_reducible exact q1 | with_reducible refine Below.alloc ?_ ?_ _ | with_reducible refine Below.setCell ?_ ?_ _ | with_reducible refine Below.drew ?_ | with_reducible refine below_drewN ?_ _ | with_reducible refine Below.trans ?_ (q1.mono ?_))) <;> (first | omega | (simp; done) | (simp; omega)))) (S1.out.below (B := w2.heap.size) (by ((repeat' (first | with_reducible exact Below.refl _ _ | with_reducible refine Below.alloc ?_ ?_ _ | with_reducible refine Below.setCell ?_ ?_ _ | with_reducible refine Below.drew ?_ | with_reducible refine below_drewN ?_ _)) <;> (first | omega | (simp; done) | (simp; omega)))) (by omega)) (S2.out.below (B := w2.heap.size) (by ((repeat' (first | with_reducible exact Below.refl _ _ | with_reducible refine Below.alloc ?_ ?_ _ | with_reducible refine Below.setCell ?_ ?_ _ | with_reducible refine Below.drew ?_ | with_reducible refine below_drewN ?_ _)) <;> (first | omega | (simp; done) | (simp; omega)))) (by omega)) (by first | omega | (simp; omega)) (by first | omega | (simp; omega))).mono ?_; rintro e w3 ⟨uv, rfl, hrow, hown, b3⟩; (try simp only [World.size_alloc] at hown); obtain ⟨ua, uc, huv, -⟩ := id hrow; subst huv; have Hrow := hide hrow; have hlt := isrow_lt hrow; have Hlt := hide hlt; have Hown := hide hown; clear hrow hlt hown; (first | (have tt := made_cells b3; obtain ⟨t0, t1, t2, t3, t4, t5, t6⟩ := tt) | (have tt := kept_cells b3 mm; obtain ⟨t0, t1, t2, t3, t4, t5, t6⟩ := tt) | skip); have z3 := b3.size; (try simp at z3)))
        all_goals go_wp2
        all_goals go_meet
        all_goals refine ⟨_, .slice ua (accO res).use.length uc, rfl, rfl, ?_⟩
        all_goals first
          | exact put3 (uv := .slice ua (accO res).use.length uc) (a := .int .i64 (accO res).ev) (b := .int .i64 (accO res).wd) (l := (accO res).use) t0 t1 t2 (by omega) t6 Hrow.out (fun q hq => ⟨by have := Hown.out q hq; omega, fun h0 e => by have := Hown.out q hq; have := Hlt.out h0 q hq; omega⟩) (by ((repeat' (first | with_reducible exact Below.refl _ _ | with_reducible exact b3 | with_reducible exact HB2.out | with_reducible refine Below.alloc ?_ ?_ _ | with_reducible refine Below.setCell ?_ ?_ _ | with_reducible refine Below.drew ?_ | with_reducible refine below_drewN ?_ _ | with_reducible refine Below.trans ?_ (b3.mono ?_) | with_reducible refine Below.trans ?_ (HB2.out.mono ?_))) <;> (first | omega | (simp; done) | (simp; omega))))
          | exact put3A (U := w3) (uv := .slice ua (accO res).use.length uc) (t := 52) (a := .int .i64 (accO res).ev) (b := .int .i64 (accO res).wd) (l := (accO res).use) (by omega) Hrow.out (fun q hq => ⟨by have := Hown.out q hq; omega, fun h0 e => by have := Hown.out q hq; have := Hlt.out h0 q hq; omega⟩) (by ((repeat' (first | with_reducible exact Below.refl _ _ | with_reducible exact b3 | with_reducible exact HB2.out | with_reducible refine Below.alloc ?_ ?_ _ | with_reducible refine Below.setCell ?_ ?_ _ | with_reducible refine Below.drew ?_ | with_reducible refine below_drewN ?_ _ | with_reducible refine Below.trans ?_ (b3.mono ?_) | with_reducible refine Below.trans ?_ (HB2.out.mono ?_))) <;> (first | omega | (simp; done) | (simp; omega))))
      case rest =>
        obtain ⟨g, uv, rfl, rfl, hg1, hg2, g0, g1, g2, hrow, hown, Bc⟩ := hcut
        clear y0 y1 y2 y3 y4 v0 v1 f0 f1 b1 z1
        obtain ⟨y0, y1, y2, y3, y4, v0, v1, f0, f1, bc, zc⟩ := HS.out wc Bc
        obtain ⟨ua, uc, huv, -⟩ := id hrow
        subst huv
        have hgw : g < wc.heap.size := hg2
        have hne : g ≠ w.heap.size + 1 := by omega
        have Hg := hide (And.intro hg1 hne)
        have Hrow := hide hrow
        have Hown := hide hown
        clear hg1 hne hrow hown
        go_wp2_with fail
        have Hn : ∀ q, (Value.slice ua (accO res).use.length uc).ownBlock = some q → q ≠ w.heap.size + 1 := fun q hq e => by have := (Hown.out q hq).1; omega
        have d0 : ((wc.setCell ⟨w.heap.size + 1, 0, none⟩ (.slice ua (accO res).use.length uc)).setCell ⟨w.heap.size + 1, 1, none⟩ (.int .i64 (accO res).ev)).cell? ⟨w.heap.size + 1, 0, none⟩ = some (.slice ua (accO res).use.length uc) := set_other _ (set_same _ v0) (by intro h; simp at h)
        have d1 : ((wc.setCell ⟨w.heap.size + 1, 0, none⟩ (.slice ua (accO res).use.length uc)).setCell ⟨w.heap.size + 1, 1, none⟩ (.int .i64 (accO res).ev)).cell? ⟨w.heap.size + 1, 1, none⟩ = some (.int .i64 (accO res).ev) := set_same _ (set_other _ v1 (by intro h; simp at h))
        exact bodyPost_ret (v := .tuple #[.agg #[.slice ua (accO res).use.length uc, .int .i64 (accO res).ev], .bool res.isSome, .int .i64 0]) (by simp [results, Try.results11, go_sem, d0, d1]) rfl ⟨_, rfl, isrow_set (isrow_set Hrow.out _ _ fun _ => Hn) _ _ fun _ => Hn, fun q hq => by have := (Hown.out q hq).1; omega, (by ((repeat' (first | with_reducible exact Below.refl _ _ | with_reducible exact bc | with_reducible refine Below.alloc ?_ ?_ _ | with_reducible refine Below.setCell ?_ ?_ _ | with_reducible refine Below.drew ?_ | with_reducible refine below_drewN ?_ _ | with_reducible refine Below.trans ?_ (bc.mono ?_))) <;> (first | omega | (simp; done) | (simp; omega))))⟩
    · have hbo : bsO ⟨r, f, lo, tm, ps⟩ pl x = none := by unfold bsO; rw [hbe, ← hE, if_neg hE0]
      rw [hbo, hbe, ← hE]
      have HE := hide hE
      have hEn : (E != 0) = true := by rw [bne_iff_ne]; exact hE0
      clear hbe hbo hx hE hE0
      go_enter Try.func11, Try.ntmps11
      go_upto_region 1 with fail
      rw [← hW0]
      clear hW0
      obtain ⟨y0, y1, y2, y3, y4, v0, v1, f0, f1, b0, z0⟩ := HS.out W0 (Below.refl _ _)
      go_wp2_with fail
      refine (plCheck_any r f lo tm _ ps _ pl _ (HR.out _ b0).1 (HR.out _ b0).2).mono ?_
      rintro e w1 ⟨rfl, c1⟩
      rw [← HE.out]
      have B1 : Below (w.heap.size + 2) W0 w1 := (by ((repeat' (first | with_reducible exact Below.refl _ _ | with_reducible exact c1 | with_reducible refine Below.alloc ?_ ?_ _ | with_reducible refine Below.setCell ?_ ?_ _ | with_reducible refine Below.drew ?_ | with_reducible refine below_drewN ?_ _ | with_reducible refine Below.trans ?_ (c1.mono ?_))) <;> (first | omega | (simp; done) | (simp; omega))))
      clear y0 y1 y2 y3 y4 v0 v1 f0 f1 b0 z0
      obtain ⟨y0, y1, y2, y3, y4, v0, v1, f0, f1, b1, z1⟩ := HS.out w1 B1
      go_wp2_with fail
      have d0 : ((w1.setCell ⟨w.heap.size + 1, 0, none⟩ (.slice none 0 0)).setCell ⟨w.heap.size + 1, 1, none⟩ (.int .i64 0)).cell? ⟨w.heap.size + 1, 0, none⟩ = some (.slice none 0 0) := set_other _ (set_same _ v0) (by intro h; simp at h)
      have d1 : ((w1.setCell ⟨w.heap.size + 1, 0, none⟩ (.slice none 0 0)).setCell ⟨w.heap.size + 1, 1, none⟩ (.int .i64 0)).cell? ⟨w.heap.size + 1, 1, none⟩ = some (.int .i64 0) := set_same _ (set_other _ v1 (by intro h; simp at h))
      exact bodyPost_ret (v := .tuple #[.agg #[.slice none 0 0, .int .i64 0], .bool false, .int .i64 E]) (by simp [results, Try.results11, go_sem, d0, d1]) rfl ⟨_, rfl, IsRow.nil _, fun q hq => by simp [Value.ownBlock] at hq, (by ((repeat' (first | with_reducible exact Below.refl _ _ | with_reducible exact b1 | with_reducible refine Below.alloc ?_ ?_ _ | with_reducible refine Below.setCell ?_ ?_ _ | with_reducible refine Below.drew ?_ | with_reducible refine below_drewN ?_ _ | with_reducible refine Below.trans ?_ (b1.mono ?_))) <;> (first | omega | (simp; done) | (simp; omega))))⟩
  · have hbe : bsE ⟨r, f, lo, tm, ps⟩ pl x = 1 := by unfold bsE; rw [if_neg hx]
    have hbo : bsO ⟨r, f, lo, tm, ps⟩ pl x = none := by unfold bsO; rw [hbe]; rfl
    rw [hbo, hbe]
    clear hbe hbo
    go_enter Try.func11, Try.ntmps11
    go_upto_region 1 with fail
    rw [← hW0]
    clear hW0
    obtain ⟨y0, y1, y2, y3, y4, v0, v1, f0, f1, b0, z0⟩ := HS.out W0 (Below.refl _ _)
    by_cases hx1 : x < 0
    · clear hx
      go_wp2_with fail
      have d0 : ((W0.setCell ⟨w.heap.size + 1, 0, none⟩ (.slice none 0 0)).setCell ⟨w.heap.size + 1, 1, none⟩ (.int .i64 0)).cell? ⟨w.heap.size + 1, 0, none⟩ = some (.slice none 0 0) := set_other _ (set_same _ v0) (by intro h; simp at h)
      have d1 : ((W0.setCell ⟨w.heap.size + 1, 0, none⟩ (.slice none 0 0)).setCell ⟨w.heap.size + 1, 1, none⟩ (.int .i64 0)).cell? ⟨w.heap.size + 1, 1, none⟩ = some (.int .i64 0) := set_same _ (set_other _ v1 (by intro h; simp at h))
      exact bodyPost_ret (v := .tuple #[.agg #[.slice none 0 0, .int .i64 0], .bool false, .int .i64 1]) (by simp [results, Try.results11, go_sem, d0, d1]) rfl ⟨_, rfl, IsRow.nil _, fun q hq => by simp [Value.ownBlock] at hq, (by ((repeat' (first | with_reducible exact Below.refl _ _ | with_reducible exact b0 | with_reducible refine Below.alloc ?_ ?_ _ | with_reducible refine Below.setCell ?_ ?_ _ | with_reducible refine Below.drew ?_ | with_reducible refine below_drewN ?_ _ | with_reducible refine Below.trans ?_ (b0.mono ?_))) <;> (first | omega | (simp; done) | (simp; omega))))⟩
    · have hx2 : 3000000000000000 < x := by omega
      have d2 : decide (3000000000000000 < x) = true := decide_eq_true hx2
      have d1 : decide (x < 0) = false := decide_eq_false hx1
      clear hx
      go_wp2_with fail
      have d0 : ((W0.setCell ⟨w.heap.size + 1, 0, none⟩ (.slice none 0 0)).setCell ⟨w.heap.size + 1, 1, none⟩ (.int .i64 0)).cell? ⟨w.heap.size + 1, 0, none⟩ = some (.slice none 0 0) := set_other _ (set_same _ v0) (by intro h; simp at h)
      have d1 : ((W0.setCell ⟨w.heap.size + 1, 0, none⟩ (.slice none 0 0)).setCell ⟨w.heap.size + 1, 1, none⟩ (.int .i64 0)).cell? ⟨w.heap.size + 1, 1, none⟩ = some (.int .i64 0) := set_same _ (set_other _ v1 (by intro h; simp at h))
      exact bodyPost_ret (v := .tuple #[.agg #[.slice none 0 0, .int .i64 0], .bool false, .int .i64 1]) (by simp [results, Try.results11, go_sem, d0, d1]) rfl ⟨_, rfl, IsRow.nil _, fun q hq => by simp [Value.ownBlock] at hq, (by ((repeat' (first | with_reducible exact Below.refl _ _ | with_reducible exact b0 | with_reducible refine Below.alloc ?_ ?_ _ | with_reducible refine Below.setCell ?_ ?_ _ | with_reducible refine Below.drew ?_ | with_reducible refine below_drewN ?_ _ | with_reducible refine Below.trans ?_ (b0.mono ?_))) <;> (first | omega | (simp; done) | (simp; omega))))⟩
end Go.Proofs.Ytiaahfccebmkdaa
