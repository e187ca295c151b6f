/- The reference of package plan: Best, Narrow, Few. -/
import Derived.Test.YtiaahfccebmkdaaGreatGo
import Derived.Test.YtiaahfccebmkdaaGreatGm
import Derived.Deep.DeepCutAuto
namespace Go.Proofs.YtiaahfccebmkdaaGreat
open Go.RowKit

set_option maxRecDepth 100000 in
set_option maxHeartbeats 2000000 in
theorem RB_any (r f lo tm : Int) (pv : Value) (ps : List Pr) (v : Value) (pl : List Int) (x : Int) (w : World) (hp : PrRow w pv ps) (hv : IsRow w v pl) :
    Calls Tryz.prog 10 #[.agg #[.int .i64 r, .int .i64 f, .int .i64 lo, .int .i64 tm, pv], v, .int .i64 x] w fun e w' => ∃ uv, e = .returned (.tuple #[.agg #[uv, .int .i64 (accO (bsO ⟨r, f, lo, tm, ps⟩ pl x)).ev], .bool (bsO ⟨r, f, lo, tm, ps⟩ pl x).isSome, .int .i64 (bsE ⟨r, f, lo, tm, ps⟩ pl x)]) ∧
      IsRow w' uv (accO (bsO ⟨r, f, lo, tm, ps⟩ pl x)).use ∧ (∀ q, uv.ownBlock = some q → w.heap.size ≤ q) ∧ Below w.heap.size w w' := by
  have hR : ∀ W : World, Below w.heap.size w W → PrRow W pv ps ∧ IsRow W v pl := fun W hW => ⟨hp.below (Nat.le_refl _) hW, hv.below (Nat.le_refl _) hW⟩
  have HR := hide hR
  obtain ⟨pa, pc, rfl, pq1, pq2⟩ := hp.len
  obtain ⟨va, vc, rfl, vq1, vq2, -⟩ := id hv
  obtain ⟨W0, hW0⟩ : ∃ W : World, W = (w.alloc (.cells #[.int .i64 r, .int .i64 f, .int .i64 lo, .int .i64 tm, .slice pa ps.length pc] 24)).alloc (.cells #[.slice none 0 0, .int .i64 0] 27) := ⟨_, rfl⟩
  have zW : W0.heap.size = w.heap.size + 2 := by rw [hW0]; simp
  have bW : Below w.heap.size w W0 := by rw [hW0]; ((repeat' (first | with_reducible exact Below.refl _ _ | with_reducible refine Below.alloc ?_ ?_ _ | with_reducible refine Below.setCell ?_ ?_ _ | with_reducible refine Below.drew ?_ | with_reducible refine below_drewN ?_ _)) <;> (first | omega | (simp; done) | (simp; omega)))
  have hS : ∀ W : World, Below (w.heap.size + 2) W0 W → W.cell? ⟨w.heap.size, 0, none⟩ = some (.int .i64 r) ∧ W.cell? ⟨w.heap.size, 1, none⟩ = some (.int .i64 f) ∧ W.cell? ⟨w.heap.size, 2, none⟩ = some (.int .i64 lo) ∧ W.cell? ⟨w.heap.size, 3, none⟩ = some (.int .i64 tm) ∧ W.cell? ⟨w.heap.size, 4, none⟩ = some (.slice pa ps.length pc) ∧
      W.cell? ⟨w.heap.size + 1, 0, none⟩ = some (.slice none 0 0) ∧ W.cell? ⟨w.heap.size + 1, 1, none⟩ = some (.int .i64 0) ∧ W.frozen? ⟨w.heap.size + 1, 0, none⟩ = false ∧ W.frozen? ⟨w.heap.size + 1, 1, none⟩ = false ∧ Below w.heap.size w W ∧ w.heap.size + 2 ≤ W.heap.size := by
    intro W hW
    obtain ⟨y0, y1, y2, y3, y4, v0, v1, f0, f1⟩ : W0.cell? ⟨w.heap.size, 0, none⟩ = some (.int .i64 r) ∧ W0.cell? ⟨w.heap.size, 1, none⟩ = some (.int .i64 f) ∧ W0.cell? ⟨w.heap.size, 2, none⟩ = some (.int .i64 lo) ∧ W0.cell? ⟨w.heap.size, 3, none⟩ = some (.int .i64 tm) ∧ W0.cell? ⟨w.heap.size, 4, none⟩ = some (.slice pa ps.length pc) ∧ W0.cell? ⟨w.heap.size + 1, 0, none⟩ = some (.slice none 0 0) ∧ W0.cell? ⟨w.heap.size + 1, 1, none⟩ = some (.int .i64 0) ∧ W0.frozen? ⟨w.heap.size + 1, 0, none⟩ = false ∧ W0.frozen? ⟨w.heap.size + 1, 1, none⟩ = false := by
      rw [hW0]; refine ⟨?_, ?_, ?_, ?_, ?_, ?_, ?_, ?_, ?_⟩ <;> simp [go_sem]
    have h0 := (bk hW w.heap.size (by omega)).1
    have h1 := (bk hW (w.heap.size + 1) (by omega)).1
    have h2 := (bk hW (w.heap.size + 1) (by omega)).2
    exact ⟨(h0 _).trans y0, (h0 _).trans y1, (h0 _).trans y2, (h0 _).trans y3, (h0 _).trans y4, (h1 _).trans v0, (h1 _).trans v1, (h2 _).trans f0, (h2 _).trans f1, bW.trans (hW.mono (by omega)), by have := hW.size; omega⟩
  have HS := hide hS
  clear hR hS hp hv
  have hno : ∀ E, bsE ⟨r, f, lo, tm, ps⟩ pl x = E → E ≠ 0 → bsO ⟨r, f, lo, tm, ps⟩ pl x = none := fun E h1 h2 => by unfold bsO; rw [h1, if_neg h2]
  by_cases hx0 : x < 0
  · have dx : decide (x < 0) = true := decide_eq_true hx0
    have hE : bsE ⟨r, f, lo, tm, ps⟩ pl x = 1 := by unfold bsE; rw [if_neg (by omega)]
    rw [hno _ hE (by decide), hE]
    clear hno hE hx0
    cases hs : siB ⟨r, f, lo, tm, ps⟩ with
    | false =>
      go_enter Tryz.func10, Tryz.ntmps10
      go_upto_region 1 with fail
      rw [← hW0]
      clear hW0
      have B0 : Below (w.heap.size + 2) W0 W0 := Below.refl _ _
      obtain ⟨y0, y1, y2, y3, y4, v0, v1, f0, f1, b0, z0⟩ := HS.out W0 B0
      go_wp2_with (first | (go_at_call 22; (with_reducible refine (R29Valid_any r f lo tm _ ps _ (HR.out _ b0).1).mono ?_); rintro e w1 ⟨rfl, c1⟩; rw [hs]; have B1 : Below (w.heap.size + 2) W0 w1 := B0.trans (c1.mono z0); clear y0 y1 y2 y3 y4 v0 v1 f0 f1 z0; obtain ⟨y0, y1, y2, y3, y4, v0, v1, f0, f1, b1, z0⟩ := HS.out w1 B1))
      have d0 : ((w1.setCell ⟨w.heap.size + 1, 0, none⟩ (.slice none 0 0)).setCell ⟨w.heap.size + 1, 1, none⟩ (.int .i64 0)).cell? ⟨w.heap.size + 1, 0, none⟩ = some (.slice none 0 0) := set_other _ (set_same _ v0) (by intro h; simp at h)
      have d1 : ((w1.setCell ⟨w.heap.size + 1, 0, none⟩ (.slice none 0 0)).setCell ⟨w.heap.size + 1, 1, none⟩ (.int .i64 0)).cell? ⟨w.heap.size + 1, 1, none⟩ = some (.int .i64 0) := set_same _ (set_other _ v1 (by intro h; simp at h))
      exact bodyPost_ret (v := .tuple #[.agg #[.slice none 0 0, .int .i64 0], .bool false, .int .i64 1]) (by simp [results, Tryz.results10, go_sem, d0, d1]) rfl ⟨_, rfl, IsRow.nil _, fun q hq => by simp [Value.ownBlock] at hq, (by ((repeat' (first | with_reducible exact Below.refl _ _ | with_reducible exact b1 | with_reducible refine Below.alloc ?_ ?_ _ | with_reducible refine Below.setCell ?_ ?_ _ | with_reducible refine Below.drew ?_ | with_reducible refine below_drewN ?_ _ | with_reducible refine Below.trans ?_ (b1.mono ?_))) <;> (first | omega | (simp; done) | (simp; omega))))⟩
    | true =>
      cases hq : prdB tm pl with
      | false =>
        go_enter Tryz.func10, Tryz.ntmps10
        go_upto_region 1 with fail
        rw [← hW0]
        clear hW0
        have B0 : Below (w.heap.size + 2) W0 W0 := Below.refl _ _
        obtain ⟨y0, y1, y2, y3, y4, v0, v1, f0, f1, b0, z0⟩ := HS.out W0 B0
        go_wp2_with (first | (go_at_call 22; (with_reducible refine (R29Valid_any r f lo tm _ ps _ (HR.out _ b0).1).mono ?_); rintro e w1 ⟨rfl, c1⟩; rw [hs]; have B1 : Below (w.heap.size + 2) W0 w1 := B0.trans (c1.mono z0); clear y0 y1 y2 y3 y4 v0 v1 f0 f1 z0; obtain ⟨y0, y1, y2, y3, y4, v0, v1, f0, f1, b1, z0⟩ := HS.out w1 B1) | (go_at_call 23; (with_reducible refine (RPeriods_any r f lo tm _ _ pl _ (HR.out _ b1).2).mono ?_); rintro e w2 ⟨rfl, c2⟩; rw [hq]; have B2 : Below (w.heap.size + 2) W0 w2 := B1.trans (c2.mono z0); clear y0 y1 y2 y3 y4 v0 v1 f0 f1 z0; obtain ⟨y0, y1, y2, y3, y4, v0, v1, f0, f1, b2, z0⟩ := HS.out w2 B2))
        have d0 : ((w2.setCell ⟨w.heap.size + 1, 0, none⟩ (.slice none 0 0)).setCell ⟨w.heap.size + 1, 1, none⟩ (.int .i64 0)).cell? ⟨w.heap.size + 1, 0, none⟩ = some (.slice none 0 0) := set_other _ (set_same _ v0) (by intro h; simp at h)
        have d1 : ((w2.setCell ⟨w.heap.size + 1, 0, none⟩ (.slice none 0 0)).setCell ⟨w.heap.size + 1, 1, none⟩ (.int .i64 0)).cell? ⟨w.heap.size + 1, 1, none⟩ = some (.int .i64 0) := set_same _ (set_other _ v1 (by intro h; simp at h))
        exact bodyPost_ret (v := .tuple #[.agg #[.slice none 0 0, .int .i64 0], .bool false, .int .i64 1]) (by simp [results, Tryz.results10, go_sem, d0, d1]) rfl ⟨_, rfl, IsRow.nil _, fun q hq => by simp [Value.ownBlock] at hq, (by ((repeat' (first | with_reducible exact Below.refl _ _ | with_reducible exact b2 | with_reducible refine Below.alloc ?_ ?_ _ | with_reducible refine Below.setCell ?_ ?_ _ | with_reducible refine Below.drew ?_ | with_reducible refine below_drewN ?_ _ | with_reducible refine Below.trans ?_ (b2.mono ?_))) <;> (first | omega | (simp; done) | (simp; omega))))⟩
      | true =>
        go_enter Tryz.func10, Tryz.ntmps10
        go_upto_region 1 with fail
        rw [← hW0]
        clear hW0
        have B0 : Below (w.heap.size + 2) W0 W0 := Below.refl _ _
        obtain ⟨y0, y1, y2, y3, y4, v0, v1, f0, f1, b0, z0⟩ := HS.out W0 B0
        go_wp2_with (first | (go_at_call 22; (with_reducible refine (R29Valid_any r f lo tm _ ps _ (HR.out _ b0).1).mono ?_); rintro e w1 ⟨rfl, c1⟩; rw [hs]; have B1 : Below (w.heap.size + 2) W0 w1 := B0.trans (c1.mono z0); clear y0 y1 y2 y3 y4 v0 v1 f0 f1 z0; obtain ⟨y0, y1, y2, y3, y4, v0, v1, f0, f1, b1, z0⟩ := HS.out w1 B1) | (go_at_call 23; (with_reducible refine (RPeriods_any r f lo tm _ _ pl _ (HR.out _ b1).2).mono ?_); rintro e w2 ⟨rfl, c2⟩; rw [hq]; have B2 : Below (w.heap.size + 2) W0 w2 := B1.trans (c2.mono z0); clear y0 y1 y2 y3 y4 v0 v1 f0 f1 z0; obtain ⟨y0, y1, y2, y3, y4, v0, v1, f0, f1, b2, z0⟩ := HS.out w2 B2))
        have d0 : ((w2.setCell ⟨w.heap.size + 1, 0, none⟩ (.slice none 0 0)).setCell ⟨w.heap.size + 1, 1, none⟩ (.int .i64 0)).cell? ⟨w.heap.size + 1, 0, none⟩ = some (.slice none 0 0) := set_other _ (set_same _ v0) (by intro h; simp at h)
        have d1 : ((w2.setCell ⟨w.heap.size + 1, 0, none⟩ (.slice none 0 0)).setCell ⟨w.heap.size + 1, 1, none⟩ (.int .i64 0)).cell? ⟨w.heap.size + 1, 1, none⟩ = some (.int .i64 0) := set_same _ (set_other _ v1 (by intro h; simp at h))
        exact bodyPost_ret (v := .tuple #[.agg #[.slice none 0 0, .int .i64 0], .bool false, .int .i64 1]) (by simp [results, Tryz.results10, go_sem, d0, d1]) rfl ⟨_, rfl, IsRow.nil _, fun q hq => by simp [Value.ownBlock] at hq, (by ((repeat' (first | with_reducible exact Below.refl _ _ | with_reducible exact b2 | with_reducible refine Below.alloc ?_ ?_ _ | with_reducible refine Below.setCell ?_ ?_ _ | with_reducible refine Below.drew ?_ | with_reducible refine below_drewN ?_ _ | with_reducible refine Below.trans ?_ (b2.mono ?_))) <;> (first | omega | (simp; done) | (simp; omega))))⟩
  have dx : decide (x < 0) = false := decide_eq_false hx0
  by_cases hx1 : 3000000000000000 < x
  · have dy : decide (3000000000000000 < x) = true := decide_eq_true hx1
    have hE : bsE ⟨r, f, lo, tm, ps⟩ pl x = 1 := by unfold bsE; rw [if_neg (by omega)]
    rw [hno _ hE (by decide), hE]
    clear hno hE hx0 hx1
    cases hs : siB ⟨r, f, lo, tm, ps⟩ with
    | false =>
      go_enter Tryz.func10, Tryz.ntmps10
      go_upto_region 1 with fail
      rw [← hW0]
      clear hW0
      have B0 : Below (w.heap.size + 2) W0 W0 := Below.refl _ _
      obtain ⟨y0, y1, y2, y3, y4, v0, v1, f0, f1, b0, z0⟩ := HS.out W0 B0
      go_wp2_with (first | (go_at_call 22; (with_reducible refine (R29Valid_any r f lo tm _ ps _ (HR.out _ b0).1).mono ?_); rintro e w1 ⟨rfl, c1⟩; rw [hs]; have B1 : Below (w.heap.size + 2) W0 w1 := B0.trans (c1.mono z0); clear y0 y1 y2 y3 y4 v0 v1 f0 f1 z0; obtain ⟨y0, y1, y2, y3, y4, v0, v1, f0, f1, b1, z0⟩ := HS.out w1 B1))
      have d0 : ((w1.setCell ⟨w.heap.size + 1, 0, none⟩ (.slice none 0 0)).setCell ⟨w.heap.size + 1, 1, none⟩ (.int .i64 0)).cell? ⟨w.heap.size + 1, 0, none⟩ = some (.slice none 0 0) := set_other _ (set_same _ v0) (by intro h; simp at h)
      have d1 : ((w1.setCell ⟨w.heap.size + 1, 0, none⟩ (.slice none 0 0)).setCell ⟨w.heap.size + 1, 1, none⟩ (.int .i64 0)).cell? ⟨w.heap.size + 1, 1, none⟩ = some (.int .i64 0) := set_same _ (set_other _ v1 (by intro h; simp at h))
      exact bodyPost_ret (v := .tuple #[.agg #[.slice none 0 0, .int .i64 0], .bool false, .int .i64 1]) (by simp [results, Tryz.results10, go_sem, d0, d1]) rfl ⟨_, rfl, IsRow.nil _, fun q hq => by simp [Value.ownBlock] at hq, (by ((repeat' (first | with_reducible exact Below.refl _ _ | with_reducible exact b1 | with_reducible refine Below.alloc ?_ ?_ _ | with_reducible refine Below.setCell ?_ ?_ _ | with_reducible refine Below.drew ?_ | with_reducible refine below_drewN ?_ _ | with_reducible refine Below.trans ?_ (b1.mono ?_))) <;> (first | omega | (simp; done) | (simp; omega))))⟩
    | true =>
      cases hq : prdB tm pl with
      | false =>
        go_enter Tryz.func10, Tryz.ntmps10
        go_upto_region 1 with fail
        rw [← hW0]
        clear hW0
        have B0 : Below (w.heap.size + 2) W0 W0 := Below.refl _ _
        obtain ⟨y0, y1, y2, y3, y4, v0, v1, f0, f1, b0, z0⟩ := HS.out W0 B0
        go_wp2_with (first | (go_at_call 22; (with_reducible refine (R29Valid_any r f lo tm _ ps _ (HR.out _ b0).1).mono ?_); rintro e w1 ⟨rfl, c1⟩; rw [hs]; have B1 : Below (w.heap.size + 2) W0 w1 := B0.trans (c1.mono z0); clear y0 y1 y2 y3 y4 v0 v1 f0 f1 z0; obtain ⟨y0, y1, y2, y3, y4, v0, v1, f0, f1, b1, z0⟩ := HS.out w1 B1) | (go_at_call 23; (with_reducible refine (RPeriods_any r f lo tm _ _ pl _ (HR.out _ b1).2).mono ?_); rintro e w2 ⟨rfl, c2⟩; rw [hq]; have B2 : Below (w.heap.size + 2) W0 w2 := B1.trans (c2.mono z0); clear y0 y1 y2 y3 y4 v0 v1 f0 f1 z0; obtain ⟨y0, y1, y2, y3, y4, v0, v1, f0, f1, b2, z0⟩ := HS.out w2 B2))
        have d0 : ((w2.setCell ⟨w.heap.size + 1, 0, none⟩ (.slice none 0 0)).setCell ⟨w.heap.size + 1, 1, none⟩ (.int .i64 0)).cell? ⟨w.heap.size + 1, 0, none⟩ = some (.slice none 0 0) := set_other _ (set_same _ v0) (by intro h; simp at h)
        have d1 : ((w2.setCell ⟨w.heap.size + 1, 0, none⟩ (.slice none 0 0)).setCell ⟨w.heap.size + 1, 1, none⟩ (.int .i64 0)).cell? ⟨w.heap.size + 1, 1, none⟩ = some (.int .i64 0) := set_same _ (set_other _ v1 (by intro h; simp at h))
        exact bodyPost_ret (v := .tuple #[.agg #[.slice none 0 0, .int .i64 0], .bool false, .int .i64 1]) (by simp [results, Tryz.results10, go_sem, d0, d1]) rfl ⟨_, rfl, IsRow.nil _, fun q hq => by simp [Value.ownBlock] at hq, (by ((repeat' (first | with_reducible exact Below.refl _ _ | with_reducible exact b2 | with_reducible refine Below.alloc ?_ ?_ _ | with_reducible refine Below.setCell ?_ ?_ _ | with_reducible refine Below.drew ?_ | with_reducible refine below_drewN ?_ _ | with_reducible refine Below.trans ?_ (b2.mono ?_))) <;> (first | omega | (simp; done) | (simp; omega))))⟩
      | true =>
        go_enter Tryz.func10, Tryz.ntmps10
        go_upto_region 1 with fail
        rw [← hW0]
        clear hW0
        have B0 : Below (w.heap.size + 2) W0 W0 := Below.refl _ _
        obtain ⟨y0, y1, y2, y3, y4, v0, v1, f0, f1, b0, z0⟩ := HS.out W0 B0
        go_wp2_with (first | (go_at_call 22; (with_reducible refine (R29Valid_any r f lo tm _ ps _ (HR.out _ b0).1).mono ?_); rintro e w1 ⟨rfl, c1⟩; rw [hs]; have B1 : Below (w.heap.size + 2) W0 w1 := B0.trans (c1.mono z0); clear y0 y1 y2 y3 y4 v0 v1 f0 f1 z0; obtain ⟨y0, y1, y2, y3, y4, v0, v1, f0, f1, b1, z0⟩ := HS.out w1 B1) | (go_at_call 23; (with_reducible refine (RPeriods_any r f lo tm _ _ pl _ (HR.out _ b1).2).mono ?_); rintro e w2 ⟨rfl, c2⟩; rw [hq]; have B2 : Below (w.heap.size + 2) W0 w2 := B1.trans (c2.mono z0); clear y0 y1 y2 y3 y4 v0 v1 f0 f1 z0; obtain ⟨y0, y1, y2, y3, y4, v0, v1, f0, f1, b2, z0⟩ := HS.out w2 B2))
        have d0 : ((w2.setCell ⟨w.heap.size + 1, 0, none⟩ (.slice none 0 0)).setCell ⟨w.heap.size + 1, 1, none⟩ (.int .i64 0)).cell? ⟨w.heap.size + 1, 0, none⟩ = some (.slice none 0 0) := set_other _ (set_same _ v0) (by intro h; simp at h)
        have d1 : ((w2.setCell ⟨w.heap.size + 1, 0, none⟩ (.slice none 0 0)).setCell ⟨w.heap.size + 1, 1, none⟩ (.int .i64 0)).cell? ⟨w.heap.size + 1, 1, none⟩ = some (.int .i64 0) := set_same _ (set_other _ v1 (by intro h; simp at h))
        exact bodyPost_ret (v := .tuple #[.agg #[.slice none 0 0, .int .i64 0], .bool false, .int .i64 1]) (by simp [results, Tryz.results10, go_sem, d0, d1]) rfl ⟨_, rfl, IsRow.nil _, fun q hq => by simp [Value.ownBlock] at hq, (by ((repeat' (first | with_reducible exact Below.refl _ _ | with_reducible exact b2 | with_reducible refine Below.alloc ?_ ?_ _ | with_reducible refine Below.setCell ?_ ?_ _ | with_reducible refine Below.drew ?_ | with_reducible refine below_drewN ?_ _ | with_reducible refine Below.trans ?_ (b2.mono ?_))) <;> (first | omega | (simp; done) | (simp; omega))))⟩
  have dy : decide (3000000000000000 < x) = false := decide_eq_false hx1
  have hEe : bsE ⟨r, f, lo, tm, ps⟩ pl x = ckE ⟨r, f, lo, tm, ps⟩ pl := by unfold bsE; rw [if_pos (by omega)]
  rcases ckE_cases ⟨r, f, lo, tm, ps⟩ pl with ⟨hs, hq, hl, hE⟩ | ⟨hs, hq, hl, hE⟩ | ⟨hs, hq, hE⟩ | ⟨hs, hE⟩
  · rw [hE] at hEe
    have hbo : bsO ⟨r, f, lo, tm, ps⟩ pl x = bstO false ⟨r, f, lo, tm, ps⟩ pl x := by unfold bsO; rw [if_pos hEe]
    obtain ⟨-, -, -, -, hpl⟩ := ckE_zero hE
    rw [hbo, hEe]
    simp only at hl hq
    have dl : decide ((10 : Int) < (ps.length : Int)) = false := decide_eq_false (by omega)
    have hF := fun W h1 h2 => Rfind_any false r f lo tm (.slice pa ps.length pc) ps (.slice va pl.length vc) pl x W h1 h2 hl hpl
    generalize bstO false ⟨r, f, lo, tm, ps⟩ pl x = res at *
    have HF := hide hF
    clear hno hbo hEe hE hF hl hpl hx0 hx1
    go_enter Tryz.func10, Tryz.ntmps10
    go_upto_region 1 with fail
    rw [← hW0]
    clear hW0
    have B0 : Below (w.heap.size + 2) W0 W0 := Below.refl _ _
    obtain ⟨y0, y1, y2, y3, y4, v0, v1, f0, f1, b0, z0⟩ := HS.out W0 B0
    go_wp2_with (first | (go_at_call 22; (with_reducible refine (R29Valid_any r f lo tm _ ps _ (HR.out _ b0).1).mono ?_); rintro e w1 ⟨rfl, c1⟩; rw [hs]; have B1 : Below (w.heap.size + 2) W0 w1 := B0.trans (c1.mono z0); clear y0 y1 y2 y3 y4 v0 v1 f0 f1 z0; obtain ⟨y0, y1, y2, y3, y4, v0, v1, f0, f1, b1, z0⟩ := HS.out w1 B1) | (go_at_call 23; (with_reducible refine (RPeriods_any r f lo tm _ _ pl _ (HR.out _ b1).2).mono ?_); rintro e w2 ⟨rfl, c2⟩; rw [hq]; have B2 : Below (w.heap.size + 2) W0 w2 := B1.trans (c2.mono z0); clear y0 y1 y2 y3 y4 v0 v1 f0 f1 z0; obtain ⟨y0, y1, y2, y3, y4, v0, v1, f0, f1, b2, z0⟩ := HS.out w2 B2))
    refine (HF.out _ (HR.out _ b2).1 (HR.out _ b2).2).mono ?_
    rintro e w3 ⟨uv, rfl, hrow, hown, c3⟩
    obtain ⟨ua, uc, huv, -⟩ := id hrow
    subst huv
    have B3 : Below (w.heap.size + 2) W0 w3 := B2.trans (c3.mono z0)
    have Hrow := hide hrow
    have Hown := hide (fun q hq => Nat.le_trans z0 (hown q hq))
    clear hrow hown
    clear y0 y1 y2 y3 y4 v0 v1 f0 f1 z0
    obtain ⟨y0, y1, y2, y3, y4, v0, v1, f0, f1, b3, z0⟩ := HS.out w3 B3
    have zb : w.heap.size + 1 < w3.heap.size := by omega
    go_wp2_with fail
    have Hn : ∀ q, (Value.slice ua (accO res).use.length uc).ownBlock = some q → q ≠ w.heap.size + 1 := fun q hq e => by have := Hown.out q hq; omega
    have dz : w.heap.size + 1 < ((w3.setCell ⟨w.heap.size + 1, 0, none⟩ (.slice ua (accO res).use.length uc)).setCell ⟨w.heap.size + 1, 1, none⟩ (.int .i64 (accO res).ev)).heap.size := by simpa [World.setCell] using zb
    have d0 : (((w3.setCell ⟨w.heap.size + 1, 0, none⟩ (.slice ua (accO res).use.length uc)).setCell ⟨w.heap.size + 1, 1, none⟩ (.int .i64 (accO res).ev)).alloc (.cells #[.slice ua (accO res).use.length uc, .int .i64 (accO res).ev] 27)).cell? ⟨w.heap.size + 1, 0, none⟩ = some (.slice ua (accO res).use.length uc) := (World.cell?_alloc_lt _ _ _ dz).trans (set_other _ (set_same _ v0) (by intro h; simp at h))
    have d1 : (((w3.setCell ⟨w.heap.size + 1, 0, none⟩ (.slice ua (accO res).use.length uc)).setCell ⟨w.heap.size + 1, 1, none⟩ (.int .i64 (accO res).ev)).alloc (.cells #[.slice ua (accO res).use.length uc, .int .i64 (accO res).ev] 27)).cell? ⟨w.heap.size + 1, 1, none⟩ = some (.int .i64 (accO res).ev) := (World.cell?_alloc_lt _ _ _ dz).trans (set_same _ (set_other _ v1 (by intro h; simp at h)))
    exact bodyPost_ret (v := .tuple #[.agg #[.slice ua (accO res).use.length uc, .int .i64 (accO res).ev], .bool res.isSome, .int .i64 0]) (by simp [results, Tryz.results10, go_sem, d0, d1]) rfl ⟨_, rfl, IsRow.below (w := (w3.setCell ⟨w.heap.size + 1, 0, none⟩ (.slice ua (accO res).use.length uc)).setCell ⟨w.heap.size + 1, 1, none⟩ (.int .i64 (accO res).ev)) (isrow_set (isrow_set Hrow.out _ _ fun _ => Hn) _ _ fun _ => Hn) (Nat.le_refl _) (by ((repeat' (first | with_reducible exact Below.refl _ _ | with_reducible refine Below.alloc ?_ ?_ _ | with_reducible refine Below.setCell ?_ ?_ _ | with_reducible refine Below.drew ?_ | with_reducible refine below_drewN ?_ _)) <;> (first | omega | (simp; done) | (simp; omega)))), fun q hq => by have := Hown.out q hq; omega, (by ((repeat' (first | with_reducible exact Below.refl _ _ | with_reducible exact b3 | with_reducible refine Below.alloc ?_ ?_ _ | with_reducible refine Below.setCell ?_ ?_ _ | with_reducible refine Below.drew ?_ | with_reducible refine below_drewN ?_ _ | with_reducible refine Below.trans ?_ (b3.mono ?_))) <;> (first | omega | (simp; done) | (simp; omega))))⟩
  · rw [hE] at hEe
    rw [hno _ hEe (by decide), hEe]
    simp only at hl hq
    have dl : decide ((10 : Int) < (ps.length : Int)) = true := decide_eq_true (by omega)
    clear hno hEe hE hl hx0 hx1
    go_enter Tryz.func10, Tryz.ntmps10
    go_upto_region 1 with fail
    rw [← hW0]
    clear hW0
    have B0 : Below (w.heap.size + 2) W0 W0 := Below.refl _ _
    obtain ⟨y0, y1, y2, y3, y4, v0, v1, f0, f1, b0, z0⟩ := HS.out W0 B0
    go_wp2_with (first | (go_at_call 22; (with_reducible refine (R29Valid_any r f lo tm _ ps _ (HR.out _ b0).1).mono ?_); rintro e w1 ⟨rfl, c1⟩; rw [hs]; have B1 : Below (w.heap.size + 2) W0 w1 := B0.trans (c1.mono z0); clear y0 y1 y2 y3 y4 v0 v1 f0 f1 z0; obtain ⟨y0, y1, y2, y3, y4, v0, v1, f0, f1, b1, z0⟩ := HS.out w1 B1) | (go_at_call 23; (with_reducible refine (RPeriods_any r f lo tm _ _ pl _ (HR.out _ b1).2).mono ?_); rintro e w2 ⟨rfl, c2⟩; rw [hq]; have B2 : Below (w.heap.size + 2) W0 w2 := B1.trans (c2.mono z0); clear y0 y1 y2 y3 y4 v0 v1 f0 f1 z0; obtain ⟨y0, y1, y2, y3, y4, v0, v1, f0, f1, b2, z0⟩ := HS.out w2 B2))
    have d0 : ((w2.setCell ⟨w.heap.size + 1, 0, none⟩ (.slice none 0 0)).setCell ⟨w.heap.size + 1, 1, none⟩ (.int .i64 0)).cell? ⟨w.heap.size + 1, 0, none⟩ = some (.slice none 0 0) := set_other _ (set_same _ v0) (by intro h; simp at h)
    have d1 : ((w2.setCell ⟨w.heap.size + 1, 0, none⟩ (.slice none 0 0)).setCell ⟨w.heap.size + 1, 1, none⟩ (.int .i64 0)).cell? ⟨w.heap.size + 1, 1, none⟩ = some (.int .i64 0) := set_same _ (set_other _ v1 (by intro h; simp at h))
    exact bodyPost_ret (v := .tuple #[.agg #[.slice none 0 0, .int .i64 0], .bool false, .int .i64 2]) (by simp [results, Tryz.results10, go_sem, d0, d1]) rfl ⟨_, rfl, IsRow.nil _, fun q hq => by simp [Value.ownBlock] at hq, (by ((repeat' (first | with_reducible exact Below.refl _ _ | with_reducible exact b2 | with_reducible refine Below.alloc ?_ ?_ _ | with_reducible refine Below.setCell ?_ ?_ _ | with_reducible refine Below.drew ?_ | with_reducible refine below_drewN ?_ _ | with_reducible refine Below.trans ?_ (b2.mono ?_))) <;> (first | omega | (simp; done) | (simp; omega))))⟩
  · rw [hE] at hEe
    rw [hno _ hEe (by decide), hEe]
    simp only at hq
    clear hno hEe hE hx0 hx1
    go_enter Tryz.func10, Tryz.ntmps10
    go_upto_region 1 with fail
    rw [← hW0]
    clear hW0
    have B0 : Below (w.heap.size + 2) W0 W0 := Below.refl _ _
    obtain ⟨y0, y1, y2, y3, y4, v0, v1, f0, f1, b0, z0⟩ := HS.out W0 B0
    go_wp2_with (first | (go_at_call 22; (with_reducible refine (R29Valid_any r f lo tm _ ps _ (HR.out _ b0).1).mono ?_); rintro e w1 ⟨rfl, c1⟩; rw [hs]; have B1 : Below (w.heap.size + 2) W0 w1 := B0.trans (c1.mono z0); clear y0 y1 y2 y3 y4 v0 v1 f0 f1 z0; obtain ⟨y0, y1, y2, y3, y4, v0, v1, f0, f1, b1, z0⟩ := HS.out w1 B1) | (go_at_call 23; (with_reducible refine (RPeriods_any r f lo tm _ _ pl _ (HR.out _ b1).2).mono ?_); rintro e w2 ⟨rfl, c2⟩; rw [hq]; have B2 : Below (w.heap.size + 2) W0 w2 := B1.trans (c2.mono z0); clear y0 y1 y2 y3 y4 v0 v1 f0 f1 z0; obtain ⟨y0, y1, y2, y3, y4, v0, v1, f0, f1, b2, z0⟩ := HS.out w2 B2))
    have d0 : ((w2.setCell ⟨w.heap.size + 1, 0, none⟩ (.slice none 0 0)).setCell ⟨w.heap.size + 1, 1, none⟩ (.int .i64 0)).cell? ⟨w.heap.size + 1, 0, none⟩ = some (.slice none 0 0) := set_other _ (set_same _ v0) (by intro h; simp at h)
    have d1 : ((w2.setCell ⟨w.heap.size + 1, 0, none⟩ (.slice none 0 0)).setCell ⟨w.heap.size + 1, 1, none⟩ (.int .i64 0)).cell? ⟨w.heap.size + 1, 1, none⟩ = some (.int .i64 0) := set_same _ (set_other _ v1 (by intro h; simp at h))
    exact bodyPost_ret (v := .tuple #[.agg #[.slice none 0 0, .int .i64 0], .bool false, .int .i64 1]) (by simp [results, Tryz.results10, go_sem, d0, d1]) rfl ⟨_, rfl, IsRow.nil _, fun q hq => by simp [Value.ownBlock] at hq, (by ((repeat' (first | with_reducible exact Below.refl _ _ | with_reducible exact b2 | with_reducible refine Below.alloc ?_ ?_ _ | with_reducible refine Below.setCell ?_ ?_ _ | with_reducible refine Below.drew ?_ | with_reducible refine below_drewN ?_ _ | with_reducible refine Below.trans ?_ (b2.mono ?_))) <;> (first | omega | (simp; done) | (simp; omega))))⟩
  · rw [hE] at hEe
    rw [hno _ hEe (by decide), hEe]
    clear hno hEe hE hx0 hx1
    go_enter Tryz.func10, Tryz.ntmps10
    go_upto_region 1 with fail
    rw [← hW0]
    clear hW0
    have B0 : Below (w.heap.size + 2) W0 W0 := Below.refl _ _
    obtain ⟨y0, y1, y2, y3, y4, v0, v1, f0, f1, b0, z0⟩ := HS.out W0 B0
    go_wp2_with (first | (go_at_call 22; (with_reducible refine (R29Valid_any r f lo tm _ ps _ (HR.out _ b0).1).mono ?_); rintro e w1 ⟨rfl, c1⟩; rw [hs]; have B1 : Below (w.heap.size + 2) W0 w1 := B0.trans (c1.mono z0); clear y0 y1 y2 y3 y4 v0 v1 f0 f1 z0; obtain ⟨y0, y1, y2, y3, y4, v0, v1, f0, f1, b1, z0⟩ := HS.out w1 B1))
    have d0 : ((w1.setCell ⟨w.heap.size + 1, 0, none⟩ (.slice none 0 0)).setCell ⟨w.heap.size + 1, 1, none⟩ (.int .i64 0)).cell? ⟨w.heap.size + 1, 0, none⟩ = some (.slice none 0 0) := set_other _ (set_same _ v0) (by intro h; simp at h)
    have d1 : ((w1.setCell ⟨w.heap.size + 1, 0, none⟩ (.slice none 0 0)).setCell ⟨w.heap.size + 1, 1, none⟩ (.int .i64 0)).cell? ⟨w.heap.size + 1, 1, none⟩ = some (.int .i64 0) := set_same _ (set_other _ v1 (by intro h; simp at h))
    exact bodyPost_ret (v := .tuple #[.agg #[.slice none 0 0, .int .i64 0], .bool false, .int .i64 1]) (by simp [results, Tryz.results10, go_sem, d0, d1]) rfl ⟨_, rfl, IsRow.nil _, fun q hq => by simp [Value.ownBlock] at hq, (by ((repeat' (first | with_reducible exact Below.refl _ _ | with_reducible exact b1 | with_reducible refine Below.alloc ?_ ?_ _ | with_reducible refine Below.setCell ?_ ?_ _ | with_reducible refine Below.drew ?_ | with_reducible refine below_drewN ?_ _ | with_reducible refine Below.trans ?_ (b1.mono ?_))) <;> (first | omega | (simp; done) | (simp; omega))))⟩
set_option maxRecDepth 100000 in
set_option maxHeartbeats 2000000 in
theorem RN_any (r f lo tm : Int) (pv : Value) (ps : List Pr) (v : Value) (pl : List Int) (w : World) (hp : PrRow w pv ps) (hv : IsRow w v pl) :
    Calls Tryz.prog 13 #[.agg #[.int .i64 r, .int .i64 f, .int .i64 lo, .int .i64 tm, pv], v] w fun e w' => ∃ uv, e = .returned (.tuple #[.agg #[uv, .int .i64 (accO (nwO ⟨r, f, lo, tm, ps⟩ pl)).ev], .int .i64 (accO (nwO ⟨r, f, lo, tm, ps⟩ pl)).wd, .int .i64 (nwE ⟨r, f, lo, tm, ps⟩ pl)]) ∧
      IsRow w' uv (accO (nwO ⟨r, f, lo, tm, ps⟩ pl)).use ∧ (∀ q, uv.ownBlock = some q → w.heap.size ≤ q) ∧ Below w.heap.size w w' := by
  have hR : ∀ W : World, Below w.heap.size w W → PrRow W pv ps ∧ IsRow W v pl := fun W hW => ⟨hp.below (Nat.le_refl _) hW, hv.below (Nat.le_refl _) hW⟩
  have HR := hide hR
  obtain ⟨pa, pc, rfl, pq1, pq2⟩ := hp.len
  obtain ⟨va, vc, rfl, vq1, vq2, -⟩ := id hv
  obtain ⟨W0, hW0⟩ : ∃ W : World, W = (w.alloc (.cells #[.int .i64 r, .int .i64 f, .int .i64 lo, .int .i64 tm, .slice pa ps.length pc] 24)).alloc (.cells #[.slice none 0 0, .int .i64 0] 27) := ⟨_, rfl⟩
  have zW : W0.heap.size = w.heap.size + 2 := by rw [hW0]; simp
  have bW : Below w.heap.size w W0 := by rw [hW0]; ((repeat' (first | with_reducible exact Below.refl _ _ | with_reducible refine Below.alloc ?_ ?_ _ | with_reducible refine Below.setCell ?_ ?_ _ | with_reducible refine Below.drew ?_ | with_reducible refine below_drewN ?_ _)) <;> (first | omega | (simp; done) | (simp; omega)))
  have hS : ∀ W : World, Below (w.heap.size + 2) W0 W → W.cell? ⟨w.heap.size, 0, none⟩ = some (.int .i64 r) ∧ W.cell? ⟨w.heap.size, 1, none⟩ = some (.int .i64 f) ∧ W.cell? ⟨w.heap.size, 2, none⟩ = some (.int .i64 lo) ∧ W.cell? ⟨w.heap.size, 3, none⟩ = some (.int .i64 tm) ∧ W.cell? ⟨w.heap.size, 4, none⟩ = some (.slice pa ps.length pc) ∧
      W.cell? ⟨w.heap.size + 1, 0, none⟩ = some (.slice none 0 0) ∧ W.cell? ⟨w.heap.size + 1, 1, none⟩ = some (.int .i64 0) ∧ W.frozen? ⟨w.heap.size + 1, 0, none⟩ = false ∧ W.frozen? ⟨w.heap.size + 1, 1, none⟩ = false ∧ Below w.heap.size w W ∧ w.heap.size + 2 ≤ W.heap.size := by
    intro W hW
    obtain ⟨y0, y1, y2, y3, y4, v0, v1, f0, f1⟩ : W0.cell? ⟨w.heap.size, 0, none⟩ = some (.int .i64 r) ∧ W0.cell? ⟨w.heap.size, 1, none⟩ = some (.int .i64 f) ∧ W0.cell? ⟨w.heap.size, 2, none⟩ = some (.int .i64 lo) ∧ W0.cell? ⟨w.heap.size, 3, none⟩ = some (.int .i64 tm) ∧ W0.cell? ⟨w.heap.size, 4, none⟩ = some (.slice pa ps.length pc) ∧ W0.cell? ⟨w.heap.size + 1, 0, none⟩ = some (.slice none 0 0) ∧ W0.cell? ⟨w.heap.size + 1, 1, none⟩ = some (.int .i64 0) ∧ W0.frozen? ⟨w.heap.size + 1, 0, none⟩ = false ∧ W0.frozen? ⟨w.heap.size + 1, 1, none⟩ = false := by
      rw [hW0]; refine ⟨?_, ?_, ?_, ?_, ?_, ?_, ?_, ?_, ?_⟩ <;> simp [go_sem]
    have h0 := (bk hW w.heap.size (by omega)).1
    have h1 := (bk hW (w.heap.size + 1) (by omega)).1
    have h2 := (bk hW (w.heap.size + 1) (by omega)).2
    exact ⟨(h0 _).trans y0, (h0 _).trans y1, (h0 _).trans y2, (h0 _).trans y3, (h0 _).trans y4, (h1 _).trans v0, (h1 _).trans v1, (h2 _).trans f0, (h2 _).trans f1, bW.trans (hW.mono (by omega)), by have := hW.size; omega⟩
  have HS := hide hS
  clear hR hS hp hv
  have hno : ∀ E, ckE ⟨r, f, lo, tm, ps⟩ pl = E → E ≠ 0 → nwO ⟨r, f, lo, tm, ps⟩ pl = none ∧ nwE ⟨r, f, lo, tm, ps⟩ pl = E := fun E h1 h2 => ⟨by unfold nwO; rw [h1, if_neg h2], by unfold nwE; rw [h1, if_neg h2]⟩
  rcases ckE_cases ⟨r, f, lo, tm, ps⟩ pl with ⟨hs, hq, hl, hE⟩ | ⟨hs, hq, hl, hE⟩ | ⟨hs, hq, hE⟩ | ⟨hs, hE⟩
  · obtain ⟨-, -, -, -, hpl⟩ := ckE_zero hE
    have hfew := nw_few hE (x := 9223372036854775807) (by omega)
    have hm : bstO true ⟨r, f, lo, tm, ps⟩ pl 9223372036854775807 = bstO true ⟨r, f, lo, tm, ps⟩ pl 4611686018427387904 := bstO_most _ _ _ (by omega) (by omega)
    have hO : nwO ⟨r, f, lo, tm, ps⟩ pl = bstO true ⟨r, f, lo, tm, ps⟩ pl 4611686018427387904 := by unfold nwO; rw [hE, if_pos rfl, hm]
    rw [hm] at hfew
    have hEE : nwE ⟨r, f, lo, tm, ps⟩ pl = if (bstO true ⟨r, f, lo, tm, ps⟩ pl 4611686018427387904).isSome = true then 0 else 20 := by unfold nwE; rw [hE, if_pos rfl, hO]
    rw [hO, hEE]
    have hsi := (siN_iff _).1 ((siB_iff _).1 hs).1
    simp only at hl hq hfew hsi
    have dl : decide ((10 : Int) < (ps.length : Int)) = false := decide_eq_false (by omega)
    have w1' : IntKind.i64.wrap (2 * f) = 2 * f := IntWalk.i64_in _ (by omega)
    have w2' : IntKind.i64.wrap (2 * f + lo) = 2 * f + lo := IntWalk.i64_in _ (by omega)
    have hF := fun W h1 h2 => Rfind_any true r f lo tm (.slice pa ps.length pc) ps (.slice va pl.length vc) pl 4611686018427387904 W h1 h2 hl hpl
    generalize bstO true ⟨r, f, lo, tm, ps⟩ pl 4611686018427387904 = res at *
    have HF := hide hF
    by_cases hf : 2 * f + lo < ps.length
    · have dm : decide ((ps.length : Int) ≤ 2 * f + lo) = false := decide_eq_false (by omega)
      rw [decide_eq_true hf] at hfew
      rw [if_pos hfew]
      clear hno hE hF hl hpl hm hO hEE hsi hf hfew
      go_enter Tryz.func13, Tryz.ntmps13
      go_upto_region 1 with fail
      rw [← hW0]
      clear hW0
      have B0 : Below (w.heap.size + 2) W0 W0 := Below.refl _ _
      obtain ⟨y0, y1, y2, y3, y4, v0, v1, f0, f1, b0, z0⟩ := HS.out W0 B0
      go_wp2_with (first | (go_at_call 22; (with_reducible refine (R29Valid_any r f lo tm _ ps _ (HR.out _ b0).1).mono ?_); rintro e w1 ⟨rfl, c1⟩; rw [hs]; have B1 : Below (w.heap.size + 2) W0 w1 := B0.trans (c1.mono z0); clear y0 y1 y2 y3 y4 v0 v1 f0 f1 z0; obtain ⟨y0, y1, y2, y3, y4, v0, v1, f0, f1, b1, z0⟩ := HS.out w1 B1) | (go_at_call 23; (with_reducible refine (RPeriods_any r f lo tm _ _ pl _ (HR.out _ b1).2).mono ?_); rintro e w2 ⟨rfl, c2⟩; rw [hq]; have B2 : Below (w.heap.size + 2) W0 w2 := B1.trans (c2.mono z0); clear y0 y1 y2 y3 y4 v0 v1 f0 f1 z0; obtain ⟨y0, y1, y2, y3, y4, v0, v1, f0, f1, b2, z0⟩ := HS.out w2 B2))
      refine (HF.out _ (HR.out _ b2).1 (HR.out _ b2).2).mono ?_
      rintro e w3 ⟨uv, rfl, hrow, hown, c3⟩
      obtain ⟨ua, uc, huv, -⟩ := id hrow
      subst huv
      have B3 : Below (w.heap.size + 2) W0 w3 := B2.trans (c3.mono z0)
      have Hrow := hide hrow
      have Hown := hide (fun q hq => Nat.le_trans z0 (hown q hq))
      clear hrow hown
      clear y0 y1 y2 y3 y4 v0 v1 f0 f1 z0
      obtain ⟨y0, y1, y2, y3, y4, v0, v1, f0, f1, b3, z0⟩ := HS.out w3 B3
      have zb : w.heap.size + 1 < w3.heap.size := by omega
      go_wp2_with fail
      have Hn : ∀ q, (Value.slice ua (accO res).use.length uc).ownBlock = some q → q ≠ w.heap.size + 1 := fun q hq e => by have := Hown.out q hq; omega
      have dz : w.heap.size + 1 < ((w3.setCell ⟨w.heap.size + 1, 0, none⟩ (.slice ua (accO res).use.length uc)).setCell ⟨w.heap.size + 1, 1, none⟩ (.int .i64 (accO res).ev)).heap.size := by simpa [World.setCell] using zb
      have d0 : (((w3.setCell ⟨w.heap.size + 1, 0, none⟩ (.slice ua (accO res).use.length uc)).setCell ⟨w.heap.size + 1, 1, none⟩ (.int .i64 (accO res).ev)).alloc (.cells #[.slice ua (accO res).use.length uc, .int .i64 (accO res).ev] 27)).cell? ⟨w.heap.size + 1, 0, none⟩ = some (.slice ua (accO res).use.length uc) := (World.cell?_alloc_lt _ _ _ dz).trans (set_other _ (set_same _ v0) (by intro h; simp at h))
      have d1 : (((w3.setCell ⟨w.heap.size + 1, 0, none⟩ (.slice ua (accO res).use.length uc)).setCell ⟨w.heap.size + 1, 1, none⟩ (.int .i64 (accO res).ev)).alloc (.cells #[.slice ua (accO res).use.length uc, .int .i64 (accO res).ev] 27)).cell? ⟨w.heap.size + 1, 1, none⟩ = some (.int .i64 (accO res).ev) := (World.cell?_alloc_lt _ _ _ dz).trans (set_same _ (set_other _ v1 (by intro h; simp at h)))
      exact bodyPost_ret (v := .tuple #[.agg #[.slice ua (accO res).use.length uc, .int .i64 (accO res).ev], .int .i64 (accO res).wd, .int .i64 0]) (by simp [results, Tryz.results13, go_sem, d0, d1]) rfl ⟨_, rfl, IsRow.below (w := (w3.setCell ⟨w.heap.size + 1, 0, none⟩ (.slice ua (accO res).use.length uc)).setCell ⟨w.heap.size + 1, 1, none⟩ (.int .i64 (accO res).ev)) (isrow_set (isrow_set Hrow.out _ _ fun _ => Hn) _ _ fun _ => Hn) (Nat.le_refl _) (by ((repeat' (first | with_reducible exact Below.refl _ _ | with_reducible refine Below.alloc ?_ ?_ _ | with_reducible refine Below.setCell ?_ ?_ _ | with_reducible refine Below.drew ?_ | with_reducible refine below_drewN ?_ _)) <;> (first | omega | (simp; done) | (simp; omega)))), fun q hq => by have := Hown.out q hq; omega, (by ((repeat' (first | with_reducible exact Below.refl _ _ | with_reducible exact b3 | with_reducible refine Below.alloc ?_ ?_ _ | with_reducible refine Below.setCell ?_ ?_ _ | with_reducible refine Below.drew ?_ | with_reducible refine below_drewN ?_ _ | with_reducible refine Below.trans ?_ (b3.mono ?_))) <;> (first | omega | (simp; done) | (simp; omega))))⟩
    · have dm : decide ((ps.length : Int) ≤ 2 * f + lo) = true := decide_eq_true (by omega)
      rw [decide_eq_false hf] at hfew
      rw [if_neg (by rw [hfew]; simp)]
      have hacc : accO res = of0 := by cases res with | none => rfl | some x => simp at hfew
      rw [hacc]
      clear hno hE hF hl hpl hm hO hEE hsi hf hfew HF hacc
      go_enter Tryz.func13, Tryz.ntmps13
      go_upto_region 1 with fail
      rw [← hW0]
      clear hW0
      have B0 : Below (w.heap.size + 2) W0 W0 := Below.refl _ _
      obtain ⟨y0, y1, y2, y3, y4, v0, v1, f0, f1, b0, z0⟩ := HS.out W0 B0
      go_wp2_with (first | (go_at_call 22; (with_reducible refine (R29Valid_any r f lo tm _ ps _ (HR.out _ b0).1).mono ?_); rintro e w1 ⟨rfl, c1⟩; rw [hs]; have B1 : Below (w.heap.size + 2) W0 w1 := B0.trans (c1.mono z0); clear y0 y1 y2 y3 y4 v0 v1 f0 f1 z0; obtain ⟨y0, y1, y2, y3, y4, v0, v1, f0, f1, b1, z0⟩ := HS.out w1 B1) | (go_at_call 23; (with_reducible refine (RPeriods_any r f lo tm _ _ pl _ (HR.out _ b1).2).mono ?_); rintro e w2 ⟨rfl, c2⟩; rw [hq]; have B2 : Below (w.heap.size + 2) W0 w2 := B1.trans (c2.mono z0); clear y0 y1 y2 y3 y4 v0 v1 f0 f1 z0; obtain ⟨y0, y1, y2, y3, y4, v0, v1, f0, f1, b2, z0⟩ := HS.out w2 B2))
      have d0 : ((w2.setCell ⟨w.heap.size + 1, 0, none⟩ (.slice none 0 0)).setCell ⟨w.heap.size + 1, 1, none⟩ (.int .i64 0)).cell? ⟨w.heap.size + 1, 0, none⟩ = some (.slice none 0 0) := set_other _ (set_same _ v0) (by intro h; simp at h)
      have d1 : ((w2.setCell ⟨w.heap.size + 1, 0, none⟩ (.slice none 0 0)).setCell ⟨w.heap.size + 1, 1, none⟩ (.int .i64 0)).cell? ⟨w.heap.size + 1, 1, none⟩ = some (.int .i64 0) := set_same _ (set_other _ v1 (by intro h; simp at h))
      exact bodyPost_ret (v := .tuple #[.agg #[.slice none 0 0, .int .i64 0], .int .i64 0, .int .i64 20]) (by simp [results, Tryz.results13, go_sem, d0, d1]) rfl ⟨_, rfl, IsRow.nil _, fun q hq => by simp [Value.ownBlock] at hq, (by ((repeat' (first | with_reducible exact Below.refl _ _ | with_reducible exact b2 | with_reducible refine Below.alloc ?_ ?_ _ | with_reducible refine Below.setCell ?_ ?_ _ | with_reducible refine Below.drew ?_ | with_reducible refine below_drewN ?_ _ | with_reducible refine Below.trans ?_ (b2.mono ?_))) <;> (first | omega | (simp; done) | (simp; omega))))⟩
  · obtain ⟨hO, hEE⟩ := hno _ hE (by decide)
    rw [hO, hEE]
    simp only at hl hq
    have dl : decide ((10 : Int) < (ps.length : Int)) = true := decide_eq_true (by omega)
    clear hno hE hl hO hEE
    go_enter Tryz.func13, Tryz.ntmps13
    go_upto_region 1 with fail
    rw [← hW0]
    clear hW0
    have B0 : Below (w.heap.size + 2) W0 W0 := Below.refl _ _
    obtain ⟨y0, y1, y2, y3, y4, v0, v1, f0, f1, b0, z0⟩ := HS.out W0 B0
    go_wp2_with (first | (go_at_call 22; (with_reducible refine (R29Valid_any r f lo tm _ ps _ (HR.out _ b0).1).mono ?_); rintro e w1 ⟨rfl, c1⟩; rw [hs]; have B1 : Below (w.heap.size + 2) W0 w1 := B0.trans (c1.mono z0); clear y0 y1 y2 y3 y4 v0 v1 f0 f1 z0; obtain ⟨y0, y1, y2, y3, y4, v0, v1, f0, f1, b1, z0⟩ := HS.out w1 B1) | (go_at_call 23; (with_reducible refine (RPeriods_any r f lo tm _ _ pl _ (HR.out _ b1).2).mono ?_); rintro e w2 ⟨rfl, c2⟩; rw [hq]; have B2 : Below (w.heap.size + 2) W0 w2 := B1.trans (c2.mono z0); clear y0 y1 y2 y3 y4 v0 v1 f0 f1 z0; obtain ⟨y0, y1, y2, y3, y4, v0, v1, f0, f1, b2, z0⟩ := HS.out w2 B2))
    have d0 : ((w2.setCell ⟨w.heap.size + 1, 0, none⟩ (.slice none 0 0)).setCell ⟨w.heap.size + 1, 1, none⟩ (.int .i64 0)).cell? ⟨w.heap.size + 1, 0, none⟩ = some (.slice none 0 0) := set_other _ (set_same _ v0) (by intro h; simp at h)
    have d1 : ((w2.setCell ⟨w.heap.size + 1, 0, none⟩ (.slice none 0 0)).setCell ⟨w.heap.size + 1, 1, none⟩ (.int .i64 0)).cell? ⟨w.heap.size + 1, 1, none⟩ = some (.int .i64 0) := set_same _ (set_other _ v1 (by intro h; simp at h))
    exact bodyPost_ret (v := .tuple #[.agg #[.slice none 0 0, .int .i64 0], .int .i64 0, .int .i64 2]) (by simp [results, Tryz.results13, go_sem, d0, d1]) rfl ⟨_, rfl, IsRow.nil _, fun q hq => by simp [Value.ownBlock] at hq, (by ((repeat' (first | with_reducible exact Below.refl _ _ | with_reducible exact b2 | with_reducible refine Below.alloc ?_ ?_ _ | with_reducible refine Below.setCell ?_ ?_ _ | with_reducible refine Below.drew ?_ | with_reducible refine below_drewN ?_ _ | with_reducible refine Below.trans ?_ (b2.mono ?_))) <;> (first | omega | (simp; done) | (simp; omega))))⟩
  · obtain ⟨hO, hEE⟩ := hno _ hE (by decide)
    rw [hO, hEE]
    simp only at hq
    clear hno hE hO hEE
    go_enter Tryz.func13, Tryz.ntmps13
    go_upto_region 1 with fail
    rw [← hW0]
    clear hW0
    have B0 : Below (w.heap.size + 2) W0 W0 := Below.refl _ _
    obtain ⟨y0, y1, y2, y3, y4, v0, v1, f0, f1, b0, z0⟩ := HS.out W0 B0
    go_wp2_with (first | (go_at_call 22; (with_reducible refine (R29Valid_any r f lo tm _ ps _ (HR.out _ b0).1).mono ?_); rintro e w1 ⟨rfl, c1⟩; rw [hs]; have B1 : Below (w.heap.size + 2) W0 w1 := B0.trans (c1.mono z0); clear y0 y1 y2 y3 y4 v0 v1 f0 f1 z0; obtain ⟨y0, y1, y2, y3, y4, v0, v1, f0, f1, b1, z0⟩ := HS.out w1 B1) | (go_at_call 23; (with_reducible refine (RPeriods_any r f lo tm _ _ pl _ (HR.out _ b1).2).mono ?_); rintro e w2 ⟨rfl, c2⟩; rw [hq]; have B2 : Below (w.heap.size + 2) W0 w2 := B1.trans (c2.mono z0); clear y0 y1 y2 y3 y4 v0 v1 f0 f1 z0; obtain ⟨y0, y1, y2, y3, y4, v0, v1, f0, f1, b2, z0⟩ := HS.out w2 B2))
    have d0 : ((w2.setCell ⟨w.heap.size + 1, 0, none⟩ (.slice none 0 0)).setCell ⟨w.heap.size + 1, 1, none⟩ (.int .i64 0)).cell? ⟨w.heap.size + 1, 0, none⟩ = some (.slice none 0 0) := set_other _ (set_same _ v0) (by intro h; simp at h)
    have d1 : ((w2.setCell ⟨w.heap.size + 1, 0, none⟩ (.slice none 0 0)).setCell ⟨w.heap.size + 1, 1, none⟩ (.int .i64 0)).cell? ⟨w.heap.size + 1, 1, none⟩ = some (.int .i64 0) := set_same _ (set_other _ v1 (by intro h; simp at h))
    exact bodyPost_ret (v := .tuple #[.agg #[.slice none 0 0, .int .i64 0], .int .i64 0, .int .i64 1]) (by simp [results, Tryz.results13, go_sem, d0, d1]) rfl ⟨_, rfl, IsRow.nil _, fun q hq => by simp [Value.ownBlock] at hq, (by ((repeat' (first | with_reducible exact Below.refl _ _ | with_reducible exact b2 | with_reducible refine Below.alloc ?_ ?_ _ | with_reducible refine Below.setCell ?_ ?_ _ | with_reducible refine Below.drew ?_ | with_reducible refine below_drewN ?_ _ | with_reducible refine Below.trans ?_ (b2.mono ?_))) <;> (first | omega | (simp; done) | (simp; omega))))⟩
  · obtain ⟨hO, hEE⟩ := hno _ hE (by decide)
    rw [hO, hEE]
    clear hno hE hO hEE
    go_enter Tryz.func13, Tryz.ntmps13
    go_upto_region 1 with fail
    rw [← hW0]
    clear hW0
    have B0 : Below (w.heap.size + 2) W0 W0 := Below.refl _ _
    obtain ⟨y0, y1, y2, y3, y4, v0, v1, f0, f1, b0, z0⟩ := HS.out W0 B0
    go_wp2_with (first | (go_at_call 22; (with_reducible refine (R29Valid_any r f lo tm _ ps _ (HR.out _ b0).1).mono ?_); rintro e w1 ⟨rfl, c1⟩; rw [hs]; have B1 : Below (w.heap.size + 2) W0 w1 := B0.trans (c1.mono z0); clear y0 y1 y2 y3 y4 v0 v1 f0 f1 z0; obtain ⟨y0, y1, y2, y3, y4, v0, v1, f0, f1, b1, z0⟩ := HS.out w1 B1))
    have d0 : ((w1.setCell ⟨w.heap.size + 1, 0, none⟩ (.slice none 0 0)).setCell ⟨w.heap.size + 1, 1, none⟩ (.int .i64 0)).cell? ⟨w.heap.size + 1, 0, none⟩ = some (.slice none 0 0) := set_other _ (set_same _ v0) (by intro h; simp at h)
    have d1 : ((w1.setCell ⟨w.heap.size + 1, 0, none⟩ (.slice none 0 0)).setCell ⟨w.heap.size + 1, 1, none⟩ (.int .i64 0)).cell? ⟨w.heap.size + 1, 1, none⟩ = some (.int .i64 0) := set_same _ (set_other _ v1 (by intro h; simp at h))
    exact bodyPost_ret (v := .tuple #[.agg #[.slice none 0 0, .int .i64 0], .int .i64 0, .int .i64 1]) (by simp [results, Tryz.results13, go_sem, d0, d1]) rfl ⟨_, rfl, IsRow.nil _, fun q hq => by simp [Value.ownBlock] at hq, (by ((repeat' (first | with_reducible exact Below.refl _ _ | with_reducible exact b1 | with_reducible refine Below.alloc ?_ ?_ _ | with_reducible refine Below.setCell ?_ ?_ _ | with_reducible refine Below.drew ?_ | with_reducible refine below_drewN ?_ _ | with_reducible refine Below.trans ?_ (b1.mono ?_))) <;> (first | omega | (simp; done) | (simp; omega))))⟩
def fewB30 (n k : Nat) : Bool := decide (k ≤ 12 ∧ (n ≤ 7 ∧ k ≤ 4 ∨ 10 < n ∧ n ≤ 20 ∨ n ≤ 4))
set_option maxRecDepth 100000 in
set_option maxHeartbeats 1000000 in
theorem R30Few_any (r f lo tm : Int) (pv : Value) (ps : List Pr) (v : Value) (pl : List Int) (w : World) (hp : PrRow w pv ps) (hv : IsRow w v pl) :
    Calls Tryz.prog 5 #[.agg #[.int .i64 r, .int .i64 f, .int .i64 lo, .int .i64 tm, pv], v] w fun e w' => e = .returned (.bool (fewB30 ps.length pl.length)) ∧ Below w.heap.size w w' := by
  obtain ⟨pa, pc, rfl, q1, q2⟩ := hp.len
  obtain ⟨va, vc, rfl, u1, u2, u3⟩ := hv
  clear u3
  obtain ⟨R, hR⟩ : ∃ R, R = fewB30 ps.length pl.length := ⟨_, rfl⟩
  rw [← hR]
  have hT : (pl.length ≤ 12 ∧ (ps.length ≤ 7 ∧ pl.length ≤ 4 ∨ 10 < ps.length ∧ ps.length ≤ 20 ∨ ps.length ≤ 4)) → R = true := fun h => hR.trans (decide_eq_true h)
  have hF : ¬ (pl.length ≤ 12 ∧ (ps.length ≤ 7 ∧ pl.length ≤ 4 ∨ 10 < ps.length ∧ ps.length ≤ 20 ∨ ps.length ≤ 4)) → R = false := fun h => hR.trans (decide_eq_false h)
  by_cases g0 : (pl.length : Int) ≤ 12
  · have d0 : decide ((pl.length : Int) ≤ 12) = true := decide_eq_true g0
    by_cases g1 : (ps.length : Int) ≤ 7
    · have d1 : decide ((ps.length : Int) ≤ 7) = true := decide_eq_true g1
      by_cases g2 : (pl.length : Int) ≤ 4
      · have d2 : decide ((pl.length : Int) ≤ 4) = true := decide_eq_true g2
        have d3 : decide ((10 : Int) < (ps.length : Int)) = false := decide_eq_false (by omega)
        have d4 : decide ((ps.length : Int) ≤ 20) = true := decide_eq_true (by omega)
        by_cases g5 : (ps.length : Int) ≤ 4
        · have d5 : decide ((ps.length : Int) ≤ 4) = true := decide_eq_true g5
          have hv : R = true := hT (by omega)
          rw [hv]
          clear hT hF hR hv g0 g1 g2 g5
          go_enter Tryz.func5, Tryz.ntmps5
          go_wp2_with fail
          go_ret
          exact ⟨rfl, (by ((repeat' (first | with_reducible exact Below.refl _ _ | with_reducible refine Below.alloc ?_ ?_ _ | with_reducible refine Below.setCell ?_ ?_ _ | with_reducible refine Below.drew ?_ | with_reducible refine below_drewN ?_ _)) <;> (first | omega | (simp; done) | (simp; omega))))⟩
        · have d5 : decide ((ps.length : Int) ≤ 4) = false := decide_eq_false g5
          have hv : R = true := hT (by omega)
          rw [hv]
          clear hT hF hR hv g0 g1 g2 g5
          go_enter Tryz.func5, Tryz.ntmps5
          go_wp2_with fail
          go_ret
          exact ⟨rfl, (by ((repeat' (first | with_reducible exact Below.refl _ _ | with_reducible refine Below.alloc ?_ ?_ _ | with_reducible refine Below.setCell ?_ ?_ _ | with_reducible refine Below.drew ?_ | with_reducible refine below_drewN ?_ _)) <;> (first | omega | (simp; done) | (simp; omega))))⟩
      · have d2 : decide ((pl.length : Int) ≤ 4) = false := decide_eq_false g2
        have d3 : decide ((10 : Int) < (ps.length : Int)) = false := decide_eq_false (by omega)
        have d4 : decide ((ps.length : Int) ≤ 20) = true := decide_eq_true (by omega)
        by_cases g5 : (ps.length : Int) ≤ 4
        · have d5 : decide ((ps.length : Int) ≤ 4) = true := decide_eq_true g5
          have hv : R = true := hT (by omega)
          rw [hv]
          clear hT hF hR hv g0 g1 g2 g5
          go_enter Tryz.func5, Tryz.ntmps5
          go_wp2_with fail
          go_ret
          exact ⟨rfl, (by ((repeat' (first | with_reducible exact Below.refl _ _ | with_reducible refine Below.alloc ?_ ?_ _ | with_reducible refine Below.setCell ?_ ?_ _ | with_reducible refine Below.drew ?_ | with_reducible refine below_drewN ?_ _)) <;> (first | omega | (simp; done) | (simp; omega))))⟩
        · have d5 : decide ((ps.length : Int) ≤ 4) = false := decide_eq_false g5
          have hv : R = false := hF (by omega)
          rw [hv]
          clear hT hF hR hv g0 g1 g2 g5
          go_enter Tryz.func5, Tryz.ntmps5
          go_wp2_with fail
          go_ret
          exact ⟨rfl, (by ((repeat' (first | with_reducible exact Below.refl _ _ | with_reducible refine Below.alloc ?_ ?_ _ | with_reducible refine Below.setCell ?_ ?_ _ | with_reducible refine Below.drew ?_ | with_reducible refine below_drewN ?_ _)) <;> (first | omega | (simp; done) | (simp; omega))))⟩
    · have d1 : decide ((ps.length : Int) ≤ 7) = false := decide_eq_false g1
      by_cases g2 : (pl.length : Int) ≤ 4
      · have d2 : decide ((pl.length : Int) ≤ 4) = true := decide_eq_true g2
        by_cases g3 : (10 : Int) < (ps.length : Int)
        · have d3 : decide ((10 : Int) < (ps.length : Int)) = true := decide_eq_true g3
          by_cases g4 : (ps.length : Int) ≤ 20
          · have d4 : decide ((ps.length : Int) ≤ 20) = true := decide_eq_true g4
            have d5 : decide ((ps.length : Int) ≤ 4) = false := decide_eq_false (by omega)
            have hv : R = true := hT (by omega)
            rw [hv]
            clear hT hF hR hv g0 g1 g2 g3 g4
            go_enter Tryz.func5, Tryz.ntmps5
            go_wp2_with fail
            go_ret
            exact ⟨rfl, (by ((repeat' (first | with_reducible exact Below.refl _ _ | with_reducible refine Below.alloc ?_ ?_ _ | with_reducible refine Below.setCell ?_ ?_ _ | with_reducible refine Below.drew ?_ | with_reducible refine below_drewN ?_ _)) <;> (first | omega | (simp; done) | (simp; omega))))⟩
          · have d4 : decide ((ps.length : Int) ≤ 20) = false := decide_eq_false g4
            have d5 : decide ((ps.length : Int) ≤ 4) = false := decide_eq_false (by omega)
            have hv : R = false := hF (by omega)
            rw [hv]
            clear hT hF hR hv g0 g1 g2 g3 g4
            go_enter Tryz.func5, Tryz.ntmps5
            go_wp2_with fail
            go_ret
            exact ⟨rfl, (by ((repeat' (first | with_reducible exact Below.refl _ _ | with_reducible refine Below.alloc ?_ ?_ _ | with_reducible refine Below.setCell ?_ ?_ _ | with_reducible refine Below.drew ?_ | with_reducible refine below_drewN ?_ _)) <;> (first | omega | (simp; done) | (simp; omega))))⟩
        · have d3 : decide ((10 : Int) < (ps.length : Int)) = false := decide_eq_false g3
          have d4 : decide ((ps.length : Int) ≤ 20) = true := decide_eq_true (by omega)
          have d5 : decide ((ps.length : Int) ≤ 4) = false := decide_eq_false (by omega)
          have hv : R = false := hF (by omega)
          rw [hv]
          clear hT hF hR hv g0 g1 g2 g3
          go_enter Tryz.func5, Tryz.ntmps5
          go_wp2_with fail
          go_ret
          exact ⟨rfl, (by ((repeat' (first | with_reducible exact Below.refl _ _ | with_reducible refine Below.alloc ?_ ?_ _ | with_reducible refine Below.setCell ?_ ?_ _ | with_reducible refine Below.drew ?_ | with_reducible refine below_drewN ?_ _)) <;> (first | omega | (simp; done) | (simp; omega))))⟩
      · have d2 : decide ((pl.length : Int) ≤ 4) = false := decide_eq_false g2
        by_cases g3 : (10 : Int) < (ps.length : Int)
        · have d3 : decide ((10 : Int) < (ps.length : Int)) = true := decide_eq_true g3
          by_cases g4 : (ps.length : Int) ≤ 20
          · have d4 : decide ((ps.length : Int) ≤ 20) = true := decide_eq_true g4
            have d5 : decide ((ps.length : Int) ≤ 4) = false := decide_eq_false (by omega)
            have hv : R = true := hT (by omega)
            rw [hv]
            clear hT hF hR hv g0 g1 g2 g3 g4
            go_enter Tryz.func5, Tryz.ntmps5
            go_wp2_with fail
            go_ret
            exact ⟨rfl, (by ((repeat' (first | with_reducible exact Below.refl _ _ | with_reducible refine Below.alloc ?_ ?_ _ | with_reducible refine Below.setCell ?_ ?_ _ | with_reducible refine Below.drew ?_ | with_reducible refine below_drewN ?_ _)) <;> (first | omega | (simp; done) | (simp; omega))))⟩
          · have d4 : decide ((ps.length : Int) ≤ 20) = false := decide_eq_false g4
            have d5 : decide ((ps.length : Int) ≤ 4) = false := decide_eq_false (by omega)
            have hv : R = false := hF (by omega)
            rw [hv]
            clear hT hF hR hv g0 g1 g2 g3 g4
            go_enter Tryz.func5, Tryz.ntmps5
            go_wp2_with fail
            go_ret
            exact ⟨rfl, (by ((repeat' (first | with_reducible exact Below.refl _ _ | with_reducible refine Below.alloc ?_ ?_ _ | with_reducible refine Below.setCell ?_ ?_ _ | with_reducible refine Below.drew ?_ | with_reducible refine below_drewN ?_ _)) <;> (first | omega | (simp; done) | (simp; omega))))⟩
        · have d3 : decide ((10 : Int) < (ps.length : Int)) = false := decide_eq_false g3
          have d4 : decide ((ps.length : Int) ≤ 20) = true := decide_eq_true (by omega)
          have d5 : decide ((ps.length : Int) ≤ 4) = false := decide_eq_false (by omega)
          have hv : R = false := hF (by omega)
          rw [hv]
          clear hT hF hR hv g0 g1 g2 g3
          go_enter Tryz.func5, Tryz.ntmps5
          go_wp2_with fail
          go_ret
          exact ⟨rfl, (by ((repeat' (first | with_reducible exact Below.refl _ _ | with_reducible refine Below.alloc ?_ ?_ _ | with_reducible refine Below.setCell ?_ ?_ _ | with_reducible refine Below.drew ?_ | with_reducible refine below_drewN ?_ _)) <;> (first | omega | (simp; done) | (simp; omega))))⟩
  · have d0 : decide ((pl.length : Int) ≤ 12) = false := decide_eq_false g0
    have hv : R = false := hF (by omega)
    rw [hv]
    clear hT hF hR hv g0
    go_enter Tryz.func5, Tryz.ntmps5
    go_wp2_with fail
    go_ret
    exact ⟨rfl, (by ((repeat' (first | with_reducible exact Below.refl _ _ | with_reducible refine Below.alloc ?_ ?_ _ | with_reducible refine Below.setCell ?_ ?_ _ | with_reducible refine Below.drew ?_ | with_reducible refine below_drewN ?_ _)) <;> (first | omega | (simp; done) | (simp; omega))))⟩
end Go.Proofs.YtiaahfccebmkdaaGreat
