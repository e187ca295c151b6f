/- Package plan: Cheaper, check. -/
import Derived.Test.YtiaahfccebmkdaaPlB
import Derived.Deep.DeepCutAuto
namespace Go.Proofs.Ytiaahfccebmkdaa
open Go.RowKit

/-- What Cheaper returns. -/
def chE (s : Si) (la : List Int) (ea : Int) (lb : List Int) (eb : Int) : Int := if rgB s la ea = true ∧ rgB s lb eb = true then 0 else 1
def chB (s : Si) (la : List Int) (ea : Int) (lb : List Int) (eb : Int) : Bool := if rgB s la ea = true ∧ rgB s lb eb = true then decide (cmpS s.ps la ea lb eb < 0) else false
set_option maxRecDepth 100000 in
set_option maxHeartbeats 1000000 in
theorem Cheaper_any (r f lo tm : Int) (pv : Value) (ps : List Pr) (ua : Value) (la : List Int) (ea : Int) (ub : Value) (lb : List Int) (eb : Int) (w : World) (hp : PrRow w pv ps) (ha : IsRow w ua la) (hb : IsRow w ub lb) :
    Calls Try.prog 16 #[.agg #[.int .i64 r, .int .i64 f, .int .i64 lo, .int .i64 tm, pv], .agg #[ua, .int .i64 ea], .agg #[ub, .int .i64 eb]] w fun e w' =>
      e = .returned (.tuple #[.bool (chB ⟨r, f, lo, tm, ps⟩ la ea lb eb), .int .i64 (chE ⟨r, f, lo, tm, ps⟩ la ea lb eb)]) ∧ Below w.heap.size w w' := by
  have hR : ∀ W : World, Below w.heap.size w W → PrRow W pv ps ∧ IsRow W ua la ∧ IsRow W ub lb := fun W hW => ⟨hp.below (Nat.le_refl _) hW, ha.below (Nat.le_refl _) hW, hb.below (Nat.le_refl _) hW⟩
  have HR := hide hR
  obtain ⟨W0, hW0⟩ : ∃ W : World, W = ((w.alloc (.cells #[.int .i64 r, .int .i64 f, .int .i64 lo, .int .i64 tm, pv] 24)).alloc (.cells #[ua, .int .i64 ea] 29)).alloc (.cells #[ub, .int .i64 eb] 29) := ⟨_, rfl⟩
  have zW : W0.heap.size = w.heap.size + 3 := by rw [hW0]; simp
  have bW : Below w.heap.size w W0 := by rw [hW0]; ((repeat' (first | with_reducible exact Below.refl _ _ | with_reducible refine Below.alloc ?_ ?_ _ | with_reducible refine Below.setCell ?_ ?_ _ | with_reducible refine Below.drew ?_ | with_reducible refine below_drewN ?_ _)) <;> (first | omega | (simp; done) | (simp; omega)))
  have hS : ∀ W : World, Below (w.heap.size + 3) W0 W → W.cell? ⟨w.heap.size, 0, none⟩ = some (.int .i64 r) ∧ W.cell? ⟨w.heap.size, 1, none⟩ = some (.int .i64 f) ∧ W.cell? ⟨w.heap.size, 2, none⟩ = some (.int .i64 lo) ∧ W.cell? ⟨w.heap.size, 3, none⟩ = some (.int .i64 tm) ∧ W.cell? ⟨w.heap.size, 4, none⟩ = some pv ∧ W.cell? ⟨w.heap.size + 1, 0, none⟩ = some ua ∧ W.cell? ⟨w.heap.size + 1, 1, none⟩ = some (.int .i64 ea) ∧ W.cell? ⟨w.heap.size + 1 + 1, 0, none⟩ = some ub ∧ W.cell? ⟨w.heap.size + 1 + 1, 1, none⟩ = some (.int .i64 eb) ∧ Below w.heap.size w W ∧ w.heap.size + 3 ≤ W.heap.size := by
    intro W hW
    obtain ⟨y0, y1, y2, y3, y4, v0, v1, x0, x1⟩ : W0.cell? ⟨w.heap.size, 0, none⟩ = some (.int .i64 r) ∧ W0.cell? ⟨w.heap.size, 1, none⟩ = some (.int .i64 f) ∧ W0.cell? ⟨w.heap.size, 2, none⟩ = some (.int .i64 lo) ∧ W0.cell? ⟨w.heap.size, 3, none⟩ = some (.int .i64 tm) ∧ W0.cell? ⟨w.heap.size, 4, none⟩ = some pv ∧ W0.cell? ⟨w.heap.size + 1, 0, none⟩ = some ua ∧ W0.cell? ⟨w.heap.size + 1, 1, none⟩ = some (.int .i64 ea) ∧ W0.cell? ⟨w.heap.size + 1 + 1, 0, none⟩ = some ub ∧ W0.cell? ⟨w.heap.size + 1 + 1, 1, none⟩ = some (.int .i64 eb) := by
      rw [hW0]; refine ⟨(World.cell?_alloc_lt _ _ _ (by simp; omega)).trans (by simp), (World.cell?_alloc_lt _ _ _ (by simp; omega)).trans (by simp), (World.cell?_alloc_lt _ _ _ (by simp; omega)).trans (by simp), (World.cell?_alloc_lt _ _ _ (by simp; omega)).trans (by simp), (World.cell?_alloc_lt _ _ _ (by simp; omega)).trans (by simp), (World.cell?_alloc_lt _ _ _ (by simp)).trans (by simp), (World.cell?_alloc_lt _ _ _ (by simp)).trans (by simp), (World.cell?_alloc_at _ _ _ _ (by simp)).trans (by simp), (World.cell?_alloc_at _ _ _ _ (by simp)).trans (by simp)⟩
    have h0 := (bk hW w.heap.size (by omega)).1
    have h1 := (bk hW (w.heap.size + 1) (by omega)).1
    have h2 := (bk hW (w.heap.size + 1 + 1) (by omega)).1
    exact ⟨(h0 _).trans y0, (h0 _).trans y1, (h0 _).trans y2, (h0 _).trans y3, (h0 _).trans y4, (h1 _).trans v0, (h1 _).trans v1, (h2 _).trans x0, (h2 _).trans x1, bW.trans (hW.mono (by omega)), by have := hW.size; omega⟩
  have HS := hide hS
  have hcE : ∀ b, rgB ⟨r, f, lo, tm, ps⟩ la ea = true → rgB ⟨r, f, lo, tm, ps⟩ lb eb = b → (b = true → chE ⟨r, f, lo, tm, ps⟩ la ea lb eb = 0 ∧ chB ⟨r, f, lo, tm, ps⟩ la ea lb eb = decide (cmpS ps la ea lb eb < 0)) ∧ (b = false → chE ⟨r, f, lo, tm, ps⟩ la ea lb eb = 1 ∧ chB ⟨r, f, lo, tm, ps⟩ la ea lb eb = false) := by
    intro b h1 h2
    subst h2
    exact ⟨fun h => ⟨by unfold chE; rw [if_pos ⟨h1, h⟩], by unfold chB; rw [if_pos ⟨h1, h⟩]⟩, fun h => ⟨by unfold chE; rw [if_neg (by simp [h])], by unfold chB; rw [if_neg (by simp [h])]⟩⟩
  clear hR hS hp ha hb
  cases hA : rgB ⟨r, f, lo, tm, ps⟩ la ea with
  | false =>
    have e1 : chE ⟨r, f, lo, tm, ps⟩ la ea lb eb = 1 := by unfold chE; rw [if_neg (by simp [hA])]
    have e2 : chB ⟨r, f, lo, tm, ps⟩ la ea lb eb = false := by unfold chB; rw [if_neg (by simp [hA])]
    rw [e1, e2]
    clear e1 e2 hcE
    go_enter Try.func16, Try.ntmps16
    go_upto_region 1 with fail
    rw [← hW0]
    clear hW0
    obtain ⟨y0, y1, y2, y3, y4, v0, v1, x0, x1, b0, z0⟩ := HS.out W0 (Below.refl _ _)
    go_wp2_with fail
    refine (wdRight_any r f lo tm _ ps _ la ea _ (HR.out _ b0).1 (HR.out _ b0).2.1).mono ?_
    rintro e w1 ⟨rfl, c1⟩
    rw [hA]
    go_wp2_with fail
    go_ret2
    exact ⟨rfl, (by ((repeat' (first | with_reducible exact Below.refl _ _ | with_reducible exact c1 | with_reducible exact b0 | with_reducible refine Below.alloc ?_ ?_ _ | with_reducible refine Below.setCell ?_ ?_ _ | with_reducible refine Below.drew ?_ | with_reducible refine below_drewN ?_ _ | with_reducible refine Below.trans ?_ (c1.mono ?_) | with_reducible refine Below.trans ?_ (b0.mono ?_))) <;> (first | omega | (simp; done) | (simp; omega))))⟩
  | true =>
    cases hB : rgB ⟨r, f, lo, tm, ps⟩ lb eb with
    | false =>
      obtain ⟨e1, e2⟩ := (hcE false hA hB).2 rfl
      rw [e1, e2]
      clear e1 e2 hcE
      go_enter Try.func16, Try.ntmps16
      go_upto_region 1 with fail
      rw [← hW0]
      clear hW0
      obtain ⟨y0, y1, y2, y3, y4, v0, v1, x0, x1, b0, z0⟩ := HS.out W0 (Below.refl _ _)
      go_wp2_with fail
      refine (wdRight_any r f lo tm _ ps _ la ea _ (HR.out _ b0).1 (HR.out _ b0).2.1).mono ?_
      rintro e w1 ⟨rfl, c1⟩
      rw [hA]
      have B1 : Below (w.heap.size + 3) W0 w1 := (by ((repeat' (first | with_reducible exact Below.refl _ _ | with_reducible exact c1 | with_reducible refine Below.alloc ?_ ?_ _ | with_reducible refine Below.setCell ?_ ?_ _ | with_reducible refine Below.drew ?_ | with_reducible refine below_drewN ?_ _ | with_reducible refine Below.trans ?_ (c1.mono ?_))) <;> (first | omega | (simp; done) | (simp; omega))))
      clear y0 y1 y2 y3 y4 v0 v1 x0 x1
      obtain ⟨y0, y1, y2, y3, y4, v0, v1, x0, x1, b1, z1⟩ := HS.out w1 B1
      go_wp2_with fail
      refine (wdRight_any r f lo tm _ ps _ lb eb _ (HR.out _ b1).1 (HR.out _ b1).2.2).mono ?_
      rintro e w2 ⟨rfl, c2⟩
      rw [hB]
      go_wp2_with fail
      go_ret2
      exact ⟨rfl, (by ((repeat' (first | with_reducible exact Below.refl _ _ | with_reducible exact c2 | with_reducible exact b1 | with_reducible refine Below.alloc ?_ ?_ _ | with_reducible refine Below.setCell ?_ ?_ _ | with_reducible refine Below.drew ?_ | with_reducible refine below_drewN ?_ _ | with_reducible refine Below.trans ?_ (c2.mono ?_) | with_reducible refine Below.trans ?_ (b1.mono ?_))) <;> (first | omega | (simp; done) | (simp; omega))))⟩
    | true =>
      obtain ⟨e1, e2⟩ := (hcE true hA hB).1 rfl
      rw [e1, e2]
      have oA := CsOk.of hA
      have oB := CsOk.of hB
      have HoA := hide oA
      have HoB := hide oB
      obtain ⟨R, hR⟩ : ∃ R, R = cmpS ps la ea lb eb := ⟨_, rfl⟩
      rw [← hR]
      have HR2 := hide hR
      clear e1 e2 hcE oA oB hR
      go_enter Try.func16, Try.ntmps16
      go_upto_region 1 with fail
      rw [← hW0]
      clear hW0
      obtain ⟨y0, y1, y2, y3, y4, v0, v1, x0, x1, b0, z0⟩ := HS.out W0 (Below.refl _ _)
      go_wp2_with fail
      refine (wdRight_any r f lo tm _ ps _ la ea _ (HR.out _ b0).1 (HR.out _ b0).2.1).mono ?_
      rintro e w1 ⟨rfl, c1⟩
      rw [hA]
      have B1 : Below (w.heap.size + 3) W0 w1 := (by ((repeat' (first | with_reducible exact Below.refl _ _ | with_reducible exact c1 | with_reducible refine Below.alloc ?_ ?_ _ | with_reducible refine Below.setCell ?_ ?_ _ | with_reducible refine Below.drew ?_ | with_reducible refine below_drewN ?_ _ | with_reducible refine Below.trans ?_ (c1.mono ?_))) <;> (first | omega | (simp; done) | (simp; omega))))
      clear y0 y1 y2 y3 y4 v0 v1 x0 x1
      obtain ⟨y0, y1, y2, y3, y4, v0, v1, x0, x1, b1, z1⟩ := HS.out w1 B1
      go_wp2_with fail
      refine (wdRight_any r f lo tm _ ps _ lb eb _ (HR.out _ b1).1 (HR.out _ b1).2.2).mono ?_
      rintro e w2 ⟨rfl, c2⟩
      rw [hB]
      have B2 : Below (w.heap.size + 3) W0 w2 := (by ((repeat' (first | with_reducible exact Below.refl _ _ | with_reducible exact c2 | with_reducible exact B1 | with_reducible refine Below.alloc ?_ ?_ _ | with_reducible refine Below.setCell ?_ ?_ _ | with_reducible refine Below.drew ?_ | with_reducible refine below_drewN ?_ _ | with_reducible refine Below.trans ?_ (c2.mono ?_) | with_reducible refine Below.trans ?_ (B1.mono ?_))) <;> (first | omega | (simp; done) | (simp; omega))))
      clear y0 y1 y2 y3 y4 v0 v1 x0 x1
      obtain ⟨y0, y1, y2, y3, y4, v0, v1, x0, x1, b2, z2⟩ := HS.out w2 B2
      go_wp2_with fail
      refine (compare_any r f lo tm _ ps _ la ea _ lb eb _ (HR.out _ b2).1 (HR.out _ b2).2.1 (HR.out _ b2).2.2 HoA.out HoB.out).mono ?_
      rintro e w3 ⟨rfl, c3⟩
      rw [← HR2.out]
      go_wp2_with fail
      go_ret2
      exact ⟨rfl, (by ((repeat' (first | with_reducible exact Below.refl _ _ | with_reducible exact c3 | with_reducible exact b2 | with_reducible refine Below.alloc ?_ ?_ _ | with_reducible refine Below.setCell ?_ ?_ _ | with_reducible refine Below.drew ?_ | with_reducible refine below_drewN ?_ _ | with_reducible refine Below.trans ?_ (c3.mono ?_) | with_reducible refine Below.trans ?_ (b2.mono ?_))) <;> (first | omega | (simp; done) | (simp; omega))))⟩
end Go.Proofs.Ytiaahfccebmkdaa
