/- Package plan: the comparison of costs, Cheaper. -/
import Derived.Test.YtiaahfccebmkdaaPlA
import Derived.Test.YtiaahfccebmkdaaSpA
import Derived.Test.YtiaahfccebmkdaaWdF
import Derived.Shelf.SlSortCmp.QuietGrown
namespace Go.Proofs.Ytiaahfccebmkdaa
open Go.RowKit

theorem below_grow {B : Nat} {a w : World} (h : Below B a w) (hB : B ≤ w.heap.size) (n : Nat) (os : Array Obj) : Below B a (Sort.grow (w.drewN n) os) :=
  (below_drewN h n).trans ⟨rfl, rfl, rfl, by rw [Sort.size_grow]; omega, fun k hk => Sort.heap_grow_old (w.drewN n) os (Nat.lt_of_lt_of_le hk hB)⟩
theorem grow_cell {W : World} {a : Addr} {v : Value} (h : W.cell? a = some v) (hb : a.block < W.heap.size) (p : GrownBy) : (Sort.grow (W.drewN p.n) p.os).cell? a = some v := (Sort.cell?_grow _ _ _ (by simpa using hb)).trans (by rw [World.cell?_drewN]; exact h)
theorem alloc2_grow (w : World) (a b : Obj) : ∃ q os', (w.alloc a).alloc b = Sort.grow (w.drewN q) os' := ⟨0, #[a] ++ #[b], by rw [World.drewN_zero, Sort.alloc_eq_grow, Sort.alloc_eq_grow, Sort.grow_grow]⟩
set_option maxRecDepth 100000 in
set_option maxHeartbeats 400000 in
theorem isNaNU_any (x : Int) (w : World) : Calls Try.prog 79 #[.int .u64 x] w fun e w' => e = .returned (.bool false) ∧ w' = w := by
  go_enter Try.func79, Try.ntmps79
  go_wp2
  all_goals go_ret
  all_goals exact ⟨ret_bool (by simp), rfl⟩
set_option maxRecDepth 100000 in
set_option maxHeartbeats 400000 in
theorem CompareU_any (x y : Int) (w : World) : Calls Try.prog 60 #[.int .u64 x, .int .u64 y] w fun e w' => e = .returned (.int .i64 (Lib.compareInt x y)) ∧ w' = w := by
  go_enter Try.func60, Try.ntmps60
  go_wp2_with (go_at_call 79; refine (isNaNU_any _ _).mono ?_; rintro e w' ⟨rfl, rfl⟩)
  all_goals go_ret
  all_goals exact ⟨ret_int (by unfold Lib.compareInt; split <;> first | rfl | omega | (split <;> first | rfl | omega)), rfl⟩
/-- What a schedule must be for its cost to be reckoned. -/
def CsOk (ps : List Pr) (use : List Int) (ev : Int) : Prop := use.length ≤ 16 ∧ (∀ j, j < use.length → (0 ≤ iAt use j ∧ iAt use j < ps.length) ∧ 0 ≤ (pAt ps (iAt use j).toNat).co ∧ (pAt ps (iAt use j).toNat).co ≤ 1000000) ∧ 0 ≤ ev ∧ ev ≤ 1000000000000
theorem CsOk.bd {ps : List Pr} {use : List Int} {ev : Int} (h : CsOk ps use ev) : 0 ≤ costL ps use ∧ costL ps use ≤ 16000000 := by
  have := costTo_bd (r := 0) (tm := 0) (fun j hj => (h.2.1 j hj).2) use.length (Nat.le_refl _)
  have := h.1
  unfold costL; omega
theorem CsOk.of {r f lo tm : Int} {ps : List Pr} {use : List Int} {ev : Int} (h : rgB ⟨r, f, lo, tm, ps⟩ use ev = true) : CsOk ps use ev := by
  have hrg := (rgB_iff _ _ _).1 h
  obtain ⟨h6, h7, -⟩ := (siB_iff _).1 hrg.1
  have hsi := (siN_iff _).1 h6
  have h8 := hrg.2.1
  have hul := use_le hrg.2.2.2.1 hrg.2.2.1
  simp only at hsi h7 h8 hul
  refine ⟨by omega, fun j hj => ?_, by omega⟩
  have h9 := hrg.2.2.1 j hj
  simp only at h9
  have := (prB_iff _ _ _).1 (h7 (iAt use j).toNat (by omega))
  exact ⟨h9, this.2.2.2.1⟩
theorem mul_bd {c e : Int} (h : 0 ≤ c ∧ c ≤ 16000000) (g : 0 ≤ e ∧ e ≤ 1000000000000) : 0 ≤ c * e ∧ c * e ≤ 16000000000000000000 :=
  ⟨Int.mul_nonneg h.1 g.1, by
    have h1 : c * e ≤ 16000000 * e := Int.mul_le_mul_of_nonneg_right h.2 g.1
    omega⟩
set_option maxRecDepth 100000 in
set_option maxHeartbeats 1000000 in
theorem compare_any (r f lo tm : Int) (pv : Value) (ps : List Pr) (ua : Value) (la : List Int) (ea : Int) (ub : Value) (lb : List Int) (eb : Int) (w : World) (hp : PrRow w pv ps) (ha : IsRow w ua la) (hb : IsRow w ub lb) (ca : CsOk ps la ea) (cb : CsOk ps lb eb) :
    Calls Try.prog 36 #[.agg #[.int .i64 r, .int .i64 f, .int .i64 lo, .int .i64 tm, pv], .agg #[ua, .int .i64 ea], .agg #[ub, .int .i64 eb]] w fun e w' => e = .returned (.int .i64 (cmpS ps la ea lb eb)) ∧ Below w.heap.size w w' := by
  have hR : ∀ W : World, Below w.heap.size w W → PrRow W pv ps ∧ IsRow W ua la ∧ IsRow W ub lb := fun W hW => ⟨hp.below (Nat.le_refl _) hW, ha.below (Nat.le_refl _) hW, hb.below (Nat.le_refl _) hW⟩
  have HR := hide hR
  have hca := fun W ev (h : PrRow W pv ps) (g : IsRow W ua la) => cost_any r f lo tm pv ps ua la ev W h g (by have := ca.1; omega) ca.2.1
  have hcb := fun W ev (h : PrRow W pv ps) (g : IsRow W ub lb) => cost_any r f lo tm pv ps ub lb ev W h g (by have := cb.1; omega) cb.2.1
  have m1 := mul_bd ca.bd ⟨cb.2.2.1, cb.2.2.2⟩
  have m2 := mul_bd cb.bd ⟨ca.2.2.1, ca.2.2.2⟩
  have b1 := ca.bd
  have b2 := cb.bd
  obtain ⟨-, -, e1, e2⟩ := ca
  obtain ⟨-, -, e3, e4⟩ := cb
  have hres : Lib.compareInt (costL ps la * eb) (costL ps lb * ea) = cmpS ps la ea lb eb := rfl
  have Hres := hide hres
  have Hca := hide hca
  have Hcb := hide hcb
  clear hres hca hcb hR hp ha hb
  generalize cmpS ps la ea lb eb = R at *
  generalize costL ps la = x at *
  generalize costL ps lb = y at *
  have w1 : IntKind.u64.wrap (x * eb) = x * eb := by rw [IntKind.wrap_u64]; omega
  have w2 : IntKind.u64.wrap (y * ea) = y * ea := by rw [IntKind.wrap_u64]; omega
  go_enter Try.func36, Try.ntmps36
  go_wp2_with fail
  obtain ⟨W, hW⟩ : ∃ W : World, W = ((w.alloc (.cells #[.int .i64 r, .int .i64 f, .int .i64 lo, .int .i64 tm, pv] 24)).alloc (.cells #[ua, .int .i64 ea] 29)).alloc (.cells #[ub, .int .i64 eb] 29) := ⟨_, rfl⟩
  rw [← hW]
  have zW : W.heap.size = w.heap.size + 3 := by rw [hW]; simp
  have bW : Below w.heap.size w W := by rw [hW]; ((repeat' (first | with_reducible exact Below.refl _ _ | with_reducible refine Below.alloc ?_ ?_ _ | with_reducible refine Below.setCell ?_ ?_ _ | with_reducible refine Below.drew ?_ | with_reducible refine below_drewN ?_ _)) <;> (first | omega | (simp; done) | (simp; omega)))
  obtain ⟨y0, y1, y2, y3, y4, v0, v1, x0, x1⟩ : W.cell? ⟨w.heap.size, 0, none⟩ = some (.int .i64 r) ∧ W.cell? ⟨w.heap.size, 1, none⟩ = some (.int .i64 f) ∧ W.cell? ⟨w.heap.size, 2, none⟩ = some (.int .i64 lo) ∧ W.cell? ⟨w.heap.size, 3, none⟩ = some (.int .i64 tm) ∧ W.cell? ⟨w.heap.size, 4, none⟩ = some pv ∧ W.cell? ⟨w.heap.size + 1, 0, none⟩ = some ua ∧ W.cell? ⟨w.heap.size + 1, 1, none⟩ = some (.int .i64 ea) ∧ W.cell? ⟨w.heap.size + 1 + 1, 0, none⟩ = some ub ∧ W.cell? ⟨w.heap.size + 1 + 1, 1, none⟩ = some (.int .i64 eb) := by
    rw [hW]; refine ⟨(World.cell?_alloc_lt _ _ _ (by simp; omega)).trans (by simp), (World.cell?_alloc_lt _ _ _ (by simp; omega)).trans (by simp), (World.cell?_alloc_lt _ _ _ (by simp; omega)).trans (by simp), (World.cell?_alloc_lt _ _ _ (by simp; omega)).trans (by simp), (World.cell?_alloc_lt _ _ _ (by simp; omega)).trans (by simp), (World.cell?_alloc_lt _ _ _ (by simp)).trans (by simp), (World.cell?_alloc_lt _ _ _ (by simp)).trans (by simp), (World.cell?_alloc_at _ _ _ _ (by simp)).trans (by simp), (World.cell?_alloc_at _ _ _ _ (by simp)).trans (by simp)⟩
  have z0 : w.heap.size < W.heap.size := by omega
  have z1 : w.heap.size + 1 < W.heap.size := by omega
  have z2 : w.heap.size + 1 + 1 < W.heap.size := by omega
  have Y0 := grow_cell y0 z0
  have Y1 := grow_cell y1 z0
  have Y2 := grow_cell y2 z0
  have Y3 := grow_cell y3 z0
  have Y4 := grow_cell y4 z0
  have V0 := grow_cell v0 z1
  have V1 := grow_cell v1 z1
  have X0 := grow_cell x0 z2
  have X1 := grow_cell x1 z2
  clear hW y0 y1 y2 y3 y4 v0 v1 x0 x1
  refine wp_region_quiet_grown (by first | assumption | kernel_rfl) (by kernel_rfl) ?_
  have hG : ∀ p : GrownBy, PrRow (Sort.grow (W.drewN p.n) p.os) pv ps ∧ IsRow (Sort.grow (W.drewN p.n) p.os) ua la ∧ IsRow (Sort.grow (W.drewN p.n) p.os) ub lb := fun p => HR.out _ (below_grow bW (by omega) _ _)
  have Ka := hide (fun (p : GrownBy) => Calls.grown_of ((Hca.out _ ea (hG p).1 (hG p).2.1).mono (by rintro e w' ⟨rfl, rfl⟩; exact ⟨rfl, alloc2_grow _ _ _⟩)))
  have Kb := hide (fun (p : GrownBy) => Calls.grown_of ((Hcb.out _ eb (hG p).1 (hG p).2.2).mono (by rintro e w' ⟨rfl, rfl⟩; exact ⟨rfl, alloc2_grow _ _ _⟩)))
  have Kc := hide (fun (p : GrownBy) => Calls.grown_of ((CompareU_any (x * eb) (y * ea) (Sort.grow (W.drewN p.n) p.os)).mono (by rintro e w' ⟨rfl, rfl⟩; exact ⟨rfl, 0, #[], by rw [World.drewN_zero]; rfl⟩)))
  clear hG HR Hca Hcb
  repeat (go_big_quiet_step (first | (go_at_call 60; with_reducible exact Kc.out _) | (go_at_call 61; with_reducible exact Ka.out _) | (go_at_call 61; with_reducible exact Kb.out _)))
  refine wpQuiet_nil ?_
  intro _ hw'
  obtain ⟨⟨nq, osq⟩, hw''⟩ := hw'
  subst hw''
  go_wp2_with fail
  go_ret
  exact ⟨ret_int Hres.out, below_grow bW (by omega) _ _⟩
end Go.Proofs.Ytiaahfccebmkdaa
