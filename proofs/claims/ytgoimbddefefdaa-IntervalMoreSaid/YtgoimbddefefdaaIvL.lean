/- The examples of the chapter: the check that stands in every statement answers true. -/
import Derived.Test.YtgoimbddefefdaaIvH
import Derived.Deep.RegionHeld3
import Derived.Deep.DeepCutAuto
namespace Go.Proofs.Ytgoimbddefefdaa
open Go.RowKit
attribute [local go_sem ↓] run_max_mx run_min_mn run_eql_iv run_neq_iv

theorem ivrow_lit (w : World) (c : List Iv) (t : TypeId) (hc : c.length ≤ 9223372036854775807) : IvRow (w.alloc (.cells (encL c).toArray t)) (.slice (some ⟨w.heap.size, 0, none⟩) c.length c.length) c := by
  refine ⟨_, _, rfl, Nat.le_refl _, hc, fun i hi => ⟨_, 0, rfl, by simp, ?_, ?_⟩⟩
  · rw [Nat.zero_add, World.cell?_alloc_new]; simpa using (encL_at c i hi).1
  · rw [Nat.zero_add, World.cell?_alloc_new]; simpa using (encL_at c i hi).2
theorem ivrow3 {w : World} {b n : Nat} {p0 p1 p2 : Iv} (h : IvRow w (.slice (some ⟨b, 0, none⟩) 3 n) [p0, p1, p2]) :
    w.cell? ⟨b, 0, none⟩ = some (.int .i64 p0.1) ∧ w.cell? ⟨b, 1, none⟩ = some (.int .i64 p0.2) ∧ w.cell? ⟨b, 2, none⟩ = some (.int .i64 p1.1) ∧ w.cell? ⟨b, 3, none⟩ = some (.int .i64 p1.2) ∧ w.cell? ⟨b, 4, none⟩ = some (.int .i64 p2.1) ∧ w.cell? ⟨b, 5, none⟩ = some (.int .i64 p2.2) := by
  obtain ⟨a, cap, hv, _, _, h3⟩ := h
  simp only [Value.slice.injEq] at hv
  obtain ⟨rfl, -, -⟩ := hv
  obtain ⟨b0, o0, e0, _, h4, h5⟩ := h3 0 (by simp)
  obtain ⟨b1, o1, e1, _, h6, h7⟩ := h3 1 (by simp)
  obtain ⟨b2, o2, e2, _, h8, h9⟩ := h3 2 (by simp)
  simp only [Option.some.injEq, Addr.mk.injEq, and_true] at e0 e1 e2
  obtain ⟨rfl, rfl⟩ := e0
  obtain ⟨rfl, rfl⟩ := e1
  obtain ⟨rfl, rfl⟩ := e2
  simp only [Nat.zero_add, Nat.zero_mul, Nat.one_mul, Nat.reduceMul, Nat.reduceAdd] at h4 h5 h6 h7 h8 h9
  exact ⟨h4, h5, h6, h7, h8, h9⟩
def L3 : List Iv := [(0, 10), (5, 20), (11, 12)]
theorem cov2 : CovOut L3 2 [(5, 12)] := by
  unfold CovOut
  rw [if_pos (by decide)]
  refine ⟨⟨by simp, by simp⟩, fun t => ?_⟩
  simp only [mem, List.mem_singleton, exists_eq_left, L3, List.length_cons, List.length_nil, Nat.reduceAdd, dep, hasB, iLo, iHi, decide_eq_true_eq, List.getD_cons_zero, List.getD_cons_succ]
  split <;> split <;> split <;> omega
theorem cov1 : CovOut L3 1 [(0, 20)] := by
  unfold CovOut
  rw [if_pos (by decide)]
  refine ⟨⟨by simp, by simp⟩, fun t => ?_⟩
  simp only [mem, List.mem_singleton, exists_eq_left, L3, List.length_cons, List.length_nil, Nat.reduceAdd, dep, hasB, iLo, iHi, decide_eq_true_eq, List.getD_cons_zero, List.getD_cons_succ]
  split <;> split <;> split <;> omega
theorem cov3 : CovOut L3 3 [] := by
  unfold CovOut
  rw [if_pos (by decide)]
  refine ⟨⟨by simp, by simp⟩, fun t => ⟨fun h => absurd h mem_nil, fun h => ?_⟩⟩
  exfalso
  simp only [L3, List.length_cons, List.length_nil, Nat.reduceAdd, dep, hasB, iLo, iHi, decide_eq_true_eq, List.getD_cons_zero, List.getD_cons_succ] at h
  split at h <;> split at h <;> split at h <;> omega

set_option maxRecDepth 100000 in
set_option maxRecDepth 100000 in
set_option maxHeartbeats 1000000 in
theorem head_any (w : World) : Calls Try.prog 10 #[] w fun e w' => e = .returned (.bool true) ∧ Below w.heap.size w w' := by
  have e2 : coverEr L3 2 = 0 := by decide
  have e1 : coverEr L3 1 = 0 := by decide
  have e3 : coverEr L3 3 = 0 := by decide
  have hr0 : IvRow (w.alloc (.cells #[.int .i64 0, .int .i64 10, .int .i64 5, .int .i64 20, .int .i64 11, .int .i64 12] 24)) (.slice (some ⟨w.heap.size, 0, none⟩) 3 3) L3 := ivrow_lit w L3 _ (by decide)
  go_enter Try.func10, Try.ntmps10
  go_wp2_with fail
  refine (Cover_any _ L3 2 _ hr0).mono ?_
  rintro e w1 ⟨v1, c1, rfl, ho1, hc1, hb1⟩
  obtain rfl := hc1.unique cov2
  have hr1 := hr0.below (Nat.le_refl _) hb1
  go_wp2_with fail
  refine (Cover_any _ L3 1 _ hr1).mono ?_
  rintro e w2 ⟨v2, c2, rfl, ho2, hc2, hb2⟩
  obtain rfl := hc2.unique cov1
  have hr2 := hr1.below (Nat.le_refl _) hb2
  go_wp2_with fail
  refine (Cover_any _ L3 3 _ hr2).mono ?_
  rintro e w3 ⟨v3, c3, rfl, ho3, hc3, hb3⟩
  obtain rfl := hc3.unique cov3
  have hr3 := hr2.below (Nat.le_refl _) hb3
  obtain ⟨a3, cap3, rfl, _, _⟩ := ho3.val
  obtain ⟨k0, k1, k2, k3, k4, k5⟩ := ivrow3 hr3
  go_wp2_with fail
  refine (Grow_any 5 20 7 1 _).mono ?_
  rintro e w4 ⟨rfl, hb4⟩
  have g1 : growLo 5 20 7 1 = 0 := by decide
  have g2 : growHi 5 20 7 1 = 21 := by decide
  have g3 : growEr 5 20 7 1 = 0 := by decide
  rw [g1, g2, g3]
  go_upto_region 6 with fail
  have hr5 : IvRow (w4.alloc (.cells #[.int .i64 0, .int .i64 21] 24)) (.slice (some ⟨w.heap.size, 0, none⟩) 3 3) L3 := (hr3.below (Nat.le_refl _) hb4).below (Nat.le_refl _) ((Below.refl _ _).alloc (Nat.le_refl _) _)
  obtain ⟨j0, j1, j2, j3, j4, j5⟩ := ivrow3 hr5
  have m1 : meetLo 0 10 5 20 = 5 := by decide
  have m2 : meetHi 0 10 5 20 = 10 := by decide
  have m3 : meetOk 0 10 5 20 = true := by decide
  have m4 : meetEr 0 10 5 20 = 0 := by decide
  go_cut [10, 11, 12] (fun s10 s11 s12 wx => ∃ B : Nat, s10 = .pointer (some ⟨B, 0, none⟩) ∧ s11 = .bool true ∧ s12 = .int .i64 0 ∧ wx.cell? ⟨B, 0, none⟩ = some (.int .i64 5) ∧ wx.cell? ⟨B, 1, none⟩ = some (.int .i64 10) ∧ w4.heap.size < B ∧ B < wx.heap.size ∧
    Below (w4.heap.size + 1) (w4.alloc (.cells #[.int .i64 0, .int .i64 21] 24)) wx)
  case first =>
    have hz1 := hb1.size
    have hz2 := hb2.size
    have hz3 := hb3.size
    have hz4 := hb4.size
    simp only [World.size_alloc] at hz1
    have z5 : w.heap.size < (w4.alloc (.cells #[.int .i64 0, .int .i64 21] 24)).heap.size := by simp; omega
    have z6 : (w4.alloc (.cells #[.int .i64 0, .int .i64 21] 24)).heap.size = w4.heap.size + 1 := World.size_alloc _ _
    have Z6 := hide z6
    clear z6
    generalize w4.alloc (.cells #[.int .i64 0, .int .i64 21] 24) = W5 at *
    have zn1 : ¬ W5.heap.size = w.heap.size := by omega
    have zn2 : ¬ w.heap.size = W5.heap.size := by omega
    go_region_held3 (fun w' => w'.cell? ⟨w.heap.size, 0, none⟩ = some (.int .i64 0) ∧ w'.cell? ⟨w.heap.size, 1, none⟩ = some (.int .i64 10) ∧ w'.cell? ⟨w.heap.size, 2, none⟩ = some (.int .i64 5) ∧ w'.cell? ⟨w.heap.size, 3, none⟩ = some (.int .i64 20)) (go_keep)
      (first | (go_at_call 12; refine (Meet_any 0 10 5 20 _).mono ?_; rintro e w' ⟨rfl, hb⟩; obtain ⟨cc, ff⟩ := bk hb w.heap.size (by first | exact z5 | (simp; omega)); (have cc2 := fun h => bk hb W5.heap.size h); simp at cc2))
    all_goals go_wp2_with fail
    all_goals go_meet
    all_goals
      have hbz := hb.size
      simp only [World.size_alloc, World.size_drew] at hbz
      refine ⟨_, rfl, rfl, rfl, ?_, ?_, ?_, ?_, ?_⟩
    all_goals first | (simp [go_sem, *]; done) | (have z6 := Z6.out; ((repeat' (first | exact Below.refl _ _ | exact hb | refine Below.alloc ?_ ?_ _ | refine Below.setCell ?_ ?_ _ | refine Below.drew ?_ | refine below_drewN ?_ _ | refine Below.trans ?_ (hb.mono ?_))) <;> (first | omega | (simp; done) | (simp; omega)))) | (have z6 := Z6.out; omega) | (have z6 := Z6.out; simp; omega)
  case rest =>
    obtain ⟨B6, rfl, rfl, rfl, x6, y6, hB6, hB6', hb6⟩ := hcut
    have hr6 := hr5.below (by simp) hb6
    obtain ⟨n0, n1, n2, n3, n4, n5⟩ := ivrow3 hr6
    go_wp2_with fail
    go_upto_region 7 with fail
    have hB6w : w.heap.size < wc.heap.size := by
      have := hb1.size; have := hb2.size; have := hb3.size; have := hb4.size
      simp only [World.size_alloc] at *; omega
    have q1 : meetLo 0 10 11 12 = 0 := by decide
    have q2 : meetHi 0 10 11 12 = 0 := by decide
    have q3 : meetOk 0 10 11 12 = false := by decide
    have q4 : meetEr 0 10 11 12 = 0 := by decide
    have b8 : wc.cell? ⟨w4.heap.size, 0, none⟩ = some (.int .i64 0) ∧ wc.cell? ⟨w4.heap.size, 1, none⟩ = some (.int .i64 21) := by
      rw [(bk hb6 w4.heap.size (by omega)).1, (bk hb6 w4.heap.size (by omega)).1]; simp
    obtain ⟨wd, hwd⟩ : ∃ wd : World, wd = wc := ⟨_, rfl⟩
    subst hwd
    go_cut [14, 15] (fun s14 s15 wx => s14 = .bool false ∧ s15 = .int .i64 0 ∧ Below wd.heap.size wd wx)
    case first =>
      have zn1 : ¬ wd.heap.size = w.heap.size := by omega
      have zn2 : ¬ w.heap.size = wd.heap.size := by omega
      go_region_held3 (fun w' => w'.cell? ⟨w.heap.size, 0, none⟩ = some (.int .i64 0) ∧ w'.cell? ⟨w.heap.size, 1, none⟩ = some (.int .i64 10) ∧ w'.cell? ⟨w.heap.size, 4, none⟩ = some (.int .i64 11) ∧ w'.cell? ⟨w.heap.size, 5, none⟩ = some (.int .i64 12)) (go_keep)
        (first | (go_at_call 12; refine (Meet_any 0 10 11 12 _).mono ?_; rintro e w' ⟨rfl, hb⟩; obtain ⟨cc, ff⟩ := bk hb w.heap.size (by first | exact hB6w | (simp; omega)); (have cc2 := fun h => bk hb wd.heap.size h); simp at cc2))
      all_goals go_wp2_with fail
      all_goals go_meet
      all_goals
        have hbz := hb.size
        simp only [World.size_alloc, World.size_drew] at hbz
        refine ⟨rfl, rfl, ?_⟩
      all_goals ((repeat' (first | exact Below.refl _ _ | exact hb | refine Below.alloc ?_ ?_ _ | refine Below.setCell ?_ ?_ _ | refine Below.drew ?_ | refine below_drewN ?_ _ | refine Below.trans ?_ (hb.mono ?_))) <;> (first | omega | (simp; done) | (simp; omega)))
    case rest =>
      obtain ⟨rfl, rfl, hb7⟩ := hcut
      have hr7 := hr6.below (Nat.le_refl _) hb7
      go_wp2_with fail
      refine (Hull_any _ L3 _ hr7).mono ?_
      rintro e w8 ⟨rfl, hb8⟩
      have q5 : hullLo L3 = 0 := by decide
      have q6 : hullHi L3 = 20 := by decide
      have q7 : hullEr L3 = 0 := by decide
      rw [q5, q6, q7]
      have hr8 := hr7.below (Nat.le_refl _) hb8
      have hz7 := hb7.size
      have hz8 := hb8.size
      go_wp2_with fail
      refine (Depth_any _ L3 _ _ (hr8.below (Nat.le_refl _) ((Below.refl _ _).alloc (Nat.le_refl _) _))).mono ?_
      rintro e w9 ⟨rfl, hb9⟩
      have q8 : depthV L3 11 = 2 := by decide
      have q9 : listEr L3 = 0 := by decide
      rw [q8, q9]
      have hz9 := hb9.size
      simp only [World.size_alloc] at hz9
      go_wp2_with fail
      have hz1 := hb1.size
      have hz2 := hb2.size
      have hz3 := hb3.size
      have hz4 := hb4.size
      have hz6 := hb6.size
      simp only [World.size_alloc] at hz1 hz6
      have c39 : Below (w4.heap.size + 1) wd w9 := (by ((repeat' (first | exact Below.refl _ _ | exact hb7 | exact hb8 | exact hb9 | refine Below.alloc ?_ ?_ _ | refine Below.setCell ?_ ?_ _ | refine Below.drew ?_ | refine below_drewN ?_ _ | refine Below.trans ?_ (hb7.mono ?_) | refine Below.trans ?_ (hb8.mono ?_) | refine Below.trans ?_ (hb9.mono ?_))) <;> (first | omega | (simp; done) | (simp; omega))))
      have c49 : Below (w4.heap.size + 1) (w4.alloc (.cells #[.int .i64 0, .int .i64 21] 24)) w9 := hb6.trans c39
      have c29 : Below w2.heap.size w2 w9 := (by ((repeat' (first | exact Below.refl _ _ | exact hb3 | exact hb4 | exact c49 | refine Below.alloc ?_ ?_ _ | refine Below.setCell ?_ ?_ _ | refine Below.drew ?_ | refine below_drewN ?_ _ | refine Below.trans ?_ (hb3.mono ?_) | refine Below.trans ?_ (hb4.mono ?_) | refine Below.trans ?_ (c49.mono ?_))) <;> (first | omega | (simp; done) | (simp; omega))))
      have c19 : Below w1.heap.size w1 w9 := (by ((repeat' (first | exact Below.refl _ _ | exact hb2 | exact c29 | refine Below.alloc ?_ ?_ _ | refine Below.setCell ?_ ?_ _ | refine Below.drew ?_ | refine below_drewN ?_ _ | refine Below.trans ?_ (hb2.mono ?_) | refine Below.trans ?_ (c29.mono ?_))) <;> (first | omega | (simp; done) | (simp; omega))))
      have r1 : IvRow w9 v1 [(5, 12)] := ho1.row.below (Nat.le_refl _) c19
      have r2 : IvRow w9 v2 [(0, 20)] := ho2.row.below (Nat.le_refl _) c29
      -- the boxes in w9
      have t8 : w9.cell? ⟨w4.heap.size, 0, none⟩ = some (.int .i64 0) ∧ w9.cell? ⟨w4.heap.size, 1, none⟩ = some (.int .i64 21) := by
        rw [(bk c39 w4.heap.size (by omega)).1, (bk c39 w4.heap.size (by omega)).1]; exact b8
      have c79 : Below wd.heap.size wd w9 := (by ((repeat' (first | exact Below.refl _ _ | exact hb7 | exact hb8 | exact hb9 | refine Below.alloc ?_ ?_ _ | refine Below.setCell ?_ ?_ _ | refine Below.drew ?_ | refine below_drewN ?_ _ | refine Below.trans ?_ (hb7.mono ?_) | refine Below.trans ?_ (hb8.mono ?_) | refine Below.trans ?_ (hb9.mono ?_))) <;> (first | omega | (simp; done) | (simp; omega))))
      have t6 : w9.cell? ⟨B6, 0, none⟩ = some (.int .i64 5) ∧ w9.cell? ⟨B6, 1, none⟩ = some (.int .i64 10) := by
        rw [(bk c79 B6 hB6').1, (bk c79 B6 hB6').1]; exact ⟨x6, y6⟩
      have t16 : w9.cell? ⟨w8.heap.size, 0, none⟩ = some (.int .i64 0) ∧ w9.cell? ⟨w8.heap.size, 1, none⟩ = some (.int .i64 20) := by
        rw [(bk hb9 w8.heap.size (by simp)).1, (bk hb9 w8.heap.size (by simp)).1]; simp
      have c09 : Below w.heap.size w w9 := (by ((repeat' (first | exact Below.refl _ _ | exact hb1 | exact c19 | refine Below.alloc ?_ ?_ _ | refine Below.setCell ?_ ?_ _ | refine Below.drew ?_ | refine below_drewN ?_ _ | refine Below.trans ?_ (hb1.mono ?_) | refine Below.trans ?_ (c19.mono ?_))) <;> (first | omega | (simp; done) | (simp; omega))))
      have r0 : IvRow w9 (.slice (some ⟨w.heap.size, 0, none⟩) 3 3) L3 := (hr8.below (Nat.le_refl _) ((Below.refl _ _).alloc (Nat.le_refl _) _)).below (Nat.le_refl _) hb9
      obtain ⟨p0, p1, -, -, -, -⟩ := ivrow3 r0
      clear k0 k1 k2 k3 k4 k5 j0 j1 j2 j3 j4 j5 n0 n1 n2 n3 n4 n5 m1 m2 m3 m4 q1 q2 q3 q4 q5 q6 q7 q8 q9 g1 g2 g3 e1 e2 e3 x6 y6 b8 c39 c49 c29 c19 c79 r0 hr0 hr1 hr2 hr3 hr5 hr6 hr7 hr8 hb1 hb2 hb3 hb4 hb6 hb7 hb8 hb9 ho1 ho2 ho3 hc1 hc2 hc3
      refine (RSame_any _ _ _ _ _ (r1.below (Nat.le_refl _) ((Below.refl _ _).alloc (Nat.le_refl _) _)) (ivrow_lit w9 [(5, 12)] _ (by decide))).mono ?_
      rintro e wA ⟨rfl, hbA⟩
      have hzA := hbA.size
      simp only [World.size_alloc] at hzA
      rw [show decide ([((5 : Int), (12 : Int))] = [(5, 12)]) = true from by decide]
      have cA : Below w9.heap.size w9 wA := (by ((repeat' (first | exact Below.refl _ _ | exact hbA | refine Below.alloc ?_ ?_ _ | refine Below.setCell ?_ ?_ _ | refine Below.drew ?_ | refine below_drewN ?_ _ | refine Below.trans ?_ (hbA.mono ?_))) <;> (first | omega | (simp; done) | (simp; omega))))
      have tA8 := (bk cA w4.heap.size (by omega)).1
      have tA6 := (bk cA B6 (by omega)).1
      have tA16 := (bk cA w8.heap.size (by omega)).1
      have tA0 := (bk cA w.heap.size (by omega)).1
      go_wp2_with fail
      refine (RSame_any _ _ _ _ _ ((r2.below (Nat.le_refl _) cA).below (Nat.le_refl _) ((Below.refl _ _).alloc (Nat.le_refl _) _)) (ivrow_lit wA [(0, 20)] _ (by decide))).mono ?_
      rintro e wB ⟨rfl, hbB⟩
      have hzB := hbB.size
      simp only [World.size_alloc] at hzB
      rw [show decide ([((0 : Int), (20 : Int))] = [(0, 20)]) = true from by decide]
      have cB : Below wA.heap.size wA wB := (by ((repeat' (first | exact Below.refl _ _ | exact hbB | refine Below.alloc ?_ ?_ _ | refine Below.setCell ?_ ?_ _ | refine Below.drew ?_ | refine below_drewN ?_ _ | refine Below.trans ?_ (hbB.mono ?_))) <;> (first | omega | (simp; done) | (simp; omega))))
      have tB8 := (bk cB w4.heap.size (by omega)).1
      have tB6 := (bk cB B6 (by omega)).1
      have tB16 := (bk cB w8.heap.size (by omega)).1
      have tB0 := (bk cB w.heap.size (by omega)).1
      have u1 : ivEq 0 21 0 21 = true := by decide
      have u2 : ivEq 5 10 5 10 = true := by decide
      have u3 : ivEq 0 20 0 20 = true := by decide
      have u4 : validB 0 10 = true := by decide
      have u5 : validB 3 2 = false := by decide
      have cBB : Below w.heap.size w wB := (by ((repeat' (first | exact Below.refl _ _ | exact c09 | exact cA | exact cB | refine Below.alloc ?_ ?_ _ | refine Below.setCell ?_ ?_ _ | refine Below.drew ?_ | refine below_drewN ?_ _ | refine Below.trans ?_ (c09.mono ?_) | refine Below.trans ?_ (cA.mono ?_) | refine Below.trans ?_ (cB.mono ?_))) <;> (first | omega | (simp; done) | (simp; omega))))
      go_wp2_with (go_at_call 14; refine (Valid_any _ _ _).mono ?_; rintro e w' ⟨rfl, rfl⟩)
      go_ret
      exact ⟨rfl, (by ((repeat' (first | exact Below.refl _ _ | exact cBB | refine Below.alloc ?_ ?_ _ | refine Below.setCell ?_ ?_ _ | refine Below.drew ?_ | refine below_drewN ?_ _ | refine Below.trans ?_ (cBB.mono ?_))) <;> (first | omega | (simp; done) | (simp; omega))))⟩
end Go.Proofs.Ytgoimbddefefdaa
