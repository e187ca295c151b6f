
/- Package scene: what is asked of one answer. -/
import Derived.Test.YtigjljmhpkeahaaGreatScA
import Derived.Test.YtigjljmhpkeahaaGreatGa
import Derived.Test.YtigjljmhpkeahaaGreatGc
namespace Go.Proofs.YtigjljmhpkeahaaGreat
open Go.RowKit
attribute [local go_sem ↓] run_max_mx run_min_mn run_eql_iv run_neq_iv

theorem run_eql_an (w : World) (a1 : Int) (a2 : Bool) (a3 a4 a5 a6 b1 : Int) (b2 : Bool) (b3 b4 b5 b6 : Int) : (binOp .eql 59 (.agg #[.int .i64 a1, .bool a2, .int .i64 a3, .int .i64 a4, .int .i64 a5, .int .i64 a6]) (.agg #[.int .i64 b1, .bool b2, .int .i64 b3, .int .i64 b4, .int .i64 b5, .int .i64 b6])).run Tryz.prog w = .ok (.bool (anEq ⟨a1, a2, a3, a4, a5, a6⟩ ⟨b1, b2, b3, b4, b5, b6⟩)) w := by
 simp [go_sem, Tryz.underlying59, Tryz.underlying41]
 by_cases h1 : a1 = b1 <;> by_cases h2 : a2 = b2 <;> by_cases h3 : a3 = b3 <;> by_cases h4 : a4 = b4 <;> by_cases h5 : a5 = b5 <;> by_cases h6 : a6 = b6 <;> simp [anEq, h1, h2, h3, h4, h5, h6]
theorem run_neq_an (w : World) (a1 : Int) (a2 : Bool) (a3 a4 a5 a6 b1 : Int) (b2 : Bool) (b3 b4 b5 b6 : Int) : (binOp .neq 59 (.agg #[.int .i64 a1, .bool a2, .int .i64 a3, .int .i64 a4, .int .i64 a5, .int .i64 a6]) (.agg #[.int .i64 b1, .bool b2, .int .i64 b3, .int .i64 b4, .int .i64 b5, .int .i64 b6])).run Tryz.prog w = .ok (.bool (!anEq ⟨a1, a2, a3, a4, a5, a6⟩ ⟨b1, b2, b3, b4, b5, b6⟩)) w := by
 simp [go_sem, Tryz.underlying59, Tryz.underlying41]
 by_cases h1 : a1 = b1 <;> by_cases h2 : a2 = b2 <;> by_cases h3 : a3 = b3 <;> by_cases h4 : a4 = b4 <;> by_cases h5 : a5 = b5 <;> by_cases h6 : a6 = b6 <;> simp [anEq, h1, h2, h3, h4, h5, h6]
attribute [local go_sem ↓] run_eql_an run_neq_an
theorem anFit_lost {a : An} {p : Pr} (h : a.ls = true) : anFit a p = anEq ⟨a.au, a.ls, a.ou, a.bk, a.lo, a.hi⟩ ⟨p.au, true, 0, 0, 0, 0⟩ := by
 unfold anFit anEq
 rw [if_pos h, h]
 simp
theorem anFit_some {a : An} {p : Pr} (h : a.ls = false) : anFit a p = (decide (a.au = p.au) && (inB a.ou 0 1000000 && inB a.bk 0 1000000 && validB a.lo a.hi)) := by
 unfold anFit
 rw [if_neg (by rw [h]; simp)]
set_option maxRecDepth 100000 in
set_option maxHeartbeats 1000000 in
theorem scFits_any (s : Sd) (w : World) : Calls Tryz.prog 98 #[valS s] w fun e w' => e = .returned (.bool (anFit s.a s.p)) ∧ Below w.heap.size w w' := by
 unfold valS
 cases hl : s.a.ls with
 | true =>
  rw [anFit_lost hl, hl]
  go_enter Tryz.func98, Tryz.ntmps98
  go_wp2_with fail
  go_ret
  exact ⟨rfl, (by ((with_reducible repeat' first | exact .refl _ _ | refine .alloc ?_ ?_ _ | refine .setCell ?_ ?_ _ | refine .drew ?_ | refine below_drewN ?_ _) <;> first | omega | simp <;> omega))⟩
 | false =>
  rw [anFit_some hl]
  by_cases h1 : s.a.au = s.p.au
  ·have d1 : (s.a.au == s.p.au) = true := by rw [beq_iff_eq]; exact h1
   rw [decide_eq_true h1, Bool.true_and]
   cases h2 : inB s.a.ou 0 1000000 <;> cases h3 : inB s.a.bk 0 1000000
   all_goals
    have H1 := hide h1
    clear h1
    go_enter Tryz.func98, Tryz.ntmps98
    go_wp2_with (first | (go_at_call 31; refine (scWithin_any _ _ _ _).mono ?_; rintro e w' ⟨rfl, rfl⟩) | (go_at_call 149; refine (Valid_any _ _ _).mono ?_; rintro e w' ⟨rfl, rfl⟩))
    go_ret
    exact ⟨ret_bool (by simp), (by ((with_reducible repeat' first | exact .refl _ _ | refine .alloc ?_ ?_ _ | refine .setCell ?_ ?_ _ | refine .drew ?_ | refine below_drewN ?_ _) <;> first | omega | simp <;> omega))⟩
  ·have d1 : (s.a.au == s.p.au) = false := by rw [beq_eq_false_iff_ne]; exact h1
   rw [decide_eq_false h1, Bool.false_and]
   clear h1
   go_enter Tryz.func98, Tryz.ntmps98
   go_wp2_with fail
   go_ret
   exact ⟨rfl, (by ((with_reducible repeat' first | exact .refl _ _ | refine .alloc ?_ ?_ _ | refine .setCell ?_ ?_ _ | refine .drew ?_ | refine below_drewN ?_ _) <;> first | omega | simp <;> omega))⟩
set_option maxRecDepth 100000 in
set_option maxHeartbeats 1000000 in
theorem scSent_any (s : Sd) (w : World) : Calls Tryz.prog 56 #[valS s] w fun e w' =>
  e = .returned (.tuple #[.agg #[.int .i64 (snLo s.p.ol s.p.oh s.p.bl s.p.bh s.a.lo s.a.hi), .int .i64 (snHi s.p.ol s.p.oh s.p.bl s.p.bh s.a.lo s.a.hi)], .int .i64 (anSnE s.a s.p)]) ∧ Below w.heap.size w w' := by
 unfold valS
 have hE : snEr s.p.ol s.p.oh s.p.bl s.p.bh s.a.lo s.a.hi = anSnE s.a s.p := rfl
 have HE := hide hE
 clear hE
 obtain ⟨W0, hW0⟩ : ∃ W : World, W = (w.alloc (.cells #[.int .i64 s.a.au, .bool s.a.ls, .int .i64 s.a.ou, .int .i64 s.a.bk, .int .i64 s.a.lo, .int .i64 s.a.hi, .int .i64 s.p.au, .int .i64 s.p.er, .int .i64 s.p.co, .int .i64 s.p.at_, .int .i64 s.p.ol, .int .i64 s.p.oh, .int .i64 s.p.bl, .int .i64 s.p.bh, .int .i64 s.t] 88)).alloc (.cells #[.int .i64 0, .int .i64 0] 41) := ⟨_, rfl⟩
 have bW : Below w.heap.size w W0 := by rw [hW0]; ((with_reducible repeat' first | exact .refl _ _ | refine .alloc ?_ ?_ _ | refine .setCell ?_ ?_ _ | refine .drew ?_ | refine below_drewN ?_ _) <;> first | omega | simp <;> omega)
 have zW : W0.heap.size = w.heap.size + 2 := by rw [hW0]; simp
 have hc : W0.cell? ⟨w.heap.size, 4, none⟩ = some (.int .i64 s.a.lo) ∧ W0.cell? ⟨w.heap.size, 5, none⟩ = some (.int .i64 s.a.hi) ∧ W0.cell? ⟨w.heap.size, 9, none⟩ = some (.int .i64 s.p.at_) ∧ W0.cell? ⟨w.heap.size, 10, none⟩ = some (.int .i64 s.p.ol) ∧ W0.cell? ⟨w.heap.size, 11, none⟩ = some (.int .i64 s.p.oh) ∧ W0.cell? ⟨w.heap.size, 12, none⟩ = some (.int .i64 s.p.bl) ∧ W0.cell? ⟨w.heap.size, 13, none⟩ = some (.int .i64 s.p.bh) ∧
   W0.cell? ⟨w.heap.size + 1, 0, none⟩ = some (.int .i64 0) ∧ W0.cell? ⟨w.heap.size + 1, 1, none⟩ = some (.int .i64 0) ∧ W0.frozen? ⟨w.heap.size + 1, 0, none⟩ = false ∧ W0.frozen? ⟨w.heap.size + 1, 1, none⟩ = false := by
  rw [hW0]; refine ⟨?_, ?_, ?_, ?_, ?_, ?_, ?_, ?_, ?_, ?_, ?_⟩ <;> simp [go_sem]
 obtain ⟨c4, c5, c9, c10, c11, c12, c13, v0, v1, f0, f1⟩ := hc
 go_enter Tryz.func56, Tryz.ntmps56
 go_upto_region 1 with fail
 rw [← hW0]
 clear hW0
 go_wp2_with fail
 refine (Sent_any _ _ _ _ _ _ _ _).mono ?_
 rintro e w1 ⟨rfl, b1⟩
 have hk := bk b1 (w.heap.size + 1) (by omega)
 have u0 := (hk.1 0).trans v0
 have u1 := (hk.1 1).trans v1
 have g0 := (hk.2 0).trans f0
 have g1 := (hk.2 1).trans f1
 have z1 := b1.size
 clear hk c4 c5 c9 c10 c11 c12 c13 v0 v1 f0 f1
 go_wp2_with fail
 have hb : Below w.heap.size w w1 := bW.trans (b1.mono (by omega))
 generalize snLo s.p.ol s.p.oh s.p.bl s.p.bh s.a.lo s.a.hi = A at *
 generalize snHi s.p.ol s.p.oh s.p.bl s.p.bh s.a.lo s.a.hi = B at *
 have d0 : ((w1.setCell ⟨w.heap.size + 1, 0, none⟩ (.int .i64 A)).setCell ⟨w.heap.size + 1, 1, none⟩ (.int .i64 B)).cell? ⟨w.heap.size + 1, 0, none⟩ = some (.int .i64 A) := set_other _ (set_same _ u0) (by intro h; simp at h)
 have d1 : ((w1.setCell ⟨w.heap.size + 1, 0, none⟩ (.int .i64 A)).setCell ⟨w.heap.size + 1, 1, none⟩ (.int .i64 B)).cell? ⟨w.heap.size + 1, 1, none⟩ = some (.int .i64 B) := set_same _ (set_other _ u1 (by intro h; simp at h))
 exact bodyPost_ret (v := .tuple #[.agg #[.int .i64 A, .int .i64 B], .int .i64 (anSnE s.a s.p)]) (by simp [results, Tryz.results56, go_sem, d0, d1, HE.out]) rfl ⟨rfl, (by ((with_reducible repeat' first | exact .refl _ _ | exact hb | refine .alloc ?_ ?_ _ | refine .setCell ?_ ?_ _ | refine .drew ?_ | refine below_drewN ?_ _ | refine Below.trans ?_ (hb.mono ?_)) <;> first | omega | simp <;> omega))⟩
theorem dlOk_eq (a : An) (p : Pr) : dlOk a p = (decide (anSnE a p = 0) && (inB a.ou p.ol p.oh && inB a.bk p.bl p.bh)) := rfl
set_option maxRecDepth 100000 in
set_option maxHeartbeats 1000000 in
theorem scDelayed_any (s : Sd) (w : World) : Calls Tryz.prog 50 #[valS s] w fun e w' => e = .returned (.bool (dlOk s.a s.p)) ∧ Below w.heap.size w w' := by
 have hS := fun W => scSent_any s W
 unfold valS at *
 have HS := hide hS
 rw [dlOk_eq]
 generalize snLo s.p.ol s.p.oh s.p.bl s.p.bh s.a.lo s.a.hi = A at *
 generalize snHi s.p.ol s.p.oh s.p.bl s.p.bh s.a.lo s.a.hi = B at *
 generalize anSnE s.a s.p = E at *
 clear hS
 by_cases h1 : E = 0
 ·have d1 : (E == 0) = true := by rw [beq_iff_eq]; exact h1
  rw [decide_eq_true h1, Bool.true_and]
  clear h1
  cases h2 : inB s.a.ou s.p.ol s.p.oh
  all_goals
   go_enter Tryz.func50, Tryz.ntmps50
   go_wp2_with (first | (go_at_call 56; refine (HS.out _).mono ?_; rintro e w1 ⟨rfl, b1⟩; obtain ⟨kb1_0, fb1_0, zb1_0, zab1_0, zbb1_0, zcb1_0, zdb1_0, zeb1_0⟩ := bk3 b1 (w.heap.size) (by first | omega | simp <;> omega); obtain ⟨kb1_1, fb1_1, zb1_1, zab1_1, zbb1_1, zcb1_1, zdb1_1, zeb1_1⟩ := bk3 b1 (w.heap.size + 1) (by first | omega | simp <;> omega)) | (go_at_call 31; refine (scWithin_any _ _ _ _).mono ?_; rintro e w' ⟨rfl, rfl⟩))
   go_ret
   exact ⟨ret_bool (by simp), (by ((with_reducible repeat' first | exact .refl _ _ | exact b1 | refine .alloc ?_ ?_ _ | refine .setCell ?_ ?_ _ | refine .drew ?_ | refine below_drewN ?_ _ | refine Below.trans ?_ (b1.mono ?_)) <;> first | omega | simp <;> omega))⟩
 ·have d1 : (E == 0) = false := by rw [beq_eq_false_iff_ne]; exact h1
  rw [decide_eq_false h1, Bool.false_and]
  clear h1
  go_enter Tryz.func50, Tryz.ntmps50
  go_wp2_with (go_at_call 56; refine (HS.out _).mono ?_; rintro e w1 ⟨rfl, b1⟩; obtain ⟨kb1_0, fb1_0, zb1_0, zab1_0, zbb1_0, zcb1_0, zdb1_0, zeb1_0⟩ := bk3 b1 (w.heap.size) (by first | omega | simp <;> omega); obtain ⟨kb1_1, fb1_1, zb1_1, zab1_1, zbb1_1, zcb1_1, zdb1_1, zeb1_1⟩ := bk3 b1 (w.heap.size + 1) (by first | omega | simp <;> omega))
  go_ret
  exact ⟨rfl, (by ((with_reducible repeat' first | exact .refl _ _ | exact b1 | refine .alloc ?_ ?_ _ | refine .setCell ?_ ?_ _ | refine .drew ?_ | refine below_drewN ?_ _ | refine Below.trans ?_ (b1.mono ?_)) <;> first | omega | simp <;> omega))⟩
theorem hnOk_eq (a : An) (p : Pr) (t : Int) : hnOk a p t = (inB (t + a.ou) a.lo a.hi && decide (a.hi - a.lo ≤ 2 * p.er)) := rfl
set_option maxRecDepth 100000 in
set_option maxHeartbeats 1000000 in
theorem scHonest_any (s : Sd) (w : World) (h1 : 0 ≤ s.t ∧ s.t ≤ 3000000000000000) (h2 : 0 ≤ s.a.ou ∧ s.a.ou ≤ 1000000) (h3 : 0 ≤ s.a.lo ∧ s.a.lo ≤ 3000000000000000) (h4 : 0 ≤ s.a.hi ∧ s.a.hi ≤ 3000000000000000) (h5 : 0 ≤ s.p.er ∧ s.p.er ≤ 1000000) :
  Calls Tryz.prog 52 #[valS s] w fun e w' => e = .returned (.bool (hnOk s.a s.p s.t)) ∧ Below w.heap.size w w' := by
 unfold valS
 rw [hnOk_eq]
 have w1 : IntKind.i64.wrap (s.t + s.a.ou) = s.t + s.a.ou := IntWalk.i64_in _ (by omega)
 have w2 : IntKind.i64.wrap (s.a.hi - s.a.lo) = s.a.hi - s.a.lo := IntWalk.i64_in _ (by omega)
 have w3 : IntKind.i64.wrap (2 * s.p.er) = 2 * s.p.er := IntWalk.i64_in _ (by omega)
 clear h1 h2 h3 h4 h5
 cases h6 : inB (s.t + s.a.ou) s.a.lo s.a.hi
 all_goals
  go_enter Tryz.func52, Tryz.ntmps52
  go_wp2_with (go_at_call 31; refine (scWithin_any _ _ _ _).mono ?_; rintro e w' ⟨rfl, rfl⟩)
  go_ret
  exact ⟨ret_bool (by simp), (by ((with_reducible repeat' first | exact .refl _ _ | refine .alloc ?_ ?_ _ | refine .setCell ?_ ?_ _ | refine .drew ?_ | refine below_drewN ?_ _) <;> first | omega | simp <;> omega))⟩
end Go.Proofs.YtigjljmhpkeahaaGreat
