
/- Package scene, the reference: what is asked of one answer; link's and belief's reference. -/
import Derived.Test.YtigjljmhpkeahaaGreatScD
import Derived.Test.YtigjljmhpkeahaaGreatGg
namespace Go.Proofs.YtigjljmhpkeahaaGreat
open Go.RowKit
attribute [local go_sem ↓] run_max_mx run_min_mn run_eql_iv run_neq_iv run_eql_an run_neq_an

theorem anFit_au {a : An} {p : Pr} (h : a.au ≠ p.au) : anFit a p = false := by
 unfold anFit
 split
 ·exact decide_eq_false fun g => h g.1
 ·rw [decide_eq_false h, Bool.false_and]
theorem anFit_lost2 {a : An} {p : Pr} (h : a.ls = true) (g : a.au = p.au) : anFit a p = anEq ⟨a.au, a.ls, a.ou, a.bk, a.lo, a.hi⟩ ⟨a.au, true, 0, 0, 0, 0⟩ := by
 rw [anFit_lost h, g]
def valP (p : Pr) : Value := .agg #[.int .i64 p.au, .int .i64 p.er, .int .i64 p.co, .int .i64 p.at_, .int .i64 p.ol, .int .i64 p.oh, .int .i64 p.bl, .int .i64 p.bh]
set_option maxRecDepth 100000 in
set_option maxHeartbeats 1000000 in
theorem R32answer_any (a : An) (p : Pr) (w : World) : Calls Tryz.prog 71 #[valA a, valP p] w fun e w' => e = .returned (.bool (anFit a p)) ∧ Below w.heap.size w w' := by
 unfold valA valP
 by_cases h1 : a.au = p.au
 ·have d1 : (a.au != p.au) = false := by rw [h1]; simp
  cases hl : a.ls with
  | true =>
   rw [anFit_lost2 hl h1, hl]
   clear h1
   go_enter Tryz.func71, Tryz.ntmps71
   go_wp2_with fail
   go_ret
   exact ⟨rfl, (by ((with_reducible repeat' first | exact .refl _ _ | refine .alloc ?_ ?_ _ | refine .setCell ?_ ?_ _ | refine .drew ?_ | refine below_drewN ?_ _) <;> first | omega | simp <;> omega))⟩
  | false =>
   rw [anFit_some hl, decide_eq_true h1, Bool.true_and]
   clear h1
   cases h2 : inB a.ou 0 1000000 <;> cases h3 : inB a.bk 0 1000000
   all_goals
    go_enter Tryz.func71, Tryz.ntmps71
    go_wp2_with (first | (go_at_call 117; refine (R32delay_any _ _).mono ?_; rintro e w' ⟨rfl, rfl⟩) | (go_at_call 100; refine (RValid_any _ _ _).mono ?_; rintro e w' ⟨rfl, rfl⟩))
    go_ret
    exact ⟨ret_bool (by simp [*]), (by ((with_reducible repeat' first | exact .refl _ _ | refine .alloc ?_ ?_ _ | refine .setCell ?_ ?_ _ | refine .drew ?_ | refine below_drewN ?_ _) <;> first | omega | simp <;> omega))⟩
 ·have d1 : (a.au != p.au) = true := by rw [bne_iff_ne]; exact h1
  rw [anFit_au h1]
  clear h1
  go_enter Tryz.func71, Tryz.ntmps71
  go_wp2_with fail
  go_ret
  exact ⟨rfl, (by ((with_reducible repeat' first | exact .refl _ _ | refine .alloc ?_ ?_ _ | refine .setCell ?_ ?_ _ | refine .drew ?_ | refine below_drewN ?_ _) <;> first | omega | simp <;> omega))⟩
end Go.Proofs.YtigjljmhpkeahaaGreat
