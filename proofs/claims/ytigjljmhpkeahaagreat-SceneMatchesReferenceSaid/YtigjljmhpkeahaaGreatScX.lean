
/- Package scene: what the laws' walks share. -/
import Derived.Test.YtigjljmhpkeahaaGreatScV
import Derived.Test.YtigjljmhpkeahaaGreatScW
import Derived.Test.YtigjljmhpkeahaaGreatGh
namespace Go.Proofs.YtigjljmhpkeahaaGreat
open Go.RowKit

def IvBox (W : World) (g : Nat) (a b : Int) : Prop := W.cell? ⟨g, 0, none⟩ = some (.int .i64 a) ∧ W.cell? ⟨g, 1, none⟩ = some (.int .i64 b) ∧ g < W.heap.size
theorem IvBox.below {w W : World} {g : Nat} {a b : Int} (h : IvBox w g a b) (hb : Below w.heap.size w W) : IvBox W g a b := by
 have h0 := (bk hb g h.2.2).1
 exact ⟨(h0 _).trans h.1, (h0 _).trans h.2.1, Nat.lt_of_lt_of_le h.2.2 hb.size⟩
theorem IvBox.made {w : World} {a b : Int} {t : TypeId} : IvBox (w.alloc (.cells #[.int .i64 a, .int .i64 b] t)) w.heap.size a b := by
 refine ⟨?_, ?_, ?_⟩ <;> simp
set_option maxRecDepth 100000 in
set_option maxHeartbeats 1000000 in
theorem scFew_any (r f lo tm : Int) (pv : Value) (ps : List Pr) (uv : Value) (use : List Int) (ev at_ : Int) (av : Value) (an : List An) (ct : Int) (w : World) (hp : PrRow w pv ps) (hu : IsRow w uv use) (ha : AnRow w av an) :
  Calls Tryz.prog 12 #[.agg #[.int .i64 r, .int .i64 f, .int .i64 lo, .int .i64 tm, pv], .agg #[uv, .int .i64 ev, .int .i64 at_, av, .int .i64 ct]] w fun e w' => e = .returned (.bool (decide ((ps.length ≤ 20 ∧ use.length ≤ 20) ∧ an.length ≤ 20))) ∧ Below w.heap.size w w' := by
 obtain ⟨aa, ac, rfl, q1, q2⟩ := ha.len
 have hR : ∀ W : World, Below w.heap.size w W → PrRow W pv ps ∧ IsRow W uv use := fun W hW => ⟨hp.below (Nat.le_refl _) hW, hu.below (Nat.le_refl _) hW⟩
 have HR := hide hR
 clear hR hp hu ha
 cases h1 : decide (ps.length ≤ 20 ∧ use.length ≤ 20) with
 | false =>
  have hd : decide ((ps.length ≤ 20 ∧ use.length ≤ 20) ∧ an.length ≤ 20) = false := by
   rw [decide_eq_false_iff_not] at h1 ⊢
   exact fun h => h1 h.1
  rw [hd]
  clear hd
  go_enter Tryz.func12, Tryz.ntmps12
  go_wp2_with (go_at_call 13; (with_reducible refine (R29Few_any r f lo tm _ ps _ use ev _ (HR.out _ (by ((with_reducible repeat' first | exact .refl _ _ | refine .alloc ?_ ?_ _ | refine .setCell ?_ ?_ _ | refine .drew ?_ | refine below_drewN ?_ _) <;> first | omega | simp <;> omega))).1 (HR.out _ (by ((with_reducible repeat' first | exact .refl _ _ | refine .alloc ?_ ?_ _ | refine .setCell ?_ ?_ _ | refine .drew ?_ | refine below_drewN ?_ _) <;> first | omega | simp <;> omega))).2).mono ?_); rintro e w1 ⟨rfl, k1⟩; rw [h1])
  go_ret
  exact ⟨rfl, (by ((with_reducible repeat' first | exact .refl _ _ | exact k1 | refine .alloc ?_ ?_ _ | refine .setCell ?_ ?_ _ | refine .drew ?_ | refine below_drewN ?_ _ | refine Below.trans ?_ (k1.mono ?_)) <;> first | omega | simp <;> omega))⟩
 | true =>
  have hz := of_decide_eq_true h1
  by_cases h2 : an.length ≤ 20
  ·have d2 : decide ((an.length : Int) ≤ 20) = true := decide_eq_true (by omega)
   rw [decide_eq_true (show (ps.length ≤ 20 ∧ use.length ≤ 20) ∧ an.length ≤ 20 from ⟨hz, h2⟩)]
   clear hz h2
   go_enter Tryz.func12, Tryz.ntmps12
   go_wp2_with (go_at_call 13; (with_reducible refine (R29Few_any r f lo tm _ ps _ use ev _ (HR.out _ (by ((with_reducible repeat' first | exact .refl _ _ | refine .alloc ?_ ?_ _ | refine .setCell ?_ ?_ _ | refine .drew ?_ | refine below_drewN ?_ _) <;> first | omega | simp <;> omega))).1 (HR.out _ (by ((with_reducible repeat' first | exact .refl _ _ | refine .alloc ?_ ?_ _ | refine .setCell ?_ ?_ _ | refine .drew ?_ | refine below_drewN ?_ _) <;> first | omega | simp <;> omega))).2).mono ?_); rintro e w1 ⟨rfl, k1⟩; rw [h1]; obtain ⟨kk1_0, fk1_0, zk1_0, zak1_0, zbk1_0, zck1_0, zdk1_0, zek1_0⟩ := bk3 k1 (w.heap.size) (by first | omega | simp <;> omega); obtain ⟨kk1_1, fk1_1, zk1_1, zak1_1, zbk1_1, zck1_1, zdk1_1, zek1_1⟩ := bk3 k1 (w.heap.size + 1) (by first | omega | simp <;> omega))
   go_ret
   exact ⟨rfl, (by ((with_reducible repeat' first | exact .refl _ _ | exact k1 | refine .alloc ?_ ?_ _ | refine .setCell ?_ ?_ _ | refine .drew ?_ | refine below_drewN ?_ _ | refine Below.trans ?_ (k1.mono ?_)) <;> first | omega | simp <;> omega))⟩
  ·have d2 : decide ((an.length : Int) ≤ 20) = false := decide_eq_false (by omega)
   rw [decide_eq_false (show ¬ ((ps.length ≤ 20 ∧ use.length ≤ 20) ∧ an.length ≤ 20) from fun h => h2 h.2)]
   clear hz h2
   go_enter Tryz.func12, Tryz.ntmps12
   go_wp2_with (go_at_call 13; (with_reducible refine (R29Few_any r f lo tm _ ps _ use ev _ (HR.out _ (by ((with_reducible repeat' first | exact .refl _ _ | refine .alloc ?_ ?_ _ | refine .setCell ?_ ?_ _ | refine .drew ?_ | refine below_drewN ?_ _) <;> first | omega | simp <;> omega))).1 (HR.out _ (by ((with_reducible repeat' first | exact .refl _ _ | refine .alloc ?_ ?_ _ | refine .setCell ?_ ?_ _ | refine .drew ?_ | refine below_drewN ?_ _) <;> first | omega | simp <;> omega))).2).mono ?_); rintro e w1 ⟨rfl, k1⟩; rw [h1]; obtain ⟨kk1_0, fk1_0, zk1_0, zak1_0, zbk1_0, zck1_0, zdk1_0, zek1_0⟩ := bk3 k1 (w.heap.size) (by first | omega | simp <;> omega); obtain ⟨kk1_1, fk1_1, zk1_1, zak1_1, zbk1_1, zck1_1, zdk1_1, zek1_1⟩ := bk3 k1 (w.heap.size + 1) (by first | omega | simp <;> omega))
   go_ret
   exact ⟨rfl, (by ((with_reducible repeat' first | exact .refl _ _ | exact k1 | refine .alloc ?_ ?_ _ | refine .setCell ?_ ?_ _ | refine .drew ?_ | refine below_drewN ?_ _ | refine Below.trans ?_ (k1.mono ?_)) <;> first | omega | simp <;> omega))⟩
end Go.Proofs.YtigjljmhpkeahaaGreat
