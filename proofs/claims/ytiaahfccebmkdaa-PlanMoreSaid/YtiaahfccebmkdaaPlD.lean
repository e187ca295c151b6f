/- Package plan: check. -/
import Derived.Test.YtiaahfccebmkdaaPlC
namespace Go.Proofs.Ytiaahfccebmkdaa
open Go.RowKit

set_option maxRecDepth 100000 in
set_option maxHeartbeats 1000000 in
theorem plCheck_any (r f lo tm : Int) (pv : Value) (ps : List Pr) (v : Value) (pl : List Int) (w : World) (hp : PrRow w pv ps) (hv : IsRow w v pl) :
    Calls Try.prog 24 #[.agg #[.int .i64 r, .int .i64 f, .int .i64 lo, .int .i64 tm, pv], v] w fun e w' => e = .returned (.int .i64 (ckE ⟨r, f, lo, tm, ps⟩ pl)) ∧ Below w.heap.size w w' := by
  have hR : ∀ W : World, Below w.heap.size w W → PrRow W pv ps ∧ IsRow W v pl := fun W hW => ⟨hp.below (Nat.le_refl _) hW, hv.below (Nat.le_refl _) hW⟩
  have HR := hide hR
  obtain ⟨pa, pc, rfl, q1, q2⟩ := hp.len
  clear hR hp hv
  cases hA : siB ⟨r, f, lo, tm, ps⟩ with
  | false =>
    have e1 : ckE ⟨r, f, lo, tm, ps⟩ pl = 1 := by unfold ckE; rw [if_neg (by simp [hA])]
    rw [e1]
    clear e1
    go_enter Try.func24, Try.ntmps24
    go_wp2_with fail
    refine (wdValid_any r f lo tm _ ps _ (HR.out _ (by ((repeat' (first | with_reducible exact Below.refl _ _ | with_reducible refine Below.alloc ?_ ?_ _ | with_reducible refine Below.setCell ?_ ?_ _ | with_reducible refine Below.drew ?_ | with_reducible refine below_drewN ?_ _)) <;> (first | omega | (simp; done) | (simp; omega))))).1).mono ?_
    rintro e w1 ⟨rfl, b1⟩
    obtain ⟨kb1_0, fb1_0, zb1_0, zab1_0, zbb1_0, zcb1_0, zdb1_0, zeb1_0⟩ := bk3 b1 (w.heap.size) (by first | omega | (simp; done) | (simp; omega))
    have z1 := b1.size
    simp at z1
    rw [hA]
    go_wp2_with fail
    go_ret
    exact ⟨rfl, (by ((repeat' (first | with_reducible exact Below.refl _ _ | with_reducible exact b1 | with_reducible refine Below.alloc ?_ ?_ _ | with_reducible refine Below.setCell ?_ ?_ _ | with_reducible refine Below.drew ?_ | with_reducible refine below_drewN ?_ _ | with_reducible refine Below.trans ?_ (b1.mono ?_))) <;> (first | omega | (simp; done) | (simp; omega))))⟩
  | true =>
    cases hB : prdB tm pl with
    | false =>
      have e1 : ckE ⟨r, f, lo, tm, ps⟩ pl = 1 := by unfold ckE; rw [if_neg (by simp [hB])]
      rw [e1]
      clear e1
      go_enter Try.func24, Try.ntmps24
      go_wp2_with fail
      refine (wdValid_any r f lo tm _ ps _ (HR.out _ (by ((repeat' (first | with_reducible exact Below.refl _ _ | with_reducible refine Below.alloc ?_ ?_ _ | with_reducible refine Below.setCell ?_ ?_ _ | with_reducible refine Below.drew ?_ | with_reducible refine below_drewN ?_ _)) <;> (first | omega | (simp; done) | (simp; omega))))).1).mono ?_
      rintro e w1 ⟨rfl, b1⟩
      obtain ⟨kb1_0, fb1_0, zb1_0, zab1_0, zbb1_0, zcb1_0, zdb1_0, zeb1_0⟩ := bk3 b1 (w.heap.size) (by first | omega | (simp; done) | (simp; omega))
      have z1 := b1.size
      simp at z1
      rw [hA]
      go_wp2_with fail
      refine (isPeriods_any r f lo tm _ _ pl _ (HR.out _ (by ((repeat' (first | with_reducible exact Below.refl _ _ | with_reducible exact b1 | with_reducible refine Below.alloc ?_ ?_ _ | with_reducible refine Below.setCell ?_ ?_ _ | with_reducible refine Below.drew ?_ | with_reducible refine below_drewN ?_ _ | with_reducible refine Below.trans ?_ (b1.mono ?_))) <;> (first | omega | (simp; done) | (simp; omega))))).2).mono ?_
      rintro e w2 ⟨rfl, b2⟩
      obtain ⟨kb2_0, fb2_0, zb2_0, zab2_0, zbb2_0, zcb2_0, zdb2_0, zeb2_0⟩ := bk3 b2 (w.heap.size) (by first | omega | (simp; done) | (simp; omega))
      rw [hB]
      go_wp2_with fail
      go_ret
      exact ⟨rfl, (by ((repeat' (first | with_reducible exact Below.refl _ _ | with_reducible exact b2 | with_reducible exact b1 | with_reducible refine Below.alloc ?_ ?_ _ | with_reducible refine Below.setCell ?_ ?_ _ | with_reducible refine Below.drew ?_ | with_reducible refine below_drewN ?_ _ | with_reducible refine Below.trans ?_ (b2.mono ?_) | with_reducible refine Below.trans ?_ (b1.mono ?_))) <;> (first | omega | (simp; done) | (simp; omega))))⟩
    | true =>
      have e1 : ckE ⟨r, f, lo, tm, ps⟩ pl = if ps.length ≤ 10 then 0 else 2 := by unfold ckE; rw [if_pos ⟨hA, hB⟩]
      generalize ckE ⟨r, f, lo, tm, ps⟩ pl = R at *
      have He := hide e1
      clear e1
      go_enter Try.func24, Try.ntmps24
      go_wp2_with fail
      refine (wdValid_any r f lo tm _ ps _ (HR.out _ (by ((repeat' (first | with_reducible exact Below.refl _ _ | with_reducible refine Below.alloc ?_ ?_ _ | with_reducible refine Below.setCell ?_ ?_ _ | with_reducible refine Below.drew ?_ | with_reducible refine below_drewN ?_ _)) <;> (first | omega | (simp; done) | (simp; omega))))).1).mono ?_
      rintro e w1 ⟨rfl, b1⟩
      obtain ⟨kb1_0, fb1_0, zb1_0, zab1_0, zbb1_0, zcb1_0, zdb1_0, zeb1_0⟩ := bk3 b1 (w.heap.size) (by first | omega | (simp; done) | (simp; omega))
      have z1 := b1.size
      simp at z1
      rw [hA]
      go_wp2_with fail
      refine (isPeriods_any r f lo tm _ _ pl _ (HR.out _ (by ((repeat' (first | with_reducible exact Below.refl _ _ | with_reducible exact b1 | with_reducible refine Below.alloc ?_ ?_ _ | with_reducible refine Below.setCell ?_ ?_ _ | with_reducible refine Below.drew ?_ | with_reducible refine below_drewN ?_ _ | with_reducible refine Below.trans ?_ (b1.mono ?_))) <;> (first | omega | (simp; done) | (simp; omega))))).2).mono ?_
      rintro e w2 ⟨rfl, b2⟩
      obtain ⟨kb2_0, fb2_0, zb2_0, zab2_0, zbb2_0, zcb2_0, zdb2_0, zeb2_0⟩ := bk3 b2 (w.heap.size) (by first | omega | (simp; done) | (simp; omega))
      rw [hB]
      by_cases h10 : ps.length ≤ 10
      · have d1 : decide ((10 : Int) < (ps.length : Int)) = false := decide_eq_false (by omega)
        go_wp2_with fail
        go_ret
        exact ⟨ret_int (by rw [He.out, if_pos h10]), (by ((repeat' (first | with_reducible exact Below.refl _ _ | with_reducible exact b2 | with_reducible exact b1 | with_reducible refine Below.alloc ?_ ?_ _ | with_reducible refine Below.setCell ?_ ?_ _ | with_reducible refine Below.drew ?_ | with_reducible refine below_drewN ?_ _ | with_reducible refine Below.trans ?_ (b2.mono ?_) | with_reducible refine Below.trans ?_ (b1.mono ?_))) <;> (first | omega | (simp; done) | (simp; omega))))⟩
      · have d1 : decide ((10 : Int) < (ps.length : Int)) = true := decide_eq_true (by omega)
        go_wp2_with fail
        go_ret
        exact ⟨ret_int (by rw [He.out, if_neg h10]), (by ((repeat' (first | with_reducible exact Below.refl _ _ | with_reducible exact b2 | with_reducible exact b1 | with_reducible refine Below.alloc ?_ ?_ _ | with_reducible refine Below.setCell ?_ ?_ _ | with_reducible refine Below.drew ?_ | with_reducible refine below_drewN ?_ _ | with_reducible refine Below.trans ?_ (b2.mono ?_) | with_reducible refine Below.trans ?_ (b1.mono ?_))) <;> (first | omega | (simp; done) | (simp; omega))))⟩
end Go.Proofs.Ytiaahfccebmkdaa
