/- The reference of package watch: Check. -/
import Derived.Test.YthklljlachljgaaWtE
namespace Go.Proofs.Ythklljlachljgaa
open Go.RowKit
attribute [local go_sem ↓] run_max_mx run_min_mn run_eql_iv run_neq_iv run_eql_al run_neq_al
set_option maxRecDepth 100000 in
set_option maxHeartbeats 1000000 in
theorem RCheck_arg (a b : Int) (va v : Value) (au : List Int) (l : List Iv) (f lost asked promise : Int) (w : World) (hva : IsRow w va au) (hv : IvRow w v l) (hr : rndB a b au l f lost asked promise = false) :
    Calls Try.prog 12 #[.agg #[.int .i64 a, .int .i64 b], va, v, .int .i64 f, .int .i64 lost, .int .i64 asked, .int .i64 promise] w (CkPost w a b au l f lost asked promise) := by
  have hw := hide (show way a b au l f lost asked promise = .arg by unfold way; rw [if_neg (by simp [hr])])
  have Hr := hide hr
  clear hr
  obtain ⟨a1, cap1, rfl, g1, g2, g3⟩ := id hva
  obtain ⟨a2, cap2, rfl, h1, h2, h3⟩ := id hv
  clear g3 h3
  go_enter Try.func12, Try.ntmps12
  go_wp2_with fail
  refine (RRound_any _ _ _ _ au l _ _ _ _ _ (hva.below (Nat.le_refl _) (by ((repeat' (first | exact Below.refl _ _ | refine Below.alloc ?_ ?_ _ | refine Below.setCell ?_ ?_ _ | refine Below.drew ?_ | refine below_drewN ?_ _)) <;> (first | omega | (simp; done) | (simp; omega))))) (hv.below (Nat.le_refl _) (by ((repeat' (first | exact Below.refl _ _ | refine Below.alloc ?_ ?_ _ | refine Below.setCell ?_ ?_ _ | refine Below.drew ?_ | refine below_drewN ?_ _)) <;> (first | omega | (simp; done) | (simp; omega)))))).mono ?_
  rintro e w1 ⟨rfl, b1⟩
  rw [Hr.out]
  obtain ⟨c1, f1⟩ := bk b1 (w.heap.size + 1) (by simp)
  obtain ⟨c0, f0⟩ := bk b1 w.heap.size (by simp; omega)
  obtain ⟨c2, f2⟩ := bk b1 (w.heap.size + 1 + 1) (by simp)
  have z1 := b1.size
  simp only [World.size_alloc] at z1
  have B1 : Below w.heap.size w w1 := (by ((repeat' (first | exact Below.refl _ _ | exact b1 | refine Below.alloc ?_ ?_ _ | refine Below.setCell ?_ ?_ _ | refine Below.drew ?_ | refine below_drewN ?_ _ | refine Below.trans ?_ (b1.mono ?_))) <;> (first | omega | (simp; done) | (simp; omega))))
  have d10 : w1.cell? ⟨w.heap.size + 1, 0, none⟩ = some (.int .i64 0) := by rw [c1]; simp [go_sem]
  have d11 : w1.cell? ⟨w.heap.size + 1, 1, none⟩ = some (.int .i64 0) := by rw [c1]; simp [go_sem]
  have d1f : ∀ o, w1.frozen? ⟨w.heap.size + 1, o, none⟩ = false := fun o => by rw [f1]; simp [go_sem]
  have d20 : w1.cell? ⟨w.heap.size + 1 + 1, 0, none⟩ = some (.int .i64 0) := by rw [c2]; simp [go_sem]
  have d21 : w1.cell? ⟨w.heap.size + 1 + 1, 1, none⟩ = some (.int .i64 0) := by rw [c2]; simp [go_sem]
  have d00 : w1.cell? ⟨w.heap.size, 0, none⟩ = some (.int .i64 a) := by rw [c0]; simp [go_sem]
  have d01 : w1.cell? ⟨w.heap.size, 1, none⟩ = some (.int .i64 b) := by rw [c0]; simp [go_sem]
  clear c0 c1 c2 f0 f1 f2 b1
  clear d00 d01
  go_wp2_with fail
  go_region
  all_goals go_wp2_with fail
  all_goals
    refine bodyPost_ret (v := .tuple #[.slice none 0 0, .agg #[.int .i64 0, .int .i64 0], .bool false, .int .i64 1]) (by simp [results, Try.results12, go_sem, d10, d11]) rfl (CkPost.no hw.out ?_)
    ((repeat' (first | exact Below.refl _ _ | exact B1 | refine Below.alloc ?_ ?_ _ | refine Below.setCell ?_ ?_ _ | refine Below.drew ?_ | refine below_drewN ?_ _ | refine Below.trans ?_ (B1.mono ?_))) <;> (first | omega | (simp; done) | (simp; omega)))
set_option maxRecDepth 100000 in
set_option maxHeartbeats 1000000 in
theorem RCheck_few1 (a b : Int) (va v : Value) (au : List Int) (l : List Iv) (f lost asked promise : Int) (w : World) (hva : IsRow w va au) (hv : IvRow w v l) (hr : rndB a b au l f lost asked promise = true) (hlt : (l.length : Int) < asked - lost) :
    Calls Try.prog 12 #[.agg #[.int .i64 a, .int .i64 b], va, v, .int .i64 f, .int .i64 lost, .int .i64 asked, .int .i64 promise] w (CkPost w a b au l f lost asked promise) := by
  have hw := hide (show way a b au l f lost asked promise = .few by unfold way; rw [if_pos hr, if_pos (by simp only [fewB, decide_eq_true_eq]; exact .inl hlt)])
  have hd : decide ((l.length : Int) < asked - lost) = true := decide_eq_true hlt
  have hri := (rndB_iff _ _ _ _ _ _ _ _).1 hr
  have hrl := rnd_list hr
  have hl16 := hrl.2.1
  have hfb := hri.2.2.2.2.1
  have hlb := hri.2.2.2.2.2.1
  have hab := hri.2.2.2.2.2.2.1
  have hpb := hri.2.2.2.2.2.2.2
  clear hri hrl
  have Hr := hide hr
  clear hr
  obtain ⟨a1, cap1, rfl, g1, g2, g3⟩ := id hva
  obtain ⟨a2, cap2, rfl, h1, h2, h3⟩ := id hv
  clear g3 h3
  go_enter Try.func12, Try.ntmps12
  go_wp2_with fail
  refine (RRound_any _ _ _ _ au l _ _ _ _ _ (hva.below (Nat.le_refl _) (by ((repeat' (first | exact Below.refl _ _ | refine Below.alloc ?_ ?_ _ | refine Below.setCell ?_ ?_ _ | refine Below.drew ?_ | refine below_drewN ?_ _)) <;> (first | omega | (simp; done) | (simp; omega))))) (hv.below (Nat.le_refl _) (by ((repeat' (first | exact Below.refl _ _ | refine Below.alloc ?_ ?_ _ | refine Below.setCell ?_ ?_ _ | refine Below.drew ?_ | refine below_drewN ?_ _)) <;> (first | omega | (simp; done) | (simp; omega)))))).mono ?_
  rintro e w1 ⟨rfl, b1⟩
  rw [Hr.out]
  obtain ⟨c1, f1⟩ := bk b1 (w.heap.size + 1) (by simp)
  obtain ⟨c0, f0⟩ := bk b1 w.heap.size (by simp; omega)
  obtain ⟨c2, f2⟩ := bk b1 (w.heap.size + 1 + 1) (by simp)
  have z1 := b1.size
  simp only [World.size_alloc] at z1
  have B1 : Below w.heap.size w w1 := (by ((repeat' (first | exact Below.refl _ _ | exact b1 | refine Below.alloc ?_ ?_ _ | refine Below.setCell ?_ ?_ _ | refine Below.drew ?_ | refine below_drewN ?_ _ | refine Below.trans ?_ (b1.mono ?_))) <;> (first | omega | (simp; done) | (simp; omega))))
  have d10 : w1.cell? ⟨w.heap.size + 1, 0, none⟩ = some (.int .i64 0) := by rw [c1]; simp [go_sem]
  have d11 : w1.cell? ⟨w.heap.size + 1, 1, none⟩ = some (.int .i64 0) := by rw [c1]; simp [go_sem]
  have d1f : ∀ o, w1.frozen? ⟨w.heap.size + 1, o, none⟩ = false := fun o => by rw [f1]; simp [go_sem]
  have d20 : w1.cell? ⟨w.heap.size + 1 + 1, 0, none⟩ = some (.int .i64 0) := by rw [c2]; simp [go_sem]
  have d21 : w1.cell? ⟨w.heap.size + 1 + 1, 1, none⟩ = some (.int .i64 0) := by rw [c2]; simp [go_sem]
  have d00 : w1.cell? ⟨w.heap.size, 0, none⟩ = some (.int .i64 a) := by rw [c0]; simp [go_sem]
  have d01 : w1.cell? ⟨w.heap.size, 1, none⟩ = some (.int .i64 b) := by rw [c0]; simp [go_sem]
  clear c0 c1 c2 f0 f1 f2 b1
  clear d00 d01
  go_wp2_with fail
  have m10 : ∀ O, (w1.alloc O).cell? ⟨w.heap.size + 1, 0, none⟩ = some (.int .i64 0) := fun O => (old1 w1 O (by omega) 0).1.trans d10
  have m11 : ∀ O, (w1.alloc O).cell? ⟨w.heap.size + 1, 1, none⟩ = some (.int .i64 0) := fun O => (old1 w1 O (by omega) 1).1.trans d11
  have m1f : ∀ O o, (w1.alloc O).frozen? ⟨w.heap.size + 1, o, none⟩ = false := fun O o => (old1 w1 O (by omega) o).2.trans (d1f o)
  have m20 : ∀ O, (w1.alloc O).cell? ⟨w.heap.size + 1 + 1, 0, none⟩ = some (.int .i64 0) := fun O => (old1 w1 O (by omega) 0).1.trans d20
  have m21 : ∀ O, (w1.alloc O).cell? ⟨w.heap.size + 1 + 1, 1, none⟩ = some (.int .i64 0) := fun O => (old1 w1 O (by omega) 1).1.trans d21
  have hrow := own_litA w1 w.heap.size [(2, 0)] 39 (by omega) (by simp)
  have hrow2 : OwnAl (w1.alloc (.cells #[.int .i64 2, .int .i64 0] 39)) w.heap.size (.slice (some ⟨w1.heap.size, 0, none⟩) 1 1) [(2, 0)] := by simpa [encL] using hrow
  have Hrow := hide hrow2
  clear hrow hrow2
  go_region
  all_goals go_wp2_with fail
  all_goals
    refine bodyPost_ret (v := .tuple #[.slice (some ⟨w1.heap.size, 0, none⟩) 1 1, .agg #[.int .i64 0, .int .i64 0], .bool false, .int .i64 0]) (by simp [results, Try.results12, go_sem, m10, m11]) rfl (CkPost.one (.inl hw.out) ?_ ?_)
    · rw [show alL a b au l f lost asked promise = [(2, 0)] by simp only [alL, hw.out]]
      refine World.ownsRow.drew ?_
      refine ownsRow_setCell_ne (ownsRow_setCell_ne Hrow.out ?_ _) ?_ _
      all_goals intro q hq
      all_goals cases hq
      all_goals show w1.heap.size ≠ w.heap.size + 1
      all_goals omega
    · ((repeat' (first | exact Below.refl _ _ | exact B1 | refine Below.alloc ?_ ?_ _ | refine Below.setCell ?_ ?_ _ | refine Below.drew ?_ | refine below_drewN ?_ _ | refine Below.trans ?_ (B1.mono ?_))) <;> (first | omega | (simp; done) | (simp; omega)))
set_option maxRecDepth 100000 in
set_option maxHeartbeats 1000000 in
theorem RCheck_few2 (a b : Int) (va v : Value) (au : List Int) (l : List Iv) (f lost asked promise : Int) (w : World) (hva : IsRow w va au) (hv : IvRow w v l) (hr : rndB a b au l f lost asked promise = true) (hlt : ¬ (l.length : Int) < asked - lost) (hle : (l.length : Int) ≤ f) :
    Calls Try.prog 12 #[.agg #[.int .i64 a, .int .i64 b], va, v, .int .i64 f, .int .i64 lost, .int .i64 asked, .int .i64 promise] w (CkPost w a b au l f lost asked promise) := by
  have hw := hide (show way a b au l f lost asked promise = .few by unfold way; rw [if_pos hr, if_pos (by simp only [fewB, decide_eq_true_eq]; exact .inr hle)])
  have hd : decide ((l.length : Int) < asked - lost) = false := decide_eq_false hlt
  have hd2 : decide ((l.length : Int) ≤ f) = true := decide_eq_true hle
  have hri := (rndB_iff _ _ _ _ _ _ _ _).1 hr
  have hrl := rnd_list hr
  have hl16 := hrl.2.1
  have hfb := hri.2.2.2.2.1
  have hlb := hri.2.2.2.2.2.1
  have hab := hri.2.2.2.2.2.2.1
  have hpb := hri.2.2.2.2.2.2.2
  clear hri hrl
  have Hr := hide hr
  clear hr
  obtain ⟨a1, cap1, rfl, g1, g2, g3⟩ := id hva
  obtain ⟨a2, cap2, rfl, h1, h2, h3⟩ := id hv
  clear g3 h3
  go_enter Try.func12, Try.ntmps12
  go_wp2_with fail
  refine (RRound_any _ _ _ _ au l _ _ _ _ _ (hva.below (Nat.le_refl _) (by ((repeat' (first | exact Below.refl _ _ | refine Below.alloc ?_ ?_ _ | refine Below.setCell ?_ ?_ _ | refine Below.drew ?_ | refine below_drewN ?_ _)) <;> (first | omega | (simp; done) | (simp; omega))))) (hv.below (Nat.le_refl _) (by ((repeat' (first | exact Below.refl _ _ | refine Below.alloc ?_ ?_ _ | refine Below.setCell ?_ ?_ _ | refine Below.drew ?_ | refine below_drewN ?_ _)) <;> (first | omega | (simp; done) | (simp; omega)))))).mono ?_
  rintro e w1 ⟨rfl, b1⟩
  rw [Hr.out]
  obtain ⟨c1, f1⟩ := bk b1 (w.heap.size + 1) (by simp)
  obtain ⟨c0, f0⟩ := bk b1 w.heap.size (by simp; omega)
  obtain ⟨c2, f2⟩ := bk b1 (w.heap.size + 1 + 1) (by simp)
  have z1 := b1.size
  simp only [World.size_alloc] at z1
  have B1 : Below w.heap.size w w1 := (by ((repeat' (first | exact Below.refl _ _ | exact b1 | refine Below.alloc ?_ ?_ _ | refine Below.setCell ?_ ?_ _ | refine Below.drew ?_ | refine below_drewN ?_ _ | refine Below.trans ?_ (b1.mono ?_))) <;> (first | omega | (simp; done) | (simp; omega))))
  have d10 : w1.cell? ⟨w.heap.size + 1, 0, none⟩ = some (.int .i64 0) := by rw [c1]; simp [go_sem]
  have d11 : w1.cell? ⟨w.heap.size + 1, 1, none⟩ = some (.int .i64 0) := by rw [c1]; simp [go_sem]
  have d1f : ∀ o, w1.frozen? ⟨w.heap.size + 1, o, none⟩ = false := fun o => by rw [f1]; simp [go_sem]
  have d20 : w1.cell? ⟨w.heap.size + 1 + 1, 0, none⟩ = some (.int .i64 0) := by rw [c2]; simp [go_sem]
  have d21 : w1.cell? ⟨w.heap.size + 1 + 1, 1, none⟩ = some (.int .i64 0) := by rw [c2]; simp [go_sem]
  have d00 : w1.cell? ⟨w.heap.size, 0, none⟩ = some (.int .i64 a) := by rw [c0]; simp [go_sem]
  have d01 : w1.cell? ⟨w.heap.size, 1, none⟩ = some (.int .i64 b) := by rw [c0]; simp [go_sem]
  clear c0 c1 c2 f0 f1 f2 b1
  clear d00 d01
  go_wp2_with fail
  have m10 : ∀ O, (w1.alloc O).cell? ⟨w.heap.size + 1, 0, none⟩ = some (.int .i64 0) := fun O => (old1 w1 O (by omega) 0).1.trans d10
  have m11 : ∀ O, (w1.alloc O).cell? ⟨w.heap.size + 1, 1, none⟩ = some (.int .i64 0) := fun O => (old1 w1 O (by omega) 1).1.trans d11
  have m1f : ∀ O o, (w1.alloc O).frozen? ⟨w.heap.size + 1, o, none⟩ = false := fun O o => (old1 w1 O (by omega) o).2.trans (d1f o)
  have m20 : ∀ O, (w1.alloc O).cell? ⟨w.heap.size + 1 + 1, 0, none⟩ = some (.int .i64 0) := fun O => (old1 w1 O (by omega) 0).1.trans d20
  have m21 : ∀ O, (w1.alloc O).cell? ⟨w.heap.size + 1 + 1, 1, none⟩ = some (.int .i64 0) := fun O => (old1 w1 O (by omega) 1).1.trans d21
  have hrow := own_litA w1 w.heap.size [(2, 0)] 39 (by omega) (by simp)
  have hrow2 : OwnAl (w1.alloc (.cells #[.int .i64 2, .int .i64 0] 39)) w.heap.size (.slice (some ⟨w1.heap.size, 0, none⟩) 1 1) [(2, 0)] := by simpa [encL] using hrow
  have Hrow := hide hrow2
  clear hrow hrow2
  go_region
  all_goals go_wp2_with fail
  all_goals
    refine bodyPost_ret (v := .tuple #[.slice (some ⟨w1.heap.size, 0, none⟩) 1 1, .agg #[.int .i64 0, .int .i64 0], .bool false, .int .i64 0]) (by simp [results, Try.results12, go_sem, m10, m11]) rfl (CkPost.one (.inl hw.out) ?_ ?_)
    · rw [show alL a b au l f lost asked promise = [(2, 0)] by simp only [alL, hw.out]]
      refine World.ownsRow.drew ?_
      refine ownsRow_setCell_ne (ownsRow_setCell_ne Hrow.out ?_ _) ?_ _
      all_goals intro q hq
      all_goals cases hq
      all_goals show w1.heap.size ≠ w.heap.size + 1
      all_goals omega
    · ((repeat' (first | exact Below.refl _ _ | exact B1 | refine Below.alloc ?_ ?_ _ | refine Below.setCell ?_ ?_ _ | refine Below.drew ?_ | refine below_drewN ?_ _ | refine Below.trans ?_ (B1.mono ?_))) <;> (first | omega | (simp; done) | (simp; omega)))
theorem fewB_or {l : List Iv} {f lost asked : Int} (h : fewB l f lost asked = false) : ¬ (l.length : Int) < asked - lost ∧ ¬ (l.length : Int) ≤ f := by
  simp only [fewB, decide_eq_false_iff_not] at h; omega
set_option maxRecDepth 100000 in
set_option maxHeartbeats 1000000 in
theorem RCheck_empty (a b : Int) (va v : Value) (au : List Int) (l : List Iv) (f lost asked promise : Int) (w : World) (hva : IsRow w va au) (hv : IvRow w v l) (hr : rndB a b au l f lost asked promise = true) (hfew : fewB l f lost asked = false) (he : cbEr l f ≠ 0) :
    Calls Try.prog 12 #[.agg #[.int .i64 a, .int .i64 b], va, v, .int .i64 f, .int .i64 lost, .int .i64 asked, .int .i64 promise] w (CkPost w a b au l f lost asked promise) := by
  have hw := hide (show way a b au l f lost asked promise = .empty by unfold way; rw [if_pos hr, if_neg (by simp [hfew]), if_neg he])
  have hfe := fewB_or hfew
  have hd : decide ((l.length : Int) < asked - lost) = false := decide_eq_false hfe.1
  have hd2 : decide ((l.length : Int) ≤ f) = false := decide_eq_false hfe.2
  have hne : (cbEr l f == 0) = false := by rw [beq_eq_false_iff_ne]; exact he
  have hne2 : (cbEr l f != 0) = true := by rw [bne_iff_ne]; exact he
  clear hfew he hfe
  have hri := (rndB_iff _ _ _ _ _ _ _ _).1 hr
  have hrl := rnd_list hr
  have hl16 := hrl.2.1
  have hfb := hri.2.2.2.2.1
  have hlb := hri.2.2.2.2.2.1
  have hab := hri.2.2.2.2.2.2.1
  have hpb := hri.2.2.2.2.2.2.2
  clear hri hrl
  have Hr := hide hr
  clear hr
  obtain ⟨a1, cap1, rfl, g1, g2, g3⟩ := id hva
  obtain ⟨a2, cap2, rfl, h1, h2, h3⟩ := id hv
  clear g3 h3
  go_enter Try.func12, Try.ntmps12
  go_wp2_with fail
  refine (RRound_any _ _ _ _ au l _ _ _ _ _ (hva.below (Nat.le_refl _) (by ((repeat' (first | exact Below.refl _ _ | refine Below.alloc ?_ ?_ _ | refine Below.setCell ?_ ?_ _ | refine Below.drew ?_ | refine below_drewN ?_ _)) <;> (first | omega | (simp; done) | (simp; omega))))) (hv.below (Nat.le_refl _) (by ((repeat' (first | exact Below.refl _ _ | refine Below.alloc ?_ ?_ _ | refine Below.setCell ?_ ?_ _ | refine Below.drew ?_ | refine below_drewN ?_ _)) <;> (first | omega | (simp; done) | (simp; omega)))))).mono ?_
  rintro e w1 ⟨rfl, b1⟩
  rw [Hr.out]
  obtain ⟨c1, f1⟩ := bk b1 (w.heap.size + 1) (by simp)
  obtain ⟨c0, f0⟩ := bk b1 w.heap.size (by simp; omega)
  obtain ⟨c2, f2⟩ := bk b1 (w.heap.size + 1 + 1) (by simp)
  have z1 := b1.size
  simp only [World.size_alloc] at z1
  have B1 : Below w.heap.size w w1 := (by ((repeat' (first | exact Below.refl _ _ | exact b1 | refine Below.alloc ?_ ?_ _ | refine Below.setCell ?_ ?_ _ | refine Below.drew ?_ | refine below_drewN ?_ _ | refine Below.trans ?_ (b1.mono ?_))) <;> (first | omega | (simp; done) | (simp; omega))))
  have d10 : w1.cell? ⟨w.heap.size + 1, 0, none⟩ = some (.int .i64 0) := by rw [c1]; simp [go_sem]
  have d11 : w1.cell? ⟨w.heap.size + 1, 1, none⟩ = some (.int .i64 0) := by rw [c1]; simp [go_sem]
  have d1f : ∀ o, w1.frozen? ⟨w.heap.size + 1, o, none⟩ = false := fun o => by rw [f1]; simp [go_sem]
  have d20 : w1.cell? ⟨w.heap.size + 1 + 1, 0, none⟩ = some (.int .i64 0) := by rw [c2]; simp [go_sem]
  have d21 : w1.cell? ⟨w.heap.size + 1 + 1, 1, none⟩ = some (.int .i64 0) := by rw [c2]; simp [go_sem]
  have d00 : w1.cell? ⟨w.heap.size, 0, none⟩ = some (.int .i64 a) := by rw [c0]; simp [go_sem]
  have d01 : w1.cell? ⟨w.heap.size, 1, none⟩ = some (.int .i64 b) := by rw [c0]; simp [go_sem]
  clear c0 c1 c2 f0 f1 f2 b1
  go_wp2_with fail
  refine (RCombine_any _ l _ _ (hv.below (Nat.le_refl _) B1)).mono ?_
  rintro e w2 ⟨rfl, b2⟩
  have z2 := b2.size
  obtain ⟨k1, l1⟩ := bk b2 (w.heap.size + 1) (by omega)
  obtain ⟨k2, l2⟩ := bk b2 (w.heap.size + 1 + 1) (by omega)
  have c10 := (k1 0).trans d10
  have c11 := (k1 1).trans d11
  have c1f := fun o => (l1 o).trans (d1f o)
  have c20 := (k2 0).trans d20
  have c21 := (k2 1).trans d21
  have B2 : Below w.heap.size w w2 := (by ((repeat' (first | exact Below.refl _ _ | exact B1 | exact b2 | refine Below.alloc ?_ ?_ _ | refine Below.setCell ?_ ?_ _ | refine Below.drew ?_ | refine below_drewN ?_ _ | refine Below.trans ?_ (B1.mono ?_) | refine Below.trans ?_ (b2.mono ?_))) <;> (first | omega | (simp; done) | (simp; omega))))
  clear d00 d01 k1 l1 k2 l2 d10 d11 d1f d20 d21 b2
  have d10 := ((old1 w2 (.cells #[.int .i64 (cbLo l f), .int .i64 (cbHi l f)] 23) (b := w.heap.size + 1) (by omega) 0).1).trans c10
  have d11 := ((old1 w2 (.cells #[.int .i64 (cbLo l f), .int .i64 (cbHi l f)] 23) (b := w.heap.size + 1) (by omega) 1).1).trans c11
  have d1f := fun o => ((old1 w2 (.cells #[.int .i64 (cbLo l f), .int .i64 (cbHi l f)] 23) (b := w.heap.size + 1) (by omega) o).2).trans (c1f o)
  have d20 := ((old1 w2 (.cells #[.int .i64 (cbLo l f), .int .i64 (cbHi l f)] 23) (b := w.heap.size + 1 + 1) (by omega) 0).1).trans c20
  have d21 := ((old1 w2 (.cells #[.int .i64 (cbLo l f), .int .i64 (cbHi l f)] 23) (b := w.heap.size + 1 + 1) (by omega) 1).1).trans c21
  have B3 : Below w.heap.size w (w2.alloc (.cells #[.int .i64 (cbLo l f), .int .i64 (cbHi l f)] 23)) := (by ((repeat' (first | exact Below.refl _ _ | exact B2 | refine Below.alloc ?_ ?_ _ | refine Below.setCell ?_ ?_ _ | refine Below.drew ?_ | refine below_drewN ?_ _ | refine Below.trans ?_ (B2.mono ?_))) <;> (first | omega | (simp; done) | (simp; omega))))
  have z3 : w2.heap.size < (w2.alloc (.cells #[.int .i64 (cbLo l f), .int .i64 (cbHi l f)] 23)).heap.size := by simp
  clear c10 c11 c1f c20 c21 B2
  go_upto_region 8 with fail
  generalize w2.alloc (.cells #[.int .i64 (cbLo l f), .int .i64 (cbHi l f)] 23) = w3 at *
  have m10 : ∀ O, (w3.alloc O).cell? ⟨w.heap.size + 1, 0, none⟩ = some (.int .i64 0) := fun O => (old1 w3 O (by omega) 0).1.trans d10
  have m11 : ∀ O, (w3.alloc O).cell? ⟨w.heap.size + 1, 1, none⟩ = some (.int .i64 0) := fun O => (old1 w3 O (by omega) 1).1.trans d11
  have m1f : ∀ O o, (w3.alloc O).frozen? ⟨w.heap.size + 1, o, none⟩ = false := fun O o => (old1 w3 O (by omega) o).2.trans (d1f o)
  have m20 : ∀ O, (w3.alloc O).cell? ⟨w.heap.size + 1 + 1, 0, none⟩ = some (.int .i64 0) := fun O => (old1 w3 O (by omega) 0).1.trans d20
  have m21 : ∀ O, (w3.alloc O).cell? ⟨w.heap.size + 1 + 1, 1, none⟩ = some (.int .i64 0) := fun O => (old1 w3 O (by omega) 1).1.trans d21
  have hrow := own_litA w3 w.heap.size [(1, 0)] 39 (by omega) (by simp)
  have hrow2 : OwnAl (w3.alloc (.cells #[.int .i64 1, .int .i64 0] 39)) w.heap.size (.slice (some ⟨w3.heap.size, 0, none⟩) 1 1) [(1, 0)] := by simpa [encL] using hrow
  have Hrow := hide hrow2
  clear hrow hrow2
  go_region
  all_goals go_wp2_with fail
  all_goals
    refine bodyPost_ret (v := .tuple #[.slice (some ⟨w3.heap.size, 0, none⟩) 1 1, .agg #[.int .i64 0, .int .i64 0], .bool false, .int .i64 0]) (by simp [results, Try.results12, go_sem, m10, m11]) rfl (CkPost.one (.inr hw.out) ?_ ?_)
    · rw [show alL a b au l f lost asked promise = [(1, 0)] by simp only [alL, hw.out]]
      refine World.ownsRow.drew ?_
      refine ownsRow_setCell_ne (ownsRow_setCell_ne Hrow.out ?_ _) ?_ _
      all_goals intro q hq
      all_goals cases hq
      all_goals show w3.heap.size ≠ w.heap.size + 1
      all_goals omega
    · ((repeat' (first | exact Below.refl _ _ | exact B3 | refine Below.alloc ?_ ?_ _ | refine Below.setCell ?_ ?_ _ | refine Below.drew ?_ | refine below_drewN ?_ _ | refine Below.trans ?_ (B3.mono ?_))) <;> (first | omega | (simp; done) | (simp; omega)))
end Go.Proofs.Ythklljlachljgaa
