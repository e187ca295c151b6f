/- WatchFew: for whatever round and numbers the statement answers true and leaves its arguments as they were. No condition. -/
import Derived.Test.YthklljlachljgaaWtL
import Derived.Test.YthklljlachljgaaFs
namespace Go.Proofs.Ythklljlachljgaa
open Go.RowKit
attribute [local go_sem ↓] run_max_mx run_min_mn run_eql_iv run_neq_iv run_eql_al run_neq_al
theorem way_ways {a b : Int} {au : List Int} {l : List Iv} {f lost asked promise : Int} (h : rndB a b au l f lost asked promise = true) :
    (fewB l f lost asked = true ∧ way a b au l f lost asked promise = .few) ∨ (fewB l f lost asked = false ∧ cbEr l f = 21 ∧ way a b au l f lost asked promise = .empty) ∨ (fewB l f lost asked = false ∧ cbEr l f = 0 ∧ way a b au l f lost asked promise = .ok) := by
  cases hf : fewB l f lost asked with
  | true => exact .inl ⟨rfl, by unfold way; rw [if_pos h, if_pos hf]⟩
  | false =>
    have hl := (rnd_list h).1
    have hb := ((rndB_iff _ _ _ _ _ _ _ _).1 h).2.2.2.2.1
    have hok : setOk l f = true := (setOk_iff l f).2 ⟨hl, hb.1, by have := fewB_or hf; omega⟩
    rcases cb_ways l f with ⟨q1, q2, q3⟩ | ⟨q1, q2, q3⟩ | ⟨q1, q2, q3⟩
    · exact .inr (.inr ⟨rfl, q3, by unfold way; rw [if_pos h, if_neg (by simp [hf]), if_pos q3]⟩)
    · exact .inr (.inl ⟨rfl, q3, by unfold way; rw [if_pos h, if_neg (by simp [hf]), if_neg (by omega)]⟩)
    · exact absurd (setEr_ok hok) q1
theorem alL_ok {a b : Int} {au : List Int} {l : List Iv} {f lost asked promise : Int} (h : way a b au l f lost asked promise = .ok) : alL a b au l f lost asked promise = jL (jumpB a b l f) ++ lies au l f ++ yL (wideB l f promise) := by
  simp only [alL, h, jL, yL]
theorem head_jump (j y : Bool) (au : List Int) (l : List Iv) (f : Int) (h : 0 < (jL j ++ lies au l f ++ yL y).length) : ivEq (iLo (jL j ++ lies au l f ++ yL y) 0) (iHi (jL j ++ lies au l f ++ yL y) 0) 3 0 = j := by
  cases j with
  | true => simp [jL, iLo, iHi, ivEq]
  | false =>
    show ivEq (iLo (lies au l f ++ yL y) 0) (iHi (lies au l f ++ yL y) 0) 3 0 = false
    have h' : 0 < (lies au l f ++ yL y).length := by simpa [jL] using h
    obtain ⟨p, hp, e1, e2⟩ := mem_of_at h'
    rw [← e1, ← e2]
    have : p.1 ≠ 3 := by
      rcases List.mem_append.1 hp with h | h
      · obtain ⟨jj, _, e⟩ := (liesTo_mem au (outL l f) _ p).1 h
        rw [e]; simp
      · cases y
        · simp [yL] at h
        · simp [yL] at h; rw [h]; simp
    simp [ivEq, this]
theorem jump_none {j y : Bool} {au : List Int} {l : List Iv} {f : Int} (h : (jL j ++ lies au l f ++ yL y).length = 0) : j = false := by
  cases j with
  | false => rfl
  | true => simp [jL] at h
set_option maxRecDepth 100000 in
set_option maxHeartbeats 1000000 in
theorem WtFew_any (w : World) (a b : Int) (va : Value) (au : List Int) (hva : IsRow w va au) (_wa : WfI au) (v : Value) (l : List Iv) (hv : IvRow w v l) (f lost asked promise : Int) :
    Calls Try.prog 7 #[.agg #[.int .i64 a, .int .i64 b], va, v, .int .i64 f, .int .i64 lost, .int .i64 asked, .int .i64 promise] w fun e w' => e = .returned (.bool true) ∧ Below w.heap.size w w' := by
  obtain ⟨a1, cap1, rfl, g1, g2, g3⟩ := id hva
  obtain ⟨a2, cap2, rfl, h1, h2, h3⟩ := id hv
  clear g3 h3
  cases hr : rndB a b au l f lost asked promise with
  | false =>
    go_enter Try.func7, Try.ntmps7
    go_wp2_with fail
    refine (head_any _).mono ?_
    rintro e w1 ⟨rfl, b1⟩
    have z1 := b1.size
    simp only [World.size_alloc] at z1
    have B1 : Below w.heap.size w w1 := (by ((repeat' (first | exact Below.refl _ _ | exact b1 | refine Below.alloc ?_ ?_ _ | refine Below.setCell ?_ ?_ _ | refine Below.drew ?_ | refine below_drewN ?_ _ | refine Below.trans ?_ (b1.mono ?_))) <;> (first | omega | (simp; done) | (simp; omega))))
    obtain ⟨c0, f0⟩ := bk b1 w.heap.size (by simp)
    have d0 : w1.cell? ⟨w.heap.size, 0, none⟩ = some (.int .i64 a) := by rw [c0]; simp
    have d1 : w1.cell? ⟨w.heap.size, 1, none⟩ = some (.int .i64 b) := by rw [c0]; simp
    have hva1 := hva.below (Nat.le_refl _) B1
    have hv1 := hv.below (Nat.le_refl _) B1
    clear c0 f0 b1
    go_wp2_with fail
    refine (RRound_any _ _ _ _ au l _ _ _ _ _ hva1 hv1).mono ?_
    rintro e w2 ⟨rfl, b2⟩
    rw [hr]
    have z2 := b2.size
    have B2 : Below w.heap.size w w2 := (by ((repeat' (first | exact Below.refl _ _ | exact B1 | exact b2 | refine Below.alloc ?_ ?_ _ | refine Below.setCell ?_ ?_ _ | refine Below.drew ?_ | refine below_drewN ?_ _ | refine Below.trans ?_ (B1.mono ?_) | refine Below.trans ?_ (b2.mono ?_))) <;> (first | omega | (simp; done) | (simp; omega))))
    have e0 := (b2.cell (p := ⟨w.heap.size, 0, none⟩) (by show w.heap.size < w1.heap.size; omega)).trans d0
    have e1 := (b2.cell (p := ⟨w.heap.size, 1, none⟩) (by show w.heap.size < w1.heap.size; omega)).trans d1
    have hva2 := hva1.below (Nat.le_refl _) b2
    have hv2 := hv1.below (Nat.le_refl _) b2
    clear d0 d1 hva1 hv1 b2 B1
    go_wp2_with fail
    go_ret
    exact ⟨rfl, B2⟩
  | true =>
  have hri := (rndB_iff _ _ _ _ _ _ _ _).1 hr
  have hrl := rnd_list hr
  have hl16 := hrl.2.1
  have hfb := hri.2.2.2.2.1
  have hlb := hri.2.2.2.2.2.1
  have hab := hri.2.2.2.2.2.2.1
  have hpb := hri.2.2.2.2.2.2.2
  clear hri
  clear hrl
  rcases way_ways hr with ⟨hf, hw⟩ | ⟨hf, he, hw⟩ | ⟨hf, he, hw⟩
  · by_cases hlt : (l.length : Int) < asked - lost
    · skip
      have x1 : decide ((l.length : Int) < asked - lost) = true := decide_eq_true hlt
      have V1 : ckIs a b au l f lost asked promise = false := by simp only [ckIs, hw]
      have V2 : ckEr a b au l f lost asked promise = 0 := by simp only [ckEr, hw]
      have V3 : alL a b au l f lost asked promise = [(2, 0)] := by simp only [alL, hw]
      have V4 := hide (And.intro V1 (And.intro V2 V3))
      have Hr := hide hr
      clear V1 V2 V3 hr hf hw
      go_enter Try.func7, Try.ntmps7
      go_wp2_with fail
      refine (head_any _).mono ?_
      rintro e w1 ⟨rfl, b1⟩
      have z1 := b1.size
      simp only [World.size_alloc] at z1
      have B1 : Below w.heap.size w w1 := (by ((repeat' (first | exact Below.refl _ _ | exact b1 | refine Below.alloc ?_ ?_ _ | refine Below.setCell ?_ ?_ _ | refine Below.drew ?_ | refine below_drewN ?_ _ | refine Below.trans ?_ (b1.mono ?_))) <;> (first | omega | (simp; done) | (simp; omega))))
      obtain ⟨c0, f0⟩ := bk b1 w.heap.size (by simp)
      have d0 : w1.cell? ⟨w.heap.size, 0, none⟩ = some (.int .i64 a) := by rw [c0]; simp
      have d1 : w1.cell? ⟨w.heap.size, 1, none⟩ = some (.int .i64 b) := by rw [c0]; simp
      have hva1 := hva.below (Nat.le_refl _) B1
      have hv1 := hv.below (Nat.le_refl _) B1
      clear c0 f0 b1
      go_wp2_with fail
      refine (RRound_any _ _ _ _ au l _ _ _ _ _ hva1 hv1).mono ?_
      rintro e w2 ⟨rfl, b2⟩
      rw [Hr.out]
      have z2 := b2.size
      have B2 : Below w.heap.size w w2 := (by ((repeat' (first | exact Below.refl _ _ | exact B1 | exact b2 | refine Below.alloc ?_ ?_ _ | refine Below.setCell ?_ ?_ _ | refine Below.drew ?_ | refine below_drewN ?_ _ | refine Below.trans ?_ (B1.mono ?_) | refine Below.trans ?_ (b2.mono ?_))) <;> (first | omega | (simp; done) | (simp; omega))))
      have e0 := (b2.cell (p := ⟨w.heap.size, 0, none⟩) (by show w.heap.size < w1.heap.size; omega)).trans d0
      have e1 := (b2.cell (p := ⟨w.heap.size, 1, none⟩) (by show w.heap.size < w1.heap.size; omega)).trans d1
      have hva2 := hva1.below (Nat.le_refl _) b2
      have hv2 := hv1.below (Nat.le_refl _) b2
      clear d0 d1 hva1 hv1 b2 B1
      go_wp2_with fail
      refine (Check_any _ _ _ _ au l _ _ _ _ _ hva2 hv2).mono ?_
      rintro e w3 ⟨v3, rfl, o3, b3⟩
      rw [V4.out.1, V4.out.2.1]
      rw [V4.out.2.2] at o3
      have z3 := b3.size
      have r3 := o3.row
      have B3 : Below w.heap.size w w3 := (by ((repeat' (first | exact Below.refl _ _ | exact B2 | exact b3 | refine Below.alloc ?_ ?_ _ | refine Below.setCell ?_ ?_ _ | refine Below.drew ?_ | refine below_drewN ?_ _ | refine Below.trans ?_ (B2.mono ?_) | refine Below.trans ?_ (b3.mono ?_))) <;> (first | omega | (simp; done) | (simp; omega))))
      clear o3 b3 e0 e1
      go_upto_region 5 with fail
      generalize hO : Obj.cells _ 23 = O3
      have r4 := r3.below (Nat.le_refl _) ((Below.refl _ _).alloc (Nat.le_refl _) O3)
      have B4 : Below w.heap.size w (w3.alloc O3) := (by ((repeat' (first | exact Below.refl _ _ | exact B3 | refine Below.alloc ?_ ?_ _ | refine Below.setCell ?_ ?_ _ | refine Below.drew ?_ | refine below_drewN ?_ _ | refine Below.trans ?_ (B3.mono ?_))) <;> (first | omega | (simp; done) | (simp; omega))))
      clear r3 B3 hO
      generalize w3.alloc O3 = w4 at *
      go_wp2_with fail
      have h4 := ivrow_litA w4 [(2, 0)] 39 (by decide)
      refine (RSame40_any _ _ _ [(2, 0)] _ (r4.below (Nat.le_refl _) (by ((repeat' (first | exact Below.refl _ _ | refine Below.alloc ?_ ?_ _ | refine Below.setCell ?_ ?_ _ | refine Below.drew ?_ | refine below_drewN ?_ _)) <;> (first | omega | (simp; done) | (simp; omega))))) h4).mono ?_
      rintro e w5 ⟨rfl, b5⟩
      rw [show decide (([(2, 0)] : List Iv) = [(2, 0)]) = true from by decide]
      go_wp2_with fail
      go_ret
      have z4 := B4.size
      exact ⟨rfl, (by ((repeat' (first | exact Below.refl _ _ | exact B4 | exact b5 | refine Below.alloc ?_ ?_ _ | refine Below.setCell ?_ ?_ _ | refine Below.drew ?_ | refine below_drewN ?_ _ | refine Below.trans ?_ (B4.mono ?_) | refine Below.trans ?_ (b5.mono ?_))) <;> (first | omega | (simp; done) | (simp; omega))))⟩
    · skip
      have x1 : decide ((l.length : Int) < asked - lost) = false := decide_eq_false hlt
      have x2 : decide ((l.length : Int) ≤ f) = true := decide_eq_true (by simp only [fewB, decide_eq_true_eq] at hf; omega)
      have V1 : ckIs a b au l f lost asked promise = false := by simp only [ckIs, hw]
      have V2 : ckEr a b au l f lost asked promise = 0 := by simp only [ckEr, hw]
      have V3 : alL a b au l f lost asked promise = [(2, 0)] := by simp only [alL, hw]
      have V4 := hide (And.intro V1 (And.intro V2 V3))
      have Hr := hide hr
      clear V1 V2 V3 hr hf hw
      go_enter Try.func7, Try.ntmps7
      go_wp2_with fail
      refine (head_any _).mono ?_
      rintro e w1 ⟨rfl, b1⟩
      have z1 := b1.size
      simp only [World.size_alloc] at z1
      have B1 : Below w.heap.size w w1 := (by ((repeat' (first | exact Below.refl _ _ | exact b1 | refine Below.alloc ?_ ?_ _ | refine Below.setCell ?_ ?_ _ | refine Below.drew ?_ | refine below_drewN ?_ _ | refine Below.trans ?_ (b1.mono ?_))) <;> (first | omega | (simp; done) | (simp; omega))))
      obtain ⟨c0, f0⟩ := bk b1 w.heap.size (by simp)
      have d0 : w1.cell? ⟨w.heap.size, 0, none⟩ = some (.int .i64 a) := by rw [c0]; simp
      have d1 : w1.cell? ⟨w.heap.size, 1, none⟩ = some (.int .i64 b) := by rw [c0]; simp
      have hva1 := hva.below (Nat.le_refl _) B1
      have hv1 := hv.below (Nat.le_refl _) B1
      clear c0 f0 b1
      go_wp2_with fail
      refine (RRound_any _ _ _ _ au l _ _ _ _ _ hva1 hv1).mono ?_
      rintro e w2 ⟨rfl, b2⟩
      rw [Hr.out]
      have z2 := b2.size
      have B2 : Below w.heap.size w w2 := (by ((repeat' (first | exact Below.refl _ _ | exact B1 | exact b2 | refine Below.alloc ?_ ?_ _ | refine Below.setCell ?_ ?_ _ | refine Below.drew ?_ | refine below_drewN ?_ _ | refine Below.trans ?_ (B1.mono ?_) | refine Below.trans ?_ (b2.mono ?_))) <;> (first | omega | (simp; done) | (simp; omega))))
      have e0 := (b2.cell (p := ⟨w.heap.size, 0, none⟩) (by show w.heap.size < w1.heap.size; omega)).trans d0
      have e1 := (b2.cell (p := ⟨w.heap.size, 1, none⟩) (by show w.heap.size < w1.heap.size; omega)).trans d1
      have hva2 := hva1.below (Nat.le_refl _) b2
      have hv2 := hv1.below (Nat.le_refl _) b2
      clear d0 d1 hva1 hv1 b2 B1
      go_wp2_with fail
      refine (Check_any _ _ _ _ au l _ _ _ _ _ hva2 hv2).mono ?_
      rintro e w3 ⟨v3, rfl, o3, b3⟩
      rw [V4.out.1, V4.out.2.1]
      rw [V4.out.2.2] at o3
      have z3 := b3.size
      have r3 := o3.row
      have B3 : Below w.heap.size w w3 := (by ((repeat' (first | exact Below.refl _ _ | exact B2 | exact b3 | refine Below.alloc ?_ ?_ _ | refine Below.setCell ?_ ?_ _ | refine Below.drew ?_ | refine below_drewN ?_ _ | refine Below.trans ?_ (B2.mono ?_) | refine Below.trans ?_ (b3.mono ?_))) <;> (first | omega | (simp; done) | (simp; omega))))
      clear o3 b3 e0 e1
      go_upto_region 5 with fail
      generalize hO : Obj.cells _ 23 = O3
      have r4 := r3.below (Nat.le_refl _) ((Below.refl _ _).alloc (Nat.le_refl _) O3)
      have B4 : Below w.heap.size w (w3.alloc O3) := (by ((repeat' (first | exact Below.refl _ _ | exact B3 | refine Below.alloc ?_ ?_ _ | refine Below.setCell ?_ ?_ _ | refine Below.drew ?_ | refine below_drewN ?_ _ | refine Below.trans ?_ (B3.mono ?_))) <;> (first | omega | (simp; done) | (simp; omega))))
      clear r3 B3 hO
      generalize w3.alloc O3 = w4 at *
      go_wp2_with fail
      have h4 := ivrow_litA w4 [(2, 0)] 39 (by decide)
      refine (RSame40_any _ _ _ [(2, 0)] _ (r4.below (Nat.le_refl _) (by ((repeat' (first | exact Below.refl _ _ | refine Below.alloc ?_ ?_ _ | refine Below.setCell ?_ ?_ _ | refine Below.drew ?_ | refine below_drewN ?_ _)) <;> (first | omega | (simp; done) | (simp; omega))))) h4).mono ?_
      rintro e w5 ⟨rfl, b5⟩
      rw [show decide (([(2, 0)] : List Iv) = [(2, 0)]) = true from by decide]
      go_wp2_with fail
      go_ret
      have z4 := B4.size
      exact ⟨rfl, (by ((repeat' (first | exact Below.refl _ _ | exact B4 | exact b5 | refine Below.alloc ?_ ?_ _ | refine Below.setCell ?_ ?_ _ | refine Below.drew ?_ | refine below_drewN ?_ _ | refine Below.trans ?_ (B4.mono ?_) | refine Below.trans ?_ (b5.mono ?_))) <;> (first | omega | (simp; done) | (simp; omega))))⟩
  · have hfe := fewB_or hf
    have x1 : decide ((l.length : Int) < asked - lost) = false := decide_eq_false hfe.1
    have x2 : decide ((l.length : Int) ≤ f) = false := decide_eq_false hfe.2
    have V1 : ckIs a b au l f lost asked promise = false := by simp only [ckIs, hw]
    have V2 : ckEr a b au l f lost asked promise = 0 := by simp only [ckEr, hw]
    have V3 : alL a b au l f lost asked promise = [(1, 0)] := by simp only [alL, hw]
    have V4 := hide (And.intro V1 (And.intro V2 (And.intro V3 he)))
    have Hr := hide hr
    clear V1 V2 V3 hr hf hw hfe he
    go_enter Try.func7, Try.ntmps7
    go_wp2_with fail
    refine (head_any _).mono ?_
    rintro e w1 ⟨rfl, b1⟩
    have z1 := b1.size
    simp only [World.size_alloc] at z1
    have B1 : Below w.heap.size w w1 := (by ((repeat' (first | exact Below.refl _ _ | exact b1 | refine Below.alloc ?_ ?_ _ | refine Below.setCell ?_ ?_ _ | refine Below.drew ?_ | refine below_drewN ?_ _ | refine Below.trans ?_ (b1.mono ?_))) <;> (first | omega | (simp; done) | (simp; omega))))
    obtain ⟨c0, f0⟩ := bk b1 w.heap.size (by simp)
    have d0 : w1.cell? ⟨w.heap.size, 0, none⟩ = some (.int .i64 a) := by rw [c0]; simp
    have d1 : w1.cell? ⟨w.heap.size, 1, none⟩ = some (.int .i64 b) := by rw [c0]; simp
    have hva1 := hva.below (Nat.le_refl _) B1
    have hv1 := hv.below (Nat.le_refl _) B1
    clear c0 f0 b1
    go_wp2_with fail
    refine (RRound_any _ _ _ _ au l _ _ _ _ _ hva1 hv1).mono ?_
    rintro e w2 ⟨rfl, b2⟩
    rw [Hr.out]
    have z2 := b2.size
    have B2 : Below w.heap.size w w2 := (by ((repeat' (first | exact Below.refl _ _ | exact B1 | exact b2 | refine Below.alloc ?_ ?_ _ | refine Below.setCell ?_ ?_ _ | refine Below.drew ?_ | refine below_drewN ?_ _ | refine Below.trans ?_ (B1.mono ?_) | refine Below.trans ?_ (b2.mono ?_))) <;> (first | omega | (simp; done) | (simp; omega))))
    have e0 := (b2.cell (p := ⟨w.heap.size, 0, none⟩) (by show w.heap.size < w1.heap.size; omega)).trans d0
    have e1 := (b2.cell (p := ⟨w.heap.size, 1, none⟩) (by show w.heap.size < w1.heap.size; omega)).trans d1
    have hva2 := hva1.below (Nat.le_refl _) b2
    have hv2 := hv1.below (Nat.le_refl _) b2
    clear d0 d1 hva1 hv1 b2 B1
    go_wp2_with fail
    refine (Check_any _ _ _ _ au l _ _ _ _ _ hva2 hv2).mono ?_
    rintro e w3 ⟨v3, rfl, o3, b3⟩
    rw [V4.out.1, V4.out.2.1]
    rw [V4.out.2.2.1] at o3
    have z3 := b3.size
    have r3 := o3.row
    have B3 : Below w.heap.size w w3 := (by ((repeat' (first | exact Below.refl _ _ | exact B2 | exact b3 | refine Below.alloc ?_ ?_ _ | refine Below.setCell ?_ ?_ _ | refine Below.drew ?_ | refine below_drewN ?_ _ | refine Below.trans ?_ (B2.mono ?_) | refine Below.trans ?_ (b3.mono ?_))) <;> (first | omega | (simp; done) | (simp; omega))))
    have hv3 := hv2.below (Nat.le_refl _) b3
    clear o3 b3 e0 e1
    go_upto_region 5 with fail
    generalize hO : Obj.cells _ 23 = O3
    have r4 := r3.below (Nat.le_refl _) ((Below.refl _ _).alloc (Nat.le_refl _) O3)
    have hv4 := hv3.below (Nat.le_refl _) ((Below.refl _ _).alloc (Nat.le_refl _) O3)
    have B4 : Below w.heap.size w (w3.alloc O3) := (by ((repeat' (first | exact Below.refl _ _ | exact B3 | refine Below.alloc ?_ ?_ _ | refine Below.setCell ?_ ?_ _ | refine Below.drew ?_ | refine below_drewN ?_ _ | refine Below.trans ?_ (B3.mono ?_))) <;> (first | omega | (simp; done) | (simp; omega))))
    clear r3 B3 hO hv3
    generalize w3.alloc O3 = w4 at *
    go_wp2_with fail
    refine (Combine_any _ l _ _ hv4).mono ?_
    rintro e w5 ⟨rfl, b5⟩
    rw [V4.out.2.2.2]
    have r5 := r4.below (Nat.le_refl _) b5
    have z4 := B4.size
    have B5 : Below w.heap.size w w5 := (by ((repeat' (first | exact Below.refl _ _ | exact B4 | exact b5 | refine Below.alloc ?_ ?_ _ | refine Below.setCell ?_ ?_ _ | refine Below.drew ?_ | refine below_drewN ?_ _ | refine Below.trans ?_ (B4.mono ?_) | refine Below.trans ?_ (b5.mono ?_))) <;> (first | omega | (simp; done) | (simp; omega))))
    clear r4 b5 B4
    go_upto_region 10 with fail
    generalize hO : Obj.cells _ 23 = O5
    have r6 := r5.below (Nat.le_refl _) ((Below.refl _ _).alloc (Nat.le_refl _) O5)
    have z5 := B5.size
    have B6 : Below w.heap.size w (w5.alloc O5) := (by ((repeat' (first | exact Below.refl _ _ | exact B5 | refine Below.alloc ?_ ?_ _ | refine Below.setCell ?_ ?_ _ | refine Below.drew ?_ | refine below_drewN ?_ _ | refine Below.trans ?_ (B5.mono ?_))) <;> (first | omega | (simp; done) | (simp; omega))))
    clear r5 B5 hO
    generalize w5.alloc O5 = w6 at *
    go_wp2_with fail
    have h4 := ivrow_litA w6 [(1, 0)] 39 (by decide)
    refine (RSame40_any _ _ _ [(1, 0)] _ (r6.below (Nat.le_refl _) (by ((repeat' (first | exact Below.refl _ _ | refine Below.alloc ?_ ?_ _ | refine Below.setCell ?_ ?_ _ | refine Below.drew ?_ | refine below_drewN ?_ _)) <;> (first | omega | (simp; done) | (simp; omega))))) h4).mono ?_
    rintro e w7 ⟨rfl, b7⟩
    rw [show decide (([(1, 0)] : List Iv) = [(1, 0)]) = true from by decide]
    go_wp2_with fail
    go_ret
    have z6 := B6.size
    exact ⟨rfl, (by ((repeat' (first | exact Below.refl _ _ | exact B6 | exact b7 | refine Below.alloc ?_ ?_ _ | refine Below.setCell ?_ ?_ _ | refine Below.drew ?_ | refine below_drewN ?_ _ | refine Below.trans ?_ (B6.mono ?_) | refine Below.trans ?_ (b7.mono ?_))) <;> (first | omega | (simp; done) | (simp; omega))))⟩
  · have hfe := fewB_or hf
    have x1 : decide ((l.length : Int) < asked - lost) = false := decide_eq_false hfe.1
    have x2 : decide ((l.length : Int) ≤ f) = false := decide_eq_false hfe.2
    have V1 : ckIs a b au l f lost asked promise = true := by simp only [ckIs, hw]
    have V2 : ckEr a b au l f lost asked promise = 0 := by simp only [ckEr, hw]
    have V5 : ckLo a b au l f lost asked promise = cbLo l f := by simp only [ckLo, hw]
    have V6 : ckHi a b au l f lost asked promise = cbHi l f := by simp only [ckHi, hw]
    have V3 := hide (alL_ok hw)
    have V4 := hide (And.intro V1 (And.intro V2 (And.intro V5 (And.intro V6 he))))
    have HJ := hide (show jumpB a b l f = (decide (cbHi l f < a) || decide (b < cbLo l f)) from jump_iff ((rndB_iff _ _ _ _ _ _ _ _).1 hr).2.1 (cb_valid he))
    have Hr := hide hr
    clear V1 V2 V5 V6 hr hf hw hfe he
    go_enter Try.func7, Try.ntmps7
    go_wp2_with fail
    refine (head_any _).mono ?_
    rintro e w1 ⟨rfl, b1⟩
    have z1 := b1.size
    simp only [World.size_alloc] at z1
    have B1 : Below w.heap.size w w1 := (by ((repeat' (first | exact Below.refl _ _ | exact b1 | refine Below.alloc ?_ ?_ _ | refine Below.setCell ?_ ?_ _ | refine Below.drew ?_ | refine below_drewN ?_ _ | refine Below.trans ?_ (b1.mono ?_))) <;> (first | omega | (simp; done) | (simp; omega))))
    obtain ⟨c0, f0⟩ := bk b1 w.heap.size (by simp)
    have d0 : w1.cell? ⟨w.heap.size, 0, none⟩ = some (.int .i64 a) := by rw [c0]; simp
    have d1 : w1.cell? ⟨w.heap.size, 1, none⟩ = some (.int .i64 b) := by rw [c0]; simp
    have hva1 := hva.below (Nat.le_refl _) B1
    have hv1 := hv.below (Nat.le_refl _) B1
    clear c0 f0 b1
    go_wp2_with fail
    refine (RRound_any _ _ _ _ au l _ _ _ _ _ hva1 hv1).mono ?_
    rintro e w2 ⟨rfl, b2⟩
    rw [Hr.out]
    have z2 := b2.size
    have B2 : Below w.heap.size w w2 := (by ((repeat' (first | exact Below.refl _ _ | exact B1 | exact b2 | refine Below.alloc ?_ ?_ _ | refine Below.setCell ?_ ?_ _ | refine Below.drew ?_ | refine below_drewN ?_ _ | refine Below.trans ?_ (B1.mono ?_) | refine Below.trans ?_ (b2.mono ?_))) <;> (first | omega | (simp; done) | (simp; omega))))
    have e0 := (b2.cell (p := ⟨w.heap.size, 0, none⟩) (by show w.heap.size < w1.heap.size; omega)).trans d0
    have e1 := (b2.cell (p := ⟨w.heap.size, 1, none⟩) (by show w.heap.size < w1.heap.size; omega)).trans d1
    have hva2 := hva1.below (Nat.le_refl _) b2
    have hv2 := hv1.below (Nat.le_refl _) b2
    clear d0 d1 hva1 hv1 b2 B1
    go_wp2_with fail
    refine (Check_any _ _ _ _ au l _ _ _ _ _ hva2 hv2).mono ?_
    rintro e w3 ⟨v3, rfl, o3, b3⟩
    rw [V4.out.1, V4.out.2.1, V4.out.2.2.1, V4.out.2.2.2.1]
    rw [V3.out] at o3
    have z3 := b3.size
    have B3 : Below w.heap.size w w3 := (by ((repeat' (first | exact Below.refl _ _ | exact B2 | exact b3 | refine Below.alloc ?_ ?_ _ | refine Below.setCell ?_ ?_ _ | refine Below.drew ?_ | refine below_drewN ?_ _ | refine Below.trans ?_ (B2.mono ?_) | refine Below.trans ?_ (b3.mono ?_))) <;> (first | omega | (simp; done) | (simp; omega))))
    have hv3 := hv2.below (Nat.le_refl _) b3
    have c00 := (b3.cell (p := ⟨w.heap.size, 0, none⟩) (by show w.heap.size < w2.heap.size; omega)).trans e0
    have c01 := (b3.cell (p := ⟨w.heap.size, 1, none⟩) (by show w.heap.size < w2.heap.size; omega)).trans e1
    have r3 := o3.row
    clear o3 b3 e0 e1
    generalize hal : jL (jumpB a b l f) ++ lies au l f ++ yL (wideB l f promise) = al at *
    have Hal := hide hal
    clear hal
    go_upto_region 5 with fail
    have b4 : Below w3.heap.size w3 (w3.alloc (.cells #[.int .i64 (cbLo l f), .int .i64 (cbHi l f)] 23)) := (by ((repeat' (first | exact Below.refl _ _ | refine Below.alloc ?_ ?_ _ | refine Below.setCell ?_ ?_ _ | refine Below.drew ?_ | refine below_drewN ?_ _)) <;> (first | omega | (simp; done) | (simp; omega))))
    have s0 : (w3.alloc (.cells #[.int .i64 (cbLo l f), .int .i64 (cbHi l f)] 23)).cell? ⟨w3.heap.size, 0, none⟩ = some (.int .i64 (cbLo l f)) := by simp
    have s1 : (w3.alloc (.cells #[.int .i64 (cbLo l f), .int .i64 (cbHi l f)] 23)).cell? ⟨w3.heap.size, 1, none⟩ = some (.int .i64 (cbHi l f)) := by simp
    have zs : w3.heap.size < (w3.alloc (.cells #[.int .i64 (cbLo l f), .int .i64 (cbHi l f)] 23)).heap.size := by simp
    generalize w3.alloc (.cells #[.int .i64 (cbLo l f), .int .i64 (cbHi l f)] 23) = w4 at *
    have k00 := (b4.cell (p := ⟨w.heap.size, 0, none⟩) (by show w.heap.size < w3.heap.size; omega)).trans c00
    have k01 := (b4.cell (p := ⟨w.heap.size, 1, none⟩) (by show w.heap.size < w3.heap.size; omega)).trans c01
    have r4 := r3.below (Nat.le_refl _) b4
    have hv4 := hv3.below (Nat.le_refl _) b4
    have B4 : Below w.heap.size w w4 := (by ((repeat' (first | exact Below.refl _ _ | exact B3 | exact b4 | refine Below.alloc ?_ ?_ _ | refine Below.setCell ?_ ?_ _ | refine Below.drew ?_ | refine below_drewN ?_ _ | refine Below.trans ?_ (B3.mono ?_) | refine Below.trans ?_ (b4.mono ?_))) <;> (first | omega | (simp; done) | (simp; omega))))
    have zw : w.heap.size < w3.heap.size := by omega
    generalize w3.heap.size = q at *
    clear c00 c01 r3 hv3 B3
    go_wp2_with fail
    refine (Combine_any _ l _ _ hv4).mono ?_
    rintro e w5 ⟨rfl, b5⟩
    rw [V4.out.2.2.2.2]
    have z5 := b5.size
    have r5 := r4.below (Nat.le_refl _) b5
    have t0 := (b5.cell (p := ⟨q, 0, none⟩) zs).trans s0
    have t1 := (b5.cell (p := ⟨q, 1, none⟩) zs).trans s1
    have m00 := (b5.cell (p := ⟨w.heap.size, 0, none⟩) (by show w.heap.size < w4.heap.size; omega)).trans k00
    have m01 := (b5.cell (p := ⟨w.heap.size, 1, none⟩) (by show w.heap.size < w4.heap.size; omega)).trans k01
    have z4 := B4.size
    have B5 : Below w.heap.size w w5 := (by ((repeat' (first | exact Below.refl _ _ | exact B4 | exact b5 | refine Below.alloc ?_ ?_ _ | refine Below.setCell ?_ ?_ _ | refine Below.drew ?_ | refine below_drewN ?_ _ | refine Below.trans ?_ (B4.mono ?_) | refine Below.trans ?_ (b5.mono ?_))) <;> (first | omega | (simp; done) | (simp; omega))))
    clear r4 b5 B4 s0 s1 k00 k01
    go_upto_region 10 with fail
    have b6 : Below w5.heap.size w5 (w5.alloc (.cells #[.int .i64 (cbLo l f), .int .i64 (cbHi l f)] 23)) := (by ((repeat' (first | exact Below.refl _ _ | refine Below.alloc ?_ ?_ _ | refine Below.setCell ?_ ?_ _ | refine Below.drew ?_ | refine below_drewN ?_ _)) <;> (first | omega | (simp; done) | (simp; omega))))
    have u0 : (w5.alloc (.cells #[.int .i64 (cbLo l f), .int .i64 (cbHi l f)] 23)).cell? ⟨w5.heap.size, 0, none⟩ = some (.int .i64 (cbLo l f)) := by simp
    have u1 : (w5.alloc (.cells #[.int .i64 (cbLo l f), .int .i64 (cbHi l f)] 23)).cell? ⟨w5.heap.size, 1, none⟩ = some (.int .i64 (cbHi l f)) := by simp
    generalize w5.alloc (.cells #[.int .i64 (cbLo l f), .int .i64 (cbHi l f)] 23) = w6 at *
    have p0 := (b6.cell (p := ⟨q, 0, none⟩) (by show q < w5.heap.size; omega)).trans t0
    have p1 := (b6.cell (p := ⟨q, 1, none⟩) (by show q < w5.heap.size; omega)).trans t1
    have n00 := (b6.cell (p := ⟨w.heap.size, 0, none⟩) (by show w.heap.size < w5.heap.size; omega)).trans m00
    have n01 := (b6.cell (p := ⟨w.heap.size, 1, none⟩) (by show w.heap.size < w5.heap.size; omega)).trans m01
    have r6 := r5.below (Nat.le_refl _) b6
    have B6 : Below w.heap.size w w6 := (by ((repeat' (first | exact Below.refl _ _ | exact B5 | exact b6 | refine Below.alloc ?_ ?_ _ | refine Below.setCell ?_ ?_ _ | refine Below.drew ?_ | refine below_drewN ?_ _ | refine Below.trans ?_ (B5.mono ?_) | refine Below.trans ?_ (b6.mono ?_))) <;> (first | omega | (simp; done) | (simp; omega))))
    generalize w5.heap.size = q5 at *
    clear t0 t1 m00 m01 r5 B5
    obtain ⟨av, acap, rfl, y1, y2, y3⟩ := r6
    go_upto_region 12 with fail
    go_cut [22] (fun s22 wx => s22 = .bool (jumpB a b l f) ∧ w6 = wx)
    case first =>
      by_cases hz : al.length = 0
      · have hj : jumpB a b l f = false := jump_none (by rw [Hal.out]; exact hz)
        have Hj := hide hj
        have hz1 : decide (0 < al.length) = false := decide_eq_false (by omega)
        clear y3 hj
        go_wp2_with fail
        go_meet
        exact ⟨by rw [Hj.out], rfl⟩
      · have hz1 : decide (0 < al.length) = true := decide_eq_true (by omega)
        obtain ⟨bb, off, rfl, q4, q5', q6⟩ := y3 0 (by omega)
        rw [Nat.zero_mul, Nat.add_zero] at q5' q6
        have hj := head_jump (jumpB a b l f) (wideB l f promise) au l f (by rw [Hal.out]; omega)
        rw [Hal.out] at hj
        have Hj := hide hj
        have hlt0 : (0 : Int) < (al.length : Int) := by omega
        clear y3 hj
        go_wp2_with fail
        go_meet
        exact ⟨by rw [← Hj.out], rfl⟩
    case rest =>
      obtain ⟨rfl, rfl⟩ := hcut
      have ee : ivEq (cbLo l f) (cbHi l f) (cbLo l f) (cbHi l f) = true := by simp [ivEq]
      generalize hj : jumpB a b l f = j
      have Hj := hide hj
      clear hj y3
      by_cases h1 : cbHi l f < a
      · have h1' : decide (cbHi l f < a) = true := decide_eq_true h1
        have hj : j = true := by rw [← Hj.out, HJ.out, h1', Bool.true_or]
        subst hj
        go_wp2_with fail
        go_ret
        exact ⟨by first | rfl | exact ret_bool (by simp), B6⟩
      · have h1' : decide (cbHi l f < a) = false := decide_eq_false h1
        have hj : j = decide (b < cbLo l f) := by rw [← Hj.out, HJ.out, h1', Bool.false_or]
        subst hj
        go_wp2_with fail
        go_ret
        exact ⟨by first | rfl | exact ret_bool (by simp), B6⟩
set_option maxRecDepth 100000 in
theorem watchFew_holds : Rows.WatchFewSaid :=
  OpenClaim.holds_of_wide 7 Try.f7 rfl rfl rfl rfl rfl rfl rfl ⟨rfl, rfl, rfl, rfl, rfl⟩ rfl rfl rfl rfl rfl (by kernel_rfl) Try.func7 (by kernel_rfl)
    (of_decide_eq_true (by kernel_rfl)) (by unfold Func.isWrapper; rw [if_neg (of_decide_eq_false (by kernel_rfl))]; exact ⟨rfl, rfl⟩)
    (fun os started H enc _ => law_lifted started 7 Try.f7 Try.func7 (by kernel_rfl) Rows.watchFewSpec rfl rfl
      (fun ds h => by match ds, h with | [_, _, _, _, _, _, _], _ => exact ⟨rfl, rfl, rfl⟩)
      (fun t h => by
        rw [Try.params7] at h
        simp only [List.mem_cons, List.not_mem_nil, or_false] at h
        rcases h with rfl | rfl | rfl | rfl | rfl | rfl | rfl <;> exact ⟨by kernel_rfl, of_decide_eq_true (by kernel_rfl)⟩)
      (ChangeSpec.witness6 (enc := enc) (C := Try.checked) false ⟨#[], #[.agg #[.int .i64 0, .int .i64 0], .slice none 0 0, .slice none 0 0, .int .i64 0, .int .i64 0, .int .i64 0, .int .i64 0], []⟩ 8 (by kernel_rfl) (by kernel_rfl) (by kernel_rfl) (by kernel_rfl))
      (fun W base args ds p hA hok => by
        rw [Try.params7] at hA hok
        obtain ⟨v0, vs0, d0, ds0, p0, q0, hargs, rfl, rfl, h0, r0⟩ := ChangeShapes.trodAll_cons hA
        obtain ⟨v1, vs1, d1, ds1, p1, q1, rfl, rfl, rfl, h1, r1⟩ := ChangeShapes.trodAll_cons r0
        obtain ⟨v2, vs2, d2, ds2, p2, q2, rfl, rfl, rfl, h2, r2⟩ := ChangeShapes.trodAll_cons r1
        obtain ⟨v3, vs3, d3, ds3, p3, q3, rfl, rfl, rfl, h3, r3⟩ := ChangeShapes.trodAll_cons r2
        obtain ⟨v4, vs4, d4, ds4, p4, q4, rfl, rfl, rfl, h4, r4⟩ := ChangeShapes.trodAll_cons r3
        obtain ⟨v5, vs5, d5, ds5, p5, q5, rfl, rfl, rfl, h5, r5⟩ := ChangeShapes.trodAll_cons r4
        obtain ⟨v6, vs6, d6, ds6, p6, q6, rfl, rfl, rfl, h6, r6⟩ := ChangeShapes.trodAll_cons r5
        obtain ⟨rfl, rfl, rfl⟩ := ChangeShapes.trodAll_nil r6
        obtain rfl : args = #[v0, v1, v2, v3, v4, v5, v6] := by rw [← Array.toArray_toList (xs := args), hargs]
        obtain ⟨a0, b0, rfl, ha0, hb0⟩ := open_iv (hok 0 _ v0 rfl rfl) h0
        obtain ⟨l1, hl1, wl1⟩ := open_is (hok 1 _ v1 rfl rfl) h1
        obtain ⟨l2, hl2, wl2⟩ := open_ivs (hok 2 _ v2 rfl rfl) h2
        obtain ⟨x3, rfl, hx3⟩ := open_i64 Try.underlying3 (hok 3 _ v3 rfl rfl) h3
        obtain ⟨x4, rfl, hx4⟩ := open_i64 Try.underlying3 (hok 4 _ v4 rfl rfl) h4
        obtain ⟨x5, rfl, hx5⟩ := open_i64 Try.underlying3 (hok 5 _ v5 rfl rfl) h5
        obtain ⟨x6, rfl, hx6⟩ := open_i64 Try.underlying3 (hok 6 _ v6 rfl rfl) h6
        exact WtFew_any W a0 b0 v1 l1 hl1 wl1 v2 l2 hl2 x3 x4 x5 x6))
end Go.Proofs.Ythklljlachljgaa
