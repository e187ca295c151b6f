/- WatchTruth: for whatever round, numbers and time the statement answers true and leaves its arguments as they were. No condition. -/
import Derived.Test.YthklljlachljgaaWtZ4
namespace Go.Proofs.Ythklljlachljgaa
open Go.RowKit
attribute [local go_sem ↓] run_max_mx run_min_mn run_eql_iv run_neq_iv run_eql_al run_neq_al
theorem out_not {l : List Iv} {f t : Int} (hok : setOk l f = true) (hm : missTo l t l.length ≤ f) {k : Nat} (hk : k < (outL l f).length) {j : Nat} (hj : iAt (outL l f) k = j) : hasB (iLo l j) (iHi l j) t = false := by
  have ht := (mem_setL hok t).2 hm
  have hmem := iAt_mem hk
  unfold outL at hmem hk
  have h0 : ¬ (setL l f).length = 0 := by have := mem_pos ht; omega
  rw [if_neg h0] at hmem
  have hj2 : iAt (outTo l (setL l f) l.length) k = j := by unfold outL at hj; rwa [if_neg h0] at hj
  rw [hj2] at hmem
  obtain ⟨i, hi, e, hx⟩ := (outTo_mem l (setL l f) l.length _).1 hmem
  have : i = j := by omega
  subst this
  cases hh : hasB (iLo l i) (iHi l i) t with
  | false => rfl
  | true =>
    simp only [hasB, decide_eq_true_eq] at hh
    have := anyX_mem.2 ⟨t, hh.1, hh.2, ht⟩
    rw [this] at hx; cases hx
theorem al_kinds {y : Bool} {au : List Int} {l : List Iv} {f : Int} {k : Nat} (hk : k < (jL false ++ lies au l f ++ yL y).length) :
    (iLo (jL false ++ lies au l f ++ yL y) k = 5) ∨ (∃ i, i < (outL l f).length ∧ iLo (jL false ++ lies au l f ++ yL y) k = 4 ∧ iHi (jL false ++ lies au l f ++ yL y) k = iAt au (iAt (outL l f) i).toNat) := by
  obtain ⟨p, hp, e1, e2⟩ := mem_of_at hk
  rw [← e1, ← e2]
  rcases List.mem_append.1 hp with hp | hp
  · rcases List.mem_append.1 hp with hp | hp
    · simp [jL] at hp
    · obtain ⟨i, hi, e⟩ := (liesTo_mem au (outL l f) _ p).1 hp
      exact .inr ⟨i, hi, by rw [e], by rw [e]⟩
  · cases y
    · simp [yL] at hp
    · simp [yL] at hp; exact .inl (by rw [hp])
theorem truth {a b t : Int} {l : List Iv} {f : Int} (hok : setOk l f = true) (hm : missTo l t l.length ≤ f) (hin : hasB a b t = true) : cbEr l f = 0 ∧ jumpB a b l f = false ∧ hasB (cbLo l f) (cbHi l f) t = true := by
  have ht := (mem_setL hok t).2 hm
  have hc := cb_has ht
  refine ⟨cbEr_mem ht, ?_, by simp only [hasB, decide_eq_true_eq]; exact hc⟩
  simp only [hasB, decide_eq_true_eq] at hin
  have m1 := mx_spec a (cbLo l f)
  have m2 := mn_spec b (cbHi l f)
  simp only [jumpB, crossB, Bool.not_eq_false', decide_eq_true_eq]
  omega
set_option maxRecDepth 100000 in
set_option maxHeartbeats 1000000 in
theorem WtTruth_any (w : World) (a b : Int) (va : Value) (au : List Int) (hva : IsRow w va au) (_wa : WfI au) (v : Value) (l : List Iv) (hv : IvRow w v l) (f lost asked promise t : Int) :
    Calls Try.prog 4 #[.agg #[.int .i64 a, .int .i64 b], va, v, .int .i64 f, .int .i64 lost, .int .i64 asked, .int .i64 promise, .int .i64 t] w fun e w' => e = .returned (.bool true) ∧ Below w.heap.size w w' := by
  obtain ⟨a1, cap1, rfl, g1, g2, g3⟩ := id hva
  obtain ⟨a2, cap2, rfl, h1, h2, h3⟩ := id hv
  clear g3 h3
  cases hr : rndB a b au l f lost asked promise with
  | false =>
    go_enter Try.func4, Try.ntmps4
    go_wp2_with fail
    refine (head_any _).mono ?_
    rintro e w1 ⟨rfl, b1⟩
    have z1 := b1.size
    simp only [World.size_alloc] at z1
    have B1 : Below w.heap.size w w1 := (by ((repeat' (first | exact Below.refl _ _ | exact b1 | refine Below.alloc ?_ ?_ _ | refine Below.setCell ?_ ?_ _ | refine Below.drew ?_ | refine below_drewN ?_ _ | refine Below.trans ?_ (b1.mono ?_))) <;> (first | omega | (simp; done) | (simp; omega))))
    obtain ⟨c0, f0⟩ := bk b1 w.heap.size (by simp)
    have d0 : w1.cell? ⟨w.heap.size, 0, none⟩ = some (.int .i64 a) := by rw [c0]; simp
    have d1 : w1.cell? ⟨w.heap.size, 1, none⟩ = some (.int .i64 b) := by rw [c0]; simp
    have hva1 := hva.below (Nat.le_refl _) B1
    have hv1 := hv.below (Nat.le_refl _) B1
    clear c0 f0 b1
    go_wp2_with fail
    refine (RRound_any _ _ _ _ au l _ _ _ _ _ hva1 hv1).mono ?_
    rintro e w2 ⟨rfl, b2⟩
    rw [hr]
    have z2 := b2.size
    have B2 : Below w.heap.size w w2 := (by ((repeat' (first | exact Below.refl _ _ | exact B1 | exact b2 | refine Below.alloc ?_ ?_ _ | refine Below.setCell ?_ ?_ _ | refine Below.drew ?_ | refine below_drewN ?_ _ | refine Below.trans ?_ (B1.mono ?_) | refine Below.trans ?_ (b2.mono ?_))) <;> (first | omega | (simp; done) | (simp; omega))))
    have e0 := (b2.cell (p := ⟨w.heap.size, 0, none⟩) (by show w.heap.size < w1.heap.size; omega)).trans d0
    have e1 := (b2.cell (p := ⟨w.heap.size, 1, none⟩) (by show w.heap.size < w1.heap.size; omega)).trans d1
    have hva2 := hva1.below (Nat.le_refl _) b2
    have hv2 := hv1.below (Nat.le_refl _) b2
    clear d0 d1 hva1 hv1 b2 B1
    go_wp2_with fail
    go_ret
    exact ⟨rfl, B2⟩
  | true =>
  have hri := (rndB_iff _ _ _ _ _ _ _ _).1 hr
  have hrl := rnd_list hr
  have hl16 := hrl.2.1
  have hfb := hri.2.2.2.2.1
  have hlb := hri.2.2.2.2.2.1
  have hab := hri.2.2.2.2.2.2.1
  have hpb := hri.2.2.2.2.2.2.2
  clear hri
  clear hrl
  have Hr := hide hr
  clear hr
  cases x1 : hasB a b t with
  | false =>
    go_enter Try.func4, Try.ntmps4
    go_wp2_with fail
    refine (head_any _).mono ?_
    rintro e w1 ⟨rfl, b1⟩
    have z1 := b1.size
    simp only [World.size_alloc] at z1
    have B1 : Below w.heap.size w w1 := (by ((repeat' (first | exact Below.refl _ _ | exact b1 | refine Below.alloc ?_ ?_ _ | refine Below.setCell ?_ ?_ _ | refine Below.drew ?_ | refine below_drewN ?_ _ | refine Below.trans ?_ (b1.mono ?_))) <;> (first | omega | (simp; done) | (simp; omega))))
    obtain ⟨c0, f0⟩ := bk b1 w.heap.size (by simp)
    have d0 : w1.cell? ⟨w.heap.size, 0, none⟩ = some (.int .i64 a) := by rw [c0]; simp
    have d1 : w1.cell? ⟨w.heap.size, 1, none⟩ = some (.int .i64 b) := by rw [c0]; simp
    have hva1 := hva.below (Nat.le_refl _) B1
    have hv1 := hv.below (Nat.le_refl _) B1
    clear c0 f0 b1
    go_wp2_with fail
    refine (RRound_any _ _ _ _ au l _ _ _ _ _ hva1 hv1).mono ?_
    rintro e w2 ⟨rfl, b2⟩
    rw [Hr.out]
    have z2 := b2.size
    have B2 : Below w.heap.size w w2 := (by ((repeat' (first | exact Below.refl _ _ | exact B1 | exact b2 | refine Below.alloc ?_ ?_ _ | refine Below.setCell ?_ ?_ _ | refine Below.drew ?_ | refine below_drewN ?_ _ | refine Below.trans ?_ (B1.mono ?_) | refine Below.trans ?_ (b2.mono ?_))) <;> (first | omega | (simp; done) | (simp; omega))))
    have e0 := (b2.cell (p := ⟨w.heap.size, 0, none⟩) (by show w.heap.size < w1.heap.size; omega)).trans d0
    have e1 := (b2.cell (p := ⟨w.heap.size, 1, none⟩) (by show w.heap.size < w1.heap.size; omega)).trans d1
    have hva2 := hva1.below (Nat.le_refl _) b2
    have hv2 := hv1.below (Nat.le_refl _) b2
    clear d0 d1 hva1 hv1 b2 B1
    go_wp2_with (go_at_call 17; refine (in_any _ _ _ _).mono ?_; rintro e w6 ⟨rfl, rfl⟩; rw [x1])
    go_ret
    exact ⟨rfl, (by ((repeat' (first | exact Below.refl _ _ | exact B2 | refine Below.alloc ?_ ?_ _ | refine Below.setCell ?_ ?_ _ | refine Below.drew ?_ | refine below_drewN ?_ _ | refine Below.trans ?_ (B2.mono ?_))) <;> (first | omega | (simp; done) | (simp; omega))))⟩
  | true =>
  by_cases h2 : (l.length : Int) < asked - lost
  · have x2 : decide ((l.length : Int) < asked - lost) = true := decide_eq_true h2
    go_enter Try.func4, Try.ntmps4
    go_wp2_with fail
    refine (head_any _).mono ?_
    rintro e w1 ⟨rfl, b1⟩
    have z1 := b1.size
    simp only [World.size_alloc] at z1
    have B1 : Below w.heap.size w w1 := (by ((repeat' (first | exact Below.refl _ _ | exact b1 | refine Below.alloc ?_ ?_ _ | refine Below.setCell ?_ ?_ _ | refine Below.drew ?_ | refine below_drewN ?_ _ | refine Below.trans ?_ (b1.mono ?_))) <;> (first | omega | (simp; done) | (simp; omega))))
    obtain ⟨c0, f0⟩ := bk b1 w.heap.size (by simp)
    have d0 : w1.cell? ⟨w.heap.size, 0, none⟩ = some (.int .i64 a) := by rw [c0]; simp
    have d1 : w1.cell? ⟨w.heap.size, 1, none⟩ = some (.int .i64 b) := by rw [c0]; simp
    have hva1 := hva.below (Nat.le_refl _) B1
    have hv1 := hv.below (Nat.le_refl _) B1
    clear c0 f0 b1
    go_wp2_with fail
    refine (RRound_any _ _ _ _ au l _ _ _ _ _ hva1 hv1).mono ?_
    rintro e w2 ⟨rfl, b2⟩
    rw [Hr.out]
    have z2 := b2.size
    have B2 : Below w.heap.size w w2 := (by ((repeat' (first | exact Below.refl _ _ | exact B1 | exact b2 | refine Below.alloc ?_ ?_ _ | refine Below.setCell ?_ ?_ _ | refine Below.drew ?_ | refine below_drewN ?_ _ | refine Below.trans ?_ (B1.mono ?_) | refine Below.trans ?_ (b2.mono ?_))) <;> (first | omega | (simp; done) | (simp; omega))))
    have e0 := (b2.cell (p := ⟨w.heap.size, 0, none⟩) (by show w.heap.size < w1.heap.size; omega)).trans d0
    have e1 := (b2.cell (p := ⟨w.heap.size, 1, none⟩) (by show w.heap.size < w1.heap.size; omega)).trans d1
    have hva2 := hva1.below (Nat.le_refl _) b2
    have hv2 := hv1.below (Nat.le_refl _) b2
    clear d0 d1 hva1 hv1 b2 B1
    go_wp2_with (go_at_call 17; refine (in_any _ _ _ _).mono ?_; rintro e w6 ⟨rfl, rfl⟩; rw [x1])
    go_ret
    exact ⟨rfl, (by ((repeat' (first | exact Below.refl _ _ | exact B2 | refine Below.alloc ?_ ?_ _ | refine Below.setCell ?_ ?_ _ | refine Below.drew ?_ | refine below_drewN ?_ _ | refine Below.trans ?_ (B2.mono ?_))) <;> (first | omega | (simp; done) | (simp; omega))))⟩
  have x2 : decide ((l.length : Int) < asked - lost) = false := decide_eq_false h2
  by_cases h3 : (l.length : Int) ≤ 2 * f
  · have x3 : decide ((l.length : Int) ≤ 2 * f) = true := decide_eq_true h3
    go_enter Try.func4, Try.ntmps4
    go_wp2_with fail
    refine (head_any _).mono ?_
    rintro e w1 ⟨rfl, b1⟩
    have z1 := b1.size
    simp only [World.size_alloc] at z1
    have B1 : Below w.heap.size w w1 := (by ((repeat' (first | exact Below.refl _ _ | exact b1 | refine Below.alloc ?_ ?_ _ | refine Below.setCell ?_ ?_ _ | refine Below.drew ?_ | refine below_drewN ?_ _ | refine Below.trans ?_ (b1.mono ?_))) <;> (first | omega | (simp; done) | (simp; omega))))
    obtain ⟨c0, f0⟩ := bk b1 w.heap.size (by simp)
    have d0 : w1.cell? ⟨w.heap.size, 0, none⟩ = some (.int .i64 a) := by rw [c0]; simp
    have d1 : w1.cell? ⟨w.heap.size, 1, none⟩ = some (.int .i64 b) := by rw [c0]; simp
    have hva1 := hva.below (Nat.le_refl _) B1
    have hv1 := hv.below (Nat.le_refl _) B1
    clear c0 f0 b1
    go_wp2_with fail
    refine (RRound_any _ _ _ _ au l _ _ _ _ _ hva1 hv1).mono ?_
    rintro e w2 ⟨rfl, b2⟩
    rw [Hr.out]
    have z2 := b2.size
    have B2 : Below w.heap.size w w2 := (by ((repeat' (first | exact Below.refl _ _ | exact B1 | exact b2 | refine Below.alloc ?_ ?_ _ | refine Below.setCell ?_ ?_ _ | refine Below.drew ?_ | refine below_drewN ?_ _ | refine Below.trans ?_ (B1.mono ?_) | refine Below.trans ?_ (b2.mono ?_))) <;> (first | omega | (simp; done) | (simp; omega))))
    have e0 := (b2.cell (p := ⟨w.heap.size, 0, none⟩) (by show w.heap.size < w1.heap.size; omega)).trans d0
    have e1 := (b2.cell (p := ⟨w.heap.size, 1, none⟩) (by show w.heap.size < w1.heap.size; omega)).trans d1
    have hva2 := hva1.below (Nat.le_refl _) b2
    have hv2 := hv1.below (Nat.le_refl _) b2
    clear d0 d1 hva1 hv1 b2 B1
    go_wp2_with (go_at_call 17; refine (in_any _ _ _ _).mono ?_; rintro e w6 ⟨rfl, rfl⟩; rw [x1])
    go_ret
    exact ⟨rfl, (by ((repeat' (first | exact Below.refl _ _ | exact B2 | refine Below.alloc ?_ ?_ _ | refine Below.setCell ?_ ?_ _ | refine Below.drew ?_ | refine below_drewN ?_ _ | refine Below.trans ?_ (B2.mono ?_))) <;> (first | omega | (simp; done) | (simp; omega))))⟩
  have x3 : decide ((l.length : Int) ≤ 2 * f) = false := decide_eq_false h3
  have hmb := missTo_bd l t l.length
  by_cases h4 : f < missTo l t l.length
  · have x4 : decide (f < missTo l t l.length) = true := decide_eq_true h4
    go_enter Try.func4, Try.ntmps4
    go_wp2_with fail
    refine (head_any _).mono ?_
    rintro e w1 ⟨rfl, b1⟩
    have z1 := b1.size
    simp only [World.size_alloc] at z1
    have B1 : Below w.heap.size w w1 := (by ((repeat' (first | exact Below.refl _ _ | exact b1 | refine Below.alloc ?_ ?_ _ | refine Below.setCell ?_ ?_ _ | refine Below.drew ?_ | refine below_drewN ?_ _ | refine Below.trans ?_ (b1.mono ?_))) <;> (first | omega | (simp; done) | (simp; omega))))
    obtain ⟨c0, f0⟩ := bk b1 w.heap.size (by simp)
    have d0 : w1.cell? ⟨w.heap.size, 0, none⟩ = some (.int .i64 a) := by rw [c0]; simp
    have d1 : w1.cell? ⟨w.heap.size, 1, none⟩ = some (.int .i64 b) := by rw [c0]; simp
    have hva1 := hva.below (Nat.le_refl _) B1
    have hv1 := hv.below (Nat.le_refl _) B1
    clear c0 f0 b1
    go_wp2_with fail
    refine (RRound_any _ _ _ _ au l _ _ _ _ _ hva1 hv1).mono ?_
    rintro e w2 ⟨rfl, b2⟩
    rw [Hr.out]
    have z2 := b2.size
    have B2 : Below w.heap.size w w2 := (by ((repeat' (first | exact Below.refl _ _ | exact B1 | exact b2 | refine Below.alloc ?_ ?_ _ | refine Below.setCell ?_ ?_ _ | refine Below.drew ?_ | refine below_drewN ?_ _ | refine Below.trans ?_ (B1.mono ?_) | refine Below.trans ?_ (b2.mono ?_))) <;> (first | omega | (simp; done) | (simp; omega))))
    have e0 := (b2.cell (p := ⟨w.heap.size, 0, none⟩) (by show w.heap.size < w1.heap.size; omega)).trans d0
    have e1 := (b2.cell (p := ⟨w.heap.size, 1, none⟩) (by show w.heap.size < w1.heap.size; omega)).trans d1
    have hva2 := hva1.below (Nat.le_refl _) b2
    have hv2 := hv1.below (Nat.le_refl _) b2
    clear d0 d1 hva1 hv1 b2 B1
    go_wp2_with (first | (go_at_call 17; refine (in_any _ _ _ _).mono ?_; rintro e w6 ⟨rfl, rfl⟩; rw [x1]) | (go_at_call 18; refine (wrong_any _ l _ _ (hv2.below (Nat.le_refl _) (by ((repeat' (first | exact Below.refl _ _ | refine Below.alloc ?_ ?_ _ | refine Below.setCell ?_ ?_ _ | refine Below.drew ?_ | refine below_drewN ?_ _)) <;> (first | omega | (simp; done) | (simp; omega))))) (by omega)).mono ?_; rintro e w5 ⟨rfl, b5⟩))
    go_ret
    exact ⟨rfl, (by ((repeat' (first | exact Below.refl _ _ | exact B2 | exact b5 | refine Below.alloc ?_ ?_ _ | refine Below.setCell ?_ ?_ _ | refine Below.drew ?_ | refine below_drewN ?_ _ | refine Below.trans ?_ (B2.mono ?_) | refine Below.trans ?_ (b5.mono ?_))) <;> (first | omega | (simp; done) | (simp; omega))))⟩
  have x4 : decide (f < missTo l t l.length) = false := decide_eq_false h4
  have hr := Hr.out
  have hl := (rnd_list hr).1
  have hok : setOk l f = true := (setOk_iff l f).2 ⟨hl, hfb.1, by omega⟩
  have htr := truth (a := a) (b := b) (t := t) hok (by omega) x1
  have hfew : fewB l f lost asked = false := by simp only [fewB, decide_eq_false_iff_not]; omega
  have hw : way a b au l f lost asked promise = .ok := by unfold way; rw [if_pos hr, if_neg (by simp [hfew]), if_pos htr.1]
  have Ver : ckEr a b au l f lost asked promise = 0 := by simp only [ckEr, hw]
  have V1 : ckIs a b au l f lost asked promise = true := by simp only [ckIs, hw]
  have V2 : ckLo a b au l f lost asked promise = cbLo l f := by simp only [ckLo, hw]
  have V3 : ckHi a b au l f lost asked promise = cbHi l f := by simp only [ckHi, hw]
  have V4 := alL_ok hw
  rw [htr.2.1] at V4
  have V := hide (And.intro Ver (And.intro V1 (And.intro V2 (And.intro V3 V4))))
  have x5 := htr.2.2
  have Hau := hide ((rndB_iff _ _ _ _ _ _ _ _).1 hr).1
  have Hlen := hide (rnd_list hr).2.2
  have Hout := hide (fun k (hk : k < (outL l f).length) j (hj : iAt (outL l f) k = ((j : Nat) : Int)) => out_not hok (show missTo l t l.length ≤ f by omega) hk hj)
  clear hr hl hok htr hfew hw Ver V1 V2 V3 V4
  go_enter Try.func4, Try.ntmps4
  go_wp2_with fail
  refine (head_any _).mono ?_
  rintro e w1 ⟨rfl, b1⟩
  have z1 := b1.size
  simp only [World.size_alloc] at z1
  have B1 : Below w.heap.size w w1 := (by ((repeat' (first | exact Below.refl _ _ | exact b1 | refine Below.alloc ?_ ?_ _ | refine Below.setCell ?_ ?_ _ | refine Below.drew ?_ | refine below_drewN ?_ _ | refine Below.trans ?_ (b1.mono ?_))) <;> (first | omega | (simp; done) | (simp; omega))))
  obtain ⟨c0, f0⟩ := bk b1 w.heap.size (by simp)
  have d0 : w1.cell? ⟨w.heap.size, 0, none⟩ = some (.int .i64 a) := by rw [c0]; simp
  have d1 : w1.cell? ⟨w.heap.size, 1, none⟩ = some (.int .i64 b) := by rw [c0]; simp
  have hva1 := hva.below (Nat.le_refl _) B1
  have hv1 := hv.below (Nat.le_refl _) B1
  clear c0 f0 b1
  go_wp2_with fail
  refine (RRound_any _ _ _ _ au l _ _ _ _ _ hva1 hv1).mono ?_
  rintro e w2 ⟨rfl, b2⟩
  rw [Hr.out]
  have z2 := b2.size
  have B2 : Below w.heap.size w w2 := (by ((repeat' (first | exact Below.refl _ _ | exact B1 | exact b2 | refine Below.alloc ?_ ?_ _ | refine Below.setCell ?_ ?_ _ | refine Below.drew ?_ | refine below_drewN ?_ _ | refine Below.trans ?_ (B1.mono ?_) | refine Below.trans ?_ (b2.mono ?_))) <;> (first | omega | (simp; done) | (simp; omega))))
  have e0 := (b2.cell (p := ⟨w.heap.size, 0, none⟩) (by show w.heap.size < w1.heap.size; omega)).trans d0
  have e1 := (b2.cell (p := ⟨w.heap.size, 1, none⟩) (by show w.heap.size < w1.heap.size; omega)).trans d1
  have hva2 := hva1.below (Nat.le_refl _) b2
  have hv2 := hv1.below (Nat.le_refl _) b2
  clear d0 d1 hva1 hv1 b2 B1
  go_wp2_with (first | (go_at_call 17; refine (in_any _ _ _ _).mono ?_; rintro e w6 ⟨rfl, rfl⟩; rw [x1]) | (go_at_call 18; refine (wrong_any _ l _ _ (hv2.below (Nat.le_refl _) (by ((repeat' (first | exact Below.refl _ _ | refine Below.alloc ?_ ?_ _ | refine Below.setCell ?_ ?_ _ | refine Below.drew ?_ | refine below_drewN ?_ _)) <;> (first | omega | (simp; done) | (simp; omega))))) (by omega)).mono ?_; rintro e w5 ⟨rfl, b5⟩; have e0' := (b5.cell (p := ⟨w.heap.size, 0, none⟩) (by simp; omega)).trans ((old1 w2 _ (by omega) 0).1.trans e0); have e1' := (b5.cell (p := ⟨w.heap.size, 1, none⟩) (by simp; omega)).trans ((old1 w2 _ (by omega) 1).1.trans e1)))
  have z5 := b5.size
  simp only [World.size_alloc] at z5
  have b25 : Below w2.heap.size w2 w5 := (by ((repeat' (first | exact Below.refl _ _ | exact b5 | refine Below.alloc ?_ ?_ _ | refine Below.setCell ?_ ?_ _ | refine Below.drew ?_ | refine below_drewN ?_ _ | refine Below.trans ?_ (b5.mono ?_))) <;> (first | omega | (simp; done) | (simp; omega))))
  have hva5 := hva2.below (Nat.le_refl _) b25
  have hv5 := hv2.below (Nat.le_refl _) b25
  have B5 : Below w.heap.size w w5 := B2.trans (b25.mono (by omega))
  clear b5 e0 e1 hva2 hv2 b25
  refine (Check_any _ _ _ _ au l _ _ _ _ _ hva5 hv5).mono ?_
  rintro e w3 ⟨v3, rfl, o3, b3⟩
  rw [V.out.2.2.2.2] at o3
  rw [V.out.1, V.out.2.1, V.out.2.2.1, V.out.2.2.2.1]
  have z3 := b3.size
  go_upto_region 5 with fail
  have b4 : Below w5.heap.size w5 (w3.alloc (.cells #[.int .i64 (cbLo l f), .int .i64 (cbHi l f)] 23)) := (by ((repeat' (first | exact Below.refl _ _ | exact b3 | refine Below.alloc ?_ ?_ _ | refine Below.setCell ?_ ?_ _ | refine Below.drew ?_ | refine below_drewN ?_ _ | refine Below.trans ?_ (b3.mono ?_))) <;> (first | omega | (simp; done) | (simp; omega))))
  have r3 := o3.row.below (Nat.le_refl _) ((Below.refl _ _).alloc (Nat.le_refl _) (.cells #[.int .i64 (cbLo l f), .int .i64 (cbHi l f)] 23))
  have s0 : (w3.alloc (.cells #[.int .i64 (cbLo l f), .int .i64 (cbHi l f)] 23)).cell? ⟨w3.heap.size, 0, none⟩ = some (.int .i64 (cbLo l f)) := by simp
  have s1 : (w3.alloc (.cells #[.int .i64 (cbLo l f), .int .i64 (cbHi l f)] 23)).cell? ⟨w3.heap.size, 1, none⟩ = some (.int .i64 (cbHi l f)) := by simp
  have B4 : Below w.heap.size w (w3.alloc (.cells #[.int .i64 (cbLo l f), .int .i64 (cbHi l f)] 23)) := B5.trans (b4.mono (by omega))
  have hva4 := hva5.below (Nat.le_refl _) b4
  have hv4 := hv5.below (Nat.le_refl _) b4
  generalize w3.alloc (.cells #[.int .i64 (cbLo l f), .int .i64 (cbHi l f)] 23) = w4 at *
  generalize w3.heap.size = q at *
  clear o3 b3 hva5 hv5 e0' e1' b4
  have Hkinds := hide (fun k (hk : k < (jL false ++ lies au l f ++ yL (wideB l f promise)).length) => al_kinds hk)
  generalize jL false ++ lies au l f ++ yL (wideB l f promise) = al at *
  obtain ⟨vb, vcap, rfl, y1, y2, y3⟩ := r3
  have z4 := B4.size
  obtain ⟨aa, acap, hvaa, c1, c2, c3⟩ := hva4
  cases hvaa
  obtain ⟨ll, lcap, hvll, d1, d2, d3⟩ := hv4
  cases hvll
  go_wp2_with (go_at_call 17; refine (in_any _ _ _ _).mono ?_; rintro e w6 ⟨rfl, rfl⟩; rw [x5])
  have b46 : Below w4.heap.size w4 (w4.alloc (.cells #[.int .i64 (cbLo l f), .int .i64 (cbHi l f)] 23)) := (by ((repeat' (first | exact Below.refl _ _ | refine Below.alloc ?_ ?_ _ | refine Below.setCell ?_ ?_ _ | refine Below.drew ?_ | refine below_drewN ?_ _)) <;> (first | omega | (simp; done) | (simp; omega))))
  clear s0 s1
  go_loopw [92] (fun s92 wx => ∃ k : Nat, k ≤ al.length ∧ s92 = .int .i64 k ∧ Below w4.heap.size w4 wx) (fun s92 _ => al.length - (intOf s92).toNat)
  case atStart => exact ⟨0, by omega, rfl, b46⟩
  case round =>
    obtain ⟨k, hk, rfl, hB⟩ := hrel
    have hz := hB.size
    by_cases hlt : k < al.length
    · obtain ⟨bb, off, rfl, q4, q5, q6⟩ := y3 k hlt
      have g5 := (hB.cell (p := ⟨bb, off + k * 2, none⟩) q4).trans q5
      have g6 := (hB.cell (p := ⟨bb, off + k * 2 + 1, none⟩) q4).trans q6
      clear q5 q6 y3
      obtain ⟨kind, hkind⟩ : ∃ kind, kind = iLo al k := ⟨_, rfl⟩
      have HK : Hid ((kind = 5 ∨ kind = 4) ∧ (kind = 4 → ∃ j : Nat, j < l.length ∧ iHi al k = iAt au j ∧ hasB (iLo l j) (iHi l j) t = false)) := by
        show _ ∧ _
        rcases Hkinds.out k hlt with h | ⟨i, hi, h, h'⟩
        · exact ⟨.inl (by omega), fun h4 => by omega⟩
        · obtain ⟨j, hj, hje⟩ := outL_at hi
          refine ⟨.inr (by omega), fun _ => ⟨j, hj, by rw [h', hje]; rfl, Hout.out i hi j hje⟩⟩
      rw [← hkind] at g5
      generalize iHi al k = xa at *
      clear hkind
      have n4 : kind = 4 ∨ kind = 5 := by have := HK.out.1; omega
      have key : ((kind != 4) && (kind != 5)) = false := by rcases n4 with h | h <;> rw [h] <;> rfl
      have bA : Below wr.heap.size wr (wr.alloc (.cells #[.int .i64 kind, .int .i64 xa] 39)) := (by ((repeat' (first | exact Below.refl _ _ | refine Below.alloc ?_ ?_ _ | refine Below.setCell ?_ ?_ _ | refine Below.drew ?_ | refine below_drewN ?_ _)) <;> (first | omega | (simp; done) | (simp; omega))))
      have a0 : (wr.alloc (.cells #[.int .i64 kind, .int .i64 xa] 39)).cell? ⟨wr.heap.size, 0, none⟩ = some (.int .i64 kind) := by simp
      have a1' : (wr.alloc (.cells #[.int .i64 kind, .int .i64 xa] 39)).cell? ⟨wr.heap.size, 1, none⟩ = some (.int .i64 xa) := by simp
      have zA : wr.heap.size < (wr.alloc (.cells #[.int .i64 kind, .int .i64 xa] 39)).heap.size := by simp
      go_upto_region 10 with fail
      generalize wr.alloc (.cells #[.int .i64 kind, .int .i64 xa] 39) = wA at *
      have BA : Below w4.heap.size w4 wA := (by ((repeat' (first | exact Below.refl _ _ | exact hB | exact bA | refine Below.alloc ?_ ?_ _ | refine Below.setCell ?_ ?_ _ | refine Below.drew ?_ | refine below_drewN ?_ _ | refine Below.trans ?_ (hB.mono ?_) | refine Below.trans ?_ (bA.mono ?_))) <;> (first | omega | (simp; done) | (simp; omega))))
      generalize wr.heap.size = qa at *
      clear g5 g6 bA
      by_cases hk4 : kind = 4
      · have m4 : (kind != 4) = false := by rw [hk4]; rfl
        have m4b : (kind == 4) = true := by rw [hk4]; rfl
        have HJ := hide (HK.out.2 hk4)
        clear hk4 n4 key
        go_wp2_with fail
        obtain ⟨wo, hwo⟩ : ∃ wo : World, wo = wA := ⟨_, rfl⟩
        subst hwo
        go_loopw [106] (fun s106 wx => ∃ i : Nat, i ≤ au.length ∧ s106 = .int .i64 i ∧ Below wo.heap.size wo wx) (fun s106 _ => au.length - (intOf s106).toNat)
        case atStart => exact ⟨0, by omega, rfl, Below.refl _ _⟩
        case round =>
          obtain ⟨i, hi, rfl, hBi⟩ := hrel
          have hzi := hBi.size
          have hBo : Below w4.heap.size w4 wr := BA.trans (hBi.mono BA.size)
          have f0 := (hBi.cell (p := ⟨qa, 0, none⟩) zA).trans a0
          have f1 := (hBi.cell (p := ⟨qa, 1, none⟩) zA).trans a1'
          by_cases hil : i < au.length
          · obtain ⟨b2, off2, rfl, r4, r5⟩ := c3 i hil
            have r5' := (hBo.cell (p := ⟨b2, off2 + i, none⟩) r4).trans r5
            have hil2 : i < l.length := by rw [← Hlen.out]; exact hil
            obtain ⟨b3, off3, rfl, t4, t5, t6⟩ := d3 i hil2
            have t5' := (hBo.cell (p := ⟨b3, off3 + i * 2, none⟩) t4).trans t5
            have t6' := (hBo.cell (p := ⟨b3, off3 + i * 2 + 1, none⟩) t4).trans t6
            clear c3 d3 r5 t5 t6
            by_cases heq : iAt au i = xa
            · have heq2 : (iAt au i == xa) = true := by rw [beq_iff_eq]; exact heq
              have hin : hasB (iLo l i) (iHi l i) t = false := by
                obtain ⟨j, hj, e1, e2⟩ := HJ.out
                have hji : j = i := by
                  rcases Nat.lt_trichotomy i j with h | h | h
                  · have := au_rise Hau.out h (by rw [Hlen.out]; exact hj); omega
                  · exact h.symm
                  · have := au_rise Hau.out h hil; omega
                rw [← hji]; exact e2
              clear heq
              go_wp2_with (go_at_call 17; refine (in_any _ _ _ _).mono ?_; rintro e w6 ⟨rfl, rfl⟩; rw [hin])
              go_roundw
              case rel => exact ⟨i + 1, by omega, by go_num, (by ((repeat' (first | exact Below.refl _ _ | exact hBi | refine Below.alloc ?_ ?_ _ | refine Below.setCell ?_ ?_ _ | refine Below.drew ?_ | refine below_drewN ?_ _ | refine Below.trans ?_ (hBi.mono ?_))) <;> (first | omega | (simp; done) | (simp; omega))))⟩
              case measure => simp [intOf]; omega
            · have heq2 : (iAt au i == xa) = false := by rw [beq_eq_false_iff_ne]; exact heq
              clear heq
              go_wp2_with fail
              go_roundw
              case rel => exact ⟨i + 1, by omega, by go_num, hBi⟩
              case measure => simp [intOf]; omega
          · obtain rfl : i = au.length := by omega
            clear c3 d3
            go_wp2_with fail
            go_roundw
            case rel => exact ⟨k + 1, by omega, by go_num, hBo⟩
            case measure => simp [intOf]; omega
      · have m4 : (kind != 4) = true := by rw [bne_iff_ne]; exact hk4
        have m4b : (kind == 4) = false := by rw [beq_eq_false_iff_ne]; exact hk4
        have m5 : (kind != 5) = false := by rcases n4 with h | h <;> rw [h] at m4 ⊢ <;> first | rfl | cases m4
        clear hk4 n4 key
        go_wp2_with fail
        obtain ⟨wo, hwo⟩ : ∃ wo : World, wo = wA := ⟨_, rfl⟩
        subst hwo
        go_loopw [106] (fun s106 wx => ∃ i : Nat, i ≤ au.length ∧ s106 = .int .i64 i ∧ wo = wx) (fun s106 _ => au.length - (intOf s106).toNat)
        case atStart => exact ⟨0, by omega, rfl, rfl⟩
        case round =>
          obtain ⟨i, hi, rfl, rfl⟩ := hrel
          by_cases hil : i < au.length
          · obtain ⟨b2, off2, rfl, r4, r5⟩ := c3 i hil
            have r5' := (BA.cell (p := ⟨b2, off2 + i, none⟩) r4).trans r5
            clear c3 d3 r5
            go_wp2_with fail
            go_roundw
            case rel => exact ⟨i + 1, by omega, by go_num, by first | rfl | trivial⟩
            case measure => simp [intOf]; omega
          · obtain rfl : i = au.length := by omega
            clear c3 d3
            go_wp2_with fail
            go_roundw
            case rel => exact ⟨k + 1, by omega, by go_num, BA⟩
            case measure => simp [intOf]; omega
    · obtain rfl : k = al.length := by omega
      clear y3 c3 d3
      go_wp2_with fail
      go_ret
      exact ⟨rfl, B4.trans (hB.mono (by omega))⟩
set_option maxRecDepth 100000 in
theorem watchTruth_holds : Rows.WatchTruthSaid :=
  OpenClaim.holds_of_wide 4 Try.f4 rfl rfl rfl rfl rfl rfl rfl ⟨rfl, rfl, rfl, rfl, rfl⟩ rfl rfl rfl rfl rfl (by kernel_rfl) Try.func4 (by kernel_rfl)
    (of_decide_eq_true (by kernel_rfl)) (by unfold Func.isWrapper; rw [if_neg (of_decide_eq_false (by kernel_rfl))]; exact ⟨rfl, rfl⟩)
    (fun os started H enc _ => law_lifted started 4 Try.f4 Try.func4 (by kernel_rfl) Rows.watchTruthSpec rfl rfl
      (fun ds h => by match ds, h with | [_, _, _, _, _, _, _, _], _ => exact ⟨rfl, rfl, rfl⟩)
      (fun t h => by
        rw [Try.params4] at h
        simp only [List.mem_cons, List.not_mem_nil, or_false] at h
        rcases h with rfl | rfl | rfl | rfl | rfl | rfl | rfl | rfl <;> exact ⟨by kernel_rfl, of_decide_eq_true (by kernel_rfl)⟩)
      (ChangeSpec.witness6 (enc := enc) (C := Try.checked) false ⟨#[], #[.agg #[.int .i64 0, .int .i64 0], .slice none 0 0, .slice none 0 0, .int .i64 0, .int .i64 0, .int .i64 0, .int .i64 0, .int .i64 0], []⟩ 8 (by kernel_rfl) (by kernel_rfl) (by kernel_rfl) (by kernel_rfl))
      (fun W base args ds p hA hok => by
        rw [Try.params4] at hA hok
        obtain ⟨v0, vs0, d0, ds0, p0, q0, hargs, rfl, rfl, h0, r0⟩ := ChangeShapes.trodAll_cons hA
        obtain ⟨v1, vs1, d1, ds1, p1, q1, rfl, rfl, rfl, h1, r1⟩ := ChangeShapes.trodAll_cons r0
        obtain ⟨v2, vs2, d2, ds2, p2, q2, rfl, rfl, rfl, h2, r2⟩ := ChangeShapes.trodAll_cons r1
        obtain ⟨v3, vs3, d3, ds3, p3, q3, rfl, rfl, rfl, h3, r3⟩ := ChangeShapes.trodAll_cons r2
        obtain ⟨v4, vs4, d4, ds4, p4, q4, rfl, rfl, rfl, h4, r4⟩ := ChangeShapes.trodAll_cons r3
        obtain ⟨v5, vs5, d5, ds5, p5, q5, rfl, rfl, rfl, h5, r5⟩ := ChangeShapes.trodAll_cons r4
        obtain ⟨v6, vs6, d6, ds6, p6, q6, rfl, rfl, rfl, h6, r6⟩ := ChangeShapes.trodAll_cons r5
        obtain ⟨v7, vs7, d7, ds7, p7, q7, rfl, rfl, rfl, h7, r7⟩ := ChangeShapes.trodAll_cons r6
        obtain ⟨rfl, rfl, rfl⟩ := ChangeShapes.trodAll_nil r7
        obtain rfl : args = #[v0, v1, v2, v3, v4, v5, v6, v7] := by rw [← Array.toArray_toList (xs := args), hargs]
        obtain ⟨a0, b0, rfl, ha0, hb0⟩ := open_iv (hok 0 _ v0 rfl rfl) h0
        obtain ⟨l1, hl1, wl1⟩ := open_is (hok 1 _ v1 rfl rfl) h1
        obtain ⟨l2, hl2, wl2⟩ := open_ivs (hok 2 _ v2 rfl rfl) h2
        obtain ⟨x3, rfl, hx3⟩ := open_i64 Try.underlying3 (hok 3 _ v3 rfl rfl) h3
        obtain ⟨x4, rfl, hx4⟩ := open_i64 Try.underlying3 (hok 4 _ v4 rfl rfl) h4
        obtain ⟨x5, rfl, hx5⟩ := open_i64 Try.underlying3 (hok 5 _ v5 rfl rfl) h5
        obtain ⟨x6, rfl, hx6⟩ := open_i64 Try.underlying3 (hok 6 _ v6 rfl rfl) h6
        obtain ⟨x7, rfl, hx7⟩ := open_i64 Try.underlying3 (hok 7 _ v7 rfl rfl) h7
        exact WtTruth_any W a0 b0 v1 l1 hl1 wl1 v2 l2 hl2 x3 x4 x5 x6 x7))
end Go.Proofs.Ythklljlachljgaa
