/- WatchWidth: for whatever round and numbers the statement answers true and leaves its arguments as they were. No condition. -/
import Derived.Test.YthklljlachljgaaWtZ5
import Derived.Test.YthklljlachljgaaApp
namespace Go.Proofs.Ythklljlachljgaa
open Go.RowKit
attribute [local go_sem ↓] run_max_mx run_min_mn run_eql_iv run_neq_iv run_eql_al run_neq_al
theorem way_promise {a b : Int} {au : List Int} {l : List Iv} {f lost asked p q : Int} (h1 : rndB a b au l f lost asked p = true) (h2 : rndB a b au l f lost asked q = true) : way a b au l f lost asked q = way a b au l f lost asked p := by
  unfold way; rw [if_pos h1, if_pos h2]
theorem rnd_promise {a b : Int} {au : List Int} {l : List Iv} {f lost asked p q : Int} (h1 : rndB a b au l f lost asked p = true) (hq : 0 ≤ q ∧ q ≤ 3000000000000000) : rndB a b au l f lost asked q = true := by
  rw [rndB_iff] at h1 ⊢
  exact ⟨h1.1, h1.2.1, h1.2.2.1, h1.2.2.2.1, h1.2.2.2.2.1, h1.2.2.2.2.2.1, h1.2.2.2.2.2.2.1, hq⟩
theorem ck_promise {a b : Int} {au : List Int} {l : List Iv} {f lost asked p q : Int} (h : way a b au l f lost asked q = way a b au l f lost asked p) :
    ckLo a b au l f lost asked q = ckLo a b au l f lost asked p ∧ ckHi a b au l f lost asked q = ckHi a b au l f lost asked p ∧ ckIs a b au l f lost asked q = ckIs a b au l f lost asked p := by
  simp only [ckLo, ckHi, ckIs, h, and_self]
theorem al_promise {a b : Int} {au : List Int} {l : List Iv} {f lost asked p : Int} (h1 : rndB a b au l f lost asked p = true) (hp : 0 < p) :
    alL a b au l f lost asked p = alL a b au l f lost asked 0 ++ yL (ckIs a b au l f lost asked 0 && decide (p < ckHi a b au l f lost asked 0 - ckLo a b au l f lost asked 0)) ∧ (alL a b au l f lost asked 0).length ≤ 100 := by
  have h0 := rnd_promise (q := 0) h1 (by omega)
  have hw := way_promise h0 h1
  have hol := outL_length l f
  have hl := rnd_list h1
  rcases way_ways h0 with ⟨_, e⟩ | ⟨_, _, e⟩ | ⟨_, _, e⟩
  · have e2 := hw.trans e
    simp only [alL, ckIs, e, e2, yL]
    simp
  · have e2 := hw.trans e
    simp only [alL, ckIs, e, e2, yL]
    simp
  · have e2 := hw.trans e
    rw [alL_ok e, alL_ok e2]
    have w0 : wideB l f 0 = false := by simp [wideB]
    have w1 : wideB l f p = decide (p < cbHi l f - cbLo l f) := by unfold wideB; rw [Bool.eq_iff_iff]; simp only [decide_eq_true_eq]; omega
    have i0 : ckIs a b au l f lost asked 0 = true := by simp only [ckIs, e]
    have l0 : ckLo a b au l f lost asked 0 = cbLo l f := by simp only [ckLo, e]
    have u0 : ckHi a b au l f lost asked 0 = cbHi l f := by simp only [ckHi, e]
    rw [w0, w1, i0, l0, u0, Bool.true_and]
    refine ⟨by simp [yL], ?_⟩
    have : (jL (jumpB a b l f)).length ≤ 1 := by cases jumpB a b l f <;> simp [jL]
    simp only [List.length_append, lies, liesTo_length, yL]
    simp; omega
theorem ckEr_0 {a b : Int} {au : List Int} {l : List Iv} {f lost asked p : Int} (h1 : rndB a b au l f lost asked p = true) : ckEr a b au l f lost asked p = 0 := by
  rcases way_ways h1 with ⟨_, e⟩ | ⟨_, _, e⟩ | ⟨_, _, e⟩ <;> simp only [ckEr, e]
theorem ck_bd {a b : Int} {au : List Int} {l : List Iv} {f lost asked p : Int} (h1 : rndB a b au l f lost asked p = true) : (0 ≤ ckLo a b au l f lost asked p ∧ ckLo a b au l f lost asked p ≤ 3000000000000000) ∧ 0 ≤ ckHi a b au l f lost asked p ∧ ckHi a b au l f lost asked p ≤ 3000000000000000 := by
  rcases way_ways h1 with ⟨_, e⟩ | ⟨_, _, e⟩ | ⟨_, he, e⟩
  · simp only [ckLo, ckHi, e]; omega
  · simp only [ckLo, ckHi, e]; omega
  · simp only [ckLo, ckHi, e]
    have := (validB_iff _ _).1 (cb_valid he); omega
theorem ownP_far {T : TypeId} {W W' : World} {base : Nat} {v : Value} {c : List Iv} {row : Option Nat} (h : OwnP T W base v c) (hg : W.grownBy W' row) (hne : ∀ r, v.ownBlock = some r → some r ≠ row) : OwnP T W' base v c := by
  refine ⟨h.1, ?_⟩
  rcases h.2 with h1 | ⟨g, cap, cur, hv, hb, hc, r⟩
  · exact .inl h1
  · refine .inr ⟨g, cap, cur, hv, hb, ?_, r⟩
    have hlt : g < W.heap.size := by
      rcases Nat.lt_or_ge g W.heap.size with hlt | hge
      · exact hlt
      · rw [Array.getElem?_eq_none hge] at hc; cases hc
    rw [hg.block g hlt (hne g (by rw [hv]; rfl))]
    exact hc
set_option maxRecDepth 100000 in
set_option maxHeartbeats 1000000 in
theorem WtWidth_any (w : World) (a b : Int) (va : Value) (au : List Int) (hva : IsRow w va au) (_wa : WfI au) (v : Value) (l : List Iv) (hv : IvRow w v l) (f lost asked promise more : Int) :
    Calls Try.prog 8 #[.agg #[.int .i64 a, .int .i64 b], va, v, .int .i64 f, .int .i64 lost, .int .i64 asked, .int .i64 promise, .int .i64 more] w fun e w' => e = .returned (.bool true) ∧ Below w.heap.size w w' := by
  obtain ⟨a1, cap1, rfl, g1, g2, g3⟩ := id hva
  obtain ⟨a2, cap2, rfl, h1, h2, h3⟩ := id hv
  clear g3 h3
  cases hr : rndB a b au l f lost asked promise with
  | false =>
    go_enter Try.func8, Try.ntmps8
    go_wp2_with fail
    refine (head_any _).mono ?_
    rintro e w1 ⟨rfl, b1⟩
    have z1 := b1.size
    simp only [World.size_alloc] at z1
    have B1 : Below w.heap.size w w1 := (by ((repeat' (first | exact Below.refl _ _ | exact b1 | refine Below.alloc ?_ ?_ _ | refine Below.setCell ?_ ?_ _ | refine Below.drew ?_ | refine below_drewN ?_ _ | refine Below.trans ?_ (b1.mono ?_))) <;> (first | omega | (simp; done) | (simp; omega))))
    obtain ⟨c0, f0⟩ := bk b1 w.heap.size (by simp)
    have d0 : w1.cell? ⟨w.heap.size, 0, none⟩ = some (.int .i64 a) := by rw [c0]; simp
    have d1 : w1.cell? ⟨w.heap.size, 1, none⟩ = some (.int .i64 b) := by rw [c0]; simp
    have hva1 := hva.below (Nat.le_refl _) B1
    have hv1 := hv.below (Nat.le_refl _) B1
    clear c0 f0 b1
    go_wp2_with fail
    refine (RRound_any _ _ _ _ au l _ _ _ _ _ hva1 hv1).mono ?_
    rintro e w2 ⟨rfl, b2⟩
    rw [hr]
    have z2 := b2.size
    have B2 : Below w.heap.size w w2 := (by ((repeat' (first | exact Below.refl _ _ | exact B1 | exact b2 | refine Below.alloc ?_ ?_ _ | refine Below.setCell ?_ ?_ _ | refine Below.drew ?_ | refine below_drewN ?_ _ | refine Below.trans ?_ (B1.mono ?_) | refine Below.trans ?_ (b2.mono ?_))) <;> (first | omega | (simp; done) | (simp; omega))))
    have e0 := (b2.cell (p := ⟨w.heap.size, 0, none⟩) (by show w.heap.size < w1.heap.size; omega)).trans d0
    have e1 := (b2.cell (p := ⟨w.heap.size, 1, none⟩) (by show w.heap.size < w1.heap.size; omega)).trans d1
    have hva2 := hva1.below (Nat.le_refl _) b2
    have hv2 := hv1.below (Nat.le_refl _) b2
    clear d0 d1 hva1 hv1 b2 B1
    go_wp2_with fail
    go_ret
    exact ⟨rfl, B2⟩
  | true =>
  have hri := (rndB_iff _ _ _ _ _ _ _ _).1 hr
  have hrl := rnd_list hr
  have hl16 := hrl.2.1
  have hfb := hri.2.2.2.2.1
  have hlb := hri.2.2.2.2.2.1
  have hab := hri.2.2.2.2.2.2.1
  have hpb := hri.2.2.2.2.2.2.2
  clear hri
  clear hrl
  by_cases hp0 : promise = 0
  · have x1 : (promise == 0) = true := by rw [beq_iff_eq]; exact hp0
    clear hp0
    have Hr := hide hr
    clear hr
    go_enter Try.func8, Try.ntmps8
    go_wp2_with fail
    refine (head_any _).mono ?_
    rintro e w1 ⟨rfl, b1⟩
    have z1 := b1.size
    simp only [World.size_alloc] at z1
    have B1 : Below w.heap.size w w1 := (by ((repeat' (first | exact Below.refl _ _ | exact b1 | refine Below.alloc ?_ ?_ _ | refine Below.setCell ?_ ?_ _ | refine Below.drew ?_ | refine below_drewN ?_ _ | refine Below.trans ?_ (b1.mono ?_))) <;> (first | omega | (simp; done) | (simp; omega))))
    obtain ⟨c0, f0⟩ := bk b1 w.heap.size (by simp)
    have d0 : w1.cell? ⟨w.heap.size, 0, none⟩ = some (.int .i64 a) := by rw [c0]; simp
    have d1 : w1.cell? ⟨w.heap.size, 1, none⟩ = some (.int .i64 b) := by rw [c0]; simp
    have hva1 := hva.below (Nat.le_refl _) B1
    have hv1 := hv.below (Nat.le_refl _) B1
    clear c0 f0 b1
    go_wp2_with fail
    refine (RRound_any _ _ _ _ au l _ _ _ _ _ hva1 hv1).mono ?_
    rintro e w2 ⟨rfl, b2⟩
    rw [Hr.out]
    have z2 := b2.size
    have B2 : Below w.heap.size w w2 := (by ((repeat' (first | exact Below.refl _ _ | exact B1 | exact b2 | refine Below.alloc ?_ ?_ _ | refine Below.setCell ?_ ?_ _ | refine Below.drew ?_ | refine below_drewN ?_ _ | refine Below.trans ?_ (B1.mono ?_) | refine Below.trans ?_ (b2.mono ?_))) <;> (first | omega | (simp; done) | (simp; omega))))
    have e0 := (b2.cell (p := ⟨w.heap.size, 0, none⟩) (by show w.heap.size < w1.heap.size; omega)).trans d0
    have e1 := (b2.cell (p := ⟨w.heap.size, 1, none⟩) (by show w.heap.size < w1.heap.size; omega)).trans d1
    have hva2 := hva1.below (Nat.le_refl _) b2
    have hv2 := hv1.below (Nat.le_refl _) b2
    clear d0 d1 hva1 hv1 b2 B1
    go_wp2_with fail
    go_ret
    exact ⟨rfl, B2⟩
  have x1 : (promise == 0) = false := by rw [beq_eq_false_iff_ne]; exact hp0
  by_cases hm1 : more < promise
  · have x2 : decide (more < promise) = true := decide_eq_true hm1
    clear hp0
    have Hr := hide hr
    clear hr
    go_enter Try.func8, Try.ntmps8
    go_wp2_with fail
    refine (head_any _).mono ?_
    rintro e w1 ⟨rfl, b1⟩
    have z1 := b1.size
    simp only [World.size_alloc] at z1
    have B1 : Below w.heap.size w w1 := (by ((repeat' (first | exact Below.refl _ _ | exact b1 | refine Below.alloc ?_ ?_ _ | refine Below.setCell ?_ ?_ _ | refine Below.drew ?_ | refine below_drewN ?_ _ | refine Below.trans ?_ (b1.mono ?_))) <;> (first | omega | (simp; done) | (simp; omega))))
    obtain ⟨c0, f0⟩ := bk b1 w.heap.size (by simp)
    have d0 : w1.cell? ⟨w.heap.size, 0, none⟩ = some (.int .i64 a) := by rw [c0]; simp
    have d1 : w1.cell? ⟨w.heap.size, 1, none⟩ = some (.int .i64 b) := by rw [c0]; simp
    have hva1 := hva.below (Nat.le_refl _) B1
    have hv1 := hv.below (Nat.le_refl _) B1
    clear c0 f0 b1
    go_wp2_with fail
    refine (RRound_any _ _ _ _ au l _ _ _ _ _ hva1 hv1).mono ?_
    rintro e w2 ⟨rfl, b2⟩
    rw [Hr.out]
    have z2 := b2.size
    have B2 : Below w.heap.size w w2 := (by ((repeat' (first | exact Below.refl _ _ | exact B1 | exact b2 | refine Below.alloc ?_ ?_ _ | refine Below.setCell ?_ ?_ _ | refine Below.drew ?_ | refine below_drewN ?_ _ | refine Below.trans ?_ (B1.mono ?_) | refine Below.trans ?_ (b2.mono ?_))) <;> (first | omega | (simp; done) | (simp; omega))))
    have e0 := (b2.cell (p := ⟨w.heap.size, 0, none⟩) (by show w.heap.size < w1.heap.size; omega)).trans d0
    have e1 := (b2.cell (p := ⟨w.heap.size, 1, none⟩) (by show w.heap.size < w1.heap.size; omega)).trans d1
    have hva2 := hva1.below (Nat.le_refl _) b2
    have hv2 := hv1.below (Nat.le_refl _) b2
    clear d0 d1 hva1 hv1 b2 B1
    go_wp2_with fail
    go_ret
    exact ⟨rfl, B2⟩
  have x2 : decide (more < promise) = false := decide_eq_false hm1
  by_cases hm2 : 3000000000000000 < more
  · have x3 : decide (3000000000000000 < more) = true := decide_eq_true hm2
    clear hp0
    have Hr := hide hr
    clear hr
    go_enter Try.func8, Try.ntmps8
    go_wp2_with fail
    refine (head_any _).mono ?_
    rintro e w1 ⟨rfl, b1⟩
    have z1 := b1.size
    simp only [World.size_alloc] at z1
    have B1 : Below w.heap.size w w1 := (by ((repeat' (first | exact Below.refl _ _ | exact b1 | refine Below.alloc ?_ ?_ _ | refine Below.setCell ?_ ?_ _ | refine Below.drew ?_ | refine below_drewN ?_ _ | refine Below.trans ?_ (b1.mono ?_))) <;> (first | omega | (simp; done) | (simp; omega))))
    obtain ⟨c0, f0⟩ := bk b1 w.heap.size (by simp)
    have d0 : w1.cell? ⟨w.heap.size, 0, none⟩ = some (.int .i64 a) := by rw [c0]; simp
    have d1 : w1.cell? ⟨w.heap.size, 1, none⟩ = some (.int .i64 b) := by rw [c0]; simp
    have hva1 := hva.below (Nat.le_refl _) B1
    have hv1 := hv.below (Nat.le_refl _) B1
    clear c0 f0 b1
    go_wp2_with fail
    refine (RRound_any _ _ _ _ au l _ _ _ _ _ hva1 hv1).mono ?_
    rintro e w2 ⟨rfl, b2⟩
    rw [Hr.out]
    have z2 := b2.size
    have B2 : Below w.heap.size w w2 := (by ((repeat' (first | exact Below.refl _ _ | exact B1 | exact b2 | refine Below.alloc ?_ ?_ _ | refine Below.setCell ?_ ?_ _ | refine Below.drew ?_ | refine below_drewN ?_ _ | refine Below.trans ?_ (B1.mono ?_) | refine Below.trans ?_ (b2.mono ?_))) <;> (first | omega | (simp; done) | (simp; omega))))
    have e0 := (b2.cell (p := ⟨w.heap.size, 0, none⟩) (by show w.heap.size < w1.heap.size; omega)).trans d0
    have e1 := (b2.cell (p := ⟨w.heap.size, 1, none⟩) (by show w.heap.size < w1.heap.size; omega)).trans d1
    have hva2 := hva1.below (Nat.le_refl _) b2
    have hv2 := hv1.below (Nat.le_refl _) b2
    clear d0 d1 hva1 hv1 b2 B1
    go_wp2_with fail
    go_ret
    exact ⟨rfl, B2⟩
  have x3 : decide (3000000000000000 < more) = false := decide_eq_false hm2
  have h0 := rnd_promise (q := 0) hr (by omega)
  have hm := rnd_promise (q := more) hr (by omega)
  have a1' := al_promise hr (by omega)
  have a2' := al_promise hm (by omega)
  have p1 := ck_promise (way_promise h0 hr)
  have p2 := ck_promise (way_promise h0 hm)
  have cb := ck_bd h0
  have E := hide (And.intro (ckEr_0 h0) (And.intro (ckEr_0 hr) (ckEr_0 hm)))
  have P := hide (And.intro p1 p2)
  have A := hide (And.intro a1'.1 a2'.1)
  have hA0 := a1'.2
  have Hr := hide hr
  clear hp0 h0 hm a1' a2' p1 p2 hr
  go_enter Try.func8, Try.ntmps8
  go_wp2_with fail
  refine (head_any _).mono ?_
  rintro e w1 ⟨rfl, b1⟩
  have z1 := b1.size
  simp only [World.size_alloc] at z1
  have B1 : Below w.heap.size w w1 := (by ((repeat' (first | exact Below.refl _ _ | exact b1 | refine Below.alloc ?_ ?_ _ | refine Below.setCell ?_ ?_ _ | refine Below.drew ?_ | refine below_drewN ?_ _ | refine Below.trans ?_ (b1.mono ?_))) <;> (first | omega | (simp; done) | (simp; omega))))
  obtain ⟨c0, f0⟩ := bk b1 w.heap.size (by simp)
  have d0 : w1.cell? ⟨w.heap.size, 0, none⟩ = some (.int .i64 a) := by rw [c0]; simp
  have d1 : w1.cell? ⟨w.heap.size, 1, none⟩ = some (.int .i64 b) := by rw [c0]; simp
  have hva1 := hva.below (Nat.le_refl _) B1
  have hv1 := hv.below (Nat.le_refl _) B1
  clear c0 f0 b1
  go_wp2_with fail
  refine (RRound_any _ _ _ _ au l _ _ _ _ _ hva1 hv1).mono ?_
  rintro e w2 ⟨rfl, b2⟩
  rw [Hr.out]
  have z2 := b2.size
  have B2 : Below w.heap.size w w2 := (by ((repeat' (first | exact Below.refl _ _ | exact B1 | exact b2 | refine Below.alloc ?_ ?_ _ | refine Below.setCell ?_ ?_ _ | refine Below.drew ?_ | refine below_drewN ?_ _ | refine Below.trans ?_ (B1.mono ?_) | refine Below.trans ?_ (b2.mono ?_))) <;> (first | omega | (simp; done) | (simp; omega))))
  have e0 := (b2.cell (p := ⟨w.heap.size, 0, none⟩) (by show w.heap.size < w1.heap.size; omega)).trans d0
  have e1 := (b2.cell (p := ⟨w.heap.size, 1, none⟩) (by show w.heap.size < w1.heap.size; omega)).trans d1
  have hva2 := hva1.below (Nat.le_refl _) b2
  have hv2 := hv1.below (Nat.le_refl _) b2
  clear d0 d1 hva1 hv1 b2 B1
  have HB2 := B2
  generalize hAL0 : alL a b au l f lost asked 0 = A0 at *
  generalize hIS : ckIs a b au l f lost asked 0 = is0 at *
  generalize hLO : ckLo a b au l f lost asked 0 = lo at *
  generalize hHI : ckHi a b au l f lost asked 0 = hi at *
  have HAL0 := hide hAL0
  have HIS := hide hIS
  have HLO := hide hLO
  have HHI := hide hHI
  clear hAL0 hIS hLO hHI
  go_wp2_with fail
  refine (Check_any _ _ _ _ au l _ _ _ _ _ hva2 hv2).mono ?_
  rintro e w3 ⟨v3, rfl, o3, b3⟩
  rw [HAL0.out] at o3
  rw [HIS.out, HLO.out, HHI.out, E.out.1]
  have z3 := b3.size
  go_upto_region 5 with fail
  have c3 : Below w2.heap.size w2 (w3.alloc (.cells #[.int .i64 lo, .int .i64 hi] 23)) := (by ((repeat' (first | exact Below.refl _ _ | exact b3 | refine Below.alloc ?_ ?_ _ | refine Below.setCell ?_ ?_ _ | refine Below.drew ?_ | refine below_drewN ?_ _ | refine Below.trans ?_ (b3.mono ?_))) <;> (first | omega | (simp; done) | (simp; omega))))
  have r3 := o3.row.below (Nat.le_refl _) ((Below.refl _ _).alloc (Nat.le_refl _) (.cells #[.int .i64 lo, .int .i64 hi] 23))
  have s0 : (w3.alloc (.cells #[.int .i64 lo, .int .i64 hi] 23)).cell? ⟨w3.heap.size, 0, none⟩ = some (.int .i64 lo) := by simp
  have s1 : (w3.alloc (.cells #[.int .i64 lo, .int .i64 hi] 23)).cell? ⟨w3.heap.size, 1, none⟩ = some (.int .i64 hi) := by simp
  have zs : w3.heap.size < (w3.alloc (.cells #[.int .i64 lo, .int .i64 hi] 23)).heap.size := by simp
  generalize w3.alloc (.cells #[.int .i64 lo, .int .i64 hi] 23) = w4 at *
  have zq3 : w2.heap.size ≤ w3.heap.size := z3
  generalize w3.heap.size = q3 at *
  have k0 := (c3.cell (p := ⟨w.heap.size, 0, none⟩) (by show w.heap.size < w2.heap.size; omega)).trans e0
  have k1 := (c3.cell (p := ⟨w.heap.size, 1, none⟩) (by show w.heap.size < w2.heap.size; omega)).trans e1
  have hva4 := hva2.below (Nat.le_refl _) c3
  have hv4 := hv2.below (Nat.le_refl _) c3
  clear o3 b3 e0 e1 hva2 hv2
  go_wp2_with fail
  refine (Check_any _ _ _ _ au l _ _ _ _ _ hva4 hv4).mono ?_
  rintro e w5 ⟨v5, rfl, o5, b5⟩
  rw [A.out.1] at o5
  rw [P.out.1.1, P.out.1.2.1, P.out.1.2.2, E.out.2.1]
  have z5 := b5.size
  go_upto_region 6 with fail
  have c5 : Below w4.heap.size w4 (w5.alloc (.cells #[.int .i64 lo, .int .i64 hi] 23)) := (by ((repeat' (first | exact Below.refl _ _ | exact b5 | refine Below.alloc ?_ ?_ _ | refine Below.setCell ?_ ?_ _ | refine Below.drew ?_ | refine below_drewN ?_ _ | refine Below.trans ?_ (b5.mono ?_))) <;> (first | omega | (simp; done) | (simp; omega))))
  have r5 := o5.row.below (Nat.le_refl _) ((Below.refl _ _).alloc (Nat.le_refl _) (.cells #[.int .i64 lo, .int .i64 hi] 23))
  have t0 : (w5.alloc (.cells #[.int .i64 lo, .int .i64 hi] 23)).cell? ⟨w5.heap.size, 0, none⟩ = some (.int .i64 lo) := by simp
  have t1 : (w5.alloc (.cells #[.int .i64 lo, .int .i64 hi] 23)).cell? ⟨w5.heap.size, 1, none⟩ = some (.int .i64 hi) := by simp
  have zt : w5.heap.size < (w5.alloc (.cells #[.int .i64 lo, .int .i64 hi] 23)).heap.size := by simp
  generalize w5.alloc (.cells #[.int .i64 lo, .int .i64 hi] 23) = w6 at *
  have zq5 : w4.heap.size ≤ w5.heap.size := z5
  generalize w5.heap.size = q5 at *
  have n0 := (c5.cell (p := ⟨w.heap.size, 0, none⟩) (by show w.heap.size < w4.heap.size; omega)).trans k0
  have n1 := (c5.cell (p := ⟨w.heap.size, 1, none⟩) (by show w.heap.size < w4.heap.size; omega)).trans k1
  have s60 := (c5.cell (p := ⟨q3, 0, none⟩) zs).trans s0
  have s61 := (c5.cell (p := ⟨q3, 1, none⟩) zs).trans s1
  have r36 := r3.below (Nat.le_refl _) c5
  have hva6 := hva4.below (Nat.le_refl _) c5
  have hv6 := hv4.below (Nat.le_refl _) c5
  clear o5 b5 k0 k1 hva4 hv4 s0 s1 r3
  go_wp2_with fail
  refine (Check_any _ _ _ _ au l _ _ _ _ _ hva6 hv6).mono ?_
  rintro e w7 ⟨v7, rfl, o7, b7⟩
  rw [A.out.2] at o7
  rw [P.out.2.1, P.out.2.2.1, P.out.2.2.2, E.out.2.2]
  have z7 := b7.size
  go_upto_region 7 with fail
  have c7 : Below w6.heap.size w6 (w7.alloc (.cells #[.int .i64 lo, .int .i64 hi] 23)) := (by ((repeat' (first | exact Below.refl _ _ | exact b7 | refine Below.alloc ?_ ?_ _ | refine Below.setCell ?_ ?_ _ | refine Below.drew ?_ | refine below_drewN ?_ _ | refine Below.trans ?_ (b7.mono ?_))) <;> (first | omega | (simp; done) | (simp; omega))))
  have r7 := o7.row.below (Nat.le_refl _) ((Below.refl _ _).alloc (Nat.le_refl _) (.cells #[.int .i64 lo, .int .i64 hi] 23))
  have u0 : (w7.alloc (.cells #[.int .i64 lo, .int .i64 hi] 23)).cell? ⟨w7.heap.size, 0, none⟩ = some (.int .i64 lo) := by simp
  have u1 : (w7.alloc (.cells #[.int .i64 lo, .int .i64 hi] 23)).cell? ⟨w7.heap.size, 1, none⟩ = some (.int .i64 hi) := by simp
  generalize w7.alloc (.cells #[.int .i64 lo, .int .i64 hi] 23) = w8 at *
  generalize w7.heap.size = q7 at *
  have s80 := (c7.cell (p := ⟨q3, 0, none⟩) (by show q3 < w6.heap.size; have := c5.size; omega)).trans s60
  have s81 := (c7.cell (p := ⟨q3, 1, none⟩) (by show q3 < w6.heap.size; have := c5.size; omega)).trans s61
  have t80 := (c7.cell (p := ⟨q5, 0, none⟩) zt).trans t0
  have t81 := (c7.cell (p := ⟨q5, 1, none⟩) zt).trans t1
  have r38 := r36.below (Nat.le_refl _) c7
  have r58 := r5.below (Nat.le_refl _) c7
  have B8 : Below w.heap.size w w8 := by have := c3.size; have := c5.size; exact (by ((repeat' (first | exact Below.refl _ _ | exact B2 | exact c3 | exact c5 | exact c7 | refine Below.alloc ?_ ?_ _ | refine Below.setCell ?_ ?_ _ | refine Below.drew ?_ | refine below_drewN ?_ _ | refine Below.trans ?_ (B2.mono ?_) | refine Below.trans ?_ (c3.mono ?_) | refine Below.trans ?_ (c5.mono ?_) | refine Below.trans ?_ (c7.mono ?_))) <;> (first | omega | (simp; done) | (simp; omega))))
  have z8 := B8.size
  have hq38 : q3 < w8.heap.size := by have := c5.size; have := c7.size; omega
  clear o7 b7 n0 n1 hva6 hv6 s60 s61 t0 t1 r36 r5 c3 c5 c7 HB2 B2
  have ei : (is0 != is0) = false := by simp
  have ev : ivEq lo hi lo hi = true := by simp [ivEq]
  obtain ⟨i0, hi0, hz0, hz1, hz2⟩ := info_parts infoAl
  go_upto_region 9 with fail
  have tok1 : True := trivial
  have tok2 : True := trivial
  go_upto_region 10 with (first
    | (at_builtin; have _t := tok1; refine wpList_append_src _ rfl _ _ 27 rfl w8.heap.size 39 i0 (.agg #[.int .i64 0, .int .i64 0]) 2 16 Try.underlying27 hi0 hz0 hz1 hz2 rfl (by decide) _ 0 [] rfl (own_new0 (base := w8.heap.size) _ (World.alloc_heap_new w8 _) (Nat.le_refl _)) _ A0.length (encL A0) rfl (src_iv (r38.below (Nat.le_refl _) ((Below.refl _ _).alloc (Nat.le_refl _) _))) (encL_one A0) (by unfold maxLen; omega) (by omega) (by simp) ?_; intro vW w9 hown9 hg9 hob9; rw [Nat.zero_add, List.nil_append] at hown9; have Hob9 := hide hob9; clear tok1 hob9; have b9 : Below w8.heap.size w8 w9 := ((Below.refl _ _).alloc (Nat.le_refl _) _).grown hg9 (by simp) (fun r h => by cases h; exact Nat.le_refl _); have hlowW := hide (World.ownsRow.lt hown9))
    | (at_builtin; have _t := tok2; refine wpList_append_src _ rfl _ _ 27 rfl w9.heap.size 39 i0 (.agg #[.int .i64 0, .int .i64 0]) 2 16 Try.underlying27 hi0 hz0 hz1 hz2 rfl (by decide) _ 0 [] rfl (own_new0 (base := w9.heap.size) _ (World.alloc_heap_new w9 _) (Nat.le_refl _)) _ A0.length (encL A0) rfl (src_iv ((r38.below (Nat.le_refl _) b9).below (Nat.le_refl _) ((Below.refl _ _).alloc (Nat.le_refl _) _))) (encL_one A0) (by unfold maxLen; omega) (by omega) (by simp) ?_; intro vL w10 hown10 hg10 hob10; rw [Nat.zero_add, List.nil_append] at hown10; clear tok2 hob10))
  have b10 : Below w9.heap.size w9 w10 := ((Below.refl _ _).alloc (Nat.le_refl _) _).grown hg10 (by simp) (fun r h => by cases h; exact Nat.le_refl _)
  have oW : OwnAl w10 w8.heap.size vW A0 := ownsRow_below hown9 b10
  have oL : OwnAl w10 w9.heap.size vL A0 := hown10
  have z9 := b9.size
  have z10 := b10.size
  have b810 : Below w8.heap.size w8 w10 := (by ((repeat' (first | exact Below.refl _ _ | exact b9 | exact b10 | refine Below.alloc ?_ ?_ _ | refine Below.setCell ?_ ?_ _ | refine Below.drew ?_ | refine below_drewN ?_ _ | refine Below.trans ?_ (b9.mono ?_) | refine Below.trans ?_ (b10.mono ?_))) <;> (first | omega | (simp; done) | (simp; omega))))
  have s100 := (b810.cell (p := ⟨q3, 0, none⟩) hq38).trans s80
  have s101 := (b810.cell (p := ⟨q3, 1, none⟩) hq38).trans s81
  have r510 := r58.below (Nat.le_refl _) b810
  have r710 := r7.below (Nat.le_refl _) b810
  have B10 : Below w.heap.size w w10 := (by ((repeat' (first | exact Below.refl _ _ | exact B8 | exact b810 | refine Below.alloc ?_ ?_ _ | refine Below.setCell ?_ ?_ _ | refine Below.drew ?_ | refine below_drewN ?_ _ | refine Below.trans ?_ (B8.mono ?_) | refine Below.trans ?_ (b810.mono ?_))) <;> (first | omega | (simp; done) | (simp; omega))))
  have B810 := hide b810
  have S8 := hide (And.intro s80 s81)
  have R5 := hide r58
  have R7 := hide r7
  have B8' := hide B8
  clear hown9 hown10 hg9 hg10 b9 b10 b810 s80 s81 t80 t81 u0 u1 r58 r7 r38 B8
  obtain ⟨wa, wcap, hvW, w1', w2'⟩ := oW.val
  obtain ⟨la, lcap, hvL, l1', l2'⟩ := oL.val
  subst hvW hvL
  cases is0 with
  | false =>
    have r5F : IvRow w10 v5 (A0 ++ yL false) := r510
    have r7F : IvRow w10 v7 (A0 ++ yL false) := r710
    clear r510 r710
    obtain ⟨xa, xcap, hv5, _, _, _⟩ := id r5F
    obtain ⟨ya, ycap, hv7, _, _, _⟩ := id r7F
    rw [show (A0 ++ yL false).length = A0.length by simp [yL]] at hv5
    rw [show (A0 ++ yL false).length = A0.length by simp [yL]] at hv7
    subst hv5 hv7
    have ra := oW.row
    have rl := oL.row
    go_wp2_with fail
    refine (RSame40_any _ _ _ (A0) _ r5F ra).mono ?_
    rintro e wF ⟨rfl, bF⟩
    rw [show decide (A0 ++ yL false = A0) = true by simp [yL]]
    have zF := bF.size
    go_wp2_with fail
    refine (RSame40_any _ _ _ (A0) _ (r7F.below (Nat.le_refl _) bF) (rl.below (Nat.le_refl _) bF)).mono ?_
    rintro e wG ⟨rfl, bG⟩
    rw [show decide (A0 ++ yL false = A0) = true by simp [yL]]
    go_wp2_with fail
    go_ret
    exact ⟨by first | rfl | (refine ret_bool ?_; simp; done) | (refine ret_bool ?_; simp; omega), (by ((repeat' (first | exact Below.refl _ _ | exact B10 | exact bF | exact bG | refine Below.alloc ?_ ?_ _ | refine Below.setCell ?_ ?_ _ | refine Below.drew ?_ | refine below_drewN ?_ _ | refine Below.trans ?_ (B10.mono ?_) | refine Below.trans ?_ (bF.mono ?_) | refine Below.trans ?_ (bG.mono ?_))) <;> (first | omega | (simp; done) | (simp; omega))))⟩
  | true =>
    by_cases hd1 : promise < hi - lo
    case neg =>
      have x4 : decide (promise < hi - lo) = false := decide_eq_false hd1
      have x5 : decide (more < hi - lo) = false := decide_eq_false (by omega)
      have r5F : IvRow w10 v5 (A0 ++ yL false) := by rw [x4] at r510; exact r510
      have r7F : IvRow w10 v7 (A0 ++ yL false) := by rw [x5] at r710; exact r710
      clear r510 r710
      obtain ⟨xa, xcap, hv5, _, _, _⟩ := id r5F
      obtain ⟨ya, ycap, hv7, _, _, _⟩ := id r7F
      rw [show (A0 ++ yL false).length = A0.length by simp [yL]] at hv5
      rw [show (A0 ++ yL false).length = A0.length by simp [yL]] at hv7
      subst hv5 hv7
      have ra := oW.row
      have rl := oL.row
      go_wp2_with fail
      refine (RSame40_any _ _ _ (A0) _ r5F ra).mono ?_
      rintro e wF ⟨rfl, bF⟩
      rw [show decide (A0 ++ yL false = A0) = true by simp [yL]]
      have zF := bF.size
      go_wp2_with fail
      refine (RSame40_any _ _ _ (A0) _ (r7F.below (Nat.le_refl _) bF) (rl.below (Nat.le_refl _) bF)).mono ?_
      rintro e wG ⟨rfl, bG⟩
      rw [show decide (A0 ++ yL false = A0) = true by simp [yL]]
      go_wp2_with fail
      go_ret
      exact ⟨by first | rfl | (refine ret_bool ?_; simp; done) | (refine ret_bool ?_; simp; omega), (by ((repeat' (first | exact Below.refl _ _ | exact B10 | exact bF | exact bG | refine Below.alloc ?_ ?_ _ | refine Below.setCell ?_ ?_ _ | refine Below.drew ?_ | refine below_drewN ?_ _ | refine Below.trans ?_ (B10.mono ?_) | refine Below.trans ?_ (bF.mono ?_) | refine Below.trans ?_ (bG.mono ?_))) <;> (first | omega | (simp; done) | (simp; omega))))⟩
    have x4 : decide (promise < hi - lo) = true := decide_eq_true hd1
    rw [x4] at r510
    have oW' := oW
    unfold OwnAl OwnP at oW'
    go_upto_region 12 with (at_builtin; refine wpList_append_own_at _ rfl _ _ 27 rfl w8.heap.size 39 i0 (.agg #[.int .i64 0, .int .i64 0]) 2 16 Try.underlying27 hi0 hz0 hz1 hz2 rfl (by decide) _ A0.length (encL A0) rfl (World.ownsRow.alloc oW' _) ⟨w10.heap.size, 0, none⟩ 1 1 [.int .i64 5, .int .i64 0] rfl rfl (cells_new w10 [.int .i64 5, .int .i64 0] _) (by simp [Value.oneCell']) (by unfold maxLen; omega) (by omega) (by simp; omega) ?_; intro vW2 w11 hown11 hg11 _ hob11; have Hob11 := hide hob11; clear hob11)
    have z11 := hg11.size
    simp only [World.size_alloc] at z11
    have oW2 : OwnAl w11 w8.heap.size vW2 (A0 ++ [(5, 0)]) := OwnP.app hown11
    have b10a : Below w10.heap.size w10 (w10.alloc (.cells #[.int .i64 5, .int .i64 0] 39)) := (by ((repeat' (first | exact Below.refl _ _ | refine Below.alloc ?_ ?_ _ | refine Below.setCell ?_ ?_ _ | refine Below.drew ?_ | refine below_drewN ?_ _)) <;> (first | omega | (simp; done) | (simp; omega))))
    have hlowL := World.ownsRow.lt oL
    have oL2 : OwnAl w11 w9.heap.size _ A0 := ownP_far (oL.below (Nat.le_refl _) b10a) hg11 (fun r hr e => by have h1 := hlowL r hr; have h2 := hlowW.out r e.symm; omega)
    have B11 : Below w8.heap.size w8 w11 := by
      have b810 : Below w8.heap.size w8 w10 := B810.out
      exact (b810.alloc (by omega) _).grown hg11 (by simp; omega) (fun r h => (hlowW.out r h).1)
    have s110 := (B11.cell (p := ⟨q3, 0, none⟩) hq38).trans S8.out.1
    have s111 := (B11.cell (p := ⟨q3, 1, none⟩) hq38).trans S8.out.2
    have r511 := R5.out.below (Nat.le_refl _) B11
    have r711 := R7.out.below (Nat.le_refl _) B11
    rw [x4] at r511
    have BF : Below w.heap.size w w11 := B8'.out.trans (B11.mono (by omega))
    clear hown11 b10a oW oW' oL s100 s101 r510 r710
    obtain ⟨wa2, wcap2, hvW2, _, _⟩ := oW2.val
    obtain ⟨la2, lcap2, hvL2, _, _⟩ := oL2.val
    cases hvL2
    rw [show (A0 ++ [((5 : Int), (0 : Int))]).length = A0.length + 1 by simp] at hvW2
    subst hvW2
    by_cases hd2 : more < hi - lo
    case neg =>
      have x5 : decide (more < hi - lo) = false := decide_eq_false hd2
      rw [x5] at r711
      have r5F : IvRow w11 v5 (A0 ++ yL true) := r511
      have r7F : IvRow w11 v7 (A0 ++ yL false) := r711
      clear r511 r711 hg11
      obtain ⟨xa, xcap, hv5, _, _, _⟩ := id r5F
      obtain ⟨ya, ycap, hv7, _, _, _⟩ := id r7F
      rw [show (A0 ++ yL true).length = A0.length + 1 by simp [yL]] at hv5
      rw [show (A0 ++ yL false).length = A0.length by simp [yL]] at hv7
      subst hv5 hv7
      have ra := oW2.row
      have rl := oL2.row
      go_wp2_with fail
      refine (RSame40_any _ _ _ (A0 ++ [(5, 0)]) _ r5F ra).mono ?_
      rintro e wF ⟨rfl, bF⟩
      rw [show decide (A0 ++ yL true = A0 ++ [(5, 0)]) = true by simp [yL]]
      have zF := bF.size
      go_wp2_with fail
      refine (RSame40_any _ _ _ (A0) _ (r7F.below (Nat.le_refl _) bF) (rl.below (Nat.le_refl _) bF)).mono ?_
      rintro e wG ⟨rfl, bG⟩
      rw [show decide (A0 ++ yL false = A0) = true by simp [yL]]
      go_wp2_with fail
      go_ret
      exact ⟨by first | rfl | (refine ret_bool ?_; simp; done) | (refine ret_bool ?_; simp; omega), (by ((repeat' (first | exact Below.refl _ _ | exact BF | exact bF | exact bG | refine Below.alloc ?_ ?_ _ | refine Below.setCell ?_ ?_ _ | refine Below.drew ?_ | refine below_drewN ?_ _ | refine Below.trans ?_ (BF.mono ?_) | refine Below.trans ?_ (bF.mono ?_) | refine Below.trans ?_ (bG.mono ?_))) <;> (first | omega | (simp; done) | (simp; omega))))⟩
    have x5 : decide (more < hi - lo) = true := decide_eq_true hd2
    rw [x5] at r711
    have oL2' := oL2
    unfold OwnAl OwnP at oL2'
    go_upto_region 14 with (at_builtin; refine wpList_append_own _ rfl _ _ 27 rfl w9.heap.size 39 i0 (.agg #[.int .i64 0, .int .i64 0]) 2 16 Try.underlying27 hi0 hz0 hz1 hz2 rfl (by decide) _ A0.length (encL A0) rfl (World.ownsRow.alloc oL2' _) ⟨w11.heap.size, 0, none⟩ 1 1 [.int .i64 5, .int .i64 0] rfl rfl (cells_new w11 [.int .i64 5, .int .i64 0] _) (by simp [Value.oneCell']) (by unfold maxLen; omega) (by omega) (by simp; omega) ?_; intro vL3 w12 hown12 hg12 _)
    have z12 := hg12.size
    simp only [World.size_alloc] at z12
    have oL3 : OwnAl w12 w9.heap.size vL3 (A0 ++ [(5, 0)]) := OwnP.app hown12
    have b11a : Below w11.heap.size w11 (w11.alloc (.cells #[.int .i64 5, .int .i64 0] 39)) := (by ((repeat' (first | exact Below.refl _ _ | refine Below.alloc ?_ ?_ _ | refine Below.setCell ?_ ?_ _ | refine Below.drew ?_ | refine below_drewN ?_ _)) <;> (first | omega | (simp; done) | (simp; omega))))
    have hl2 := World.ownsRow.lt oL2
    have hlL := hlowL
    have oW3 : OwnAl w12 w8.heap.size _ (A0 ++ [(5, 0)]) := ownP_far (oW2.below (Nat.le_refl _) b11a) hg12 (fun r hr e => by
      have h2 := hlL r e.symm
      rcases Hob11.out with h | h
      · rw [hr] at h
        have h3 := hlowW.out r h.symm
        omega
      · rw [hr] at h
        simp at h; omega)
    have B12 : Below w8.heap.size w8 w12 := (B11.alloc (by omega) _).grown hg12 (by simp; omega) (fun r h => by have := hl2 r h; omega)
    have r5F : IvRow w12 v5 (A0 ++ yL true) := by have := R5.out.below (Nat.le_refl _) B12; rw [x4] at this; exact this
    have r7F : IvRow w12 v7 (A0 ++ yL true) := by have := R7.out.below (Nat.le_refl _) B12; rw [x5] at this; exact this
    have BG : Below w.heap.size w w12 := B8'.out.trans (B12.mono (by omega))
    clear hown12 hg11 hg12 r511 r711 oL2' BF
    obtain ⟨la3, lcap3, hvL3, _, _⟩ := oL3.val
    rw [show (A0 ++ [((5 : Int), (0 : Int))]).length = A0.length + 1 by simp] at hvL3
    subst hvL3
    obtain ⟨xa, xcap, hv5, _, _, _⟩ := id r5F
    obtain ⟨ya, ycap, hv7, _, _, _⟩ := id r7F
    rw [show (A0 ++ yL true).length = A0.length + 1 by simp [yL]] at hv5
    rw [show (A0 ++ yL true).length = A0.length + 1 by simp [yL]] at hv7
    subst hv5 hv7
    have ra := oW3.row
    have rl := oL3.row
    go_wp2_with fail
    refine (RSame40_any _ _ _ (A0 ++ [(5, 0)]) _ r5F ra).mono ?_
    rintro e wF ⟨rfl, bF⟩
    rw [show decide (A0 ++ yL true = A0 ++ [(5, 0)]) = true by simp [yL]]
    have zF := bF.size
    go_wp2_with fail
    refine (RSame40_any _ _ _ (A0 ++ [(5, 0)]) _ (r7F.below (Nat.le_refl _) bF) (rl.below (Nat.le_refl _) bF)).mono ?_
    rintro e wG ⟨rfl, bG⟩
    rw [show decide (A0 ++ yL true = A0 ++ [(5, 0)]) = true by simp [yL]]
    go_wp2_with fail
    go_ret
    exact ⟨by first | rfl | (refine ret_bool ?_; simp; done) | (refine ret_bool ?_; simp; omega), (by ((repeat' (first | exact Below.refl _ _ | exact BG | exact bF | exact bG | refine Below.alloc ?_ ?_ _ | refine Below.setCell ?_ ?_ _ | refine Below.drew ?_ | refine below_drewN ?_ _ | refine Below.trans ?_ (BG.mono ?_) | refine Below.trans ?_ (bF.mono ?_) | refine Below.trans ?_ (bG.mono ?_))) <;> (first | omega | (simp; done) | (simp; omega))))⟩
set_option maxRecDepth 100000 in
theorem watchWidth_holds : Rows.WatchWidthSaid :=
  OpenClaim.holds_of_wide 8 Try.f8 rfl rfl rfl rfl rfl rfl rfl ⟨rfl, rfl, rfl, rfl, rfl⟩ rfl rfl rfl rfl rfl (by kernel_rfl) Try.func8 (by kernel_rfl)
    (of_decide_eq_true (by kernel_rfl)) (by unfold Func.isWrapper; rw [if_neg (of_decide_eq_false (by kernel_rfl))]; exact ⟨rfl, rfl⟩)
    (fun os started H enc _ => law_lifted started 8 Try.f8 Try.func8 (by kernel_rfl) Rows.watchWidthSpec rfl rfl
      (fun ds h => by match ds, h with | [_, _, _, _, _, _, _, _], _ => exact ⟨rfl, rfl, rfl⟩)
      (fun t h => by
        rw [Try.params8] at h
        simp only [List.mem_cons, List.not_mem_nil, or_false] at h
        rcases h with rfl | rfl | rfl | rfl | rfl | rfl | rfl | rfl <;> exact ⟨by kernel_rfl, of_decide_eq_true (by kernel_rfl)⟩)
      (ChangeSpec.witness6 (enc := enc) (C := Try.checked) false ⟨#[], #[.agg #[.int .i64 0, .int .i64 0], .slice none 0 0, .slice none 0 0, .int .i64 0, .int .i64 0, .int .i64 0, .int .i64 0, .int .i64 0], []⟩ 8 (by kernel_rfl) (by kernel_rfl) (by kernel_rfl) (by kernel_rfl))
      (fun W base args ds p hA hok => by
        rw [Try.params8] at hA hok
        obtain ⟨v0, vs0, d0, ds0, p0, q0, hargs, rfl, rfl, h0, r0⟩ := ChangeShapes.trodAll_cons hA
        obtain ⟨v1, vs1, d1, ds1, p1, q1, rfl, rfl, rfl, h1, r1⟩ := ChangeShapes.trodAll_cons r0
        obtain ⟨v2, vs2, d2, ds2, p2, q2, rfl, rfl, rfl, h2, r2⟩ := ChangeShapes.trodAll_cons r1
        obtain ⟨v3, vs3, d3, ds3, p3, q3, rfl, rfl, rfl, h3, r3⟩ := ChangeShapes.trodAll_cons r2
        obtain ⟨v4, vs4, d4, ds4, p4, q4, rfl, rfl, rfl, h4, r4⟩ := ChangeShapes.trodAll_cons r3
        obtain ⟨v5, vs5, d5, ds5, p5, q5, rfl, rfl, rfl, h5, r5⟩ := ChangeShapes.trodAll_cons r4
        obtain ⟨v6, vs6, d6, ds6, p6, q6, rfl, rfl, rfl, h6, r6⟩ := ChangeShapes.trodAll_cons r5
        obtain ⟨v7, vs7, d7, ds7, p7, q7, rfl, rfl, rfl, h7, r7⟩ := ChangeShapes.trodAll_cons r6
        obtain ⟨rfl, rfl, rfl⟩ := ChangeShapes.trodAll_nil r7
        obtain rfl : args = #[v0, v1, v2, v3, v4, v5, v6, v7] := by rw [← Array.toArray_toList (xs := args), hargs]
        obtain ⟨a0, b0, rfl, ha0, hb0⟩ := open_iv (hok 0 _ v0 rfl rfl) h0
        obtain ⟨l1, hl1, wl1⟩ := open_is (hok 1 _ v1 rfl rfl) h1
        obtain ⟨l2, hl2, wl2⟩ := open_ivs (hok 2 _ v2 rfl rfl) h2
        obtain ⟨x3, rfl, hx3⟩ := open_i64 Try.underlying3 (hok 3 _ v3 rfl rfl) h3
        obtain ⟨x4, rfl, hx4⟩ := open_i64 Try.underlying3 (hok 4 _ v4 rfl rfl) h4
        obtain ⟨x5, rfl, hx5⟩ := open_i64 Try.underlying3 (hok 5 _ v5 rfl rfl) h5
        obtain ⟨x6, rfl, hx6⟩ := open_i64 Try.underlying3 (hok 6 _ v6 rfl rfl) h6
        obtain ⟨x7, rfl, hx7⟩ := open_i64 Try.underlying3 (hok 7 _ v7 rfl rfl) h7
        exact WtWidth_any W a0 b0 v1 l1 hl1 wl1 v2 l2 hl2 x3 x4 x5 x6 x7))
end Go.Proofs.Ythklljlachljgaa
