/- WatchFaults: for whatever round, numbers and time the statement answers true and leaves its arguments as they were. No condition. -/
import Derived.Test.YthklljlachljgaaWtM
import Derived.Test.YthklljlachljgaaFs
namespace Go.Proofs.Ythklljlachljgaa
open Go.RowKit
attribute [local go_sem ↓] run_max_mx run_min_mn run_eql_iv run_neq_iv run_eql_al run_neq_al
theorem al_kind3 {j y : Bool} {au : List Int} {l : List Iv} {f : Int} {k : Nat} (hk : k < (jL j ++ lies au l f ++ yL y).length) (h : iLo (jL j ++ lies au l f ++ yL y) k = 3) : j = true := by
  obtain ⟨p, hp, e1, e2⟩ := mem_of_at hk
  rw [← e1] at h
  cases j with
  | true => rfl
  | false =>
    exfalso
    rcases List.mem_append.1 hp with hp | hp
    · rcases List.mem_append.1 hp with hp | hp
      · simp [jL] at hp
      · obtain ⟨jj, _, e⟩ := (liesTo_mem au (outL l f) _ p).1 hp
        rw [e] at h; simp at h
    · cases y
      · simp [yL] at hp
      · simp [yL] at hp; rw [hp] at h; simp at h
/-- With a jump, a time that at most f intervals do not contain was not believed before. -/
theorem jump_faults {a b t : Int} {l : List Iv} {f : Int} (hok : setOk l f = true) (hj : jumpB a b l f = true) (hm : missTo l t l.length ≤ f) : hasB a b t = false := by
  have hc := cb_has ((mem_setL hok t).2 hm)
  cases h : hasB a b t with
  | false => rfl
  | true =>
    exfalso
    simp only [hasB, decide_eq_true_eq] at h
    have m1 := mx_spec a (cbLo l f)
    have m2 := mn_spec b (cbHi l f)
    simp only [jumpB, crossB, Bool.not_eq_true', decide_eq_false_iff_not] at hj
    omega
set_option maxRecDepth 100000 in
set_option maxHeartbeats 1000000 in
theorem WtFaults_any (w : World) (a b : Int) (va : Value) (au : List Int) (hva : IsRow w va au) (_wa : WfI au) (v : Value) (l : List Iv) (hv : IvRow w v l) (f lost asked promise t : Int) :
    Calls Try.prog 5 #[.agg #[.int .i64 a, .int .i64 b], va, v, .int .i64 f, .int .i64 lost, .int .i64 asked, .int .i64 promise, .int .i64 t] w fun e w' => e = .returned (.bool true) ∧ Below w.heap.size w w' := by
  obtain ⟨a1, cap1, rfl, g1, g2, g3⟩ := id hva
  obtain ⟨a2, cap2, rfl, h1, h2, h3⟩ := id hv
  clear g3 h3
  cases hr : rndB a b au l f lost asked promise with
  | false =>
    go_enter Try.func5, Try.ntmps5
    go_wp2_with fail
    refine (head_any _).mono ?_
    rintro e w1 ⟨rfl, b1⟩
    have z1 := b1.size
    simp only [World.size_alloc] at z1
    have B1 : Below w.heap.size w w1 := (by ((repeat' (first | exact Below.refl _ _ | exact b1 | refine Below.alloc ?_ ?_ _ | refine Below.setCell ?_ ?_ _ | refine Below.drew ?_ | refine below_drewN ?_ _ | refine Below.trans ?_ (b1.mono ?_))) <;> (first | omega | (simp; done) | (simp; omega))))
    obtain ⟨c0, f0⟩ := bk b1 w.heap.size (by simp)
    have d0 : w1.cell? ⟨w.heap.size, 0, none⟩ = some (.int .i64 a) := by rw [c0]; simp
    have d1 : w1.cell? ⟨w.heap.size, 1, none⟩ = some (.int .i64 b) := by rw [c0]; simp
    have hva1 := hva.below (Nat.le_refl _) B1
    have hv1 := hv.below (Nat.le_refl _) B1
    clear c0 f0 b1
    go_wp2_with fail
    refine (RRound_any _ _ _ _ au l _ _ _ _ _ hva1 hv1).mono ?_
    rintro e w2 ⟨rfl, b2⟩
    rw [hr]
    have z2 := b2.size
    have B2 : Below w.heap.size w w2 := (by ((repeat' (first | exact Below.refl _ _ | exact B1 | exact b2 | refine Below.alloc ?_ ?_ _ | refine Below.setCell ?_ ?_ _ | refine Below.drew ?_ | refine below_drewN ?_ _ | refine Below.trans ?_ (B1.mono ?_) | refine Below.trans ?_ (b2.mono ?_))) <;> (first | omega | (simp; done) | (simp; omega))))
    have e0 := (b2.cell (p := ⟨w.heap.size, 0, none⟩) (by show w.heap.size < w1.heap.size; omega)).trans d0
    have e1 := (b2.cell (p := ⟨w.heap.size, 1, none⟩) (by show w.heap.size < w1.heap.size; omega)).trans d1
    have hva2 := hva1.below (Nat.le_refl _) b2
    have hv2 := hv1.below (Nat.le_refl _) b2
    clear d0 d1 hva1 hv1 b2 B1
    go_wp2_with fail
    go_ret
    exact ⟨rfl, B2⟩
  | true =>
  have hri := (rndB_iff _ _ _ _ _ _ _ _).1 hr
  have hrl := rnd_list hr
  have hl16 := hrl.2.1
  have hfb := hri.2.2.2.2.1
  have hlb := hri.2.2.2.2.2.1
  have hab := hri.2.2.2.2.2.2.1
  have hpb := hri.2.2.2.2.2.2.2
  clear hri
  clear hrl
  have Ver := hide (show ckEr a b au l f lost asked promise = 0 by rcases way_ways hr with ⟨_, e⟩ | ⟨_, _, e⟩ | ⟨_, _, e⟩ <;> simp only [ckEr, e])
  have hmb := missTo_bd l t l.length
  rcases way_ways hr with ⟨hf, hw⟩ | ⟨hf, he, hw⟩ | ⟨hf, he, hw⟩
  · have V1 : ckIs a b au l f lost asked promise = false := by simp only [ckIs, hw]
    have V2 : alL a b au l f lost asked promise = [(2, 0)] := by simp only [alL, hw]
    have V3 : ckLo a b au l f lost asked promise = 0 := by simp only [ckLo, hw]
    have V4 : ckHi a b au l f lost asked promise = 0 := by simp only [ckHi, hw]
    have V := hide (And.intro V1 (And.intro V2 (And.intro V3 V4)))
    have Hr := hide hr
    clear V1 V2 V3 V4 hr hf hw
    go_enter Try.func5, Try.ntmps5
    go_wp2_with fail
    refine (head_any _).mono ?_
    rintro e w1 ⟨rfl, b1⟩
    have z1 := b1.size
    simp only [World.size_alloc] at z1
    have B1 : Below w.heap.size w w1 := (by ((repeat' (first | exact Below.refl _ _ | exact b1 | refine Below.alloc ?_ ?_ _ | refine Below.setCell ?_ ?_ _ | refine Below.drew ?_ | refine below_drewN ?_ _ | refine Below.trans ?_ (b1.mono ?_))) <;> (first | omega | (simp; done) | (simp; omega))))
    obtain ⟨c0, f0⟩ := bk b1 w.heap.size (by simp)
    have d0 : w1.cell? ⟨w.heap.size, 0, none⟩ = some (.int .i64 a) := by rw [c0]; simp
    have d1 : w1.cell? ⟨w.heap.size, 1, none⟩ = some (.int .i64 b) := by rw [c0]; simp
    have hva1 := hva.below (Nat.le_refl _) B1
    have hv1 := hv.below (Nat.le_refl _) B1
    clear c0 f0 b1
    go_wp2_with fail
    refine (RRound_any _ _ _ _ au l _ _ _ _ _ hva1 hv1).mono ?_
    rintro e w2 ⟨rfl, b2⟩
    rw [Hr.out]
    have z2 := b2.size
    have B2 : Below w.heap.size w w2 := (by ((repeat' (first | exact Below.refl _ _ | exact B1 | exact b2 | refine Below.alloc ?_ ?_ _ | refine Below.setCell ?_ ?_ _ | refine Below.drew ?_ | refine below_drewN ?_ _ | refine Below.trans ?_ (B1.mono ?_) | refine Below.trans ?_ (b2.mono ?_))) <;> (first | omega | (simp; done) | (simp; omega))))
    have e0 := (b2.cell (p := ⟨w.heap.size, 0, none⟩) (by show w.heap.size < w1.heap.size; omega)).trans d0
    have e1 := (b2.cell (p := ⟨w.heap.size, 1, none⟩) (by show w.heap.size < w1.heap.size; omega)).trans d1
    have hva2 := hva1.below (Nat.le_refl _) b2
    have hv2 := hv1.below (Nat.le_refl _) b2
    clear d0 d1 hva1 hv1 b2 B1
    go_wp2_with fail
    refine (Check_any _ _ _ _ au l _ _ _ _ _ hva2 hv2).mono ?_
    rintro e w3 ⟨v3, rfl, o3, b3⟩
    rw [V.out.2.1] at o3
    rw [V.out.1, V.out.2.2.1, V.out.2.2.2, Ver.out]
    have z3 := b3.size
    have B3 : Below w.heap.size w (w3.alloc (.cells #[.int .i64 0, .int .i64 0] 23)) := (by ((repeat' (first | exact Below.refl _ _ | exact B2 | exact b3 | refine Below.alloc ?_ ?_ _ | refine Below.setCell ?_ ?_ _ | refine Below.drew ?_ | refine below_drewN ?_ _ | refine Below.trans ?_ (B2.mono ?_) | refine Below.trans ?_ (b3.mono ?_))) <;> (first | omega | (simp; done) | (simp; omega))))
    have r3 := o3.row.below (Nat.le_refl _) ((Below.refl _ _).alloc (Nat.le_refl _) (.cells #[.int .i64 0, .int .i64 0] 23))
    have s0 : (w3.alloc (.cells #[.int .i64 0, .int .i64 0] 23)).cell? ⟨w3.heap.size, 0, none⟩ = some (.int .i64 0) := by simp
    have s1 : (w3.alloc (.cells #[.int .i64 0, .int .i64 0] 23)).cell? ⟨w3.heap.size, 1, none⟩ = some (.int .i64 0) := by simp
    clear o3 b3 e0 e1
    go_upto_region 5 with fail
    generalize w3.alloc (.cells #[.int .i64 0, .int .i64 0] 23) = w4 at *
    generalize w3.heap.size = q at *
    obtain ⟨va', vcap, rfl, y1, y2, y3⟩ := r3
    obtain ⟨bb, off, rfl, q4, q5, q6⟩ := y3 0 (by simp)
    rw [Nat.zero_mul, Nat.add_zero] at q5 q6
    have q5' : w4.cell? ⟨bb, off, none⟩ = some (.int .i64 2) := q5
    have q6' : w4.cell? ⟨bb, off + 1, none⟩ = some (.int .i64 0) := q6
    have ev : ivEq 0 0 0 0 = true := by decide
    have z4 := B3.size
    clear y3 q5 q6 y1
    rw [show [((2 : Int), (0 : Int))].length = 1 from rfl]
    go_wp2_with fail
    go_loopw [66] (fun s66 wx => ∃ k : Nat, k ≤ 1 ∧ s66 = .int .i64 k ∧ Below w4.heap.size w4 wx) (fun s66 _ => 1 - (intOf s66).toNat)
    case atStart => exact ⟨0, by omega, rfl, Below.refl _ _⟩
    case round =>
      obtain ⟨k, hk, rfl, hB⟩ := hrel
      by_cases hlt : k < 1
      · obtain rfl : k = 0 := by omega
        have g5 := (hB.cell (p := ⟨bb, off, none⟩) q4).trans q5'
        have g6 := (hB.cell (p := ⟨bb, off + 1, none⟩) q4).trans q6'
        have hz := hB.size
        clear q5' q6'
        go_wp2_with fail
        go_roundw
        case rel => exact ⟨1, by omega, by go_num, (by ((repeat' (first | exact Below.refl _ _ | exact hB | refine Below.alloc ?_ ?_ _ | refine Below.setCell ?_ ?_ _ | refine Below.drew ?_ | refine below_drewN ?_ _ | refine Below.trans ?_ (hB.mono ?_))) <;> (first | omega | (simp; done) | (simp; omega))))⟩
        case measure => simp [intOf]
      · obtain rfl : k = 1 := by omega
        go_wp2_with fail
        go_ret
        exact ⟨rfl, (by ((repeat' (first | exact Below.refl _ _ | exact B3 | exact hB | refine Below.alloc ?_ ?_ _ | refine Below.setCell ?_ ?_ _ | refine Below.drew ?_ | refine below_drewN ?_ _ | refine Below.trans ?_ (B3.mono ?_) | refine Below.trans ?_ (hB.mono ?_))) <;> (first | omega | (simp; done) | (simp; omega))))⟩
  · have V1 : ckIs a b au l f lost asked promise = false := by simp only [ckIs, hw]
    have V2 : alL a b au l f lost asked promise = [(1, 0)] := by simp only [alL, hw]
    have V3 : ckLo a b au l f lost asked promise = 0 := by simp only [ckLo, hw]
    have V4 : ckHi a b au l f lost asked promise = 0 := by simp only [ckHi, hw]
    have V := hide (And.intro V1 (And.intro V2 (And.intro V3 V4)))
    have Hr := hide hr
    clear V1 V2 V3 V4 hr hf hw he
    go_enter Try.func5, Try.ntmps5
    go_wp2_with fail
    refine (head_any _).mono ?_
    rintro e w1 ⟨rfl, b1⟩
    have z1 := b1.size
    simp only [World.size_alloc] at z1
    have B1 : Below w.heap.size w w1 := (by ((repeat' (first | exact Below.refl _ _ | exact b1 | refine Below.alloc ?_ ?_ _ | refine Below.setCell ?_ ?_ _ | refine Below.drew ?_ | refine below_drewN ?_ _ | refine Below.trans ?_ (b1.mono ?_))) <;> (first | omega | (simp; done) | (simp; omega))))
    obtain ⟨c0, f0⟩ := bk b1 w.heap.size (by simp)
    have d0 : w1.cell? ⟨w.heap.size, 0, none⟩ = some (.int .i64 a) := by rw [c0]; simp
    have d1 : w1.cell? ⟨w.heap.size, 1, none⟩ = some (.int .i64 b) := by rw [c0]; simp
    have hva1 := hva.below (Nat.le_refl _) B1
    have hv1 := hv.below (Nat.le_refl _) B1
    clear c0 f0 b1
    go_wp2_with fail
    refine (RRound_any _ _ _ _ au l _ _ _ _ _ hva1 hv1).mono ?_
    rintro e w2 ⟨rfl, b2⟩
    rw [Hr.out]
    have z2 := b2.size
    have B2 : Below w.heap.size w w2 := (by ((repeat' (first | exact Below.refl _ _ | exact B1 | exact b2 | refine Below.alloc ?_ ?_ _ | refine Below.setCell ?_ ?_ _ | refine Below.drew ?_ | refine below_drewN ?_ _ | refine Below.trans ?_ (B1.mono ?_) | refine Below.trans ?_ (b2.mono ?_))) <;> (first | omega | (simp; done) | (simp; omega))))
    have e0 := (b2.cell (p := ⟨w.heap.size, 0, none⟩) (by show w.heap.size < w1.heap.size; omega)).trans d0
    have e1 := (b2.cell (p := ⟨w.heap.size, 1, none⟩) (by show w.heap.size < w1.heap.size; omega)).trans d1
    have hva2 := hva1.below (Nat.le_refl _) b2
    have hv2 := hv1.below (Nat.le_refl _) b2
    clear d0 d1 hva1 hv1 b2 B1
    go_wp2_with fail
    refine (Check_any _ _ _ _ au l _ _ _ _ _ hva2 hv2).mono ?_
    rintro e w3 ⟨v3, rfl, o3, b3⟩
    rw [V.out.2.1] at o3
    rw [V.out.1, V.out.2.2.1, V.out.2.2.2, Ver.out]
    have z3 := b3.size
    have B3 : Below w.heap.size w (w3.alloc (.cells #[.int .i64 0, .int .i64 0] 23)) := (by ((repeat' (first | exact Below.refl _ _ | exact B2 | exact b3 | refine Below.alloc ?_ ?_ _ | refine Below.setCell ?_ ?_ _ | refine Below.drew ?_ | refine below_drewN ?_ _ | refine Below.trans ?_ (B2.mono ?_) | refine Below.trans ?_ (b3.mono ?_))) <;> (first | omega | (simp; done) | (simp; omega))))
    have r3 := o3.row.below (Nat.le_refl _) ((Below.refl _ _).alloc (Nat.le_refl _) (.cells #[.int .i64 0, .int .i64 0] 23))
    have s0 : (w3.alloc (.cells #[.int .i64 0, .int .i64 0] 23)).cell? ⟨w3.heap.size, 0, none⟩ = some (.int .i64 0) := by simp
    have s1 : (w3.alloc (.cells #[.int .i64 0, .int .i64 0] 23)).cell? ⟨w3.heap.size, 1, none⟩ = some (.int .i64 0) := by simp
    clear o3 b3 e0 e1
    go_upto_region 5 with fail
    generalize w3.alloc (.cells #[.int .i64 0, .int .i64 0] 23) = w4 at *
    generalize w3.heap.size = q at *
    obtain ⟨va', vcap, rfl, y1, y2, y3⟩ := r3
    obtain ⟨bb, off, rfl, q4, q5, q6⟩ := y3 0 (by simp)
    rw [Nat.zero_mul, Nat.add_zero] at q5 q6
    have q5' : w4.cell? ⟨bb, off, none⟩ = some (.int .i64 1) := q5
    have q6' : w4.cell? ⟨bb, off + 1, none⟩ = some (.int .i64 0) := q6
    have ev : ivEq 0 0 0 0 = true := by decide
    have z4 := B3.size
    clear y3 q5 q6 y1
    rw [show [((1 : Int), (0 : Int))].length = 1 from rfl]
    go_wp2_with fail
    go_loopw [66] (fun s66 wx => ∃ k : Nat, k ≤ 1 ∧ s66 = .int .i64 k ∧ Below w4.heap.size w4 wx) (fun s66 _ => 1 - (intOf s66).toNat)
    case atStart => exact ⟨0, by omega, rfl, Below.refl _ _⟩
    case round =>
      obtain ⟨k, hk, rfl, hB⟩ := hrel
      by_cases hlt : k < 1
      · obtain rfl : k = 0 := by omega
        have g5 := (hB.cell (p := ⟨bb, off, none⟩) q4).trans q5'
        have g6 := (hB.cell (p := ⟨bb, off + 1, none⟩) q4).trans q6'
        have hz := hB.size
        clear q5' q6'
        go_wp2_with fail
        go_roundw
        case rel => exact ⟨1, by omega, by go_num, (by ((repeat' (first | exact Below.refl _ _ | exact hB | refine Below.alloc ?_ ?_ _ | refine Below.setCell ?_ ?_ _ | refine Below.drew ?_ | refine below_drewN ?_ _ | refine Below.trans ?_ (hB.mono ?_))) <;> (first | omega | (simp; done) | (simp; omega))))⟩
        case measure => simp [intOf]
      · obtain rfl : k = 1 := by omega
        go_wp2_with fail
        go_ret
        exact ⟨rfl, (by ((repeat' (first | exact Below.refl _ _ | exact B3 | exact hB | refine Below.alloc ?_ ?_ _ | refine Below.setCell ?_ ?_ _ | refine Below.drew ?_ | refine below_drewN ?_ _ | refine Below.trans ?_ (B3.mono ?_) | refine Below.trans ?_ (hB.mono ?_))) <;> (first | omega | (simp; done) | (simp; omega))))⟩
  · have V1 : ckIs a b au l f lost asked promise = true := by simp only [ckIs, hw]
    have V := hide (And.intro V1 (alL_ok hw))
    have hok := (cbEr_zero he).1
    have HJ := hide (fun (hj : jumpB a b l f = true) hm => jump_faults (t := t) hok hj hm)
    have Hr := hide hr
    clear V1 hr hf hw he hok
    go_enter Try.func5, Try.ntmps5
    go_wp2_with fail
    refine (head_any _).mono ?_
    rintro e w1 ⟨rfl, b1⟩
    have z1 := b1.size
    simp only [World.size_alloc] at z1
    have B1 : Below w.heap.size w w1 := (by ((repeat' (first | exact Below.refl _ _ | exact b1 | refine Below.alloc ?_ ?_ _ | refine Below.setCell ?_ ?_ _ | refine Below.drew ?_ | refine below_drewN ?_ _ | refine Below.trans ?_ (b1.mono ?_))) <;> (first | omega | (simp; done) | (simp; omega))))
    obtain ⟨c0, f0⟩ := bk b1 w.heap.size (by simp)
    have d0 : w1.cell? ⟨w.heap.size, 0, none⟩ = some (.int .i64 a) := by rw [c0]; simp
    have d1 : w1.cell? ⟨w.heap.size, 1, none⟩ = some (.int .i64 b) := by rw [c0]; simp
    have hva1 := hva.below (Nat.le_refl _) B1
    have hv1 := hv.below (Nat.le_refl _) B1
    clear c0 f0 b1
    go_wp2_with fail
    refine (RRound_any _ _ _ _ au l _ _ _ _ _ hva1 hv1).mono ?_
    rintro e w2 ⟨rfl, b2⟩
    rw [Hr.out]
    have z2 := b2.size
    have B2 : Below w.heap.size w w2 := (by ((repeat' (first | exact Below.refl _ _ | exact B1 | exact b2 | refine Below.alloc ?_ ?_ _ | refine Below.setCell ?_ ?_ _ | refine Below.drew ?_ | refine below_drewN ?_ _ | refine Below.trans ?_ (B1.mono ?_) | refine Below.trans ?_ (b2.mono ?_))) <;> (first | omega | (simp; done) | (simp; omega))))
    have e0 := (b2.cell (p := ⟨w.heap.size, 0, none⟩) (by show w.heap.size < w1.heap.size; omega)).trans d0
    have e1 := (b2.cell (p := ⟨w.heap.size, 1, none⟩) (by show w.heap.size < w1.heap.size; omega)).trans d1
    have hva2 := hva1.below (Nat.le_refl _) b2
    have hv2 := hv1.below (Nat.le_refl _) b2
    clear d0 d1 hva1 hv1 b2 B1
    go_wp2_with fail
    refine (Check_any _ _ _ _ au l _ _ _ _ _ hva2 hv2).mono ?_
    rintro e w3 ⟨v3, rfl, o3, b3⟩
    rw [V.out.2] at o3
    rw [V.out.1, Ver.out]
    have z3 := b3.size
    go_upto_region 5 with fail
    generalize hO : Obj.cells _ 23 = O3
    have b4 : Below w2.heap.size w2 (w3.alloc O3) := (by ((repeat' (first | exact Below.refl _ _ | exact b3 | refine Below.alloc ?_ ?_ _ | refine Below.setCell ?_ ?_ _ | refine Below.drew ?_ | refine below_drewN ?_ _ | refine Below.trans ?_ (b3.mono ?_))) <;> (first | omega | (simp; done) | (simp; omega))))
    have B3 : Below w.heap.size w (w3.alloc O3) := B2.trans (b4.mono (by omega))
    have r3 := o3.row.below (Nat.le_refl _) ((Below.refl _ _).alloc (Nat.le_refl _) O3)
    have k0 := (b4.cell (p := ⟨w.heap.size, 0, none⟩) (by show w.heap.size < w2.heap.size; omega)).trans e0
    have k1 := (b4.cell (p := ⟨w.heap.size, 1, none⟩) (by show w.heap.size < w2.heap.size; omega)).trans e1
    have hv4 := hv2.below (Nat.le_refl _) b4
    have zw : w.heap.size < (w3.alloc O3).heap.size := by simp; omega
    clear o3 b3 e0 e1 hO b4
    generalize w3.alloc O3 = w4 at *
    have Hk3 := hide (fun k (hk : k < (jL (jumpB a b l f) ++ lies au l f ++ yL (wideB l f promise)).length) h => al_kind3 (k := k) hk h)
    generalize jL (jumpB a b l f) ++ lies au l f ++ yL (wideB l f promise) = al at *
    obtain ⟨va', vcap, rfl, y1, y2, y3⟩ := r3
    go_wp2_with fail
    go_loopw [66] (fun s66 wx => ∃ k : Nat, k ≤ al.length ∧ s66 = .int .i64 k ∧ Below w4.heap.size w4 wx) (fun s66 _ => al.length - (intOf s66).toNat)
    case atStart => exact ⟨0, by omega, rfl, Below.refl _ _⟩
    case round =>
      obtain ⟨k, hk, rfl, hB⟩ := hrel
      have hz := hB.size
      by_cases hlt : k < al.length
      · obtain ⟨bb, off, rfl, q4, q5, q6⟩ := y3 k hlt
        have g5 := (hB.cell (p := ⟨bb, off + k * 2, none⟩) q4).trans q5
        have g6 := (hB.cell (p := ⟨bb, off + k * 2 + 1, none⟩) q4).trans q6
        have x0 := (hB.cell (p := ⟨w.heap.size, 0, none⟩) zw).trans k0
        have x1 := (hB.cell (p := ⟨w.heap.size, 1, none⟩) zw).trans k1
        have hvr := hv4.below (Nat.le_refl _) hB
        have zwr : w.heap.size < wr.heap.size := by omega
        clear q5 q6 y3
        by_cases h3 : iLo al k = 3
        · have h3b : (iLo al k == 3) = true := by rw [beq_iff_eq]; exact h3
          have hj := Hk3.out k hlt h3
          clear h3
          by_cases hm : missTo l t l.length ≤ f
          · have hin := HJ.out hj hm
            have hm' : decide (missTo l t l.length ≤ f) = true := decide_eq_true hm
            go_wp2_with (first | (go_at_call 18; refine (wrong_any _ l _ _ (hvr.below (Nat.le_refl _) (by ((repeat' (first | exact Below.refl _ _ | refine Below.alloc ?_ ?_ _ | refine Below.setCell ?_ ?_ _ | refine Below.drew ?_ | refine below_drewN ?_ _)) <;> (first | omega | (simp; done) | (simp; omega))))) (by omega)).mono ?_; rintro e w5 ⟨rfl, b5⟩; have x0' := (b5.cell (p := ⟨w.heap.size, 0, none⟩) (by simp; omega)).trans ((old1 wr _ (by omega) 0).1.trans x0); have x1' := (b5.cell (p := ⟨w.heap.size, 1, none⟩) (by simp; omega)).trans ((old1 wr _ (by omega) 1).1.trans x1); obtain ⟨c6, f6⟩ := bk b5 wr.heap.size (by simp); have z5 := b5.size; simp only [World.size_alloc] at z5) | (go_at_call 17; refine (in_any _ _ _ _).mono ?_; rintro e w6 ⟨rfl, rfl⟩; rw [hin]))
            go_roundw
            case rel => exact ⟨k + 1, by omega, by go_num, (by ((repeat' (first | exact Below.refl _ _ | exact hB | exact b5 | refine Below.alloc ?_ ?_ _ | refine Below.setCell ?_ ?_ _ | refine Below.drew ?_ | refine below_drewN ?_ _ | refine Below.trans ?_ (hB.mono ?_) | refine Below.trans ?_ (b5.mono ?_))) <;> (first | omega | (simp; done) | (simp; omega))))⟩
            case measure => simp [intOf]; omega
          · have hm' : decide (missTo l t l.length ≤ f) = false := decide_eq_false hm
            go_wp2_with (go_at_call 18; refine (wrong_any _ l _ _ (hvr.below (Nat.le_refl _) (by ((repeat' (first | exact Below.refl _ _ | refine Below.alloc ?_ ?_ _ | refine Below.setCell ?_ ?_ _ | refine Below.drew ?_ | refine below_drewN ?_ _)) <;> (first | omega | (simp; done) | (simp; omega))))) (by omega)).mono ?_; rintro e w5 ⟨rfl, b5⟩; have x0' := (b5.cell (p := ⟨w.heap.size, 0, none⟩) (by simp; omega)).trans ((old1 wr _ (by omega) 0).1.trans x0); have x1' := (b5.cell (p := ⟨w.heap.size, 1, none⟩) (by simp; omega)).trans ((old1 wr _ (by omega) 1).1.trans x1); obtain ⟨c6, f6⟩ := bk b5 wr.heap.size (by simp); have z5 := b5.size; simp only [World.size_alloc] at z5)
            go_roundw
            case rel => exact ⟨k + 1, by omega, by go_num, (by ((repeat' (first | exact Below.refl _ _ | exact hB | exact b5 | refine Below.alloc ?_ ?_ _ | refine Below.setCell ?_ ?_ _ | refine Below.drew ?_ | refine below_drewN ?_ _ | refine Below.trans ?_ (hB.mono ?_) | refine Below.trans ?_ (b5.mono ?_))) <;> (first | omega | (simp; done) | (simp; omega))))⟩
            case measure => simp [intOf]; omega
        · have h3b : (iLo al k == 3) = false := by rw [beq_eq_false_iff_ne]; exact h3
          clear h3
          go_wp2_with fail
          go_roundw
          case rel => exact ⟨k + 1, by omega, by go_num, (by ((repeat' (first | exact Below.refl _ _ | exact hB | refine Below.alloc ?_ ?_ _ | refine Below.setCell ?_ ?_ _ | refine Below.drew ?_ | refine below_drewN ?_ _ | refine Below.trans ?_ (hB.mono ?_))) <;> (first | omega | (simp; done) | (simp; omega))))⟩
          case measure => simp [intOf]; omega
      · obtain rfl : k = al.length := by omega
        have z4 := B3.size
        clear y3
        go_wp2_with fail
        go_ret
        exact ⟨rfl, (by ((repeat' (first | exact Below.refl _ _ | exact B3 | exact hB | refine Below.alloc ?_ ?_ _ | refine Below.setCell ?_ ?_ _ | refine Below.drew ?_ | refine below_drewN ?_ _ | refine Below.trans ?_ (B3.mono ?_) | refine Below.trans ?_ (hB.mono ?_))) <;> (first | omega | (simp; done) | (simp; omega))))⟩
set_option maxRecDepth 100000 in
theorem watchFaults_holds : Rows.WatchFaultsSaid :=
  OpenClaim.holds_of_wide 5 Try.f5 rfl rfl rfl rfl rfl rfl rfl ⟨rfl, rfl, rfl, rfl, rfl⟩ rfl rfl rfl rfl rfl (by kernel_rfl) Try.func5 (by kernel_rfl)
    (of_decide_eq_true (by kernel_rfl)) (by unfold Func.isWrapper; rw [if_neg (of_decide_eq_false (by kernel_rfl))]; exact ⟨rfl, rfl⟩)
    (fun os started H enc _ => law_lifted started 5 Try.f5 Try.func5 (by kernel_rfl) Rows.watchFaultsSpec rfl rfl
      (fun ds h => by match ds, h with | [_, _, _, _, _, _, _, _], _ => exact ⟨rfl, rfl, rfl⟩)
      (fun t h => by
        rw [Try.params5] at h
        simp only [List.mem_cons, List.not_mem_nil, or_false] at h
        rcases h with rfl | rfl | rfl | rfl | rfl | rfl | rfl | rfl <;> exact ⟨by kernel_rfl, of_decide_eq_true (by kernel_rfl)⟩)
      (ChangeSpec.witness6 (enc := enc) (C := Try.checked) false ⟨#[], #[.agg #[.int .i64 0, .int .i64 0], .slice none 0 0, .slice none 0 0, .int .i64 0, .int .i64 0, .int .i64 0, .int .i64 0, .int .i64 0], []⟩ 8 (by kernel_rfl) (by kernel_rfl) (by kernel_rfl) (by kernel_rfl))
      (fun W base args ds p hA hok => by
        rw [Try.params5] at hA hok
        obtain ⟨v0, vs0, d0, ds0, p0, q0, hargs, rfl, rfl, h0, r0⟩ := ChangeShapes.trodAll_cons hA
        obtain ⟨v1, vs1, d1, ds1, p1, q1, rfl, rfl, rfl, h1, r1⟩ := ChangeShapes.trodAll_cons r0
        obtain ⟨v2, vs2, d2, ds2, p2, q2, rfl, rfl, rfl, h2, r2⟩ := ChangeShapes.trodAll_cons r1
        obtain ⟨v3, vs3, d3, ds3, p3, q3, rfl, rfl, rfl, h3, r3⟩ := ChangeShapes.trodAll_cons r2
        obtain ⟨v4, vs4, d4, ds4, p4, q4, rfl, rfl, rfl, h4, r4⟩ := ChangeShapes.trodAll_cons r3
        obtain ⟨v5, vs5, d5, ds5, p5, q5, rfl, rfl, rfl, h5, r5⟩ := ChangeShapes.trodAll_cons r4
        obtain ⟨v6, vs6, d6, ds6, p6, q6, rfl, rfl, rfl, h6, r6⟩ := ChangeShapes.trodAll_cons r5
        obtain ⟨v7, vs7, d7, ds7, p7, q7, rfl, rfl, rfl, h7, r7⟩ := ChangeShapes.trodAll_cons r6
        obtain ⟨rfl, rfl, rfl⟩ := ChangeShapes.trodAll_nil r7
        obtain rfl : args = #[v0, v1, v2, v3, v4, v5, v6, v7] := by rw [← Array.toArray_toList (xs := args), hargs]
        obtain ⟨a0, b0, rfl, ha0, hb0⟩ := open_iv (hok 0 _ v0 rfl rfl) h0
        obtain ⟨l1, hl1, wl1⟩ := open_is (hok 1 _ v1 rfl rfl) h1
        obtain ⟨l2, hl2, wl2⟩ := open_ivs (hok 2 _ v2 rfl rfl) h2
        obtain ⟨x3, rfl, hx3⟩ := open_i64 Try.underlying3 (hok 3 _ v3 rfl rfl) h3
        obtain ⟨x4, rfl, hx4⟩ := open_i64 Try.underlying3 (hok 4 _ v4 rfl rfl) h4
        obtain ⟨x5, rfl, hx5⟩ := open_i64 Try.underlying3 (hok 5 _ v5 rfl rfl) h5
        obtain ⟨x6, rfl, hx6⟩ := open_i64 Try.underlying3 (hok 6 _ v6 rfl rfl) h6
        obtain ⟨x7, rfl, hx7⟩ := open_i64 Try.underlying3 (hok 7 _ v7 rfl rfl) h7
        exact WtFaults_any W a0 b0 v1 l1 hl1 wl1 v2 l2 hl2 x3 x4 x5 x6 x7))
end Go.Proofs.Ythklljlachljgaa
