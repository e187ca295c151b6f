/- WatchLies: for whatever round and numbers the statement answers true and leaves its arguments as they were. No condition. -/
import Derived.Test.YthklljlachljgaaWtM
import Derived.Test.YthklljlachljgaaFs
namespace Go.Proofs.Ythklljlachljgaa
open Go.RowKit
attribute [local go_sem ↓] run_max_mx run_min_mn run_eql_iv run_neq_iv run_eql_al run_neq_al
theorem al_left {A B : List Iv} {k : Nat} (h : k < A.length) : iLo (A ++ B) k = iLo A k ∧ iHi (A ++ B) k = iHi A k := by
  simp [iLo, iHi, List.getD_eq_getElem?_getD, List.getElem?_append_left h]
theorem al_right {A B : List Iv} {k : Nat} (h : A.length ≤ k) : iLo (A ++ B) k = iLo B (k - A.length) ∧ iHi (A ++ B) k = iHi B (k - A.length) := by
  simp [iLo, iHi, List.getD_eq_getElem?_getD, List.getElem?_append_right h]
theorem liesTo_at (au o : List Int) : ∀ k j, j < k → iLo (liesTo au o k) j = 4 ∧ iHi (liesTo au o k) j = iAt au (iAt o j).toNat
  | 0, j, h => by omega
  | k + 1, j, h => by
    rw [liesTo]
    rcases Nat.lt_or_ge j k with h1 | h1
    · have hl : j < (liesTo au o k).length := by rw [liesTo_length]; exact h1
      have := liesTo_at au o k j h1
      rw [(al_left hl).1, (al_left hl).2]; exact this
    · obtain rfl : j = k := by omega
      have := iLo_append_len (liesTo au o j) (4, iAt au (iAt o j).toNat)
      rw [liesTo_length] at this
      exact this
/-- Element k of the alarms of a combination: the jump, the lie k - (0 or 1), or the width. -/
theorem al_at {j y : Bool} {au : List Int} {l : List Iv} {f : Int} {k : Nat} (hk : k < (jL j ++ lies au l f ++ yL y).length) :
    ((k < (jL j).length ∨ (jL j).length + (outL l f).length ≤ k) ∧ iLo (jL j ++ lies au l f ++ yL y) k ≠ 4 ∧ iHi (jL j ++ lies au l f ++ yL y) k = 0) ∨
    (∃ i, k = (jL j).length + i ∧ i < (outL l f).length ∧ iLo (jL j ++ lies au l f ++ yL y) k = 4 ∧ iHi (jL j ++ lies au l f ++ yL y) k = iAt au (iAt (outL l f) i).toNat) := by
  have hll : (lies au l f).length = (outL l f).length := liesTo_length _ _ _
  rcases Nat.lt_or_ge k (jL j).length with h1 | h1
  · refine .inl ⟨.inl h1, ?_⟩
    rw [List.append_assoc, (al_left h1).1, (al_left h1).2]
    cases j with
    | false => simp [jL] at h1
    | true =>
      simp [jL] at h1
      subst h1
      simp [jL, iLo, iHi]
  · rcases Nat.lt_or_ge k ((jL j).length + (outL l f).length) with h2 | h2
    · refine .inr ⟨k - (jL j).length, by omega, by omega, ?_⟩
      have h3 : k < (jL j ++ lies au l f).length := by rw [List.length_append, hll]; exact h2
      rw [(al_left h3).1, (al_left h3).2]
      have h4 := liesTo_at au (outL l f) (outL l f).length (k - (jL j).length) (by omega)
      rw [(al_right h1).1, (al_right h1).2]
      exact h4
    · refine .inl ⟨.inr h2, ?_⟩
      have h3 : (jL j ++ lies au l f).length ≤ k := by rw [List.length_append, hll]; exact h2
      rw [(al_right h3).1, (al_right h3).2]
      have hk' : k - (jL j ++ lies au l f).length < (yL y).length := by rw [List.length_append] at hk; omega
      cases y with
      | false => simp [yL] at hk'
      | true =>
        simp only [yL, if_true] at hk' ⊢
        have : k - (jL j ++ lies au l f).length = 0 := by simpa using hk'
        rw [this]; simp [iLo, iHi]
set_option maxRecDepth 100000 in
set_option maxHeartbeats 1000000 in
theorem WtLies_any (w : World) (a b : Int) (va : Value) (au : List Int) (hva : IsRow w va au) (_wa : WfI au) (v : Value) (l : List Iv) (hv : IvRow w v l) (f lost asked promise : Int) :
    Calls Try.prog 6 #[.agg #[.int .i64 a, .int .i64 b], va, v, .int .i64 f, .int .i64 lost, .int .i64 asked, .int .i64 promise] w fun e w' => e = .returned (.bool true) ∧ Below w.heap.size w w' := by
  obtain ⟨a1, cap1, rfl, g1, g2, g3⟩ := id hva
  obtain ⟨a2, cap2, rfl, h1, h2, h3⟩ := id hv
  clear g3 h3
  cases hr : rndB a b au l f lost asked promise with
  | false =>
    go_enter Try.func6, Try.ntmps6
    go_wp2_with fail
    refine (head_any _).mono ?_
    rintro e w1 ⟨rfl, b1⟩
    have z1 := b1.size
    simp only [World.size_alloc] at z1
    have B1 : Below w.heap.size w w1 := (by ((repeat' (first | exact Below.refl _ _ | exact b1 | refine Below.alloc ?_ ?_ _ | refine Below.setCell ?_ ?_ _ | refine Below.drew ?_ | refine below_drewN ?_ _ | refine Below.trans ?_ (b1.mono ?_))) <;> (first | omega | (simp; done) | (simp; omega))))
    obtain ⟨c0, f0⟩ := bk b1 w.heap.size (by simp)
    have d0 : w1.cell? ⟨w.heap.size, 0, none⟩ = some (.int .i64 a) := by rw [c0]; simp
    have d1 : w1.cell? ⟨w.heap.size, 1, none⟩ = some (.int .i64 b) := by rw [c0]; simp
    have hva1 := hva.below (Nat.le_refl _) B1
    have hv1 := hv.below (Nat.le_refl _) B1
    clear c0 f0 b1
    go_wp2_with fail
    refine (RRound_any _ _ _ _ au l _ _ _ _ _ hva1 hv1).mono ?_
    rintro e w2 ⟨rfl, b2⟩
    rw [hr]
    have z2 := b2.size
    have B2 : Below w.heap.size w w2 := (by ((repeat' (first | exact Below.refl _ _ | exact B1 | exact b2 | refine Below.alloc ?_ ?_ _ | refine Below.setCell ?_ ?_ _ | refine Below.drew ?_ | refine below_drewN ?_ _ | refine Below.trans ?_ (B1.mono ?_) | refine Below.trans ?_ (b2.mono ?_))) <;> (first | omega | (simp; done) | (simp; omega))))
    have e0 := (b2.cell (p := ⟨w.heap.size, 0, none⟩) (by show w.heap.size < w1.heap.size; omega)).trans d0
    have e1 := (b2.cell (p := ⟨w.heap.size, 1, none⟩) (by show w.heap.size < w1.heap.size; omega)).trans d1
    have hva2 := hva1.below (Nat.le_refl _) b2
    have hv2 := hv1.below (Nat.le_refl _) b2
    clear d0 d1 hva1 hv1 b2 B1
    go_wp2_with fail
    go_ret
    exact ⟨rfl, B2⟩
  | true =>
  have hri := (rndB_iff _ _ _ _ _ _ _ _).1 hr
  have hrl := rnd_list hr
  have hl16 := hrl.2.1
  have hfb := hri.2.2.2.2.1
  have hlb := hri.2.2.2.2.2.1
  have hab := hri.2.2.2.2.2.2.1
  have hpb := hri.2.2.2.2.2.2.2
  clear hri
  clear hrl
  have Ver := hide (show ckEr a b au l f lost asked promise = 0 by rcases way_ways hr with ⟨_, e⟩ | ⟨_, _, e⟩ | ⟨_, _, e⟩ <;> simp only [ckEr, e])
  cases his : ckIs a b au l f lost asked promise with
  | false =>
    have His := hide his
    have Hr := hide hr
    clear hr his
    go_enter Try.func6, Try.ntmps6
    go_wp2_with fail
    refine (head_any _).mono ?_
    rintro e w1 ⟨rfl, b1⟩
    have z1 := b1.size
    simp only [World.size_alloc] at z1
    have B1 : Below w.heap.size w w1 := (by ((repeat' (first | exact Below.refl _ _ | exact b1 | refine Below.alloc ?_ ?_ _ | refine Below.setCell ?_ ?_ _ | refine Below.drew ?_ | refine below_drewN ?_ _ | refine Below.trans ?_ (b1.mono ?_))) <;> (first | omega | (simp; done) | (simp; omega))))
    obtain ⟨c0, f0⟩ := bk b1 w.heap.size (by simp)
    have d0 : w1.cell? ⟨w.heap.size, 0, none⟩ = some (.int .i64 a) := by rw [c0]; simp
    have d1 : w1.cell? ⟨w.heap.size, 1, none⟩ = some (.int .i64 b) := by rw [c0]; simp
    have hva1 := hva.below (Nat.le_refl _) B1
    have hv1 := hv.below (Nat.le_refl _) B1
    clear c0 f0 b1
    go_wp2_with fail
    refine (RRound_any _ _ _ _ au l _ _ _ _ _ hva1 hv1).mono ?_
    rintro e w2 ⟨rfl, b2⟩
    rw [Hr.out]
    have z2 := b2.size
    have B2 : Below w.heap.size w w2 := (by ((repeat' (first | exact Below.refl _ _ | exact B1 | exact b2 | refine Below.alloc ?_ ?_ _ | refine Below.setCell ?_ ?_ _ | refine Below.drew ?_ | refine below_drewN ?_ _ | refine Below.trans ?_ (B1.mono ?_) | refine Below.trans ?_ (b2.mono ?_))) <;> (first | omega | (simp; done) | (simp; omega))))
    have e0 := (b2.cell (p := ⟨w.heap.size, 0, none⟩) (by show w.heap.size < w1.heap.size; omega)).trans d0
    have e1 := (b2.cell (p := ⟨w.heap.size, 1, none⟩) (by show w.heap.size < w1.heap.size; omega)).trans d1
    have hva2 := hva1.below (Nat.le_refl _) b2
    have hv2 := hv1.below (Nat.le_refl _) b2
    clear d0 d1 hva1 hv1 b2 B1
    go_wp2_with fail
    refine (Check_any _ _ _ _ au l _ _ _ _ _ hva2 hv2).mono ?_
    rintro e w3 ⟨v3, rfl, o3, b3⟩
    rw [His.out, Ver.out]
    have z3 := b3.size
    go_upto_region 5 with fail
    generalize hO : Obj.cells _ 23 = O3
    have B3 : Below w.heap.size w (w3.alloc O3) := (by ((repeat' (first | exact Below.refl _ _ | exact B2 | exact b3 | refine Below.alloc ?_ ?_ _ | refine Below.setCell ?_ ?_ _ | refine Below.drew ?_ | refine below_drewN ?_ _ | refine Below.trans ?_ (B2.mono ?_) | refine Below.trans ?_ (b3.mono ?_))) <;> (first | omega | (simp; done) | (simp; omega))))
    clear o3 b3 hO
    generalize w3.alloc O3 = w4 at *
    go_wp2_with fail
    go_ret
    exact ⟨rfl, B3⟩
  | true =>
    have hwok : cbEr l f = 0 ∧ way a b au l f lost asked promise = .ok := by
      rcases way_ways hr with ⟨_, e⟩ | ⟨_, _, e⟩ | ⟨_, he, e⟩
      · simp only [ckIs, e] at his; cases his
      · simp only [ckIs, e] at his; cases his
      · exact ⟨he, e⟩
    have V := hide (And.intro his (And.intro (alL_ok hwok.2) hwok.1))
    have Hlen := hide ((rndB_iff _ _ _ _ _ _ _ _).1 hr).2.2.1
    have Hr := hide hr
    clear hr his hwok
    go_enter Try.func6, Try.ntmps6
    go_wp2_with fail
    refine (head_any _).mono ?_
    rintro e w1 ⟨rfl, b1⟩
    have z1 := b1.size
    simp only [World.size_alloc] at z1
    have B1 : Below w.heap.size w w1 := (by ((repeat' (first | exact Below.refl _ _ | exact b1 | refine Below.alloc ?_ ?_ _ | refine Below.setCell ?_ ?_ _ | refine Below.drew ?_ | refine below_drewN ?_ _ | refine Below.trans ?_ (b1.mono ?_))) <;> (first | omega | (simp; done) | (simp; omega))))
    obtain ⟨c0, f0⟩ := bk b1 w.heap.size (by simp)
    have d0 : w1.cell? ⟨w.heap.size, 0, none⟩ = some (.int .i64 a) := by rw [c0]; simp
    have d1 : w1.cell? ⟨w.heap.size, 1, none⟩ = some (.int .i64 b) := by rw [c0]; simp
    have hva1 := hva.below (Nat.le_refl _) B1
    have hv1 := hv.below (Nat.le_refl _) B1
    clear c0 f0 b1
    go_wp2_with fail
    refine (RRound_any _ _ _ _ au l _ _ _ _ _ hva1 hv1).mono ?_
    rintro e w2 ⟨rfl, b2⟩
    rw [Hr.out]
    have z2 := b2.size
    have B2 : Below w.heap.size w w2 := (by ((repeat' (first | exact Below.refl _ _ | exact B1 | exact b2 | refine Below.alloc ?_ ?_ _ | refine Below.setCell ?_ ?_ _ | refine Below.drew ?_ | refine below_drewN ?_ _ | refine Below.trans ?_ (B1.mono ?_) | refine Below.trans ?_ (b2.mono ?_))) <;> (first | omega | (simp; done) | (simp; omega))))
    have e0 := (b2.cell (p := ⟨w.heap.size, 0, none⟩) (by show w.heap.size < w1.heap.size; omega)).trans d0
    have e1 := (b2.cell (p := ⟨w.heap.size, 1, none⟩) (by show w.heap.size < w1.heap.size; omega)).trans d1
    have hva2 := hva1.below (Nat.le_refl _) b2
    have hv2 := hv1.below (Nat.le_refl _) b2
    clear d0 d1 hva1 hv1 b2 B1
    go_wp2_with fail
    refine (Check_any _ _ _ _ au l _ _ _ _ _ hva2 hv2).mono ?_
    rintro e w3 ⟨v3, rfl, o3, b3⟩
    rw [V.out.2.1] at o3
    rw [V.out.1, Ver.out]
    have z3 := b3.size
    go_upto_region 5 with fail
    generalize hO : Obj.cells _ 23 = O3
    have b4 : Below w2.heap.size w2 (w3.alloc O3) := (by ((repeat' (first | exact Below.refl _ _ | exact b3 | refine Below.alloc ?_ ?_ _ | refine Below.setCell ?_ ?_ _ | refine Below.drew ?_ | refine below_drewN ?_ _ | refine Below.trans ?_ (b3.mono ?_))) <;> (first | omega | (simp; done) | (simp; omega))))
    have B3 : Below w.heap.size w (w3.alloc O3) := B2.trans (b4.mono (by omega))
    have r3 := o3.row.below (Nat.le_refl _) ((Below.refl _ _).alloc (Nat.le_refl _) O3)
    have hv4 := hv2.below (Nat.le_refl _) b4
    have hva4 := hva2.below (Nat.le_refl _) b4
    clear o3 b3 e0 e1 hO b4 hv2 hva2
    generalize w3.alloc O3 = w4 at *
    go_wp2_with fail
    refine (Outside_any _ l _ _ hv4).mono ?_
    rintro e w5 ⟨ov, rfl, ho, b5⟩
    rw [V.out.2.2]
    have r5 := r3.below (Nat.le_refl _) b5
    have hva5 := hva4.below (Nat.le_refl _) b5
    have z4 := B3.size
    have B5 : Below w.heap.size w w5 := (by ((repeat' (first | exact Below.refl _ _ | exact B3 | exact b5 | refine Below.alloc ?_ ?_ _ | refine Below.setCell ?_ ?_ _ | refine Below.drew ?_ | refine below_drewN ?_ _ | refine Below.trans ?_ (B3.mono ?_) | refine Below.trans ?_ (b5.mono ?_))) <;> (first | omega | (simp; done) | (simp; omega))))
    obtain ⟨oa, ocap, rfl, o1, o2, o3⟩ := ho.row
    have Hat := hide (fun k (hk : k < (jL (jumpB a b l f) ++ lies au l f ++ yL (wideB l f promise)).length) => al_at hk)
    have hjl : (jL (jumpB a b l f)).length ≤ 1 := by cases jumpB a b l f <;> simp [jL]
    have hal : (jL (jumpB a b l f) ++ lies au l f ++ yL (wideB l f promise)).length = (jL (jumpB a b l f)).length + (outL l f).length + (yL (wideB l f promise)).length := by rw [List.length_append, List.length_append]; simp [lies, liesTo_length]
    generalize jL (jumpB a b l f) ++ lies au l f ++ yL (wideB l f promise) = al at *
    generalize (jL (jumpB a b l f)).length = jn at *
    have hL2 : jn + (outL l f).length ≤ al.length := by omega
    clear hal
    obtain ⟨va', vcap, rfl, y1, y2, y3⟩ := r5
    clear ho b5 r3 hv4 hva4 B3
    have hol := outL_length l f
    go_wp2_with fail
    go_loopw [15, 22, 68] (fun s15 s22 s68 wx => ∃ k n : Nat, k ≤ al.length ∧ s68 = .int .i64 k ∧ s22 = .int .i64 n ∧ s15 = .bool true ∧ Hid ((k ≤ jn ∧ n = 0) ∨ (jn ≤ k ∧ k ≤ jn + (outL l f).length ∧ n = k - jn) ∨ (jn + (outL l f).length ≤ k ∧ n = (outL l f).length)) ∧ Below w5.heap.size w5 wx) (fun _ _ s68 _ => al.length - (intOf s68).toNat)
    case atStart => exact ⟨0, 0, by omega, rfl, rfl, rfl, hide (.inl ⟨by omega, rfl⟩), Below.refl _ _⟩
    case round =>
      obtain ⟨k, n, hk, rfl, rfl, rfl, Hn, hB⟩ := hrel
      have hz := hB.size
      have hnL : n ≤ (outL l f).length := by have := Hn.out; omega
      by_cases hlt : k < al.length
      · obtain ⟨bb, off, rfl, q4, q5, q6⟩ := y3 k hlt
        have g5 := (hB.cell (p := ⟨bb, off + k * 2, none⟩) q4).trans q5
        have g6 := (hB.cell (p := ⟨bb, off + k * 2 + 1, none⟩) q4).trans q6
        clear q5 q6 y3
        rcases Hat.out k hlt with ⟨hpos, h4, h0⟩ | ⟨i, hki, hil, h4, h0⟩
        · have h4b : (iLo al k != 4) = true := by rw [bne_iff_ne]; exact h4
          have h4c : (iLo al k == 4) = false := by rw [beq_eq_false_iff_ne]; exact h4
          have h0b : (iHi al k == 0) = true := by rw [beq_iff_eq]; exact h0
          have Hpos := hide hpos
          clear h4 h0 hpos
          go_wp2_with fail
          go_roundw
          case rel => exact ⟨k + 1, n, by omega, by go_num, rfl, rfl, hide (by have := Hn.out; have := Hpos.out; omega), (by ((repeat' (first | exact Below.refl _ _ | exact hB | refine Below.alloc ?_ ?_ _ | refine Below.setCell ?_ ?_ _ | refine Below.drew ?_ | refine below_drewN ?_ _ | refine Below.trans ?_ (hB.mono ?_))) <;> (first | omega | (simp; done) | (simp; omega))))⟩
          case measure => simp [intOf]; omega
        · have hni : n = i := by have := Hn.out; omega
          subst hni
          obtain ⟨jj, hjj, hje⟩ := outL_at hil
          obtain ⟨b', off', rfl, p4, p5⟩ := o3 n hil
          rw [hje] at p5 h0
          have p5' := (hB.cell (p := ⟨b', off' + n, none⟩) p4).trans p5
          obtain ⟨a', cap', e, r1, r2, r3⟩ := hva5
          cases e
          have hjau : jj < au.length := by rw [Hlen.out]; exact hjj
          obtain ⟨b2, off2, rfl, r4, r5⟩ := r3 jj hjau
          have r5' := (hB.cell (p := ⟨b2, off2 + jj, none⟩) r4).trans r5
          have h4b : (iLo al k != 4) = false := by rw [h4]; rfl
          have h4c : (iLo al k == 4) = true := by rw [h4]; rfl
          rw [h0] at g6
          have x1 : decide ((outL l f).length ≤ n) = false := decide_eq_false (by omega)
          have x2 : decide (((outL l f).length : Int) ≤ (n : Int)) = false := decide_eq_false (by omega)
          have x3 : decide ((jj : Int) < 0) = false := decide_eq_false (by omega)
          have x4 : decide (au.length ≤ jj) = false := decide_eq_false (by omega)
          have x5 : decide ((au.length : Int) ≤ (jj : Int)) = false := decide_eq_false (by omega)
          have x6 : (iAt au (jj : Int).toNat != iAt au jj) = false := by simp
          have x7 : ((jj : Int)).toNat = jj := by omega
          rw [x7] at g6
          have b6 : Below wr.heap.size wr (wr.alloc (.cells #[.int .i64 (iLo al k), .int .i64 (iAt au jj)] 39)) := (by ((repeat' (first | exact Below.refl _ _ | refine Below.alloc ?_ ?_ _ | refine Below.setCell ?_ ?_ _ | refine Below.drew ?_ | refine below_drewN ?_ _)) <;> (first | omega | (simp; done) | (simp; omega))))
          have c5 := (b6.cell (p := ⟨b', off' + n, none⟩) (by show b' < wr.heap.size; omega)).trans p5'
          have c6 := (b6.cell (p := ⟨b2, off2 + jj, none⟩) (by show b2 < wr.heap.size; omega)).trans r5'
          have Hki := hide hki
          clear p5 r5 o3 r3 h4 h0 hje hki p5' r5' b6 x6 x7
          go_upto_region 14 with fail
          go_quiet (fail)
          rename_i nq
          go_wp2_with fail
          go_roundw
          case rel => exact ⟨k + 1, n + 1, by omega, by go_num, by go_num, rfl, hide (by have := Hki.out; omega), below_drewN (by ((repeat' (first | exact Below.refl _ _ | exact hB | refine Below.alloc ?_ ?_ _ | refine Below.setCell ?_ ?_ _ | refine Below.drew ?_ | refine below_drewN ?_ _ | refine Below.trans ?_ (hB.mono ?_))) <;> (first | omega | (simp; done) | (simp; omega)))) nq⟩
          case measure => simp [intOf]; omega
      · obtain rfl : k = al.length := by omega
        have hnf : n = (outL l f).length := by have := Hn.out; omega
        subst hnf
        clear y3 o3
        go_wp2_with fail
        go_ret
        have z5 := B5.size
        exact ⟨by first | rfl | (refine ret_bool ?_; simp; done), (by ((repeat' (first | exact Below.refl _ _ | exact B5 | exact hB | refine Below.alloc ?_ ?_ _ | refine Below.setCell ?_ ?_ _ | refine Below.drew ?_ | refine below_drewN ?_ _ | refine Below.trans ?_ (B5.mono ?_) | refine Below.trans ?_ (hB.mono ?_))) <;> (first | omega | (simp; done) | (simp; omega))))⟩
set_option maxRecDepth 100000 in
theorem watchLies_holds : Rows.WatchLiesSaid :=
  OpenClaim.holds_of_wide 6 Try.f6 rfl rfl rfl rfl rfl rfl rfl ⟨rfl, rfl, rfl, rfl, rfl⟩ rfl rfl rfl rfl rfl (by kernel_rfl) Try.func6 (by kernel_rfl)
    (of_decide_eq_true (by kernel_rfl)) (by unfold Func.isWrapper; rw [if_neg (of_decide_eq_false (by kernel_rfl))]; exact ⟨rfl, rfl⟩)
    (fun os started H enc _ => law_lifted started 6 Try.f6 Try.func6 (by kernel_rfl) Rows.watchLiesSpec rfl rfl
      (fun ds h => by match ds, h with | [_, _, _, _, _, _, _], _ => exact ⟨rfl, rfl, rfl⟩)
      (fun t h => by
        rw [Try.params6] at h
        simp only [List.mem_cons, List.not_mem_nil, or_false] at h
        rcases h with rfl | rfl | rfl | rfl | rfl | rfl | rfl <;> exact ⟨by kernel_rfl, of_decide_eq_true (by kernel_rfl)⟩)
      (ChangeSpec.witness6 (enc := enc) (C := Try.checked) false ⟨#[], #[.agg #[.int .i64 0, .int .i64 0], .slice none 0 0, .slice none 0 0, .int .i64 0, .int .i64 0, .int .i64 0, .int .i64 0], []⟩ 8 (by kernel_rfl) (by kernel_rfl) (by kernel_rfl) (by kernel_rfl))
      (fun W base args ds p hA hok => by
        rw [Try.params6] at hA hok
        obtain ⟨v0, vs0, d0, ds0, p0, q0, hargs, rfl, rfl, h0, r0⟩ := ChangeShapes.trodAll_cons hA
        obtain ⟨v1, vs1, d1, ds1, p1, q1, rfl, rfl, rfl, h1, r1⟩ := ChangeShapes.trodAll_cons r0
        obtain ⟨v2, vs2, d2, ds2, p2, q2, rfl, rfl, rfl, h2, r2⟩ := ChangeShapes.trodAll_cons r1
        obtain ⟨v3, vs3, d3, ds3, p3, q3, rfl, rfl, rfl, h3, r3⟩ := ChangeShapes.trodAll_cons r2
        obtain ⟨v4, vs4, d4, ds4, p4, q4, rfl, rfl, rfl, h4, r4⟩ := ChangeShapes.trodAll_cons r3
        obtain ⟨v5, vs5, d5, ds5, p5, q5, rfl, rfl, rfl, h5, r5⟩ := ChangeShapes.trodAll_cons r4
        obtain ⟨v6, vs6, d6, ds6, p6, q6, rfl, rfl, rfl, h6, r6⟩ := ChangeShapes.trodAll_cons r5
        obtain ⟨rfl, rfl, rfl⟩ := ChangeShapes.trodAll_nil r6
        obtain rfl : args = #[v0, v1, v2, v3, v4, v5, v6] := by rw [← Array.toArray_toList (xs := args), hargs]
        obtain ⟨a0, b0, rfl, ha0, hb0⟩ := open_iv (hok 0 _ v0 rfl rfl) h0
        obtain ⟨l1, hl1, wl1⟩ := open_is (hok 1 _ v1 rfl rfl) h1
        obtain ⟨l2, hl2, wl2⟩ := open_ivs (hok 2 _ v2 rfl rfl) h2
        obtain ⟨x3, rfl, hx3⟩ := open_i64 Try.underlying3 (hok 3 _ v3 rfl rfl) h3
        obtain ⟨x4, rfl, hx4⟩ := open_i64 Try.underlying3 (hok 4 _ v4 rfl rfl) h4
        obtain ⟨x5, rfl, hx5⟩ := open_i64 Try.underlying3 (hok 5 _ v5 rfl rfl) h5
        obtain ⟨x6, rfl, hx6⟩ := open_i64 Try.underlying3 (hok 6 _ v6 rfl rfl) h6
        exact WtLies_any W a0 b0 v1 l1 hl1 wl1 v2 l2 hl2 x3 x4 x5 x6))
end Go.Proofs.Ythklljlachljgaa
