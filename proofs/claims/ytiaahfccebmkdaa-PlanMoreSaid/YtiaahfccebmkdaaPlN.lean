/- The reference's Same and Periods, the laws' usable. -/
import Derived.Test.YtiaahfccebmkdaaPlM
import Derived.Test.YtiaahfccebmkdaaPlA
import Derived.Deep.DeepCutAuto
namespace Go.Proofs.Ytiaahfccebmkdaa
open Go.RowKit

set_option maxRecDepth 100000 in
set_option maxHeartbeats 1000000 in
theorem Same_any (ua ub : Value) (la lb : List Int) (ea eb : Int) (w : World) (ha : IsRow w ua la) (hb : IsRow w ub lb) :
    Calls Try.prog 22 #[.agg #[ua, .int .i64 ea], .agg #[ub, .int .i64 eb]] w fun e w' => e = .returned (.bool (decide (ea = eb ∧ la = lb))) ∧ Below w.heap.size w w' := by
  have hR : ∀ W : World, Below w.heap.size w W → IsRow W ua la ∧ IsRow W ub lb := fun W hW => ⟨ha.below (Nat.le_refl _) hW, hb.below (Nat.le_refl _) hW⟩
  have HR := hide hR
  obtain ⟨a, c, rfl, -⟩ := id ha
  obtain ⟨b, d, rfl, -⟩ := id hb
  clear hR ha hb
  by_cases he : ea = eb
  · by_cases hl : la.length = lb.length
    · have hz : decide (ea = eb ∧ la = lb) = decide (cmpI la lb = 0) := decide_eq_decide.2 ⟨fun h => by rw [h.2]; exact cmpI_self _, fun h => ⟨he, cmpI_eq h⟩⟩
      rw [hz]
      have d1 : (ea == eb) = true := by rw [beq_iff_eq]; exact he
      have d2 : ((la.length : Int) == (lb.length : Int)) = true := by rw [beq_iff_eq]; omega
      have Hl := hide hl
      have He := hide he
      clear hz hl he
      go_enter Try.func22, Try.ntmps22
      go_wp2_with (go_at_call 37; (with_reducible refine (lists_any _ _ la lb _ (HR.out _ (by ((repeat' (first | with_reducible exact Below.refl _ _ | with_reducible refine Below.alloc ?_ ?_ _ | with_reducible refine Below.setCell ?_ ?_ _ | with_reducible refine Below.drew ?_ | with_reducible refine below_drewN ?_ _)) <;> (first | omega | (simp; done) | (simp; omega))))).1 (HR.out _ (by ((repeat' (first | with_reducible exact Below.refl _ _ | with_reducible refine Below.alloc ?_ ?_ _ | with_reducible refine Below.setCell ?_ ?_ _ | with_reducible refine Below.drew ?_ | with_reducible refine below_drewN ?_ _)) <;> (first | omega | (simp; done) | (simp; omega))))).2 Hl.out).mono ?_); rintro e w' ⟨rfl, nq, rfl⟩)
      go_ret
      exact ⟨ret_bool (by first | rfl | simp), (by ((repeat' (first | with_reducible exact Below.refl _ _ | with_reducible refine Below.alloc ?_ ?_ _ | with_reducible refine Below.setCell ?_ ?_ _ | with_reducible refine Below.drew ?_ | with_reducible refine below_drewN ?_ _)) <;> (first | omega | (simp; done) | (simp; omega))))⟩
    · have hz : decide (ea = eb ∧ la = lb) = false := decide_eq_false fun h => hl (by rw [h.2])
      rw [hz]
      have d1 : (ea == eb) = true := by rw [beq_iff_eq]; exact he
      have d2 : ((la.length : Int) == (lb.length : Int)) = false := by rw [beq_eq_false_iff_ne]; omega
      have He := hide he
      clear hz hl he
      go_enter Try.func22, Try.ntmps22
      go_wp2_with fail
      go_ret
      exact ⟨rfl, (by ((repeat' (first | with_reducible exact Below.refl _ _ | with_reducible refine Below.alloc ?_ ?_ _ | with_reducible refine Below.setCell ?_ ?_ _ | with_reducible refine Below.drew ?_ | with_reducible refine below_drewN ?_ _)) <;> (first | omega | (simp; done) | (simp; omega))))⟩
  · have hz : decide (ea = eb ∧ la = lb) = false := decide_eq_false fun h => he h.1
    rw [hz]
    have d1 : (ea == eb) = false := by rw [beq_eq_false_iff_ne]; exact he
    clear hz he
    go_enter Try.func22, Try.ntmps22
    go_wp2_with fail
    go_ret
    exact ⟨rfl, (by ((repeat' (first | with_reducible exact Below.refl _ _ | with_reducible refine Below.alloc ?_ ?_ _ | with_reducible refine Below.setCell ?_ ?_ _ | with_reducible refine Below.drew ?_ | with_reducible refine below_drewN ?_ _)) <;> (first | omega | (simp; done) | (simp; omega))))⟩
set_option maxRecDepth 100000 in
set_option maxHeartbeats 1000000 in
theorem RPeriods_any (r f lo tm : Int) (pv v : Value) (pl : List Int) (w : World) (hv : IsRow w v pl) :
    Calls Try.prog 20 #[.agg #[.int .i64 r, .int .i64 f, .int .i64 lo, .int .i64 tm, pv], v] w fun e w' => e = .returned (.bool (prdB tm pl)) ∧ Below w.heap.size w w' := by
  obtain ⟨a, cap, rfl, q1, q2, q3⟩ := hv
  have Q3 := hide q3
  clear q3
  obtain ⟨R, hR⟩ : ∃ R, R = prdB tm pl := ⟨_, rfl⟩
  rw [← hR]
  have HR := hide hR
  clear hR
  obtain ⟨W0, hW0⟩ : ∃ W : World, W = w.alloc (.cells #[.int .i64 r, .int .i64 f, .int .i64 lo, .int .i64 tm, pv] 24) := ⟨_, rfl⟩
  have bW : Below w.heap.size w W0 := by rw [hW0]; ((repeat' (first | with_reducible exact Below.refl _ _ | with_reducible refine Below.alloc ?_ ?_ _ | with_reducible refine Below.setCell ?_ ?_ _ | with_reducible refine Below.drew ?_ | with_reducible refine below_drewN ?_ _)) <;> (first | omega | (simp; done) | (simp; omega)))
  have hs : W0.cell? ⟨w.heap.size, 3, none⟩ = some (.int .i64 tm) := by rw [hW0]; simp
  go_enter Try.func20, Try.ntmps20
  go_upto_region 1 with fail
  rw [← hW0]
  clear hW0
  go_wp2_with fail
  go_loopw [5] (fun s5 wr => ∃ k n : Nat, k ≤ pl.length ∧ s5 = .int .i64 k ∧ Hid (perB tm pl k = true) ∧ Hid (wr = W0.drewN n)) (fun s5 _ => pl.length - (intOf s5).toNat)
  case atStart => exact ⟨0, 0, Nat.zero_le _, rfl, hide rfl, hide rfl⟩
  case round =>
    obtain ⟨k, n, hk, rfl, Hp, Hn⟩ := hrel
    have hbr : Below w.heap.size w wr := by rw [Hn.out]; exact below_drewN bW n
    have Hbr := hide hbr
    clear hbr
    by_cases hlt : k < pl.length
    · obtain ⟨b, off, rfl, h4, h5⟩ := Q3.out k hlt
      have g5 : wr.cell? ⟨b, off + k, none⟩ = some (.int .i64 (iAt pl k)) := ((bk Hbr.out b h4).1 _).trans h5
      have gs : wr.cell? ⟨w.heap.size, 3, none⟩ = some (.int .i64 tm) := by rw [Hn.out, World.cell?_drewN]; exact hs
      have hnx : perB tm pl (k + 1) = decide ((if k = 0 then tm else iAt pl (k - 1)) < iAt pl k ∧ 1 ≤ iAt pl k ∧ iAt pl k ≤ 1000000000000) := by rw [perB, Hp.out]; rfl
      have hfa : ¬ ((if k = 0 then tm else iAt pl (k - 1)) < iAt pl k ∧ 1 ≤ iAt pl k ∧ iAt pl k ≤ 1000000000000) → R = false := fun h => by
        rw [HR.out]; unfold prdB; rw [perB_false (k := k) h _ hlt]; rfl
      have I1 : (0 : Int) ≤ (k : Int) := by omega
      have I2 : (k : Int) < (pl.length : Int) := by omega
      by_cases k2 : iAt pl k < 1
      · have Hf := hide (hfa (by omega))
        clear hnx hfa h5
        generalize iAt pl k = y at *
        go_wp2_with fail
        go_quiet (fail)
        go_wp2_with fail
        go_ret
        exact ⟨ret_bool Hf.out.symm, below_drewN Hbr.out _⟩
      · by_cases k3 : 1000000000000 < iAt pl k
        · have Hf := hide (hfa (by omega))
          clear hnx hfa h5
          generalize iAt pl k = y at *
          have e1 : decide (y < 1) = false := decide_eq_false k2
          go_wp2_with fail
          go_quiet (fail)
          go_wp2_with fail
          go_ret
          exact ⟨ret_bool Hf.out.symm, below_drewN Hbr.out _⟩
        · by_cases k4 : iAt pl k ≤ tm
          · have Hf : Hid (R = false) := by
              by_cases hk0 : k = 0
              · exact hide (hfa (by rw [if_pos hk0]; omega))
              · have hperk := (perB_iff tm pl k).1 Hp.out
                refine hide (hfa ?_)
                rw [if_neg hk0]
                have h0 := hperk 0 (by omega)
                rw [if_pos rfl] at h0
                have hmono : ∀ j, j < k → tm < iAt pl j := by
                  intro j hj
                  induction j with
                  | zero => exact h0.1
                  | succ j ih =>
                    have := (hperk (j + 1) hj).1
                    rw [if_neg (by omega), Nat.add_sub_cancel] at this
                    have := ih (by omega)
                    omega
                have := hmono (k - 1) (by omega)
                omega
            clear hnx hfa h5
            generalize iAt pl k = y at *
            have e1 : decide (y < 1) = false := decide_eq_false k2
            have e2 : decide (1000000000000 < y) = false := decide_eq_false k3
            go_wp2_with fail
            go_quiet (fail)
            go_wp2_with fail
            go_ret
            exact ⟨ret_bool Hf.out.symm, below_drewN Hbr.out _⟩
          · by_cases hk0 : k = 0
            · have Hx : Hid (perB tm pl (k + 1) = true) := hide (by rw [hnx, if_pos hk0]; exact decide_eq_true (by omega))
              have e3 : decide ((0 : Int) < (k : Int)) = false := decide_eq_false (by omega)
              have e3n : decide (0 < k) = false := decide_eq_false (by omega)
              have Hk0 := hide hk0
              clear hnx hfa h5 hk0
              generalize iAt pl k = y at *
              have e1 : decide (y < 1) = false := decide_eq_false k2
              have e2 : decide (1000000000000 < y) = false := decide_eq_false k3
              have e4 : decide (y ≤ tm) = false := decide_eq_false k4
              go_wp2_with fail
              go_quiet (fail)
              go_wp2_with fail
              go_roundw
              case rel => exact ⟨k + 1, n + nq, by omega, by go_num, Hx, hide (by rw [Hn.out, World.drewN_drewN])⟩
              case measure => simp [intOf]; omega
            · obtain ⟨b2, off2, hbo, h6, h7⟩ := Q3.out (k - 1) (by omega)
              cases hbo
              obtain ⟨m, hm⟩ : ∃ m, m = k - 1 := ⟨_, rfl⟩
              have g7 : wr.cell? ⟨b, off + m, none⟩ = some (.int .i64 (iAt pl m)) := by rw [hm]; exact ((bk Hbr.out b h4).1 _).trans h7
              have ww : IntKind.i64.wrap ((k : Int) - 1) = (m : Int) := by rw [IntWalk.i64_in _ (by omega)]; omega
              have e3 : decide ((0 : Int) < (k : Int)) = true := decide_eq_true (by omega)
              have e3n : decide (0 < k) = true := decide_eq_true (by omega)
              have I3 : (0 : Int) ≤ (m : Int) := by omega
              have I4 : (m : Int) < (pl.length : Int) := by omega
              rw [if_neg hk0, ← hm] at hnx hfa
              have Hk0 := hide (And.intro hk0 hm)
              clear h5 h7 hk0 hm
              by_cases k5 : iAt pl k ≤ iAt pl m
              · have Hf := hide (hfa (by omega))
                clear hnx hfa
                generalize iAt pl k = y at *
                generalize iAt pl m = z at *
                have e1 : decide (y < 1) = false := decide_eq_false k2
                have e2 : decide (1000000000000 < y) = false := decide_eq_false k3
                have e4 : decide (y ≤ tm) = false := decide_eq_false k4
                have e5 : decide (y ≤ z) = true := decide_eq_true k5
                go_wp2_with fail
                go_quiet (fail)
                go_wp2_with fail
                go_ret
                exact ⟨ret_bool Hf.out.symm, below_drewN Hbr.out _⟩
              · have Hx : Hid (perB tm pl (k + 1) = true) := hide (by rw [hnx]; exact decide_eq_true (by omega))
                clear hnx hfa
                generalize iAt pl k = y at *
                generalize iAt pl m = z at *
                have e1 : decide (y < 1) = false := decide_eq_false k2
                have e2 : decide (1000000000000 < y) = false := decide_eq_false k3
                have e4 : decide (y ≤ tm) = false := decide_eq_false k4
                have e5 : decide (y ≤ z) = false := decide_eq_false k5
                go_wp2_with fail
                go_quiet (fail)
                go_wp2_with fail
                go_roundw
                case rel => exact ⟨k + 1, n + nq, by omega, by go_num, Hx, hide (by rw [Hn.out, World.drewN_drewN])⟩
                case measure => simp [intOf]; omega
    · obtain rfl : k = pl.length := by omega
      have hR : R = decide (1 ≤ pl.length ∧ pl.length ≤ 10) := by rw [HR.out]; unfold prdB; rw [Hp.out, Bool.true_and]
      have HR2 := hide hR
      clear hR
      by_cases k1 : 1 ≤ pl.length
      · have d1 : decide ((1 : Int) ≤ (pl.length : Int)) = true := decide_eq_true (by omega)
        by_cases k2 : pl.length ≤ 10
        · have d2 : decide ((pl.length : Int) ≤ 10) = true := decide_eq_true (by omega)
          have Hr := hide (show R = true by rw [HR2.out]; exact decide_eq_true ⟨k1, k2⟩)
          clear k1 k2
          go_wp2_with fail
          go_ret
          exact ⟨ret_bool Hr.out.symm, Hbr.out⟩
        · have d2 : decide ((pl.length : Int) ≤ 10) = false := decide_eq_false (by omega)
          have Hr := hide (show R = false by rw [HR2.out]; exact decide_eq_false (by omega))
          clear k1 k2
          go_wp2_with fail
          go_ret
          exact ⟨ret_bool Hr.out.symm, Hbr.out⟩
      · have d1 : decide ((1 : Int) ≤ (pl.length : Int)) = false := decide_eq_false (by omega)
        have Hr := hide (show R = false by rw [HR2.out]; exact decide_eq_false (by omega))
        clear k1
        go_wp2_with fail
        go_ret
        exact ⟨ret_bool Hr.out.symm, Hbr.out⟩
def usB (s : Si) (pl : List Int) : Bool := decide (s.ps.length ≤ 7 ∧ pl.length ≤ 4 ∧ siB s = true ∧ prdB s.tm pl = true)
set_option maxRecDepth 100000 in
set_option maxHeartbeats 1000000 in
theorem usable_any (r f lo tm : Int) (pv : Value) (ps : List Pr) (v : Value) (pl : List Int) (w : World) (hp : PrRow w pv ps) (hv : IsRow w v pl) :
    Calls Try.prog 10 #[.agg #[.int .i64 r, .int .i64 f, .int .i64 lo, .int .i64 tm, pv], v] w fun e w' => e = .returned (.bool (usB ⟨r, f, lo, tm, ps⟩ pl)) ∧ Below w.heap.size w w' := by
  have hR : ∀ W : World, Below w.heap.size w W → PrRow W pv ps ∧ IsRow W v pl := fun W hW => ⟨hp.below (Nat.le_refl _) hW, hv.below (Nat.le_refl _) hW⟩
  have HR := hide hR
  obtain ⟨pa, pc, rfl, -⟩ := hp.len
  obtain ⟨va, vc, rfl, -⟩ := id hv
  clear hR hp hv
  have hno : ¬ (ps.length ≤ 7 ∧ pl.length ≤ 4 ∧ siB ⟨r, f, lo, tm, ps⟩ = true ∧ prdB tm pl = true) → usB ⟨r, f, lo, tm, ps⟩ pl = false := fun h => decide_eq_false h
  have hyes : (ps.length ≤ 7 ∧ pl.length ≤ 4 ∧ siB ⟨r, f, lo, tm, ps⟩ = true ∧ prdB tm pl = true) → usB ⟨r, f, lo, tm, ps⟩ pl = true := fun h => decide_eq_true h
  generalize usB ⟨r, f, lo, tm, ps⟩ pl = R at *
  by_cases h1 : ps.length ≤ 7
  · have d1 : decide ((ps.length : Int) ≤ 7) = true := decide_eq_true (by omega)
    by_cases h2 : pl.length ≤ 4
    · have d2 : decide ((pl.length : Int) ≤ 4) = true := decide_eq_true (by omega)
      cases h3 : siB ⟨r, f, lo, tm, ps⟩ with
      | true =>
        have hq : R = prdB tm pl := by
          cases h4 : prdB tm pl with
          | true => exact hyes ⟨h1, h2, h3, h4⟩
          | false => exact hno (by rw [h4]; simp)
        rw [hq]
        clear hno hyes h1 h2 hq
        go_enter Try.func10, Try.ntmps10
        go_wp2_with (first | (go_at_call 23; (with_reducible refine (R29Valid_any r f lo tm _ ps _ (HR.out _ (by ((repeat' (first | with_reducible exact Below.refl _ _ | with_reducible refine Below.alloc ?_ ?_ _ | with_reducible refine Below.setCell ?_ ?_ _ | with_reducible refine Below.drew ?_ | with_reducible refine below_drewN ?_ _)) <;> (first | omega | (simp; done) | (simp; omega))))).1).mono ?_); rintro e w1 ⟨rfl, b1⟩; obtain ⟨kb1_0, fb1_0, zb1_0, zab1_0, zbb1_0, zcb1_0, zdb1_0, zeb1_0⟩ := bk3 b1 (w.heap.size) (by first | omega | (simp; done) | (simp; omega)); rw [h3]) | (go_at_call 20; (with_reducible refine (RPeriods_any r f lo tm _ _ pl _ (HR.out _ (by ((repeat' (first | with_reducible exact Below.refl _ _ | with_reducible exact b1 | with_reducible refine Below.alloc ?_ ?_ _ | with_reducible refine Below.setCell ?_ ?_ _ | with_reducible refine Below.drew ?_ | with_reducible refine below_drewN ?_ _ | with_reducible refine Below.trans ?_ (b1.mono ?_))) <;> (first | omega | (simp; done) | (simp; omega))))).2).mono ?_); rintro e w2 ⟨rfl, b2⟩))
        go_ret
        exact ⟨ret_bool (by simp), (by ((repeat' (first | with_reducible exact Below.refl _ _ | with_reducible exact b2 | with_reducible exact b1 | with_reducible refine Below.alloc ?_ ?_ _ | with_reducible refine Below.setCell ?_ ?_ _ | with_reducible refine Below.drew ?_ | with_reducible refine below_drewN ?_ _ | with_reducible refine Below.trans ?_ (b2.mono ?_) | with_reducible refine Below.trans ?_ (b1.mono ?_))) <;> (first | omega | (simp; done) | (simp; omega))))⟩
      | false =>
        have hq : R = false := hno (by rw [h3]; simp)
        rw [hq]
        clear hno hyes h1 h2 hq
        go_enter Try.func10, Try.ntmps10
        go_wp2_with (first | (go_at_call 23; (with_reducible refine (R29Valid_any r f lo tm _ ps _ (HR.out _ (by ((repeat' (first | with_reducible exact Below.refl _ _ | with_reducible refine Below.alloc ?_ ?_ _ | with_reducible refine Below.setCell ?_ ?_ _ | with_reducible refine Below.drew ?_ | with_reducible refine below_drewN ?_ _)) <;> (first | omega | (simp; done) | (simp; omega))))).1).mono ?_); rintro e w1 ⟨rfl, b1⟩; obtain ⟨kb1_0, fb1_0, zb1_0, zab1_0, zbb1_0, zcb1_0, zdb1_0, zeb1_0⟩ := bk3 b1 (w.heap.size) (by first | omega | (simp; done) | (simp; omega)); rw [h3]))
        go_ret
        exact ⟨rfl, (by ((repeat' (first | with_reducible exact Below.refl _ _ | with_reducible exact b1 | with_reducible refine Below.alloc ?_ ?_ _ | with_reducible refine Below.setCell ?_ ?_ _ | with_reducible refine Below.drew ?_ | with_reducible refine below_drewN ?_ _ | with_reducible refine Below.trans ?_ (b1.mono ?_))) <;> (first | omega | (simp; done) | (simp; omega))))⟩
    · have d2 : decide ((pl.length : Int) ≤ 4) = false := decide_eq_false (by omega)
      have hq : R = false := hno (by omega)
      rw [hq]
      clear hno hyes h1 h2 hq
      go_enter Try.func10, Try.ntmps10
      go_wp2_with fail
      go_ret
      exact ⟨rfl, (by ((repeat' (first | with_reducible exact Below.refl _ _ | with_reducible refine Below.alloc ?_ ?_ _ | with_reducible refine Below.setCell ?_ ?_ _ | with_reducible refine Below.drew ?_ | with_reducible refine below_drewN ?_ _)) <;> (first | omega | (simp; done) | (simp; omega))))⟩
  · have d1 : decide ((ps.length : Int) ≤ 7) = false := decide_eq_false (by omega)
    have hq : R = false := hno (by omega)
    rw [hq]
    clear hno hyes h1 hq
    go_enter Try.func10, Try.ntmps10
    go_wp2_with fail
    go_ret
    exact ⟨rfl, (by ((repeat' (first | with_reducible exact Below.refl _ _ | with_reducible refine Below.alloc ?_ ?_ _ | with_reducible refine Below.setCell ?_ ?_ _ | with_reducible refine Below.drew ?_ | with_reducible refine below_drewN ?_ _)) <;> (first | omega | (simp; done) | (simp; omega))))⟩
end Go.Proofs.Ytiaahfccebmkdaa
