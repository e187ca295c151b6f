/- PlanOrder: for all arguments the statement answers true and leaves its arguments as they were. No condition. -/
import Derived.Test.YtiaahfccebmkdaaPlR
import Derived.Test.YtiaahfccebmkdaaPlQ
import Derived.Test.YtiaahfccebmkdaaWdI
import Derived.Test.YtiaahfccebmkdaaFg
import Derived.Test.YtiaahfccebmkdaaFs
namespace Go.Proofs.Ytiaahfccebmkdaa
open Go.RowKit

theorem us_ck {s : Si} {pl : List Int} (h : usB s pl = true) : ckE s pl = 0 := by
  have h1 := of_decide_eq_true h
  unfold ckE
  rw [if_pos ⟨h1.2.2.1, h1.2.2.2⟩, if_pos (by omega)]

theorem cmpS_props {ps : List Pr} {ua ub uc : List Int} {ea eb ec : Int} (ha : 0 < ea) (hb : 0 < eb) (hc : 0 < ec) :
    ¬ cmpS ps ua ea ua ea < 0 ∧ ¬ (cmpS ps ua ea ub eb < 0 ∧ cmpS ps ub eb ua ea < 0) ∧ (cmpS ps ua ea ub eb < 0 → cmpS ps ub eb uc ec < 0 → cmpS ps ua ea uc ec < 0) ∧ (¬ cmpS ps ua ea ub eb < 0 → ¬ cmpS ps ub eb uc ec < 0 → ¬ cmpS ps ua ea uc ec < 0) := by
  have f1 := cmpC_flip ps ⟨ua, ea, 0⟩ ⟨ua, ea, 0⟩
  have f2 := cmpC_flip ps ⟨ua, ea, 0⟩ ⟨ub, eb, 0⟩
  have f3 := cmpC_flip ps ⟨ub, eb, 0⟩ ⟨uc, ec, 0⟩
  have f4 := cmpC_flip ps ⟨ua, ea, 0⟩ ⟨uc, ec, 0⟩
  have t1 := cmpC_trans (ps := ps) (a := ⟨ua, ea, 0⟩) (b := ⟨ub, eb, 0⟩) (c := ⟨uc, ec, 0⟩) ha hb hc
  have t2 := cmpC_trans (ps := ps) (a := ⟨uc, ec, 0⟩) (b := ⟨ub, eb, 0⟩) (c := ⟨ua, ea, 0⟩) hc hb ha
  have t3 := cmpC_trans (ps := ps) (a := ⟨uc, ec, 0⟩) (b := ⟨ua, ea, 0⟩) (c := ⟨ub, eb, 0⟩) hc ha hb
  simp only [cmpC] at f1 f2 f3 f4 t1 t2 t3
  refine ⟨by omega, by omega, fun h1 h2 => ?_, fun h1 h2 => ?_⟩
  · have := t1 (by omega) (by omega)
    by_cases h0 : cmpS ps ua ea uc ec = 0
    · have := t3 (by omega) (by omega)
      omega
    · omega
  · have := t2 (by omega) (by omega)
    omega
set_option maxRecDepth 100000 in
set_option maxHeartbeats 2000000 in
theorem PlOrder_any (w : World) (v0 : Value) (s : SiA) (hs : SiOk w v0 s) (va : Value) (sa : ScA) (ha : ScOk w va sa) (vb : Value) (sb : ScA) (hb : ScOk w vb sb) (vc : Value) (sc : ScA) (hc : ScOk w vc sc) :
    Calls Try.prog 7 #[v0, va, vb, vc] w fun e w' => e = .returned (.bool true) ∧ Below w.heap.size w w' := by
  obtain ⟨r, f, lo, tm, pv, ps⟩ := s
  obtain ⟨ua, la, ea⟩ := sa
  obtain ⟨ub, lb, eb⟩ := sb
  obtain ⟨uc, lc, ec⟩ := sc
  obtain ⟨rfl, hp, -, -⟩ := hs
  obtain ⟨rfl, ka, -, -⟩ := ha
  obtain ⟨rfl, kb, -, -⟩ := hb
  obtain ⟨rfl, kc, -, -⟩ := hc
  simp only at hp ka kb kc ⊢
  obtain ⟨pa, pc, rfl, -, -⟩ := hp.len
  obtain ⟨aa, ac, rfl, -, -, -⟩ := id ka
  obtain ⟨ba, bc, rfl, -, -, -⟩ := id kb
  obtain ⟨ca, cc, rfl, -, -, -⟩ := id kc
  obtain ⟨W0, hW0⟩ : ∃ W : World, W = (((w.alloc (.cells #[.int .i64 r, .int .i64 f, .int .i64 lo, .int .i64 tm, .slice pa ps.length pc] 24)).alloc (.cells #[.slice aa la.length ac, .int .i64 ea] 29)).alloc (.cells #[.slice ba lb.length bc, .int .i64 eb] 29)).alloc (.cells #[.slice ca lc.length cc, .int .i64 ec] 29) := ⟨_, rfl⟩
  have hS : ∀ V : World, Below (w.heap.size + 4) W0 V → (V.cell? ⟨w.heap.size, 0, none⟩ = some (.int .i64 r) ∧ V.cell? ⟨w.heap.size, 1, none⟩ = some (.int .i64 f) ∧ V.cell? ⟨w.heap.size, 2, none⟩ = some (.int .i64 lo) ∧ V.cell? ⟨w.heap.size, 3, none⟩ = some (.int .i64 tm) ∧ V.cell? ⟨w.heap.size, 4, none⟩ = some (.slice pa ps.length pc)) ∧
      (V.cell? ⟨w.heap.size + 1, 0, none⟩ = some (.slice aa la.length ac) ∧ V.cell? ⟨w.heap.size + 1, 1, none⟩ = some (.int .i64 ea)) ∧ (V.cell? ⟨w.heap.size + 1 + 1, 0, none⟩ = some (.slice ba lb.length bc) ∧ V.cell? ⟨w.heap.size + 1 + 1, 1, none⟩ = some (.int .i64 eb)) ∧ (V.cell? ⟨w.heap.size + 1 + 1 + 1, 0, none⟩ = some (.slice ca lc.length cc) ∧ V.cell? ⟨w.heap.size + 1 + 1 + 1, 1, none⟩ = some (.int .i64 ec)) ∧
      PrRow V (.slice pa ps.length pc) ps ∧ IsRow V (.slice aa la.length ac) la ∧ IsRow V (.slice ba lb.length bc) lb ∧ IsRow V (.slice ca lc.length cc) lc ∧ Below w.heap.size w V ∧ w.heap.size + 4 ≤ V.heap.size := by
    intro V hV
    have bW : Below w.heap.size w W0 := by rw [hW0]; ((repeat' (first | with_reducible exact Below.refl _ _ | with_reducible refine Below.alloc ?_ ?_ _ | with_reducible refine Below.setCell ?_ ?_ _ | with_reducible refine Below.drew ?_ | with_reducible refine below_drewN ?_ _)) <;> (first | omega | (simp; done) | (simp; omega)))
    have zW : W0.heap.size = w.heap.size + 4 := by rw [hW0]; simp
    have hb := bW.trans (hV.mono (by omega))
    have h0 := (bk hV w.heap.size (by omega)).1
    have h1 := (bk hV (w.heap.size + 1) (by omega)).1
    have h2 := (bk hV (w.heap.size + 1 + 1) (by omega)).1
    have h3 := (bk hV (w.heap.size + 1 + 1 + 1) (by omega)).1
    have q : W0.cell? ⟨w.heap.size, 0, none⟩ = some (.int .i64 r) ∧ W0.cell? ⟨w.heap.size, 1, none⟩ = some (.int .i64 f) ∧ W0.cell? ⟨w.heap.size, 2, none⟩ = some (.int .i64 lo) ∧ W0.cell? ⟨w.heap.size, 3, none⟩ = some (.int .i64 tm) ∧ W0.cell? ⟨w.heap.size, 4, none⟩ = some (.slice pa ps.length pc) ∧ W0.cell? ⟨w.heap.size + 1, 0, none⟩ = some (.slice aa la.length ac) ∧ W0.cell? ⟨w.heap.size + 1, 1, none⟩ = some (.int .i64 ea) ∧ W0.cell? ⟨w.heap.size + 1 + 1, 0, none⟩ = some (.slice ba lb.length bc) ∧ W0.cell? ⟨w.heap.size + 1 + 1, 1, none⟩ = some (.int .i64 eb) ∧ W0.cell? ⟨w.heap.size + 1 + 1 + 1, 0, none⟩ = some (.slice ca lc.length cc) ∧ W0.cell? ⟨w.heap.size + 1 + 1 + 1, 1, none⟩ = some (.int .i64 ec) := by
      rw [hW0]; refine ⟨?_, ?_, ?_, ?_, ?_, ?_, ?_, ?_, ?_, ?_, ?_⟩ <;> simp [go_sem]
    obtain ⟨q0, q1, q2, q3, q4, q5, q6, q7, q8, q9, q10⟩ := q
    exact ⟨⟨(h0 0).trans q0, (h0 1).trans q1, (h0 2).trans q2, (h0 3).trans q3, (h0 4).trans q4⟩, ⟨(h1 0).trans q5, (h1 1).trans q6⟩, ⟨(h2 0).trans q7, (h2 1).trans q8⟩, ⟨(h3 0).trans q9, (h3 1).trans q10⟩, hp.below (Nat.le_refl _) hb, ka.below (Nat.le_refl _) hb, kb.below (Nat.le_refl _) hb, kc.below (Nat.le_refl _) hb, hb, by have := hV.size; omega⟩
  have HS := hide hS
  clear hS hp ka kb kc
  cases q0 : decide (ps.length ≤ 20 ∧ la.length ≤ 20) with
  | false =>
    go_enter Try.func7, Try.ntmps7
    go_upto_region 1 with fail
    rw [← hW0]
    clear hW0
    have B0 : Below (w.heap.size + 4) W0 W0 := Below.refl _ _
    obtain ⟨⟨y0, y1, y2, y3, y4⟩, ⟨a0, a1⟩, ⟨b0, b1⟩, ⟨c0, c1⟩, -, -, -, -, -, yz⟩ := HS.out W0 B0
    go_wp2_with fail
    refine (plHead_any _).mono ?_
    rintro e w1 ⟨rfl, k1⟩
    have B1 : Below (w.heap.size + 4) W0 w1 := B0.trans (k1.mono (HS.out _ B0).2.2.2.2.2.2.2.2.2)
    clear y0 y1 y2 y3 y4 a0 a1 b0 b1 c0 c1 yz k1 B0
    obtain ⟨⟨y0, y1, y2, y3, y4⟩, ⟨a0, a1⟩, ⟨b0, b1⟩, ⟨c0, c1⟩, -, -, -, -, -, yz⟩ := HS.out w1 B1
    go_wp2_with fail
    refine (R29Few_any r f lo tm _ ps _ la ea _ (HS.out _ B1).2.2.2.2.1 (HS.out _ B1).2.2.2.2.2.1).mono ?_
    rintro e w2 ⟨rfl, k2⟩
    rw [q0]
    have B2 : Below (w.heap.size + 4) W0 w2 := B1.trans (k2.mono (HS.out _ B1).2.2.2.2.2.2.2.2.2)
    clear y0 y1 y2 y3 y4 a0 a1 b0 b1 c0 c1 yz k2 B1
    obtain ⟨⟨y0, y1, y2, y3, y4⟩, ⟨a0, a1⟩, ⟨b0, b1⟩, ⟨c0, c1⟩, -, -, -, -, -, yz⟩ := HS.out w2 B2
    go_wp2_with fail
    go_ret
    exact ⟨rfl, (HS.out _ B2).2.2.2.2.2.2.2.2.1⟩
  | true =>
    cases q1 : decide (ps.length ≤ 20 ∧ lb.length ≤ 20) with
    | false =>
      go_enter Try.func7, Try.ntmps7
      go_upto_region 1 with fail
      rw [← hW0]
      clear hW0
      have B0 : Below (w.heap.size + 4) W0 W0 := Below.refl _ _
      obtain ⟨⟨y0, y1, y2, y3, y4⟩, ⟨a0, a1⟩, ⟨b0, b1⟩, ⟨c0, c1⟩, -, -, -, -, -, yz⟩ := HS.out W0 B0
      go_wp2_with fail
      refine (plHead_any _).mono ?_
      rintro e w1 ⟨rfl, k1⟩
      have B1 : Below (w.heap.size + 4) W0 w1 := B0.trans (k1.mono (HS.out _ B0).2.2.2.2.2.2.2.2.2)
      clear y0 y1 y2 y3 y4 a0 a1 b0 b1 c0 c1 yz k1 B0
      obtain ⟨⟨y0, y1, y2, y3, y4⟩, ⟨a0, a1⟩, ⟨b0, b1⟩, ⟨c0, c1⟩, -, -, -, -, -, yz⟩ := HS.out w1 B1
      go_wp2_with fail
      refine (R29Few_any r f lo tm _ ps _ la ea _ (HS.out _ B1).2.2.2.2.1 (HS.out _ B1).2.2.2.2.2.1).mono ?_
      rintro e w2 ⟨rfl, k2⟩
      rw [q0]
      have B2 : Below (w.heap.size + 4) W0 w2 := B1.trans (k2.mono (HS.out _ B1).2.2.2.2.2.2.2.2.2)
      clear y0 y1 y2 y3 y4 a0 a1 b0 b1 c0 c1 yz k2 B1
      obtain ⟨⟨y0, y1, y2, y3, y4⟩, ⟨a0, a1⟩, ⟨b0, b1⟩, ⟨c0, c1⟩, -, -, -, -, -, yz⟩ := HS.out w2 B2
      go_wp2_with fail
      refine (R29Few_any r f lo tm _ ps _ lb eb _ (HS.out _ B2).2.2.2.2.1 (HS.out _ B2).2.2.2.2.2.2.1).mono ?_
      rintro e w3 ⟨rfl, k3⟩
      rw [q1]
      have B3 : Below (w.heap.size + 4) W0 w3 := B2.trans (k3.mono (HS.out _ B2).2.2.2.2.2.2.2.2.2)
      clear y0 y1 y2 y3 y4 a0 a1 b0 b1 c0 c1 yz k3 B2
      obtain ⟨⟨y0, y1, y2, y3, y4⟩, ⟨a0, a1⟩, ⟨b0, b1⟩, ⟨c0, c1⟩, -, -, -, -, -, yz⟩ := HS.out w3 B3
      go_wp2_with fail
      go_ret
      exact ⟨rfl, (HS.out _ B3).2.2.2.2.2.2.2.2.1⟩
    | true =>
      cases q2 : decide (ps.length ≤ 20 ∧ lc.length ≤ 20) with
      | false =>
        go_enter Try.func7, Try.ntmps7
        go_upto_region 1 with fail
        rw [← hW0]
        clear hW0
        have B0 : Below (w.heap.size + 4) W0 W0 := Below.refl _ _
        obtain ⟨⟨y0, y1, y2, y3, y4⟩, ⟨a0, a1⟩, ⟨b0, b1⟩, ⟨c0, c1⟩, -, -, -, -, -, yz⟩ := HS.out W0 B0
        go_wp2_with fail
        refine (plHead_any _).mono ?_
        rintro e w1 ⟨rfl, k1⟩
        have B1 : Below (w.heap.size + 4) W0 w1 := B0.trans (k1.mono (HS.out _ B0).2.2.2.2.2.2.2.2.2)
        clear y0 y1 y2 y3 y4 a0 a1 b0 b1 c0 c1 yz k1 B0
        obtain ⟨⟨y0, y1, y2, y3, y4⟩, ⟨a0, a1⟩, ⟨b0, b1⟩, ⟨c0, c1⟩, -, -, -, -, -, yz⟩ := HS.out w1 B1
        go_wp2_with fail
        refine (R29Few_any r f lo tm _ ps _ la ea _ (HS.out _ B1).2.2.2.2.1 (HS.out _ B1).2.2.2.2.2.1).mono ?_
        rintro e w2 ⟨rfl, k2⟩
        rw [q0]
        have B2 : Below (w.heap.size + 4) W0 w2 := B1.trans (k2.mono (HS.out _ B1).2.2.2.2.2.2.2.2.2)
        clear y0 y1 y2 y3 y4 a0 a1 b0 b1 c0 c1 yz k2 B1
        obtain ⟨⟨y0, y1, y2, y3, y4⟩, ⟨a0, a1⟩, ⟨b0, b1⟩, ⟨c0, c1⟩, -, -, -, -, -, yz⟩ := HS.out w2 B2
        go_wp2_with fail
        refine (R29Few_any r f lo tm _ ps _ lb eb _ (HS.out _ B2).2.2.2.2.1 (HS.out _ B2).2.2.2.2.2.2.1).mono ?_
        rintro e w3 ⟨rfl, k3⟩
        rw [q1]
        have B3 : Below (w.heap.size + 4) W0 w3 := B2.trans (k3.mono (HS.out _ B2).2.2.2.2.2.2.2.2.2)
        clear y0 y1 y2 y3 y4 a0 a1 b0 b1 c0 c1 yz k3 B2
        obtain ⟨⟨y0, y1, y2, y3, y4⟩, ⟨a0, a1⟩, ⟨b0, b1⟩, ⟨c0, c1⟩, -, -, -, -, -, yz⟩ := HS.out w3 B3
        go_wp2_with fail
        refine (R29Few_any r f lo tm _ ps _ lc ec _ (HS.out _ B3).2.2.2.2.1 (HS.out _ B3).2.2.2.2.2.2.2.1).mono ?_
        rintro e w4 ⟨rfl, k4⟩
        rw [q2]
        have B4 : Below (w.heap.size + 4) W0 w4 := B3.trans (k4.mono (HS.out _ B3).2.2.2.2.2.2.2.2.2)
        clear y0 y1 y2 y3 y4 a0 a1 b0 b1 c0 c1 yz k4 B3
        obtain ⟨⟨y0, y1, y2, y3, y4⟩, ⟨a0, a1⟩, ⟨b0, b1⟩, ⟨c0, c1⟩, -, -, -, -, -, yz⟩ := HS.out w4 B4
        go_wp2_with fail
        go_ret
        exact ⟨rfl, (HS.out _ B4).2.2.2.2.2.2.2.2.1⟩
      | true =>
        have n0 := of_decide_eq_true q0
        have n1 := of_decide_eq_true q1
        have n2 := of_decide_eq_true q2
        cases q3 : rgB ⟨r, f, lo, tm, ps⟩ la ea with
        | false =>
          go_enter Try.func7, Try.ntmps7
          go_upto_region 1 with fail
          rw [← hW0]
          clear hW0
          have B0 : Below (w.heap.size + 4) W0 W0 := Below.refl _ _
          obtain ⟨⟨y0, y1, y2, y3, y4⟩, ⟨a0, a1⟩, ⟨b0, b1⟩, ⟨c0, c1⟩, -, -, -, -, -, yz⟩ := HS.out W0 B0
          go_wp2_with fail
          refine (plHead_any _).mono ?_
          rintro e w1 ⟨rfl, k1⟩
          have B1 : Below (w.heap.size + 4) W0 w1 := B0.trans (k1.mono (HS.out _ B0).2.2.2.2.2.2.2.2.2)
          clear y0 y1 y2 y3 y4 a0 a1 b0 b1 c0 c1 yz k1 B0
          obtain ⟨⟨y0, y1, y2, y3, y4⟩, ⟨a0, a1⟩, ⟨b0, b1⟩, ⟨c0, c1⟩, -, -, -, -, -, yz⟩ := HS.out w1 B1
          go_wp2_with fail
          refine (R29Few_any r f lo tm _ ps _ la ea _ (HS.out _ B1).2.2.2.2.1 (HS.out _ B1).2.2.2.2.2.1).mono ?_
          rintro e w2 ⟨rfl, k2⟩
          rw [q0]
          have B2 : Below (w.heap.size + 4) W0 w2 := B1.trans (k2.mono (HS.out _ B1).2.2.2.2.2.2.2.2.2)
          clear y0 y1 y2 y3 y4 a0 a1 b0 b1 c0 c1 yz k2 B1
          obtain ⟨⟨y0, y1, y2, y3, y4⟩, ⟨a0, a1⟩, ⟨b0, b1⟩, ⟨c0, c1⟩, -, -, -, -, -, yz⟩ := HS.out w2 B2
          go_wp2_with fail
          refine (R29Few_any r f lo tm _ ps _ lb eb _ (HS.out _ B2).2.2.2.2.1 (HS.out _ B2).2.2.2.2.2.2.1).mono ?_
          rintro e w3 ⟨rfl, k3⟩
          rw [q1]
          have B3 : Below (w.heap.size + 4) W0 w3 := B2.trans (k3.mono (HS.out _ B2).2.2.2.2.2.2.2.2.2)
          clear y0 y1 y2 y3 y4 a0 a1 b0 b1 c0 c1 yz k3 B2
          obtain ⟨⟨y0, y1, y2, y3, y4⟩, ⟨a0, a1⟩, ⟨b0, b1⟩, ⟨c0, c1⟩, -, -, -, -, -, yz⟩ := HS.out w3 B3
          go_wp2_with fail
          refine (R29Few_any r f lo tm _ ps _ lc ec _ (HS.out _ B3).2.2.2.2.1 (HS.out _ B3).2.2.2.2.2.2.2.1).mono ?_
          rintro e w4 ⟨rfl, k4⟩
          rw [q2]
          have B4 : Below (w.heap.size + 4) W0 w4 := B3.trans (k4.mono (HS.out _ B3).2.2.2.2.2.2.2.2.2)
          clear y0 y1 y2 y3 y4 a0 a1 b0 b1 c0 c1 yz k4 B3
          obtain ⟨⟨y0, y1, y2, y3, y4⟩, ⟨a0, a1⟩, ⟨b0, b1⟩, ⟨c0, c1⟩, -, -, -, -, -, yz⟩ := HS.out w4 B4
          go_wp2_with fail
          refine (R29Right_any r f lo tm _ ps _ la ea _ (HS.out _ B4).2.2.2.2.1 (HS.out _ B4).2.2.2.2.2.1 (by omega)).mono ?_
          rintro e w5 ⟨rfl, k5⟩
          rw [q3]
          have B5 : Below (w.heap.size + 4) W0 w5 := B4.trans (k5.mono (HS.out _ B4).2.2.2.2.2.2.2.2.2)
          clear y0 y1 y2 y3 y4 a0 a1 b0 b1 c0 c1 yz k5 B4
          obtain ⟨⟨y0, y1, y2, y3, y4⟩, ⟨a0, a1⟩, ⟨b0, b1⟩, ⟨c0, c1⟩, -, -, -, -, -, yz⟩ := HS.out w5 B5
          go_wp2_with fail
          go_ret
          exact ⟨rfl, (HS.out _ B5).2.2.2.2.2.2.2.2.1⟩
        | true =>
          cases q4 : rgB ⟨r, f, lo, tm, ps⟩ lb eb with
          | false =>
            go_enter Try.func7, Try.ntmps7
            go_upto_region 1 with fail
            rw [← hW0]
            clear hW0
            have B0 : Below (w.heap.size + 4) W0 W0 := Below.refl _ _
            obtain ⟨⟨y0, y1, y2, y3, y4⟩, ⟨a0, a1⟩, ⟨b0, b1⟩, ⟨c0, c1⟩, -, -, -, -, -, yz⟩ := HS.out W0 B0
            go_wp2_with fail
            refine (plHead_any _).mono ?_
            rintro e w1 ⟨rfl, k1⟩
            have B1 : Below (w.heap.size + 4) W0 w1 := B0.trans (k1.mono (HS.out _ B0).2.2.2.2.2.2.2.2.2)
            clear y0 y1 y2 y3 y4 a0 a1 b0 b1 c0 c1 yz k1 B0
            obtain ⟨⟨y0, y1, y2, y3, y4⟩, ⟨a0, a1⟩, ⟨b0, b1⟩, ⟨c0, c1⟩, -, -, -, -, -, yz⟩ := HS.out w1 B1
            go_wp2_with fail
            refine (R29Few_any r f lo tm _ ps _ la ea _ (HS.out _ B1).2.2.2.2.1 (HS.out _ B1).2.2.2.2.2.1).mono ?_
            rintro e w2 ⟨rfl, k2⟩
            rw [q0]
            have B2 : Below (w.heap.size + 4) W0 w2 := B1.trans (k2.mono (HS.out _ B1).2.2.2.2.2.2.2.2.2)
            clear y0 y1 y2 y3 y4 a0 a1 b0 b1 c0 c1 yz k2 B1
            obtain ⟨⟨y0, y1, y2, y3, y4⟩, ⟨a0, a1⟩, ⟨b0, b1⟩, ⟨c0, c1⟩, -, -, -, -, -, yz⟩ := HS.out w2 B2
            go_wp2_with fail
            refine (R29Few_any r f lo tm _ ps _ lb eb _ (HS.out _ B2).2.2.2.2.1 (HS.out _ B2).2.2.2.2.2.2.1).mono ?_
            rintro e w3 ⟨rfl, k3⟩
            rw [q1]
            have B3 : Below (w.heap.size + 4) W0 w3 := B2.trans (k3.mono (HS.out _ B2).2.2.2.2.2.2.2.2.2)
            clear y0 y1 y2 y3 y4 a0 a1 b0 b1 c0 c1 yz k3 B2
            obtain ⟨⟨y0, y1, y2, y3, y4⟩, ⟨a0, a1⟩, ⟨b0, b1⟩, ⟨c0, c1⟩, -, -, -, -, -, yz⟩ := HS.out w3 B3
            go_wp2_with fail
            refine (R29Few_any r f lo tm _ ps _ lc ec _ (HS.out _ B3).2.2.2.2.1 (HS.out _ B3).2.2.2.2.2.2.2.1).mono ?_
            rintro e w4 ⟨rfl, k4⟩
            rw [q2]
            have B4 : Below (w.heap.size + 4) W0 w4 := B3.trans (k4.mono (HS.out _ B3).2.2.2.2.2.2.2.2.2)
            clear y0 y1 y2 y3 y4 a0 a1 b0 b1 c0 c1 yz k4 B3
            obtain ⟨⟨y0, y1, y2, y3, y4⟩, ⟨a0, a1⟩, ⟨b0, b1⟩, ⟨c0, c1⟩, -, -, -, -, -, yz⟩ := HS.out w4 B4
            go_wp2_with fail
            refine (R29Right_any r f lo tm _ ps _ la ea _ (HS.out _ B4).2.2.2.2.1 (HS.out _ B4).2.2.2.2.2.1 (by omega)).mono ?_
            rintro e w5 ⟨rfl, k5⟩
            rw [q3]
            have B5 : Below (w.heap.size + 4) W0 w5 := B4.trans (k5.mono (HS.out _ B4).2.2.2.2.2.2.2.2.2)
            clear y0 y1 y2 y3 y4 a0 a1 b0 b1 c0 c1 yz k5 B4
            obtain ⟨⟨y0, y1, y2, y3, y4⟩, ⟨a0, a1⟩, ⟨b0, b1⟩, ⟨c0, c1⟩, -, -, -, -, -, yz⟩ := HS.out w5 B5
            go_wp2_with fail
            refine (R29Right_any r f lo tm _ ps _ lb eb _ (HS.out _ B5).2.2.2.2.1 (HS.out _ B5).2.2.2.2.2.2.1 (by omega)).mono ?_
            rintro e w6 ⟨rfl, k6⟩
            rw [q4]
            have B6 : Below (w.heap.size + 4) W0 w6 := B5.trans (k6.mono (HS.out _ B5).2.2.2.2.2.2.2.2.2)
            clear y0 y1 y2 y3 y4 a0 a1 b0 b1 c0 c1 yz k6 B5
            obtain ⟨⟨y0, y1, y2, y3, y4⟩, ⟨a0, a1⟩, ⟨b0, b1⟩, ⟨c0, c1⟩, -, -, -, -, -, yz⟩ := HS.out w6 B6
            go_wp2_with fail
            go_ret
            exact ⟨rfl, (HS.out _ B6).2.2.2.2.2.2.2.2.1⟩
          | true =>
            cases q5 : rgB ⟨r, f, lo, tm, ps⟩ lc ec with
            | false =>
              go_enter Try.func7, Try.ntmps7
              go_upto_region 1 with fail
              rw [← hW0]
              clear hW0
              have B0 : Below (w.heap.size + 4) W0 W0 := Below.refl _ _
              obtain ⟨⟨y0, y1, y2, y3, y4⟩, ⟨a0, a1⟩, ⟨b0, b1⟩, ⟨c0, c1⟩, -, -, -, -, -, yz⟩ := HS.out W0 B0
              go_wp2_with fail
              refine (plHead_any _).mono ?_
              rintro e w1 ⟨rfl, k1⟩
              have B1 : Below (w.heap.size + 4) W0 w1 := B0.trans (k1.mono (HS.out _ B0).2.2.2.2.2.2.2.2.2)
              clear y0 y1 y2 y3 y4 a0 a1 b0 b1 c0 c1 yz k1 B0
              obtain ⟨⟨y0, y1, y2, y3, y4⟩, ⟨a0, a1⟩, ⟨b0, b1⟩, ⟨c0, c1⟩, -, -, -, -, -, yz⟩ := HS.out w1 B1
              go_wp2_with fail
              refine (R29Few_any r f lo tm _ ps _ la ea _ (HS.out _ B1).2.2.2.2.1 (HS.out _ B1).2.2.2.2.2.1).mono ?_
              rintro e w2 ⟨rfl, k2⟩
              rw [q0]
              have B2 : Below (w.heap.size + 4) W0 w2 := B1.trans (k2.mono (HS.out _ B1).2.2.2.2.2.2.2.2.2)
              clear y0 y1 y2 y3 y4 a0 a1 b0 b1 c0 c1 yz k2 B1
              obtain ⟨⟨y0, y1, y2, y3, y4⟩, ⟨a0, a1⟩, ⟨b0, b1⟩, ⟨c0, c1⟩, -, -, -, -, -, yz⟩ := HS.out w2 B2
              go_wp2_with fail
              refine (R29Few_any r f lo tm _ ps _ lb eb _ (HS.out _ B2).2.2.2.2.1 (HS.out _ B2).2.2.2.2.2.2.1).mono ?_
              rintro e w3 ⟨rfl, k3⟩
              rw [q1]
              have B3 : Below (w.heap.size + 4) W0 w3 := B2.trans (k3.mono (HS.out _ B2).2.2.2.2.2.2.2.2.2)
              clear y0 y1 y2 y3 y4 a0 a1 b0 b1 c0 c1 yz k3 B2
              obtain ⟨⟨y0, y1, y2, y3, y4⟩, ⟨a0, a1⟩, ⟨b0, b1⟩, ⟨c0, c1⟩, -, -, -, -, -, yz⟩ := HS.out w3 B3
              go_wp2_with fail
              refine (R29Few_any r f lo tm _ ps _ lc ec _ (HS.out _ B3).2.2.2.2.1 (HS.out _ B3).2.2.2.2.2.2.2.1).mono ?_
              rintro e w4 ⟨rfl, k4⟩
              rw [q2]
              have B4 : Below (w.heap.size + 4) W0 w4 := B3.trans (k4.mono (HS.out _ B3).2.2.2.2.2.2.2.2.2)
              clear y0 y1 y2 y3 y4 a0 a1 b0 b1 c0 c1 yz k4 B3
              obtain ⟨⟨y0, y1, y2, y3, y4⟩, ⟨a0, a1⟩, ⟨b0, b1⟩, ⟨c0, c1⟩, -, -, -, -, -, yz⟩ := HS.out w4 B4
              go_wp2_with fail
              refine (R29Right_any r f lo tm _ ps _ la ea _ (HS.out _ B4).2.2.2.2.1 (HS.out _ B4).2.2.2.2.2.1 (by omega)).mono ?_
              rintro e w5 ⟨rfl, k5⟩
              rw [q3]
              have B5 : Below (w.heap.size + 4) W0 w5 := B4.trans (k5.mono (HS.out _ B4).2.2.2.2.2.2.2.2.2)
              clear y0 y1 y2 y3 y4 a0 a1 b0 b1 c0 c1 yz k5 B4
              obtain ⟨⟨y0, y1, y2, y3, y4⟩, ⟨a0, a1⟩, ⟨b0, b1⟩, ⟨c0, c1⟩, -, -, -, -, -, yz⟩ := HS.out w5 B5
              go_wp2_with fail
              refine (R29Right_any r f lo tm _ ps _ lb eb _ (HS.out _ B5).2.2.2.2.1 (HS.out _ B5).2.2.2.2.2.2.1 (by omega)).mono ?_
              rintro e w6 ⟨rfl, k6⟩
              rw [q4]
              have B6 : Below (w.heap.size + 4) W0 w6 := B5.trans (k6.mono (HS.out _ B5).2.2.2.2.2.2.2.2.2)
              clear y0 y1 y2 y3 y4 a0 a1 b0 b1 c0 c1 yz k6 B5
              obtain ⟨⟨y0, y1, y2, y3, y4⟩, ⟨a0, a1⟩, ⟨b0, b1⟩, ⟨c0, c1⟩, -, -, -, -, -, yz⟩ := HS.out w6 B6
              go_wp2_with fail
              refine (R29Right_any r f lo tm _ ps _ lc ec _ (HS.out _ B6).2.2.2.2.1 (HS.out _ B6).2.2.2.2.2.2.2.1 (by omega)).mono ?_
              rintro e w7 ⟨rfl, k7⟩
              rw [q5]
              have B7 : Below (w.heap.size + 4) W0 w7 := B6.trans (k7.mono (HS.out _ B6).2.2.2.2.2.2.2.2.2)
              clear y0 y1 y2 y3 y4 a0 a1 b0 b1 c0 c1 yz k7 B6
              obtain ⟨⟨y0, y1, y2, y3, y4⟩, ⟨a0, a1⟩, ⟨b0, b1⟩, ⟨c0, c1⟩, -, -, -, -, -, yz⟩ := HS.out w7 B7
              go_wp2_with fail
              go_ret
              exact ⟨rfl, (HS.out _ B7).2.2.2.2.2.2.2.2.1⟩
            | true =>
              have hl : ∀ {la lb : List Int} {ea eb : Int}, rgB ⟨r, f, lo, tm, ps⟩ la ea = true → rgB ⟨r, f, lo, tm, ps⟩ lb eb = true → chE ⟨r, f, lo, tm, ps⟩ la ea lb eb = 0 ∧ chB ⟨r, f, lo, tm, ps⟩ la ea lb eb = decide (cmpS ps la ea lb eb < 0) := fun h1 h2 => ⟨by unfold chE; rw [if_pos ⟨h1, h2⟩], by unfold chB; rw [if_pos ⟨h1, h2⟩]⟩
              obtain ⟨p1, p2, p3, p4⟩ := cmpS_props (ps := ps) (ua := la) (ub := lb) (uc := lc) (rg_ev q3) (rg_ev q4) (rg_ev q5)
              obtain ⟨h0, g0⟩ := hl q3 q3
              obtain ⟨h1, g1⟩ := hl q3 q4
              obtain ⟨h2, g2⟩ := hl q4 q3
              obtain ⟨h3, g3⟩ := hl q4 q5
              obtain ⟨h4, g4⟩ := hl q3 q5
              rw [decide_eq_false p1] at g0
              have hP : ∀ ab bb bc2 ac2 : Bool, ab = decide (cmpS ps la ea lb eb < 0) → bb = decide (cmpS ps lb eb la ea < 0) → bc2 = decide (cmpS ps lb eb lc ec < 0) → ac2 = decide (cmpS ps la ea lc ec < 0) → ¬ (ab = true ∧ bb = true) ∧ (ab = true → bc2 = true → ac2 = true) ∧ (ab = false → bc2 = false → ac2 = false) := by
                rintro ab bb bc2 ac2 rfl rfl rfl rfl
                simp only [decide_eq_true_eq, decide_eq_false_iff_not]
                exact ⟨p2, p3, p4⟩
              obtain ⟨P1, P2, P3⟩ := hP _ _ _ _ rfl rfl rfl rfl
              generalize decide (cmpS ps la ea lb eb < 0) = ab at *
              generalize decide (cmpS ps lb eb la ea < 0) = bb at *
              generalize decide (cmpS ps lb eb lc ec < 0) = bc2 at *
              generalize decide (cmpS ps la ea lc ec < 0) = ac2 at *
              have HP := hide (And.intro P1 (And.intro P2 P3))
              clear hl p1 p2 p3 p4 hP P1 P2 P3
              go_enter Try.func7, Try.ntmps7
              go_upto_region 1 with fail
              rw [← hW0]
              clear hW0
              have B0 : Below (w.heap.size + 4) W0 W0 := Below.refl _ _
              obtain ⟨⟨y0, y1, y2, y3, y4⟩, ⟨a0, a1⟩, ⟨b0, b1⟩, ⟨c0, c1⟩, -, -, -, -, -, yz⟩ := HS.out W0 B0
              go_wp2_with fail
              refine (plHead_any _).mono ?_
              rintro e w1 ⟨rfl, k1⟩
              have B1 : Below (w.heap.size + 4) W0 w1 := B0.trans (k1.mono (HS.out _ B0).2.2.2.2.2.2.2.2.2)
              clear y0 y1 y2 y3 y4 a0 a1 b0 b1 c0 c1 yz k1 B0
              obtain ⟨⟨y0, y1, y2, y3, y4⟩, ⟨a0, a1⟩, ⟨b0, b1⟩, ⟨c0, c1⟩, -, -, -, -, -, yz⟩ := HS.out w1 B1
              go_wp2_with fail
              refine (R29Few_any r f lo tm _ ps _ la ea _ (HS.out _ B1).2.2.2.2.1 (HS.out _ B1).2.2.2.2.2.1).mono ?_
              rintro e w2 ⟨rfl, k2⟩
              rw [q0]
              have B2 : Below (w.heap.size + 4) W0 w2 := B1.trans (k2.mono (HS.out _ B1).2.2.2.2.2.2.2.2.2)
              clear y0 y1 y2 y3 y4 a0 a1 b0 b1 c0 c1 yz k2 B1
              obtain ⟨⟨y0, y1, y2, y3, y4⟩, ⟨a0, a1⟩, ⟨b0, b1⟩, ⟨c0, c1⟩, -, -, -, -, -, yz⟩ := HS.out w2 B2
              go_wp2_with fail
              refine (R29Few_any r f lo tm _ ps _ lb eb _ (HS.out _ B2).2.2.2.2.1 (HS.out _ B2).2.2.2.2.2.2.1).mono ?_
              rintro e w3 ⟨rfl, k3⟩
              rw [q1]
              have B3 : Below (w.heap.size + 4) W0 w3 := B2.trans (k3.mono (HS.out _ B2).2.2.2.2.2.2.2.2.2)
              clear y0 y1 y2 y3 y4 a0 a1 b0 b1 c0 c1 yz k3 B2
              obtain ⟨⟨y0, y1, y2, y3, y4⟩, ⟨a0, a1⟩, ⟨b0, b1⟩, ⟨c0, c1⟩, -, -, -, -, -, yz⟩ := HS.out w3 B3
              go_wp2_with fail
              refine (R29Few_any r f lo tm _ ps _ lc ec _ (HS.out _ B3).2.2.2.2.1 (HS.out _ B3).2.2.2.2.2.2.2.1).mono ?_
              rintro e w4 ⟨rfl, k4⟩
              rw [q2]
              have B4 : Below (w.heap.size + 4) W0 w4 := B3.trans (k4.mono (HS.out _ B3).2.2.2.2.2.2.2.2.2)
              clear y0 y1 y2 y3 y4 a0 a1 b0 b1 c0 c1 yz k4 B3
              obtain ⟨⟨y0, y1, y2, y3, y4⟩, ⟨a0, a1⟩, ⟨b0, b1⟩, ⟨c0, c1⟩, -, -, -, -, -, yz⟩ := HS.out w4 B4
              go_wp2_with fail
              refine (R29Right_any r f lo tm _ ps _ la ea _ (HS.out _ B4).2.2.2.2.1 (HS.out _ B4).2.2.2.2.2.1 (by omega)).mono ?_
              rintro e w5 ⟨rfl, k5⟩
              rw [q3]
              have B5 : Below (w.heap.size + 4) W0 w5 := B4.trans (k5.mono (HS.out _ B4).2.2.2.2.2.2.2.2.2)
              clear y0 y1 y2 y3 y4 a0 a1 b0 b1 c0 c1 yz k5 B4
              obtain ⟨⟨y0, y1, y2, y3, y4⟩, ⟨a0, a1⟩, ⟨b0, b1⟩, ⟨c0, c1⟩, -, -, -, -, -, yz⟩ := HS.out w5 B5
              go_wp2_with fail
              refine (R29Right_any r f lo tm _ ps _ lb eb _ (HS.out _ B5).2.2.2.2.1 (HS.out _ B5).2.2.2.2.2.2.1 (by omega)).mono ?_
              rintro e w6 ⟨rfl, k6⟩
              rw [q4]
              have B6 : Below (w.heap.size + 4) W0 w6 := B5.trans (k6.mono (HS.out _ B5).2.2.2.2.2.2.2.2.2)
              clear y0 y1 y2 y3 y4 a0 a1 b0 b1 c0 c1 yz k6 B5
              obtain ⟨⟨y0, y1, y2, y3, y4⟩, ⟨a0, a1⟩, ⟨b0, b1⟩, ⟨c0, c1⟩, -, -, -, -, -, yz⟩ := HS.out w6 B6
              go_wp2_with fail
              refine (R29Right_any r f lo tm _ ps _ lc ec _ (HS.out _ B6).2.2.2.2.1 (HS.out _ B6).2.2.2.2.2.2.2.1 (by omega)).mono ?_
              rintro e w7 ⟨rfl, k7⟩
              rw [q5]
              have B7 : Below (w.heap.size + 4) W0 w7 := B6.trans (k7.mono (HS.out _ B6).2.2.2.2.2.2.2.2.2)
              clear y0 y1 y2 y3 y4 a0 a1 b0 b1 c0 c1 yz k7 B6
              obtain ⟨⟨y0, y1, y2, y3, y4⟩, ⟨a0, a1⟩, ⟨b0, b1⟩, ⟨c0, c1⟩, -, -, -, -, -, yz⟩ := HS.out w7 B7
              go_wp2_with fail
              refine (Cheaper_any r f lo tm _ ps _ la ea _ la ea _ (HS.out _ B7).2.2.2.2.1 (HS.out _ B7).2.2.2.2.2.1 (HS.out _ B7).2.2.2.2.2.1).mono ?_
              rintro e w8 ⟨rfl, k8⟩
              rw [g0, h0]
              have B8 : Below (w.heap.size + 4) W0 w8 := B7.trans (k8.mono (HS.out _ B7).2.2.2.2.2.2.2.2.2)
              clear y0 y1 y2 y3 y4 a0 a1 b0 b1 c0 c1 yz k8 B7
              obtain ⟨⟨y0, y1, y2, y3, y4⟩, ⟨a0, a1⟩, ⟨b0, b1⟩, ⟨c0, c1⟩, -, -, -, -, -, yz⟩ := HS.out w8 B8
              go_wp2_with fail
              refine (Cheaper_any r f lo tm _ ps _ la ea _ lb eb _ (HS.out _ B8).2.2.2.2.1 (HS.out _ B8).2.2.2.2.2.1 (HS.out _ B8).2.2.2.2.2.2.1).mono ?_
              rintro e w9 ⟨rfl, k9⟩
              rw [g1, h1]
              have B9 : Below (w.heap.size + 4) W0 w9 := B8.trans (k9.mono (HS.out _ B8).2.2.2.2.2.2.2.2.2)
              clear y0 y1 y2 y3 y4 a0 a1 b0 b1 c0 c1 yz k9 B8
              obtain ⟨⟨y0, y1, y2, y3, y4⟩, ⟨a0, a1⟩, ⟨b0, b1⟩, ⟨c0, c1⟩, -, -, -, -, -, yz⟩ := HS.out w9 B9
              go_wp2_with fail
              refine (Cheaper_any r f lo tm _ ps _ lb eb _ la ea _ (HS.out _ B9).2.2.2.2.1 (HS.out _ B9).2.2.2.2.2.2.1 (HS.out _ B9).2.2.2.2.2.1).mono ?_
              rintro e w10 ⟨rfl, k10⟩
              rw [g2, h2]
              have B10 : Below (w.heap.size + 4) W0 w10 := B9.trans (k10.mono (HS.out _ B9).2.2.2.2.2.2.2.2.2)
              clear y0 y1 y2 y3 y4 a0 a1 b0 b1 c0 c1 yz k10 B9
              obtain ⟨⟨y0, y1, y2, y3, y4⟩, ⟨a0, a1⟩, ⟨b0, b1⟩, ⟨c0, c1⟩, -, -, -, -, -, yz⟩ := HS.out w10 B10
              go_wp2_with fail
              refine (Cheaper_any r f lo tm _ ps _ lb eb _ lc ec _ (HS.out _ B10).2.2.2.2.1 (HS.out _ B10).2.2.2.2.2.2.1 (HS.out _ B10).2.2.2.2.2.2.2.1).mono ?_
              rintro e w11 ⟨rfl, k11⟩
              rw [g3, h3]
              have B11 : Below (w.heap.size + 4) W0 w11 := B10.trans (k11.mono (HS.out _ B10).2.2.2.2.2.2.2.2.2)
              clear y0 y1 y2 y3 y4 a0 a1 b0 b1 c0 c1 yz k11 B10
              obtain ⟨⟨y0, y1, y2, y3, y4⟩, ⟨a0, a1⟩, ⟨b0, b1⟩, ⟨c0, c1⟩, -, -, -, -, -, yz⟩ := HS.out w11 B11
              go_wp2_with fail
              refine (Cheaper_any r f lo tm _ ps _ la ea _ lc ec _ (HS.out _ B11).2.2.2.2.1 (HS.out _ B11).2.2.2.2.2.1 (HS.out _ B11).2.2.2.2.2.2.2.1).mono ?_
              rintro e w12 ⟨rfl, k12⟩
              rw [g4, h4]
              have B12 : Below (w.heap.size + 4) W0 w12 := B11.trans (k12.mono (HS.out _ B11).2.2.2.2.2.2.2.2.2)
              clear y0 y1 y2 y3 y4 a0 a1 b0 b1 c0 c1 yz k12 B11
              obtain ⟨⟨y0, y1, y2, y3, y4⟩, ⟨a0, a1⟩, ⟨b0, b1⟩, ⟨c0, c1⟩, -, -, -, -, -, yz⟩ := HS.out w12 B12
              go_upto_region 9 with fail
              cases ab <;> cases bb <;> cases bc2 <;> cases ac2
              all_goals first
                | exact absurd ⟨rfl, rfl⟩ HP.out.1
                | exact absurd (HP.out.2.1 rfl rfl) (by decide)
                | exact absurd (HP.out.2.2 rfl rfl) (by decide)
                | (go_wp2_with fail; go_ret; exact ⟨rfl, (HS.out _ B12).2.2.2.2.2.2.2.2.1⟩)
set_option maxRecDepth 100000 in
theorem planOrder_holds : Rows.PlanOrderSaid :=
  OpenClaim.holds_of_wide 7 Try.f7 rfl rfl rfl rfl rfl rfl rfl ⟨rfl, rfl, rfl, rfl, rfl⟩ rfl rfl rfl rfl rfl (by kernel_rfl) Try.func7 (by kernel_rfl)
    (of_decide_eq_true (by kernel_rfl)) (by unfold Func.isWrapper; rw [if_neg (of_decide_eq_false (by kernel_rfl))]; exact ⟨rfl, rfl⟩)
    (fun os started H enc _ => law_lifted started 7 Try.f7 Try.func7 (by kernel_rfl) Rows.planOrderSpec rfl rfl
      (fun ds h => by match ds, h with | [_, _, _, _], _ => exact ⟨rfl, rfl, rfl⟩)
      (fun t h => by
        rw [Try.params7] at h
        simp only [List.mem_cons, List.not_mem_nil, or_false] at h
        rcases h with rfl | rfl | rfl | rfl <;> exact ⟨by kernel_rfl, of_decide_eq_true (by kernel_rfl)⟩)
      (ChangeSpec.witness6 (enc := enc) (C := Try.checked) false ⟨#[], #[.agg #[.int .i64 0, .int .i64 0, .int .i64 0, .int .i64 0, .slice none 0 0], .agg #[.slice none 0 0, .int .i64 0], .agg #[.slice none 0 0, .int .i64 0], .agg #[.slice none 0 0, .int .i64 0]], []⟩ 8 (by kernel_rfl) (by kernel_rfl) (by kernel_rfl) (by kernel_rfl))
      (fun W base args ds p hA hok => by
        rw [Try.params7] at hA hok
        obtain ⟨v0, vs0, d0, ds0, p0, q0, hargs, rfl, rfl, h0, r0⟩ := ChangeShapes.trodAll_cons hA
        obtain ⟨v1, vs1, d1, ds1, p1, q1, rfl, rfl, rfl, h1, r1⟩ := ChangeShapes.trodAll_cons r0
        obtain ⟨v2, vs2, d2, ds2, p2, q2, rfl, rfl, rfl, h2, r2⟩ := ChangeShapes.trodAll_cons r1
        obtain ⟨v3, vs3, d3, ds3, p3, q3, rfl, rfl, rfl, h3, r3⟩ := ChangeShapes.trodAll_cons r2
        obtain ⟨rfl, rfl, rfl⟩ := ChangeShapes.trodAll_nil r3
        obtain rfl : args = #[v0, v1, v2, v3] := by rw [← Array.toArray_toList (xs := args), hargs]
        obtain ⟨l0, hl0⟩ := open_site (hok 0 _ v0 rfl rfl) h0
        obtain ⟨l1, hl1⟩ := open_sched (hok 1 _ v1 rfl rfl) h1
        obtain ⟨l2, hl2⟩ := open_sched (hok 2 _ v2 rfl rfl) h2
        obtain ⟨l3, hl3⟩ := open_sched (hok 3 _ v3 rfl rfl) h3
        exact PlOrder_any W v0 l0 hl0 v1 l1 hl1 v2 l2 hl2 v3 l3 hl3))
end Go.Proofs.Ytiaahfccebmkdaa
