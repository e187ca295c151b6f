/- SceneTruth: for all arguments the statement answers true and leaves its arguments as they were. No condition. -/
import Derived.Test.YtigjljmhpkeahaaGreatScX
namespace Go.Proofs.YtigjljmhpkeahaaGreat
open Go.RowKit

attribute [local go_sem ↓] run_max_mx run_min_mn
theorem elapsed_nat (e a : Int) (h0 : 0 ≤ e) (ha : 0 < a) : 0 ≤ e % a ∧ e % a ≤ a - 1 := ⟨Int.emod_nonneg _ (by omega), by have := Int.emod_lt_of_pos e ha; omega⟩
set_option maxRecDepth 100000 in
set_option maxHeartbeats 2000000 in
theorem ScZTruth_any (w : World) (v0 : Value) (s : SiA) (hs : SiOk w v0 s) (v1 : Value) (x : SnA) (hx : SnOk w v1 x) (el : Int) (hel : 0 ≤ el ∧ el ≤ 18446744073709551615) :
    Calls Tryz.prog 6 #[v0, v1, .int .u64 el] w fun e w' => e = .returned (.bool true) ∧ Below w.heap.size w w' := by
  obtain ⟨r, f, lo, tm, pv, ps⟩ := s
  obtain ⟨rfl, hp, -, -⟩ := hs
  simp only at hp ⊢
  obtain ⟨pa, pc, rfl, -, -⟩ := hp.len
  obtain ⟨uv, av, use, ev, at_, an, ct⟩ := x
  obtain ⟨rfl, ⟨hu, -⟩, ⟨ha, -⟩, hev, hat, hct⟩ := hx
  simp only at hu ha hev hat hct ⊢
  obtain ⟨ua, uc, rfl, -, -, -⟩ := id hu
  obtain ⟨aa, ac, rfl, -, -⟩ := ha.len
  obtain ⟨W0, hW0⟩ : ∃ W : World, W = (w.alloc (.cells #[.int .i64 r, .int .i64 f, .int .i64 lo, .int .i64 tm, .slice pa ps.length pc] 24)).alloc (.cells #[.slice ua use.length uc, .int .i64 ev, .int .i64 at_, .slice aa an.length ac, .int .i64 ct] 30) := ⟨_, rfl⟩
  have hS : ∀ V : World, Below (w.heap.size + 2) W0 V → (V.cell? ⟨w.heap.size, 0, none⟩ = some (.int .i64 r) ∧ V.cell? ⟨w.heap.size, 1, none⟩ = some (.int .i64 f) ∧ V.cell? ⟨w.heap.size, 2, none⟩ = some (.int .i64 lo) ∧ V.cell? ⟨w.heap.size, 3, none⟩ = some (.int .i64 tm) ∧ V.cell? ⟨w.heap.size, 4, none⟩ = some (.slice pa ps.length pc)) ∧ (V.cell? ⟨w.heap.size + 1, 0, none⟩ = some (.slice ua use.length uc) ∧ V.cell? ⟨w.heap.size + 1, 1, none⟩ = some (.int .i64 ev) ∧ V.cell? ⟨w.heap.size + 1, 2, none⟩ = some (.int .i64 at_) ∧ V.cell? ⟨w.heap.size + 1, 3, none⟩ = some (.slice aa an.length ac) ∧ V.cell? ⟨w.heap.size + 1, 4, none⟩ = some (.int .i64 ct)) ∧ (PrRow V (.slice pa ps.length pc) ps ∧ IsRow V (.slice ua use.length uc) use ∧ AnRow V (.slice aa an.length ac) an) ∧ Below w.heap.size w V ∧ w.heap.size + 2 ≤ V.heap.size := by
    intro V hV
    have bW : Below w.heap.size w W0 := by rw [hW0]; ((repeat' (first | with_reducible exact Below.refl _ _ | with_reducible refine Below.alloc ?_ ?_ _ | with_reducible refine Below.setCell ?_ ?_ _ | with_reducible refine Below.drew ?_ | with_reducible refine below_drewN ?_ _)) <;> (first | omega | (simp; done) | (simp; omega)))
    have zW : W0.heap.size = w.heap.size + 2 := by rw [hW0]; simp
    have hb := bW.trans (hV.mono (by omega))
    have h0 := (bk hV w.heap.size (by omega)).1
    have h1 := (bk hV (w.heap.size + 1) (by omega)).1
    exact ⟨⟨(h0 0).trans (by rw [hW0]; simp [go_sem]), (h0 1).trans (by rw [hW0]; simp [go_sem]), (h0 2).trans (by rw [hW0]; simp [go_sem]), (h0 3).trans (by rw [hW0]; simp [go_sem]), (h0 4).trans (by rw [hW0]; simp [go_sem])⟩, ⟨(h1 0).trans (by rw [hW0]; simp [go_sem]), (h1 1).trans (by rw [hW0]; simp [go_sem]), (h1 2).trans (by rw [hW0]; simp [go_sem]), (h1 3).trans (by rw [hW0]; simp [go_sem]), (h1 4).trans (by rw [hW0]; simp [go_sem])⟩, ⟨hp.below (Nat.le_refl _) hb, hu.below (Nat.le_refl _) hb, ha.below (Nat.le_refl _) hb⟩, hb, by have := hV.size; omega⟩
  have HS := hide hS
  clear hS hp hu ha
  cases hU : decide ((ps.length ≤ 20 ∧ use.length ≤ 20) ∧ an.length ≤ 20) with
  | false =>
    go_enter Tryz.func6, Tryz.ntmps6
    go_upto_region 1 with fail
    rw [← hW0]
    clear hW0
    have B0 : Below (w.heap.size + 2) W0 W0 := Below.refl _ _
    obtain ⟨⟨y0, y1, y2, y3, y4⟩, ⟨x0, x1, x2, x3, x4⟩, -, -, yz⟩ := HS.out W0 B0
    have yq := Nat.lt_of_succ_le yz
    have ys : w.heap.size < W0.heap.size := by omega
    go_wp2_with fail
    refine (scHead_any _).mono ?_
    rintro e w1 ⟨rfl, b1⟩
    have B1 : Below (w.heap.size + 2) W0 w1 := B0.trans (b1.mono (HS.out _ B0).2.2.2.2)
    clear y0 y1 y2 y3 y4 x0 x1 x2 x3 x4 yz yq ys b1 B0
    obtain ⟨⟨y0, y1, y2, y3, y4⟩, ⟨x0, x1, x2, x3, x4⟩, -, -, yz⟩ := HS.out w1 B1
    have yq := Nat.lt_of_succ_le yz
    have ys : w.heap.size < w1.heap.size := by omega
    go_wp2_with fail
    refine (scFew_any r f lo tm _ ps _ use ev at_ _ an ct _ (HS.out _ B1).2.2.1.1 (HS.out _ B1).2.2.1.2.1 (HS.out _ B1).2.2.1.2.2).mono ?_
    rintro e w2 ⟨rfl, b2⟩
    rw [hU]
    have B2 : Below (w.heap.size + 2) W0 w2 := B1.trans (b2.mono (HS.out _ B1).2.2.2.2)
    clear y0 y1 y2 y3 y4 x0 x1 x2 x3 x4 yz yq ys b2 B1
    obtain ⟨⟨y0, y1, y2, y3, y4⟩, ⟨x0, x1, x2, x3, x4⟩, -, -, yz⟩ := HS.out w2 B2
    have yq := Nat.lt_of_succ_le yz
    have ys : w.heap.size < w2.heap.size := by omega
    go_wp2_with fail
    go_ret
    exact ⟨rfl, (by ((repeat' (first | with_reducible exact Below.refl _ _ | with_reducible exact (HS.out _ B2).2.2.2.1 | with_reducible refine Below.alloc ?_ ?_ _ | with_reducible refine Below.setCell ?_ ?_ _ | with_reducible refine Below.drew ?_ | with_reducible refine below_drewN ?_ _ | with_reducible refine Below.trans ?_ ((HS.out _ B2).2.2.2.1.mono ?_))) <;> (first | omega | (simp; done) | (simp; omega))))⟩
  | true =>
    cases hF : fitB ⟨r, f, lo, tm, ps⟩ ⟨use, ev, at_, an, ct⟩ with
    | false =>
      go_enter Tryz.func6, Tryz.ntmps6
      go_upto_region 1 with fail
      rw [← hW0]
      clear hW0
      have B0 : Below (w.heap.size + 2) W0 W0 := Below.refl _ _
      obtain ⟨⟨y0, y1, y2, y3, y4⟩, ⟨x0, x1, x2, x3, x4⟩, -, -, yz⟩ := HS.out W0 B0
      have yq := Nat.lt_of_succ_le yz
      have ys : w.heap.size < W0.heap.size := by omega
      go_wp2_with fail
      refine (scHead_any _).mono ?_
      rintro e w1 ⟨rfl, b1⟩
      have B1 : Below (w.heap.size + 2) W0 w1 := B0.trans (b1.mono (HS.out _ B0).2.2.2.2)
      clear y0 y1 y2 y3 y4 x0 x1 x2 x3 x4 yz yq ys b1 B0
      obtain ⟨⟨y0, y1, y2, y3, y4⟩, ⟨x0, x1, x2, x3, x4⟩, -, -, yz⟩ := HS.out w1 B1
      have yq := Nat.lt_of_succ_le yz
      have ys : w.heap.size < w1.heap.size := by omega
      go_wp2_with fail
      refine (scFew_any r f lo tm _ ps _ use ev at_ _ an ct _ (HS.out _ B1).2.2.1.1 (HS.out _ B1).2.2.1.2.1 (HS.out _ B1).2.2.1.2.2).mono ?_
      rintro e w2 ⟨rfl, b2⟩
      rw [hU]
      have B2 : Below (w.heap.size + 2) W0 w2 := B1.trans (b2.mono (HS.out _ B1).2.2.2.2)
      clear y0 y1 y2 y3 y4 x0 x1 x2 x3 x4 yz yq ys b2 B1
      obtain ⟨⟨y0, y1, y2, y3, y4⟩, ⟨x0, x1, x2, x3, x4⟩, -, -, yz⟩ := HS.out w2 B2
      have yq := Nat.lt_of_succ_le yz
      have ys : w.heap.size < w2.heap.size := by omega
      go_wp2_with fail
      refine (scAllowed_un r f lo tm _ ps _ use ev at_ _ an ct _ (HS.out _ B2).2.2.1.1 (HS.out _ B2).2.2.1.2.1 (HS.out _ B2).2.2.1.2.2 hF).mono ?_
      rintro e w3 ⟨rfl, b3⟩
      have B3 : Below (w.heap.size + 2) W0 w3 := B2.trans (b3.mono (HS.out _ B2).2.2.2.2)
      clear y0 y1 y2 y3 y4 x0 x1 x2 x3 x4 yz yq ys b3 B2
      obtain ⟨⟨y0, y1, y2, y3, y4⟩, ⟨x0, x1, x2, x3, x4⟩, -, -, yz⟩ := HS.out w3 B3
      have yq := Nat.lt_of_succ_le yz
      have ys : w.heap.size < w3.heap.size := by omega
      go_wp2_with fail
      go_ret
      exact ⟨rfl, (by ((repeat' (first | with_reducible exact Below.refl _ _ | with_reducible exact (HS.out _ B3).2.2.2.1 | with_reducible refine Below.alloc ?_ ?_ _ | with_reducible refine Below.setCell ?_ ?_ _ | with_reducible refine Below.drew ?_ | with_reducible refine below_drewN ?_ _ | with_reducible refine Below.trans ?_ ((HS.out _ B3).2.2.2.1.mono ?_))) <;> (first | omega | (simp; done) | (simp; omega))))⟩
    | true =>
      cases hA : alB ⟨r, f, lo, tm, ps⟩ ⟨use, ev, at_, an, ct⟩ with
      | false =>
        go_enter Tryz.func6, Tryz.ntmps6
        go_upto_region 1 with fail
        rw [← hW0]
        clear hW0
        have B0 : Below (w.heap.size + 2) W0 W0 := Below.refl _ _
        obtain ⟨⟨y0, y1, y2, y3, y4⟩, ⟨x0, x1, x2, x3, x4⟩, -, -, yz⟩ := HS.out W0 B0
        have yq := Nat.lt_of_succ_le yz
        have ys : w.heap.size < W0.heap.size := by omega
        go_wp2_with fail
        refine (scHead_any _).mono ?_
        rintro e w1 ⟨rfl, b1⟩
        have B1 : Below (w.heap.size + 2) W0 w1 := B0.trans (b1.mono (HS.out _ B0).2.2.2.2)
        clear y0 y1 y2 y3 y4 x0 x1 x2 x3 x4 yz yq ys b1 B0
        obtain ⟨⟨y0, y1, y2, y3, y4⟩, ⟨x0, x1, x2, x3, x4⟩, -, -, yz⟩ := HS.out w1 B1
        have yq := Nat.lt_of_succ_le yz
        have ys : w.heap.size < w1.heap.size := by omega
        go_wp2_with fail
        refine (scFew_any r f lo tm _ ps _ use ev at_ _ an ct _ (HS.out _ B1).2.2.1.1 (HS.out _ B1).2.2.1.2.1 (HS.out _ B1).2.2.1.2.2).mono ?_
        rintro e w2 ⟨rfl, b2⟩
        rw [hU]
        have B2 : Below (w.heap.size + 2) W0 w2 := B1.trans (b2.mono (HS.out _ B1).2.2.2.2)
        clear y0 y1 y2 y3 y4 x0 x1 x2 x3 x4 yz yq ys b2 B1
        obtain ⟨⟨y0, y1, y2, y3, y4⟩, ⟨x0, x1, x2, x3, x4⟩, -, -, yz⟩ := HS.out w2 B2
        have yq := Nat.lt_of_succ_le yz
        have ys : w.heap.size < w2.heap.size := by omega
        go_wp2_with fail
        refine (scAllowed_fit r f lo tm _ ps _ use ev at_ _ an ct _ (HS.out _ B2).2.2.1.1 (HS.out _ B2).2.2.1.2.1 (HS.out _ B2).2.2.1.2.2 hF).mono ?_
        rintro e w3 ⟨rfl, b3⟩
        rw [hA]
        have B3 : Below (w.heap.size + 2) W0 w3 := B2.trans (b3.mono (HS.out _ B2).2.2.2.2)
        clear y0 y1 y2 y3 y4 x0 x1 x2 x3 x4 yz yq ys b3 B2
        obtain ⟨⟨y0, y1, y2, y3, y4⟩, ⟨x0, x1, x2, x3, x4⟩, -, -, yz⟩ := HS.out w3 B3
        have yq := Nat.lt_of_succ_le yz
        have ys : w.heap.size < w3.heap.size := by omega
        go_wp2_with fail
        go_ret
        exact ⟨rfl, (by ((repeat' (first | with_reducible exact Below.refl _ _ | with_reducible exact (HS.out _ B3).2.2.2.1 | with_reducible refine Below.alloc ?_ ?_ _ | with_reducible refine Below.setCell ?_ ?_ _ | with_reducible refine Below.drew ?_ | with_reducible refine below_drewN ?_ _ | with_reducible refine Below.trans ?_ ((HS.out _ B3).2.2.2.1.mono ?_))) <;> (first | omega | (simp; done) | (simp; omega))))⟩
      | true =>
        obtain ⟨h1, h2, h3, h4, h5, h6, h7⟩ := al_play hF hA
        have hti := (fitB_iff _ _).1 hF
        have hwb := wdt_bd hti.1
        simp only at h1 h2 h3 h4 h5 h6 h7 hti hwb
        have hPl := fun pv uv av W q1 q2 q3 => scPlay_any r f lo tm pv ps uv use ev at_ av an ct W q1 q2 q3
        unfold PlayPost at hPl
        rw [h1] at hPl
        have hWd := fun pv uv W q1 q2 => wdWidthS_any r f lo tm pv ps uv use ev W q1 q2
        rw [h4] at hWd
        have hEl := fun W => Elapsed_any r ct W
        rw [h5] at hEl
        generalize pyHi ⟨r, f, lo, tm, ps⟩ ⟨use, ev, at_, an, ct⟩ = Y at *
        generalize pyLo ⟨r, f, lo, tm, ps⟩ ⟨use, ev, at_, an, ct⟩ = X at *
        generalize wdt ⟨r, f, lo, tm, ps⟩ use ev = D at *
        generalize elLo r ct = LL at *
        generalize elHi r ct = HH at *
        have hm := elapsed_nat el (HH - LL + 1) hel.1 (by omega)
        have h8 := h7 (el % (HH - LL + 1)) hm.1 (by omega)
        have wi : IntKind.i64.wrap (Y - X) = Y - X := IntWalk.i64_in _ (by omega)
        have wg : IntKind.i64.wrap (HH - LL) = HH - LL := IntWalk.i64_in _ (by omega)
        have wg1 : IntKind.i64.wrap (HH - LL + 1) = HH - LL + 1 := IntWalk.i64_in _ (by omega)
        have wg2 : IntKind.u64.wrap (HH - LL + 1) = HH - LL + 1 := IntWalk.u64_in _ (by omega)
        have wa : IntKind.i64.wrap (at_ + LL) = at_ + LL := IntWalk.i64_in _ (by omega)
        have wm : IntKind.i64.wrap (el % (HH - LL + 1)) = el % (HH - LL + 1) := IntWalk.i64_in _ (by omega)
        have wn : IntKind.i64.wrap (at_ + LL + el % (HH - LL + 1)) = at_ + LL + el % (HH - LL + 1) := IntWalk.i64_in _ (by omega)
        have q1 : decide (LL < 0) = false := decide_eq_false (by omega)
        have q2 : decide (HH < LL) = false := decide_eq_false (by omega)
        have q3 : decide (Y - X ≤ D) = true := decide_eq_true h2
        have q4 : hasB X Y (mn (at_ + LL + el % (HH - LL + 1)) 3000000000000000) = true := by unfold hasB; exact decide_eq_true h8
        have q5 : HH - LL + 1 ≠ 0 := by omega
        have HPl := hide hPl
        have HWd := hide hWd
        have HEl := hide hEl
        clear h1 h2 h3 h4 h5 h6 h7 h8 hti hwb hPl hWd hEl hm
        go_enter Tryz.func6, Tryz.ntmps6
        go_upto_region 1 with fail
        rw [← hW0]
        clear hW0
        have B0 : Below (w.heap.size + 2) W0 W0 := Below.refl _ _
        obtain ⟨⟨y0, y1, y2, y3, y4⟩, ⟨x0, x1, x2, x3, x4⟩, -, -, yz⟩ := HS.out W0 B0
        have yq := Nat.lt_of_succ_le yz
        have ys : w.heap.size < W0.heap.size := by omega
        go_wp2_with fail
        refine (scHead_any _).mono ?_
        rintro e w1 ⟨rfl, b1⟩
        have B1 : Below (w.heap.size + 2) W0 w1 := B0.trans (b1.mono (HS.out _ B0).2.2.2.2)
        clear y0 y1 y2 y3 y4 x0 x1 x2 x3 x4 yz yq ys b1 B0
        obtain ⟨⟨y0, y1, y2, y3, y4⟩, ⟨x0, x1, x2, x3, x4⟩, -, -, yz⟩ := HS.out w1 B1
        have yq := Nat.lt_of_succ_le yz
        have ys : w.heap.size < w1.heap.size := by omega
        go_wp2_with fail
        refine (scFew_any r f lo tm _ ps _ use ev at_ _ an ct _ (HS.out _ B1).2.2.1.1 (HS.out _ B1).2.2.1.2.1 (HS.out _ B1).2.2.1.2.2).mono ?_
        rintro e w2 ⟨rfl, b2⟩
        rw [hU]
        have B2 : Below (w.heap.size + 2) W0 w2 := B1.trans (b2.mono (HS.out _ B1).2.2.2.2)
        clear y0 y1 y2 y3 y4 x0 x1 x2 x3 x4 yz yq ys b2 B1
        obtain ⟨⟨y0, y1, y2, y3, y4⟩, ⟨x0, x1, x2, x3, x4⟩, -, -, yz⟩ := HS.out w2 B2
        have yq := Nat.lt_of_succ_le yz
        have ys : w.heap.size < w2.heap.size := by omega
        go_wp2_with fail
        refine (scAllowed_fit r f lo tm _ ps _ use ev at_ _ an ct _ (HS.out _ B2).2.2.1.1 (HS.out _ B2).2.2.1.2.1 (HS.out _ B2).2.2.1.2.2 hF).mono ?_
        rintro e w3 ⟨rfl, b3⟩
        rw [hA]
        have B3 : Below (w.heap.size + 2) W0 w3 := B2.trans (b3.mono (HS.out _ B2).2.2.2.2)
        clear y0 y1 y2 y3 y4 x0 x1 x2 x3 x4 yz yq ys b3 B2
        obtain ⟨⟨y0, y1, y2, y3, y4⟩, ⟨x0, x1, x2, x3, x4⟩, -, -, yz⟩ := HS.out w3 B3
        have yq := Nat.lt_of_succ_le yz
        have ys : w.heap.size < w3.heap.size := by omega
        go_wp2_with fail
        refine (HPl.out _ _ _ _ (HS.out _ B3).2.2.1.1 (HS.out _ B3).2.2.1.2.1 (HS.out _ B3).2.2.1.2.2).mono ?_
        rintro e w4 ⟨rfl, b4⟩
        have B4 : Below (w.heap.size + 2) W0 w4 := B3.trans (b4.mono (HS.out _ B3).2.2.2.2)
        clear y0 y1 y2 y3 y4 x0 x1 x2 x3 x4 yz yq ys b4 B3
        obtain ⟨⟨y0, y1, y2, y3, y4⟩, ⟨x0, x1, x2, x3, x4⟩, -, -, yz⟩ := HS.out w4 B4
        have yq := Nat.lt_of_succ_le yz
        have ys : w.heap.size < w4.heap.size := by omega
        go_upto_region 8 with fail
        have ki := (IvBox.made : IvBox (w4.alloc (.cells #[.int .i64 X, .int .i64 Y] 41)) w4.heap.size X Y)
        have b5 : Below w4.heap.size w4 (w4.alloc (.cells #[.int .i64 X, .int .i64 Y] 41)) := (by ((repeat' (first | with_reducible exact Below.refl _ _ | with_reducible refine Below.alloc ?_ ?_ _ | with_reducible refine Below.setCell ?_ ?_ _ | with_reducible refine Below.drew ?_ | with_reducible refine below_drewN ?_ _)) <;> (first | omega | (simp; done) | (simp; omega))))
        have B5 : Below (w.heap.size + 2) W0 (w4.alloc (.cells #[.int .i64 X, .int .i64 Y] 41)) := B4.trans (b5.mono (HS.out _ B4).2.2.2.2)
        obtain ⟨gki, hgki⟩ : ∃ g, g = w4.heap.size := ⟨_, rfl⟩
        rw [← hgki] at ki ⊢
        clear hgki b5 y0 y1 y2 y3 y4 x0 x1 x2 x3 x4 yz yq ys B4
        generalize w4.alloc (.cells #[.int .i64 X, .int .i64 Y] 41) = w5 at *
        obtain ⟨⟨y0, y1, y2, y3, y4⟩, ⟨x0, x1, x2, x3, x4⟩, -, -, yz⟩ := HS.out w5 B5
        have yq := Nat.lt_of_succ_le yz
        have ys : w.heap.size < w5.heap.size := by omega
        go_wp2_with fail
        refine (HWd.out _ _ _ (HS.out _ B5).2.2.1.1 (HS.out _ B5).2.2.1.2.1).mono ?_
        rintro e w6 ⟨rfl, b6⟩
        have B6 : Below (w.heap.size + 2) W0 w6 := B5.trans (b6.mono (HS.out _ B5).2.2.2.2)
        have tki := ki.below b6
        clear ki
        have ki := tki
        clear tki
        clear y0 y1 y2 y3 y4 x0 x1 x2 x3 x4 yz yq ys b6 B5
        obtain ⟨⟨y0, y1, y2, y3, y4⟩, ⟨x0, x1, x2, x3, x4⟩, -, -, yz⟩ := HS.out w6 B6
        have yq := Nat.lt_of_succ_le yz
        have ys : w.heap.size < w6.heap.size := by omega
        go_wp2_with fail
        refine (HEl.out _).mono ?_
        rintro e w7 ⟨rfl, b7⟩
        have B7 : Below (w.heap.size + 2) W0 w7 := B6.trans (b7.mono (HS.out _ B6).2.2.2.2)
        have tki := ki.below b7
        clear ki
        have ki := tki
        clear tki
        clear y0 y1 y2 y3 y4 x0 x1 x2 x3 x4 yz yq ys b7 B6
        obtain ⟨⟨y0, y1, y2, y3, y4⟩, ⟨x0, x1, x2, x3, x4⟩, -, -, yz⟩ := HS.out w7 B7
        have yq := Nat.lt_of_succ_le yz
        have ys : w.heap.size < w7.heap.size := by omega
        go_upto_region 10 with fail
        have kg := (IvBox.made : IvBox (w7.alloc (.cells #[.int .i64 LL, .int .i64 HH] 52)) w7.heap.size LL HH)
        have b8 : Below w7.heap.size w7 (w7.alloc (.cells #[.int .i64 LL, .int .i64 HH] 52)) := (by ((repeat' (first | with_reducible exact Below.refl _ _ | with_reducible refine Below.alloc ?_ ?_ _ | with_reducible refine Below.setCell ?_ ?_ _ | with_reducible refine Below.drew ?_ | with_reducible refine below_drewN ?_ _)) <;> (first | omega | (simp; done) | (simp; omega))))
        have tki := ki.below b8
        clear ki
        have ki := tki
        clear tki
        have B8 : Below (w.heap.size + 2) W0 (w7.alloc (.cells #[.int .i64 LL, .int .i64 HH] 52)) := B7.trans (b8.mono (HS.out _ B7).2.2.2.2)
        obtain ⟨gkg, hgkg⟩ : ∃ g, g = w7.heap.size := ⟨_, rfl⟩
        rw [← hgkg] at kg ⊢
        clear hgkg b8 y0 y1 y2 y3 y4 x0 x1 x2 x3 x4 yz yq ys B7
        generalize w7.alloc (.cells #[.int .i64 LL, .int .i64 HH] 52) = w8 at *
        obtain ⟨⟨y0, y1, y2, y3, y4⟩, ⟨x0, x1, x2, x3, x4⟩, -, -, yz⟩ := HS.out w8 B8
        have yq := Nat.lt_of_succ_le yz
        have ys : w.heap.size < w8.heap.size := by omega
        obtain ⟨cki0, cki1, ckiz⟩ := id ki
        obtain ⟨ckg0, ckg1, ckgz⟩ := id kg
        go_upto_region 12 with fail
        go_quiet (fail)
        go_wp2_with (go_at_call 26; (with_reducible refine (RHas_any _ _ _ _).mono ?_); rintro e w9 ⟨rfl, hw9⟩; rw [q4]; have k9 : Below w8.heap.size w8 w9 := (by rw [hw9]; ((repeat' (first | with_reducible exact Below.refl _ _ | with_reducible refine Below.alloc ?_ ?_ _ | with_reducible refine Below.setCell ?_ ?_ _ | with_reducible refine Below.drew ?_ | with_reducible refine below_drewN ?_ _)) <;> (first | omega | (simp; done) | (simp; omega)))); have kg9 := kg.below k9; have ki9 := ki.below k9; clear hw9 cki0 cki1 ckiz ckg0 ckg1 ckgz; obtain ⟨cki0, cki1, ckiz⟩ := ki9)
        go_ret
        have zz := (HS.out _ B8).2.2.2.2
        exact ⟨rfl, (by ((repeat' (first | with_reducible exact Below.refl _ _ | with_reducible exact k9 | with_reducible exact (HS.out _ B8).2.2.2.1 | with_reducible refine Below.alloc ?_ ?_ _ | with_reducible refine Below.setCell ?_ ?_ _ | with_reducible refine Below.drew ?_ | with_reducible refine below_drewN ?_ _ | with_reducible refine Below.trans ?_ (k9.mono ?_) | with_reducible refine Below.trans ?_ ((HS.out _ B8).2.2.2.1.mono ?_))) <;> (first | omega | (simp; done) | (simp; omega))))⟩
set_option maxRecDepth 100000 in
theorem sceneTruth_holds : Rows.SceneTruthSaid :=
  OpenClaim.holds_of_wide 6 Tryz.f6 rfl rfl rfl rfl rfl rfl rfl ⟨rfl, rfl, rfl, rfl, rfl⟩ rfl rfl rfl rfl rfl (by kernel_rfl) Tryz.func6 (by kernel_rfl)
    (of_decide_eq_true (by kernel_rfl)) (by unfold Func.isWrapper; rw [if_neg (of_decide_eq_false (by kernel_rfl))]; exact ⟨rfl, rfl⟩)
    (fun os started H enc _ => law_lifted started 6 Tryz.f6 Tryz.func6 (by kernel_rfl) Rows.sceneTruthSpec rfl rfl
      (fun ds h => by match ds, h with | [_, _, _], _ => exact ⟨rfl, rfl, rfl⟩)
      (fun t h => by
        rw [Tryz.params6] at h
        simp only [List.mem_cons, List.not_mem_nil, or_false] at h
        rcases h with rfl | rfl | rfl <;> exact ⟨by kernel_rfl, of_decide_eq_true (by kernel_rfl)⟩)
      (ChangeSpec.witness6 (enc := enc) (C := Tryz.checked) false ⟨#[], #[.agg #[.int .i64 0, .int .i64 0, .int .i64 0, .int .i64 0, .slice none 0 0], .agg #[.slice none 0 0, .int .i64 0, .int .i64 0, .slice none 0 0, .int .i64 0], .int .u64 0], []⟩ 8 (by kernel_rfl) (by kernel_rfl) (by kernel_rfl) (by kernel_rfl))
      (fun W base args ds p hA hok => by
        rw [Tryz.params6] at hA hok
        obtain ⟨v0, vs0, d0, ds0, p0, q0, hargs, rfl, rfl, h0, r0⟩ := ChangeShapes.trodAll_cons hA
        obtain ⟨v1, vs1, d1, ds1, p1, q1, rfl, rfl, rfl, h1, r1⟩ := ChangeShapes.trodAll_cons r0
        obtain ⟨v2, vs2, d2, ds2, p2, q2, rfl, rfl, rfl, h2, r2⟩ := ChangeShapes.trodAll_cons r1
        obtain ⟨rfl, rfl, rfl⟩ := ChangeShapes.trodAll_nil r2
        obtain rfl : args = #[v0, v1, v2] := by rw [← Array.toArray_toList (xs := args), hargs]
        obtain ⟨l0, hl0⟩ := open_site (hok 0 _ v0 rfl rfl) h0
        obtain ⟨l1, hl1⟩ := open_scene (hok 1 _ v1 rfl rfl) h1
        obtain ⟨x2, rfl, hx2⟩ := open_u64 Tryz.underlying51 (hok 2 _ v2 rfl rfl) h2
        exact ScZTruth_any W v0 l0 hl0 v1 l1 hl1 x2 hx2))
end Go.Proofs.YtigjljmhpkeahaaGreat
