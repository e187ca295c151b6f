
/- For all sites, schedules and promises: the statement CertWorst answers true; without a condition. -/
import Derived.Test.YtlmcoollkmhanaaCtY
namespace Go.Proofs.Ytlmcoollkmhanaa
open Go.RowKit

theorem Width_val {r f lo tm : Int} {ps : List Pr} {use : List Int} {ev D E : Int} (h1 : wdt ⟨r, f, lo, tm, ps⟩ use ev = D) (h2 : wdEr ⟨r, f, lo, tm, ps⟩ use ev = E) (pv uv : Value) (w : World) (hp : PrRow w pv ps) (hu : IsRow w uv use) :
  Calls Try.prog 7 #[.agg #[.int .i64 r, .int .i64 f, .int .i64 lo, .int .i64 tm, pv], .agg #[uv, .int .i64 ev]] w fun e w' => e = .returned (.tuple #[.int .i64 D, .int .i64 E]) ∧ Below w.heap.size w w' := by
 have h := wdWidthS_any r f lo tm pv ps uv use ev w hp hu
 rw [h1, h2] at h
 exact h
set_option maxRecDepth 100000 in
set_option maxHeartbeats 4000000 in
theorem CtZ3_any (w : World) (v0 : Value) (s : SiA) (hs : SiOk w v0 s) (v1 : Value) (c : ScA) (hc : ScOk w v1 c) (pm : Int) :
  Calls Try.prog 3 #[v0, v1, .int .i64 pm] w fun e w' => e = .returned (.bool true) ∧ Below w.heap.size w w' := by
 obtain ⟨r, f, lo, tm, pv, ps⟩ := s
 obtain ⟨rfl, hp, -, -⟩ := hs
 simp only at hp ⊢
 obtain ⟨pa, pc, rfl, -, -⟩ := hp.len
 obtain ⟨uv, use, ev⟩ := c
 obtain ⟨rfl, hu, -, hev⟩ := hc
 simp only at hu hev ⊢
 obtain ⟨ua, uc, rfl, -, -, -⟩ := id hu
 obtain ⟨W0, hW0⟩ : ∃ W : World, W = (w.alloc (.cells #[.int .i64 r, .int .i64 f, .int .i64 lo, .int .i64 tm, .slice pa ps.length pc] 24)).alloc (.cells #[.slice ua use.length uc, .int .i64 ev] 27) := ⟨_, rfl⟩
 have hb : Below w.heap.size w W0 := by rw [hW0]; ((with_reducible repeat' first | exact .refl _ _ | refine .alloc ?_ ?_ _ | refine .setCell ?_ ?_ _ | refine .drew ?_ | refine below_drewN ?_ _) <;> first | omega | simp <;> omega)
 have hS : BxC W0 w.heap.size [.int .i64 r, .int .i64 f, .int .i64 lo, .int .i64 tm, .slice pa ps.length pc] := by
  rw [hW0]
  exact (BxC.made w [.int .i64 r, .int .i64 f, .int .i64 lo, .int .i64 tm, .slice pa ps.length pc] 24).alloc _
 have hC : BxC W0 (w.heap.size + 1) [.slice ua use.length uc, .int .i64 ev] := by
  rw [hW0]
  have h_ := BxC.made (w.alloc (.cells #[.int .i64 r, .int .i64 f, .int .i64 lo, .int .i64 tm, .slice pa ps.length pc] 24)) [.slice ua use.length uc, .int .i64 ev] 27
  simp only [World.size_alloc] at h_
  exact h_
 have t_ := hp.below (Nat.le_refl _) hb; clear hp; have hp := t_; clear t_
 have t_ := hu.below (Nat.le_refl _) hb; clear hu; have hu := t_; clear t_
 cases hU : usB ⟨r, f, lo, tm, ps⟩ use ev with
 | false =>
  go_enter Try.func3, Try.ntmps3
  go_upto_region 1 with fail
  rw [← hW0]
  clear hW0
  have cS_0 := hS.1 0 _ rfl
  have cS_1 := hS.1 1 _ rfl
  have cS_2 := hS.1 2 _ rfl
  have cS_3 := hS.1 3 _ rfl
  have cS_4 := hS.1 4 _ rfl
  have zS := hS.2.2
  have cC_0 := hC.1 0 _ rfl
  have cC_1 := hC.1 1 _ rfl
  have zC := hC.2.2
  go_wp2_with (first | (go_at_call 5; (with_reducible refine (head31_any _).mono ?_); rintro e w1 ⟨rfl, k1⟩; clear cS_0 cS_1 cS_2 cS_3 cS_4 zS cC_0 cC_1 zC; have t_ := hS.below hS.2.2 k1; clear hS; have hS := t_; clear t_; have t_ := hC.below hC.2.2 k1; clear hC; have hC := t_; clear t_; have t_ := hp.below (Nat.le_refl _) k1; clear hp; have hp := t_; clear t_; have t_ := hu.below (Nat.le_refl _) k1; clear hu; have hu := t_; clear t_; have t_ := hb.trans (k1.mono hb.size); clear hb; have hb := t_; clear t_; clear k1; have cS_0 := hS.1 0 _ rfl; have cS_1 := hS.1 1 _ rfl; have cS_2 := hS.1 2 _ rfl; have cS_3 := hS.1 3 _ rfl; have cS_4 := hS.1 4 _ rfl; have zS := hS.2.2; have cC_0 := hC.1 0 _ rfl; have cC_1 := hC.1 1 _ rfl; have zC := hC.2.2) | (go_at_call 6; (with_reducible refine (usable_any r f lo tm _ ps _ use ev _ hp hu).mono ?_); rintro e w2 ⟨rfl, k2⟩; rw [hU]; clear cS_0 cS_1 cS_2 cS_3 cS_4 zS cC_0 cC_1 zC; have t_ := hS.below hS.2.2 k2; clear hS; have hS := t_; clear t_; have t_ := hC.below hC.2.2 k2; clear hC; have hC := t_; clear t_; have t_ := hp.below (Nat.le_refl _) k2; clear hp; have hp := t_; clear t_; have t_ := hu.below (Nat.le_refl _) k2; clear hu; have hu := t_; clear t_; have t_ := hb.trans (k2.mono hb.size); clear hb; have hb := t_; clear t_; clear k2; have cS_0 := hS.1 0 _ rfl; have cS_1 := hS.1 1 _ rfl; have cS_2 := hS.1 2 _ rfl; have cS_3 := hS.1 3 _ rfl; have cS_4 := hS.1 4 _ rfl; have zS := hS.2.2; have cC_0 := hC.1 0 _ rfl; have cC_1 := hC.1 1 _ rfl; have zC := hC.2.2))
  go_ret
  exact ⟨rfl, hb⟩
 | true =>
  by_cases h1 : pm < 0
  ·have h2 := h1
   go_enter Try.func3, Try.ntmps3
   go_upto_region 1 with fail
   rw [← hW0]
   clear hW0
   have cS_0 := hS.1 0 _ rfl
   have cS_1 := hS.1 1 _ rfl
   have cS_2 := hS.1 2 _ rfl
   have cS_3 := hS.1 3 _ rfl
   have cS_4 := hS.1 4 _ rfl
   have zS := hS.2.2
   have cC_0 := hC.1 0 _ rfl
   have cC_1 := hC.1 1 _ rfl
   have zC := hC.2.2
   go_wp2_with (first | (go_at_call 5; (with_reducible refine (head31_any _).mono ?_); rintro e w1 ⟨rfl, k1⟩; clear cS_0 cS_1 cS_2 cS_3 cS_4 zS cC_0 cC_1 zC; have t_ := hS.below hS.2.2 k1; clear hS; have hS := t_; clear t_; have t_ := hC.below hC.2.2 k1; clear hC; have hC := t_; clear t_; have t_ := hp.below (Nat.le_refl _) k1; clear hp; have hp := t_; clear t_; have t_ := hu.below (Nat.le_refl _) k1; clear hu; have hu := t_; clear t_; have t_ := hb.trans (k1.mono hb.size); clear hb; have hb := t_; clear t_; clear k1; have cS_0 := hS.1 0 _ rfl; have cS_1 := hS.1 1 _ rfl; have cS_2 := hS.1 2 _ rfl; have cS_3 := hS.1 3 _ rfl; have cS_4 := hS.1 4 _ rfl; have zS := hS.2.2; have cC_0 := hC.1 0 _ rfl; have cC_1 := hC.1 1 _ rfl; have zC := hC.2.2) | (go_at_call 6; (with_reducible refine (usable_any r f lo tm _ ps _ use ev _ hp hu).mono ?_); rintro e w2 ⟨rfl, k2⟩; rw [hU]; clear cS_0 cS_1 cS_2 cS_3 cS_4 zS cC_0 cC_1 zC; have t_ := hS.below hS.2.2 k2; clear hS; have hS := t_; clear t_; have t_ := hC.below hC.2.2 k2; clear hC; have hC := t_; clear t_; have t_ := hp.below (Nat.le_refl _) k2; clear hp; have hp := t_; clear t_; have t_ := hu.below (Nat.le_refl _) k2; clear hu; have hu := t_; clear t_; have t_ := hb.trans (k2.mono hb.size); clear hb; have hb := t_; clear t_; clear k2; have cS_0 := hS.1 0 _ rfl; have cS_1 := hS.1 1 _ rfl; have cS_2 := hS.1 2 _ rfl; have cS_3 := hS.1 3 _ rfl; have cS_4 := hS.1 4 _ rfl; have zS := hS.2.2; have cC_0 := hC.1 0 _ rfl; have cC_1 := hC.1 1 _ rfl; have zC := hC.2.2))
   go_ret
   exact ⟨rfl, hb⟩
  ·by_cases h2 : 3000000000000000 < pm
   ·skip
    go_enter Try.func3, Try.ntmps3
    go_upto_region 1 with fail
    rw [← hW0]
    clear hW0
    have cS_0 := hS.1 0 _ rfl
    have cS_1 := hS.1 1 _ rfl
    have cS_2 := hS.1 2 _ rfl
    have cS_3 := hS.1 3 _ rfl
    have cS_4 := hS.1 4 _ rfl
    have zS := hS.2.2
    have cC_0 := hC.1 0 _ rfl
    have cC_1 := hC.1 1 _ rfl
    have zC := hC.2.2
    go_wp2_with (first | (go_at_call 5; (with_reducible refine (head31_any _).mono ?_); rintro e w1 ⟨rfl, k1⟩; clear cS_0 cS_1 cS_2 cS_3 cS_4 zS cC_0 cC_1 zC; have t_ := hS.below hS.2.2 k1; clear hS; have hS := t_; clear t_; have t_ := hC.below hC.2.2 k1; clear hC; have hC := t_; clear t_; have t_ := hp.below (Nat.le_refl _) k1; clear hp; have hp := t_; clear t_; have t_ := hu.below (Nat.le_refl _) k1; clear hu; have hu := t_; clear t_; have t_ := hb.trans (k1.mono hb.size); clear hb; have hb := t_; clear t_; clear k1; have cS_0 := hS.1 0 _ rfl; have cS_1 := hS.1 1 _ rfl; have cS_2 := hS.1 2 _ rfl; have cS_3 := hS.1 3 _ rfl; have cS_4 := hS.1 4 _ rfl; have zS := hS.2.2; have cC_0 := hC.1 0 _ rfl; have cC_1 := hC.1 1 _ rfl; have zC := hC.2.2) | (go_at_call 6; (with_reducible refine (usable_any r f lo tm _ ps _ use ev _ hp hu).mono ?_); rintro e w2 ⟨rfl, k2⟩; rw [hU]; clear cS_0 cS_1 cS_2 cS_3 cS_4 zS cC_0 cC_1 zC; have t_ := hS.below hS.2.2 k2; clear hS; have hS := t_; clear t_; have t_ := hC.below hC.2.2 k2; clear hC; have hC := t_; clear t_; have t_ := hp.below (Nat.le_refl _) k2; clear hp; have hp := t_; clear t_; have t_ := hu.below (Nat.le_refl _) k2; clear hu; have hu := t_; clear t_; have t_ := hb.trans (k2.mono hb.size); clear hb; have hb := t_; clear t_; clear k2; have cS_0 := hS.1 0 _ rfl; have cS_1 := hS.1 1 _ rfl; have cS_2 := hS.1 2 _ rfl; have cS_3 := hS.1 3 _ rfl; have cS_4 := hS.1 4 _ rfl; have zS := hS.2.2; have cC_0 := hC.1 0 _ rfl; have cC_1 := hC.1 1 _ rfl; have zC := hC.2.2))
    go_ret
    exact ⟨rfl, hb⟩
   ·obtain ⟨-, hrg, h8⟩ := (usB_iff _ _ _).1 hU
    obtain ⟨D, hD⟩ : ∃ D, wdt ⟨r, f, lo, tm, ps⟩ use ev = D := ⟨_, rfl⟩
    have hDE : wdEr ⟨r, f, lo, tm, ps⟩ use ev = 0 := by unfold wdEr; rw [hrg]; rfl
    have hDb := wdt_bd31 hrg
    rw [hD] at hDb
    have mB : ∀ p, 0 ≤ p → p ≤ 3000000000000000 → mkE ⟨r, f, lo, tm, ps⟩ use ev p = if D ≤ p then 0 else 50 := fun p p0 p1 => by
     unfold mkE mkB inB
     rw [hrg, decide_eq_true (⟨p0, p1⟩ : 0 ≤ p ∧ p ≤ 3000000000000000), Bool.and_self, if_pos rfl, if_pos h8, hD]
    have rF : mkE ⟨r, f, lo, tm, ps⟩ use ev D = 0 := by rw [mB D (by omega) (by omega), if_pos (Int.le_refl _)]
    obtain ⟨CS, hCS⟩ : ∃ CS, csL ⟨r, f, lo, tm, ps⟩ use ev = CS := ⟨_, rfl⟩
    have rY : mkX ⟨r, f, lo, tm, ps⟩ use ev D = ⟨use, ev, D, D, CS⟩ := by unfold mkX; rw [if_pos rF, hD, hCS]
    by_cases h3 : pm < D
    ·have rE : mkE ⟨r, f, lo, tm, ps⟩ use ev pm = 50 := by rw [mB pm (by omega) (by omega), if_neg (by omega)]
     have rX : mkX ⟨r, f, lo, tm, ps⟩ use ev pm = ⟨[], 0, 0, 0, []⟩ := by unfold mkX; rw [if_neg (by rw [rE]; decide)]; rfl
     clear mB
     go_enter Try.func3, Try.ntmps3
     go_upto_region 1 with fail
     rw [← hW0]
     clear hW0
     have cS_0 := hS.1 0 _ rfl
     have cS_1 := hS.1 1 _ rfl
     have cS_2 := hS.1 2 _ rfl
     have cS_3 := hS.1 3 _ rfl
     have cS_4 := hS.1 4 _ rfl
     have zS := hS.2.2
     have cC_0 := hC.1 0 _ rfl
     have cC_1 := hC.1 1 _ rfl
     have zC := hC.2.2
     go_upto_region 4 with (first | (go_at_call 5; (with_reducible refine (head31_any _).mono ?_); rintro e w1 ⟨rfl, k1⟩; clear cS_0 cS_1 cS_2 cS_3 cS_4 zS cC_0 cC_1 zC; have t_ := hS.below hS.2.2 k1; clear hS; have hS := t_; clear t_; have t_ := hC.below hC.2.2 k1; clear hC; have hC := t_; clear t_; have t_ := hp.below (Nat.le_refl _) k1; clear hp; have hp := t_; clear t_; have t_ := hu.below (Nat.le_refl _) k1; clear hu; have hu := t_; clear t_; have t_ := hb.trans (k1.mono hb.size); clear hb; have hb := t_; clear t_; clear k1; have cS_0 := hS.1 0 _ rfl; have cS_1 := hS.1 1 _ rfl; have cS_2 := hS.1 2 _ rfl; have cS_3 := hS.1 3 _ rfl; have cS_4 := hS.1 4 _ rfl; have zS := hS.2.2; have cC_0 := hC.1 0 _ rfl; have cC_1 := hC.1 1 _ rfl; have zC := hC.2.2) | (go_at_call 6; (with_reducible refine (usable_any r f lo tm _ ps _ use ev _ hp hu).mono ?_); rintro e w2 ⟨rfl, k2⟩; rw [hU]; clear cS_0 cS_1 cS_2 cS_3 cS_4 zS cC_0 cC_1 zC; have t_ := hS.below hS.2.2 k2; clear hS; have hS := t_; clear t_; have t_ := hC.below hC.2.2 k2; clear hC; have hC := t_; clear t_; have t_ := hp.below (Nat.le_refl _) k2; clear hp; have hp := t_; clear t_; have t_ := hu.below (Nat.le_refl _) k2; clear hu; have hu := t_; clear t_; have t_ := hb.trans (k2.mono hb.size); clear hb; have hb := t_; clear t_; clear k2; have cS_0 := hS.1 0 _ rfl; have cS_1 := hS.1 1 _ rfl; have cS_2 := hS.1 2 _ rfl; have cS_3 := hS.1 3 _ rfl; have cS_4 := hS.1 4 _ rfl; have zS := hS.2.2; have cC_0 := hC.1 0 _ rfl; have cC_1 := hC.1 1 _ rfl; have zC := hC.2.2))
     go_upto_region 5 with (go_at_call 7; (with_reducible refine (Width_val hD hDE _ _ _ hp hu).mono ?_); rintro e w3 ⟨rfl, k3⟩; clear cS_0 cS_1 cS_2 cS_3 cS_4 zS cC_0 cC_1 zC; have t_ := hS.below hS.2.2 k3; clear hS; have hS := t_; clear t_; have t_ := hC.below hC.2.2 k3; clear hC; have hC := t_; clear t_; have t_ := hp.below (Nat.le_refl _) k3; clear hp; have hp := t_; clear t_; have t_ := hu.below (Nat.le_refl _) k3; clear hu; have hu := t_; clear t_; have t_ := hb.trans (k3.mono hb.size); clear hb; have hb := t_; clear t_; clear k3; have cS_0 := hS.1 0 _ rfl; have cS_1 := hS.1 1 _ rfl; have cS_2 := hS.1 2 _ rfl; have cS_3 := hS.1 3 _ rfl; have cS_4 := hS.1 4 _ rfl; have zS := hS.2.2; have cC_0 := hC.1 0 _ rfl; have cC_1 := hC.1 1 _ rfl; have zC := hC.2.2)
     go_upto_region 6 with (go_at_call 8; (with_reducible refine (Make_val rX rE _ _ _ hp hu).mono ?_); rintro e w4 ⟨uv5, cv5, rfl, ⟨ho5, hc5⟩, k4⟩; have q5 := ho5.row; have d5 := hc5.row; clear ho5 hc5; obtain ⟨ua5, uc5, huv5, -⟩ := id q5; simp only [List.length_nil] at huv5; subst huv5; obtain ⟨ca5, cc5, hcv5, -, -⟩ := d5.len; simp only [List.length_nil] at hcv5; subst hcv5; clear cS_0 cS_1 cS_2 cS_3 cS_4 zS cC_0 cC_1 zC; have t_ := hS.below hS.2.2 k4; clear hS; have hS := t_; clear t_; have t_ := hC.below hC.2.2 k4; clear hC; have hC := t_; clear t_; have t_ := hp.below (Nat.le_refl _) k4; clear hp; have hp := t_; clear t_; have t_ := hu.below (Nat.le_refl _) k4; clear hu; have hu := t_; clear t_; have t_ := hb.trans (k4.mono hb.size); clear hb; have hb := t_; clear t_; clear k4; have cS_0 := hS.1 0 _ rfl; have cS_1 := hS.1 1 _ rfl; have cS_2 := hS.1 2 _ rfl; have cS_3 := hS.1 3 _ rfl; have cS_4 := hS.1 4 _ rfl; have zS := hS.2.2; have cC_0 := hC.1 0 _ rfl; have cC_1 := hC.1 1 _ rfl; have zC := hC.2.2)
     obtain ⟨W5, hW5⟩ : ∃ V : World, V = w4.alloc (.cells #[.slice ua5 0 uc5, .int .i64 0, .int .i64 0, .int .i64 0, .slice ca5 0 cc5] 35) := ⟨_, rfl⟩
     rw [← hW5]
     clear cS_0 cS_1 cS_2 cS_3 cS_4 zS cC_0 cC_1 zC
     have a5 : Below w4.heap.size w4 W5 := by rw [hW5]; ((with_reducible repeat' first | exact .refl _ _ | refine .alloc ?_ ?_ _ | refine .setCell ?_ ?_ _ | refine .drew ?_ | refine below_drewN ?_ _) <;> first | omega | simp <;> omega)
     have hA : BxC W5 (w4.heap.size) [.slice ua5 0 uc5, .int .i64 0, .int .i64 0, .int .i64 0, .slice ca5 0 cc5] := by
      rw [hW5]
      have h_ := BxC.made (w4) [.slice ua5 0 uc5, .int .i64 0, .int .i64 0, .int .i64 0, .slice ca5 0 cc5] 35
      exact h_
     have t_ := hS.below hS.2.2 a5; clear hS; have hS := t_; clear t_
     have t_ := hC.below hC.2.2 a5; clear hC; have hC := t_; clear t_
     have t_ := hp.below (Nat.le_refl _) a5; clear hp; have hp := t_; clear t_
     have t_ := hu.below (Nat.le_refl _) a5; clear hu; have hu := t_; clear t_
     have t_ := q5.below (Nat.le_refl _) a5; clear q5; have q5 := t_; clear t_
     have t_ := d5.below (Nat.le_refl _) a5; clear d5; have d5 := t_; clear t_
     have t_ := hb.trans (a5.mono hb.size); clear hb; have hb := t_; clear t_
     clear hW5 a5
     have cS_0 := hS.1 0 _ rfl
     have cS_1 := hS.1 1 _ rfl
     have cS_2 := hS.1 2 _ rfl
     have cS_3 := hS.1 3 _ rfl
     have cS_4 := hS.1 4 _ rfl
     have zS := hS.2.2
     have cC_0 := hC.1 0 _ rfl
     have cC_1 := hC.1 1 _ rfl
     have zC := hC.2.2
     have cA_0 := hA.1 0 _ rfl
     have cA_1 := hA.1 1 _ rfl
     have cA_2 := hA.1 2 _ rfl
     have cA_3 := hA.1 3 _ rfl
     have cA_4 := hA.1 4 _ rfl
     have zA := hA.2.2
     go_upto_region 7 with (go_at_call 8; (with_reducible refine (Make_val rY rF _ _ _ hp hu).mono ?_); rintro e w6 ⟨uv6, cv6, rfl, ⟨ho6, hc6⟩, k6⟩; have q6 := ho6.row; have d6 := hc6.row; clear ho6 hc6; obtain ⟨ua6, uc6, huv6, -⟩ := id q6; dsimp only at huv6; subst huv6; obtain ⟨ca6, cc6, hcv6, -, -⟩ := d6.len; dsimp only at hcv6; subst hcv6; clear cS_0 cS_1 cS_2 cS_3 cS_4 zS cC_0 cC_1 zC cA_0 cA_1 cA_2 cA_3 cA_4 zA; have t_ := hS.below hS.2.2 k6; clear hS; have hS := t_; clear t_; have t_ := hC.below hC.2.2 k6; clear hC; have hC := t_; clear t_; have t_ := hA.below hA.2.2 k6; clear hA; have hA := t_; clear t_; have t_ := hp.below (Nat.le_refl _) k6; clear hp; have hp := t_; clear t_; have t_ := hu.below (Nat.le_refl _) k6; clear hu; have hu := t_; clear t_; have t_ := q5.below (Nat.le_refl _) k6; clear q5; have q5 := t_; clear t_; have t_ := d5.below (Nat.le_refl _) k6; clear d5; have d5 := t_; clear t_; have t_ := hb.trans (k6.mono hb.size); clear hb; have hb := t_; clear t_; clear k6; have cS_0 := hS.1 0 _ rfl; have cS_1 := hS.1 1 _ rfl; have cS_2 := hS.1 2 _ rfl; have cS_3 := hS.1 3 _ rfl; have cS_4 := hS.1 4 _ rfl; have zS := hS.2.2; have cC_0 := hC.1 0 _ rfl; have cC_1 := hC.1 1 _ rfl; have zC := hC.2.2; have cA_0 := hA.1 0 _ rfl; have cA_1 := hA.1 1 _ rfl; have cA_2 := hA.1 2 _ rfl; have cA_3 := hA.1 3 _ rfl; have cA_4 := hA.1 4 _ rfl; have zA := hA.2.2)
     obtain ⟨W7, hW7⟩ : ∃ V : World, V = w6.alloc (.cells #[.slice ua6 use.length uc6, .int .i64 ev, .int .i64 D, .int .i64 D, .slice ca6 CS.length cc6] 35) := ⟨_, rfl⟩
     rw [← hW7]
     clear cS_0 cS_1 cS_2 cS_3 cS_4 zS cC_0 cC_1 zC cA_0 cA_1 cA_2 cA_3 cA_4 zA
     have a7 : Below w6.heap.size w6 W7 := by rw [hW7]; ((with_reducible repeat' first | exact .refl _ _ | refine .alloc ?_ ?_ _ | refine .setCell ?_ ?_ _ | refine .drew ?_ | refine below_drewN ?_ _) <;> first | omega | simp <;> omega)
     have hB : BxC W7 (w6.heap.size) [.slice ua6 use.length uc6, .int .i64 ev, .int .i64 D, .int .i64 D, .slice ca6 CS.length cc6] := by
      rw [hW7]
      have h_ := BxC.made (w6) [.slice ua6 use.length uc6, .int .i64 ev, .int .i64 D, .int .i64 D, .slice ca6 CS.length cc6] 35
      exact h_
     have t_ := hS.below hS.2.2 a7; clear hS; have hS := t_; clear t_
     have t_ := hC.below hC.2.2 a7; clear hC; have hC := t_; clear t_
     have t_ := hA.below hA.2.2 a7; clear hA; have hA := t_; clear t_
     have t_ := hp.below (Nat.le_refl _) a7; clear hp; have hp := t_; clear t_
     have t_ := hu.below (Nat.le_refl _) a7; clear hu; have hu := t_; clear t_
     have t_ := q5.below (Nat.le_refl _) a7; clear q5; have q5 := t_; clear t_
     have t_ := d5.below (Nat.le_refl _) a7; clear d5; have d5 := t_; clear t_
     have t_ := q6.below (Nat.le_refl _) a7; clear q6; have q6 := t_; clear t_
     have t_ := d6.below (Nat.le_refl _) a7; clear d6; have d6 := t_; clear t_
     have t_ := hb.trans (a7.mono hb.size); clear hb; have hb := t_; clear t_
     clear hW7 a7
     have cS_0 := hS.1 0 _ rfl
     have cS_1 := hS.1 1 _ rfl
     have cS_2 := hS.1 2 _ rfl
     have cS_3 := hS.1 3 _ rfl
     have cS_4 := hS.1 4 _ rfl
     have zS := hS.2.2
     have cC_0 := hC.1 0 _ rfl
     have cC_1 := hC.1 1 _ rfl
     have zC := hC.2.2
     have cA_0 := hA.1 0 _ rfl
     have cA_1 := hA.1 1 _ rfl
     have cA_2 := hA.1 2 _ rfl
     have cA_3 := hA.1 3 _ rfl
     have cA_4 := hA.1 4 _ rfl
     have zA := hA.2.2
     have cB_0 := hB.1 0 _ rfl
     have cB_1 := hB.1 1 _ rfl
     have cB_2 := hB.1 2 _ rfl
     have cB_3 := hB.1 3 _ rfl
     have cB_4 := hB.1 4 _ rfl
     have zB := hB.2.2
     go_wp2_with fail
     go_ret
     exact ⟨rfl, hb⟩
    ·have rE : mkE ⟨r, f, lo, tm, ps⟩ use ev pm = 0 := by rw [mB pm (by omega) (by omega), if_pos (by omega)]
     have rX : mkX ⟨r, f, lo, tm, ps⟩ use ev pm = ⟨use, ev, pm, D, CS⟩ := by unfold mkX; rw [if_pos rE, hD, hCS]
     have rC : ckE ⟨r, f, lo, tm, ps⟩ use ev = 0 := by unfold ckE; rw [hrg, if_pos rfl, if_pos h8]
     have rB : ckB ⟨r, f, lo, tm, ps⟩ ⟨use, ev, pm, D, CS⟩ = true := by
      unfold ckB
      simp only [rC, rE, rX, (csEqB_iff CS CS).2 rfl, decide_true, Bool.and_self]
     clear mB
     go_enter Try.func3, Try.ntmps3
     go_upto_region 1 with fail
     rw [← hW0]
     clear hW0
     have cS_0 := hS.1 0 _ rfl
     have cS_1 := hS.1 1 _ rfl
     have cS_2 := hS.1 2 _ rfl
     have cS_3 := hS.1 3 _ rfl
     have cS_4 := hS.1 4 _ rfl
     have zS := hS.2.2
     have cC_0 := hC.1 0 _ rfl
     have cC_1 := hC.1 1 _ rfl
     have zC := hC.2.2
     go_upto_region 4 with (first | (go_at_call 5; (with_reducible refine (head31_any _).mono ?_); rintro e w1 ⟨rfl, k1⟩; clear cS_0 cS_1 cS_2 cS_3 cS_4 zS cC_0 cC_1 zC; have t_ := hS.below hS.2.2 k1; clear hS; have hS := t_; clear t_; have t_ := hC.below hC.2.2 k1; clear hC; have hC := t_; clear t_; have t_ := hp.below (Nat.le_refl _) k1; clear hp; have hp := t_; clear t_; have t_ := hu.below (Nat.le_refl _) k1; clear hu; have hu := t_; clear t_; have t_ := hb.trans (k1.mono hb.size); clear hb; have hb := t_; clear t_; clear k1; have cS_0 := hS.1 0 _ rfl; have cS_1 := hS.1 1 _ rfl; have cS_2 := hS.1 2 _ rfl; have cS_3 := hS.1 3 _ rfl; have cS_4 := hS.1 4 _ rfl; have zS := hS.2.2; have cC_0 := hC.1 0 _ rfl; have cC_1 := hC.1 1 _ rfl; have zC := hC.2.2) | (go_at_call 6; (with_reducible refine (usable_any r f lo tm _ ps _ use ev _ hp hu).mono ?_); rintro e w2 ⟨rfl, k2⟩; rw [hU]; clear cS_0 cS_1 cS_2 cS_3 cS_4 zS cC_0 cC_1 zC; have t_ := hS.below hS.2.2 k2; clear hS; have hS := t_; clear t_; have t_ := hC.below hC.2.2 k2; clear hC; have hC := t_; clear t_; have t_ := hp.below (Nat.le_refl _) k2; clear hp; have hp := t_; clear t_; have t_ := hu.below (Nat.le_refl _) k2; clear hu; have hu := t_; clear t_; have t_ := hb.trans (k2.mono hb.size); clear hb; have hb := t_; clear t_; clear k2; have cS_0 := hS.1 0 _ rfl; have cS_1 := hS.1 1 _ rfl; have cS_2 := hS.1 2 _ rfl; have cS_3 := hS.1 3 _ rfl; have cS_4 := hS.1 4 _ rfl; have zS := hS.2.2; have cC_0 := hC.1 0 _ rfl; have cC_1 := hC.1 1 _ rfl; have zC := hC.2.2))
     go_upto_region 5 with (go_at_call 7; (with_reducible refine (Width_val hD hDE _ _ _ hp hu).mono ?_); rintro e w3 ⟨rfl, k3⟩; clear cS_0 cS_1 cS_2 cS_3 cS_4 zS cC_0 cC_1 zC; have t_ := hS.below hS.2.2 k3; clear hS; have hS := t_; clear t_; have t_ := hC.below hC.2.2 k3; clear hC; have hC := t_; clear t_; have t_ := hp.below (Nat.le_refl _) k3; clear hp; have hp := t_; clear t_; have t_ := hu.below (Nat.le_refl _) k3; clear hu; have hu := t_; clear t_; have t_ := hb.trans (k3.mono hb.size); clear hb; have hb := t_; clear t_; clear k3; have cS_0 := hS.1 0 _ rfl; have cS_1 := hS.1 1 _ rfl; have cS_2 := hS.1 2 _ rfl; have cS_3 := hS.1 3 _ rfl; have cS_4 := hS.1 4 _ rfl; have zS := hS.2.2; have cC_0 := hC.1 0 _ rfl; have cC_1 := hC.1 1 _ rfl; have zC := hC.2.2)
     go_upto_region 6 with (go_at_call 8; (with_reducible refine (Make_val rX rE _ _ _ hp hu).mono ?_); rintro e w4 ⟨uv5, cv5, rfl, ⟨ho5, hc5⟩, k4⟩; have q5 := ho5.row; have d5 := hc5.row; clear ho5 hc5; obtain ⟨ua5, uc5, huv5, -⟩ := id q5; dsimp only at huv5; subst huv5; obtain ⟨ca5, cc5, hcv5, -, -⟩ := d5.len; dsimp only at hcv5; subst hcv5; clear cS_0 cS_1 cS_2 cS_3 cS_4 zS cC_0 cC_1 zC; have t_ := hS.below hS.2.2 k4; clear hS; have hS := t_; clear t_; have t_ := hC.below hC.2.2 k4; clear hC; have hC := t_; clear t_; have t_ := hp.below (Nat.le_refl _) k4; clear hp; have hp := t_; clear t_; have t_ := hu.below (Nat.le_refl _) k4; clear hu; have hu := t_; clear t_; have t_ := hb.trans (k4.mono hb.size); clear hb; have hb := t_; clear t_; clear k4; have cS_0 := hS.1 0 _ rfl; have cS_1 := hS.1 1 _ rfl; have cS_2 := hS.1 2 _ rfl; have cS_3 := hS.1 3 _ rfl; have cS_4 := hS.1 4 _ rfl; have zS := hS.2.2; have cC_0 := hC.1 0 _ rfl; have cC_1 := hC.1 1 _ rfl; have zC := hC.2.2)
     obtain ⟨W5, hW5⟩ : ∃ V : World, V = w4.alloc (.cells #[.slice ua5 use.length uc5, .int .i64 ev, .int .i64 pm, .int .i64 D, .slice ca5 CS.length cc5] 35) := ⟨_, rfl⟩
     rw [← hW5]
     clear cS_0 cS_1 cS_2 cS_3 cS_4 zS cC_0 cC_1 zC
     have a5 : Below w4.heap.size w4 W5 := by rw [hW5]; ((with_reducible repeat' first | exact .refl _ _ | refine .alloc ?_ ?_ _ | refine .setCell ?_ ?_ _ | refine .drew ?_ | refine below_drewN ?_ _) <;> first | omega | simp <;> omega)
     have hA : BxC W5 (w4.heap.size) [.slice ua5 use.length uc5, .int .i64 ev, .int .i64 pm, .int .i64 D, .slice ca5 CS.length cc5] := by
      rw [hW5]
      have h_ := BxC.made (w4) [.slice ua5 use.length uc5, .int .i64 ev, .int .i64 pm, .int .i64 D, .slice ca5 CS.length cc5] 35
      exact h_
     have t_ := hS.below hS.2.2 a5; clear hS; have hS := t_; clear t_
     have t_ := hC.below hC.2.2 a5; clear hC; have hC := t_; clear t_
     have t_ := hp.below (Nat.le_refl _) a5; clear hp; have hp := t_; clear t_
     have t_ := hu.below (Nat.le_refl _) a5; clear hu; have hu := t_; clear t_
     have t_ := q5.below (Nat.le_refl _) a5; clear q5; have q5 := t_; clear t_
     have t_ := d5.below (Nat.le_refl _) a5; clear d5; have d5 := t_; clear t_
     have t_ := hb.trans (a5.mono hb.size); clear hb; have hb := t_; clear t_
     clear hW5 a5
     have cS_0 := hS.1 0 _ rfl
     have cS_1 := hS.1 1 _ rfl
     have cS_2 := hS.1 2 _ rfl
     have cS_3 := hS.1 3 _ rfl
     have cS_4 := hS.1 4 _ rfl
     have zS := hS.2.2
     have cC_0 := hC.1 0 _ rfl
     have cC_1 := hC.1 1 _ rfl
     have zC := hC.2.2
     have cA_0 := hA.1 0 _ rfl
     have cA_1 := hA.1 1 _ rfl
     have cA_2 := hA.1 2 _ rfl
     have cA_3 := hA.1 3 _ rfl
     have cA_4 := hA.1 4 _ rfl
     have zA := hA.2.2
     go_upto_region 7 with (go_at_call 8; (with_reducible refine (Make_val rY rF _ _ _ hp hu).mono ?_); rintro e w6 ⟨uv6, cv6, rfl, ⟨ho6, hc6⟩, k6⟩; have q6 := ho6.row; have d6 := hc6.row; clear ho6 hc6; obtain ⟨ua6, uc6, huv6, -⟩ := id q6; dsimp only at huv6; subst huv6; obtain ⟨ca6, cc6, hcv6, -, -⟩ := d6.len; dsimp only at hcv6; subst hcv6; clear cS_0 cS_1 cS_2 cS_3 cS_4 zS cC_0 cC_1 zC cA_0 cA_1 cA_2 cA_3 cA_4 zA; have t_ := hS.below hS.2.2 k6; clear hS; have hS := t_; clear t_; have t_ := hC.below hC.2.2 k6; clear hC; have hC := t_; clear t_; have t_ := hA.below hA.2.2 k6; clear hA; have hA := t_; clear t_; have t_ := hp.below (Nat.le_refl _) k6; clear hp; have hp := t_; clear t_; have t_ := hu.below (Nat.le_refl _) k6; clear hu; have hu := t_; clear t_; have t_ := q5.below (Nat.le_refl _) k6; clear q5; have q5 := t_; clear t_; have t_ := d5.below (Nat.le_refl _) k6; clear d5; have d5 := t_; clear t_; have t_ := hb.trans (k6.mono hb.size); clear hb; have hb := t_; clear t_; clear k6; have cS_0 := hS.1 0 _ rfl; have cS_1 := hS.1 1 _ rfl; have cS_2 := hS.1 2 _ rfl; have cS_3 := hS.1 3 _ rfl; have cS_4 := hS.1 4 _ rfl; have zS := hS.2.2; have cC_0 := hC.1 0 _ rfl; have cC_1 := hC.1 1 _ rfl; have zC := hC.2.2; have cA_0 := hA.1 0 _ rfl; have cA_1 := hA.1 1 _ rfl; have cA_2 := hA.1 2 _ rfl; have cA_3 := hA.1 3 _ rfl; have cA_4 := hA.1 4 _ rfl; have zA := hA.2.2)
     obtain ⟨W7, hW7⟩ : ∃ V : World, V = w6.alloc (.cells #[.slice ua6 use.length uc6, .int .i64 ev, .int .i64 D, .int .i64 D, .slice ca6 CS.length cc6] 35) := ⟨_, rfl⟩
     rw [← hW7]
     clear cS_0 cS_1 cS_2 cS_3 cS_4 zS cC_0 cC_1 zC cA_0 cA_1 cA_2 cA_3 cA_4 zA
     have a7 : Below w6.heap.size w6 W7 := by rw [hW7]; ((with_reducible repeat' first | exact .refl _ _ | refine .alloc ?_ ?_ _ | refine .setCell ?_ ?_ _ | refine .drew ?_ | refine below_drewN ?_ _) <;> first | omega | simp <;> omega)
     have hB : BxC W7 (w6.heap.size) [.slice ua6 use.length uc6, .int .i64 ev, .int .i64 D, .int .i64 D, .slice ca6 CS.length cc6] := by
      rw [hW7]
      have h_ := BxC.made (w6) [.slice ua6 use.length uc6, .int .i64 ev, .int .i64 D, .int .i64 D, .slice ca6 CS.length cc6] 35
      exact h_
     have t_ := hS.below hS.2.2 a7; clear hS; have hS := t_; clear t_
     have t_ := hC.below hC.2.2 a7; clear hC; have hC := t_; clear t_
     have t_ := hA.below hA.2.2 a7; clear hA; have hA := t_; clear t_
     have t_ := hp.below (Nat.le_refl _) a7; clear hp; have hp := t_; clear t_
     have t_ := hu.below (Nat.le_refl _) a7; clear hu; have hu := t_; clear t_
     have t_ := q5.below (Nat.le_refl _) a7; clear q5; have q5 := t_; clear t_
     have t_ := d5.below (Nat.le_refl _) a7; clear d5; have d5 := t_; clear t_
     have t_ := q6.below (Nat.le_refl _) a7; clear q6; have q6 := t_; clear t_
     have t_ := d6.below (Nat.le_refl _) a7; clear d6; have d6 := t_; clear t_
     have t_ := hb.trans (a7.mono hb.size); clear hb; have hb := t_; clear t_
     clear hW7 a7
     have cS_0 := hS.1 0 _ rfl
     have cS_1 := hS.1 1 _ rfl
     have cS_2 := hS.1 2 _ rfl
     have cS_3 := hS.1 3 _ rfl
     have cS_4 := hS.1 4 _ rfl
     have zS := hS.2.2
     have cC_0 := hC.1 0 _ rfl
     have cC_1 := hC.1 1 _ rfl
     have zC := hC.2.2
     have cA_0 := hA.1 0 _ rfl
     have cA_1 := hA.1 1 _ rfl
     have cA_2 := hA.1 2 _ rfl
     have cA_3 := hA.1 3 _ rfl
     have cA_4 := hA.1 4 _ rfl
     have zA := hA.2.2
     have cB_0 := hB.1 0 _ rfl
     have cB_1 := hB.1 1 _ rfl
     have cB_2 := hB.1 2 _ rfl
     have cB_3 := hB.1 3 _ rfl
     have cB_4 := hB.1 4 _ rfl
     have zB := hB.2.2
     go_upto_region 11 with fail
     go_wp2_with (go_at_call 9; (with_reducible refine (Check_val rB rC _ _ _ _ hp q5 d5).mono ?_); rintro e w8 ⟨rfl, k8⟩; clear cS_0 cS_1 cS_2 cS_3 cS_4 zS cC_0 cC_1 zC cA_0 cA_1 cA_2 cA_3 cA_4 zA cB_0 cB_1 cB_2 cB_3 cB_4 zB; have t_ := hS.below hS.2.2 k8; clear hS; have hS := t_; clear t_; have t_ := hC.below hC.2.2 k8; clear hC; have hC := t_; clear t_; have t_ := hA.below hA.2.2 k8; clear hA; have hA := t_; clear t_; have t_ := hB.below hB.2.2 k8; clear hB; have hB := t_; clear t_; have t_ := hp.below (Nat.le_refl _) k8; clear hp; have hp := t_; clear t_; have t_ := hu.below (Nat.le_refl _) k8; clear hu; have hu := t_; clear t_; have t_ := q5.below (Nat.le_refl _) k8; clear q5; have q5 := t_; clear t_; have t_ := d5.below (Nat.le_refl _) k8; clear d5; have d5 := t_; clear t_; have t_ := q6.below (Nat.le_refl _) k8; clear q6; have q6 := t_; clear t_; have t_ := d6.below (Nat.le_refl _) k8; clear d6; have d6 := t_; clear t_; have t_ := hb.trans (k8.mono hb.size); clear hb; have hb := t_; clear t_; clear k8; have cS_0 := hS.1 0 _ rfl; have cS_1 := hS.1 1 _ rfl; have cS_2 := hS.1 2 _ rfl; have cS_3 := hS.1 3 _ rfl; have cS_4 := hS.1 4 _ rfl; have zS := hS.2.2; have cC_0 := hC.1 0 _ rfl; have cC_1 := hC.1 1 _ rfl; have zC := hC.2.2; have cA_0 := hA.1 0 _ rfl; have cA_1 := hA.1 1 _ rfl; have cA_2 := hA.1 2 _ rfl; have cA_3 := hA.1 3 _ rfl; have cA_4 := hA.1 4 _ rfl; have zA := hA.2.2; have cB_0 := hB.1 0 _ rfl; have cB_1 := hB.1 1 _ rfl; have cB_2 := hB.1 2 _ rfl; have cB_3 := hB.1 3 _ rfl; have cB_4 := hB.1 4 _ rfl; have zB := hB.2.2)
     go_ret
     exact ⟨rfl, hb⟩
set_option maxRecDepth 100000 in
theorem certWorst_holds : Rows.CertWorstSaid :=
 OpenClaim.holds_of_wide 3 Try.f3 rfl rfl rfl rfl rfl rfl rfl ⟨rfl, rfl, rfl, rfl, rfl⟩ rfl rfl rfl rfl rfl (by kernel_rfl) Try.func3 (by kernel_rfl)
  (of_decide_eq_true (by kernel_rfl)) (by unfold Func.isWrapper; rw [if_neg (of_decide_eq_false (by kernel_rfl))]; exact ⟨rfl, rfl⟩)
  (fun os started H enc _ => law_lifted started 3 Try.f3 Try.func3 (by kernel_rfl) Rows.certWorstSpec rfl rfl
   (fun ds h => by match ds, h with | [_, _, _], _ => exact ⟨rfl, rfl, rfl⟩)
   (fun t h => by
    rw [Try.params3] at h
    simp only [List.mem_cons, List.not_mem_nil, or_false] at h
    rcases h with rfl | rfl | rfl <;> exact ⟨by kernel_rfl, of_decide_eq_true (by kernel_rfl)⟩)
   (ChangeSpec.witness6 (enc := enc) (C := Try.checked) false ⟨#[], #[.agg #[.int .i64 0, .int .i64 0, .int .i64 0, .int .i64 0, .slice none 0 0], .agg #[.slice none 0 0, .int .i64 0], .int .i64 0], []⟩ 8 (by kernel_rfl) (by kernel_rfl) (by kernel_rfl) (by kernel_rfl))
   (fun W base args ds p hA hok => by
    rw [Try.params3] at hA hok
    obtain ⟨v0, vs0, d0, ds0, p0, q0, hargs, rfl, rfl, h0, r0⟩ := ChangeShapes.trodAll_cons hA
    obtain ⟨v1, vs1, d1, ds1, p1, q1, rfl, rfl, rfl, h1, r1⟩ := ChangeShapes.trodAll_cons r0
    obtain ⟨v2, vs2, d2, ds2, p2, q2, rfl, rfl, rfl, h2, r2⟩ := ChangeShapes.trodAll_cons r1
    obtain ⟨rfl, rfl, rfl⟩ := ChangeShapes.trodAll_nil r2
    obtain rfl : args = #[v0, v1, v2] := by rw [← Array.toArray_toList (xs := args), hargs]
    obtain ⟨l0, hl0⟩ := open_site (hok 0 _ v0 rfl rfl) h0
    obtain ⟨l1, hl1⟩ := open_sched (hok 1 _ v1 rfl rfl) h1
    obtain ⟨x2, rfl, hx2⟩ := open_i64 Try.underlying3 (hok 2 _ v2 rfl rfl) h2
    exact CtZ3_any W v0 l0 hl0 v1 l1 hl1 x2))
end Go.Proofs.Ytlmcoollkmhanaa
