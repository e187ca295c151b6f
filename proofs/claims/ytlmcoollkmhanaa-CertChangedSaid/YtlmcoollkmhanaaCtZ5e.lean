
/- Package cert: CertChanged, two cases change places. -/
import Derived.Test.YtlmcoollkmhanaaCtZ5a
namespace Go.Proofs.Ytlmcoollkmhanaa
open Go.RowKit

set_option maxRecDepth 100000 in
set_option maxHeartbeats 8000000 in
theorem CtZ5_c5 (w : World) (v0 : Value) (s : SiA) (hs : SiOk w v0 s) (v1 : Value) (c : ScA) (hc : ScOk w v1 c) (mo : Int) (hmo : 0 ≤ mo ∧ mo ≤ 65535) (wh : Int) (hwh : 0 ≤ wh ∧ wh ≤ 65535) (wt : Int) (hwt : 0 ≤ wt ∧ wt ≤ 255) (e5 : wt % 5 = 4) (hq : ¬ wh % ((csL ⟨s.r, s.f, s.lo, s.tm, s.ps⟩ c.use c.ev).length : Int) = wh / 7 % ((csL ⟨s.r, s.f, s.lo, s.tm, s.ps⟩ c.use c.ev).length : Int)) (by_ : Int) (hby : -32768 ≤ by_ ∧ by_ ≤ 32767) :
  Calls Try.prog 4 #[v0, v1, .int .u16 mo, .int .u16 wh, .int .u8 wt, .int .i16 by_] w fun e w' => e = .returned (.bool true) ∧ Below w.heap.size w w' := by
 obtain ⟨i0, hi0, iz0, iz1, iz2⟩ := info_parts infoCs
 obtain ⟨r, f, lo, tm, pv, ps⟩ := s
 obtain ⟨rfl, hp, -, -⟩ := hs
 simp only at hp ⊢
 obtain ⟨pa, pc, rfl, -, -⟩ := hp.len
 obtain ⟨uv, use, ev⟩ := c
 obtain ⟨rfl, hu, -, hev⟩ := hc
 simp only at hu hev ⊢
 obtain ⟨ua, uc, rfl, -, -, -⟩ := id hu
 obtain ⟨W0, hW0⟩ : ∃ W : World, W = (w.alloc (.cells #[.int .i64 r, .int .i64 f, .int .i64 lo, .int .i64 tm, .slice pa ps.length pc] 24)).alloc (.cells #[.slice ua use.length uc, .int .i64 ev] 27) := ⟨_, rfl⟩
 have hb : Below w.heap.size w W0 := by rw [hW0]; ((with_reducible repeat' first | exact .refl _ _ | refine .alloc ?_ ?_ _ | refine .setCell ?_ ?_ _ | refine .drew ?_ | refine below_drewN ?_ _) <;> first | omega | simp <;> omega)
 have hS : BxC W0 w.heap.size [.int .i64 r, .int .i64 f, .int .i64 lo, .int .i64 tm, .slice pa ps.length pc] := by
  rw [hW0]
  exact (BxC.made w [.int .i64 r, .int .i64 f, .int .i64 lo, .int .i64 tm, .slice pa ps.length pc] 24).alloc _
 have hC : BxC W0 (w.heap.size + 1) [.slice ua use.length uc, .int .i64 ev] := by
  rw [hW0]
  have h_ := BxC.made (w.alloc (.cells #[.int .i64 r, .int .i64 f, .int .i64 lo, .int .i64 tm, .slice pa ps.length pc] 24)) [.slice ua use.length uc, .int .i64 ev] 27
  simp only [World.size_alloc] at h_
  exact h_
 have t_ := hp.below (Nat.le_refl _) hb; clear hp; have hp := t_; clear t_
 have t_ := hu.below (Nat.le_refl _) hb; clear hu; have hu := t_; clear t_
 cases hU : usB ⟨r, f, lo, tm, ps⟩ use ev with
 | false =>
  go_enter Try.func4, Try.ntmps4
  go_upto_region 1 with fail
  rw [← hW0]
  clear hW0
  have cS_0 := hS.1 0 _ rfl
  have cS_1 := hS.1 1 _ rfl
  have cS_2 := hS.1 2 _ rfl
  have cS_3 := hS.1 3 _ rfl
  have cS_4 := hS.1 4 _ rfl
  have zS := hS.2.2
  have cC_0 := hC.1 0 _ rfl
  have cC_1 := hC.1 1 _ rfl
  have zC := hC.2.2
  go_wp2_with (first | (go_at_call 5; (with_reducible refine (head31_any _).mono ?_); rintro e w1 ⟨rfl, k1⟩; clear cS_0 cS_1 cS_2 cS_3 cS_4 zS cC_0 cC_1 zC; have t_ := hS.below hS.2.2 k1; clear hS; have hS := t_; clear t_; have t_ := hC.below hC.2.2 k1; clear hC; have hC := t_; clear t_; have t_ := hp.below (Nat.le_refl _) k1; clear hp; have hp := t_; clear t_; have t_ := hu.below (Nat.le_refl _) k1; clear hu; have hu := t_; clear t_; have t_ := hb.trans (k1.mono hb.size); clear hb; have hb := t_; clear t_; clear k1; have cS_0 := hS.1 0 _ rfl; have cS_1 := hS.1 1 _ rfl; have cS_2 := hS.1 2 _ rfl; have cS_3 := hS.1 3 _ rfl; have cS_4 := hS.1 4 _ rfl; have zS := hS.2.2; have cC_0 := hC.1 0 _ rfl; have cC_1 := hC.1 1 _ rfl; have zC := hC.2.2) | (go_at_call 6; (with_reducible refine (usable_any r f lo tm _ ps _ use ev _ hp hu).mono ?_); rintro e w2 ⟨rfl, k2⟩; rw [hU]; clear cS_0 cS_1 cS_2 cS_3 cS_4 zS cC_0 cC_1 zC; have t_ := hS.below hS.2.2 k2; clear hS; have hS := t_; clear t_; have t_ := hC.below hC.2.2 k2; clear hC; have hC := t_; clear t_; have t_ := hp.below (Nat.le_refl _) k2; clear hp; have hp := t_; clear t_; have t_ := hu.below (Nat.le_refl _) k2; clear hu; have hu := t_; clear t_; have t_ := hb.trans (k2.mono hb.size); clear hb; have hb := t_; clear t_; clear k2; have cS_0 := hS.1 0 _ rfl; have cS_1 := hS.1 1 _ rfl; have cS_2 := hS.1 2 _ rfl; have cS_3 := hS.1 3 _ rfl; have cS_4 := hS.1 4 _ rfl; have zS := hS.2.2; have cC_0 := hC.1 0 _ rfl; have cC_1 := hC.1 1 _ rfl; have zC := hC.2.2))
  go_ret
  exact ⟨rfl, hb⟩
 | true =>
  obtain ⟨-, hrg, h8⟩ := (usB_iff _ _ _).1 hU
  obtain ⟨D, hD⟩ : ∃ D, wdt ⟨r, f, lo, tm, ps⟩ use ev = D := ⟨_, rfl⟩
  have hDE : wdEr ⟨r, f, lo, tm, ps⟩ use ev = 0 := by unfold wdEr; rw [hrg]; rfl
  have hDb := wdt_bd31 hrg
  rw [hD] at hDb
  have wmo : IntKind.i64.wrap mo = mo := IntWalk.i64_in _ (by omega)
  obtain ⟨PM, hPM⟩ : ∃ p, IntKind.i64.wrap (D + mo) = p := ⟨_, rfl⟩
  have hPM2 : PM = D + mo := by rw [← hPM]; exact IntWalk.i64_in _ (by omega)
  have rE : mkE ⟨r, f, lo, tm, ps⟩ use ev PM = 0 := by
   unfold mkE mkB inB
   rw [hrg, decide_eq_true (⟨by omega, by omega⟩ : 0 ≤ PM ∧ PM ≤ 3000000000000000), Bool.and_self, if_pos rfl, if_pos h8, hD, if_pos (by omega)]
  obtain ⟨CS, hCS⟩ : ∃ CS, csL ⟨r, f, lo, tm, ps⟩ use ev = CS := ⟨_, rfl⟩
  have rX : mkX ⟨r, f, lo, tm, ps⟩ use ev PM = ⟨use, ev, PM, D, CS⟩ := by unfold mkX; rw [if_pos rE, hD, hCS]
  have rC : ckE ⟨r, f, lo, tm, ps⟩ use ev = 0 := by unfold ckE; rw [hrg, if_pos rfl, if_pos h8]
  have rB : ckB ⟨r, f, lo, tm, ps⟩ ⟨use, ev, PM, D, CS⟩ = true := by
   unfold ckB
   simp only [rC, rE, rX, (csEqB_iff CS CS).2 rfl, decide_true, Bool.and_self]
  have hnc := (mxC_cs hrg).2
  rw [hCS] at hnc
  have hnc2 : CS.length ≤ 65536 := by
   rw [← hCS]
   have h1 := caL_len ⟨r, f, lo, tm, ps⟩ use ev h8 (chR (plFrom [] use.length 0) f.toNat)
   have h2 := ch_256 [] f.toNat h8
   unfold caL at h1
   unfold csL
   simp only at h1 ⊢
   omega
  have dn : ((CS.length : Int) == 0) = false := by rw [beq_eq_false_iff_ne]; omega
  have hPM3 : IntKind.i64.wrap (D + mo) = PM := hPM
  clear hPM2 hPM
  go_enter Try.func4, Try.ntmps4
  go_upto_region 1 with fail
  rw [← hW0]
  clear hW0
  have cS_0 := hS.1 0 _ rfl
  have cS_1 := hS.1 1 _ rfl
  have cS_2 := hS.1 2 _ rfl
  have cS_3 := hS.1 3 _ rfl
  have cS_4 := hS.1 4 _ rfl
  have zS := hS.2.2
  have cC_0 := hC.1 0 _ rfl
  have cC_1 := hC.1 1 _ rfl
  have zC := hC.2.2
  go_upto_region 4 with (first | (go_at_call 5; (with_reducible refine (head31_any _).mono ?_); rintro e w1 ⟨rfl, k1⟩; clear cS_0 cS_1 cS_2 cS_3 cS_4 zS cC_0 cC_1 zC; have t_ := hS.below hS.2.2 k1; clear hS; have hS := t_; clear t_; have t_ := hC.below hC.2.2 k1; clear hC; have hC := t_; clear t_; have t_ := hp.below (Nat.le_refl _) k1; clear hp; have hp := t_; clear t_; have t_ := hu.below (Nat.le_refl _) k1; clear hu; have hu := t_; clear t_; have t_ := hb.trans (k1.mono hb.size); clear hb; have hb := t_; clear t_; clear k1; have cS_0 := hS.1 0 _ rfl; have cS_1 := hS.1 1 _ rfl; have cS_2 := hS.1 2 _ rfl; have cS_3 := hS.1 3 _ rfl; have cS_4 := hS.1 4 _ rfl; have zS := hS.2.2; have cC_0 := hC.1 0 _ rfl; have cC_1 := hC.1 1 _ rfl; have zC := hC.2.2) | (go_at_call 6; (with_reducible refine (usable_any r f lo tm _ ps _ use ev _ hp hu).mono ?_); rintro e w2 ⟨rfl, k2⟩; rw [hU]; clear cS_0 cS_1 cS_2 cS_3 cS_4 zS cC_0 cC_1 zC; have t_ := hS.below hS.2.2 k2; clear hS; have hS := t_; clear t_; have t_ := hC.below hC.2.2 k2; clear hC; have hC := t_; clear t_; have t_ := hp.below (Nat.le_refl _) k2; clear hp; have hp := t_; clear t_; have t_ := hu.below (Nat.le_refl _) k2; clear hu; have hu := t_; clear t_; have t_ := hb.trans (k2.mono hb.size); clear hb; have hb := t_; clear t_; clear k2; have cS_0 := hS.1 0 _ rfl; have cS_1 := hS.1 1 _ rfl; have cS_2 := hS.1 2 _ rfl; have cS_3 := hS.1 3 _ rfl; have cS_4 := hS.1 4 _ rfl; have zS := hS.2.2; have cC_0 := hC.1 0 _ rfl; have cC_1 := hC.1 1 _ rfl; have zC := hC.2.2))
  go_upto_region 5 with (go_at_call 7; (with_reducible refine (Width_val hD hDE _ _ _ hp hu).mono ?_); rintro e w3 ⟨rfl, k3⟩; clear cS_0 cS_1 cS_2 cS_3 cS_4 zS cC_0 cC_1 zC; have t_ := hS.below hS.2.2 k3; clear hS; have hS := t_; clear t_; have t_ := hC.below hC.2.2 k3; clear hC; have hC := t_; clear t_; have t_ := hp.below (Nat.le_refl _) k3; clear hp; have hp := t_; clear t_; have t_ := hu.below (Nat.le_refl _) k3; clear hu; have hu := t_; clear t_; have t_ := hb.trans (k3.mono hb.size); clear hb; have hb := t_; clear t_; clear k3; have cS_0 := hS.1 0 _ rfl; have cS_1 := hS.1 1 _ rfl; have cS_2 := hS.1 2 _ rfl; have cS_3 := hS.1 3 _ rfl; have cS_4 := hS.1 4 _ rfl; have zS := hS.2.2; have cC_0 := hC.1 0 _ rfl; have cC_1 := hC.1 1 _ rfl; have zC := hC.2.2)
  go_upto_region 6 with (go_at_call 8; (with_reducible refine (Make_val rX rE _ _ _ hp hu).mono ?_); rintro e w4 ⟨uv5, cv5, rfl, ⟨ho5, hc5⟩, k4⟩; have q5 := ho5.row; have e5 := hc5.cr; have d5 := hc5.row; clear ho5 hc5; obtain ⟨ua5, uc5, huv5, -⟩ := id q5; dsimp only at huv5; subst huv5; obtain ⟨ca5, cc5, hcv5, -, -⟩ := d5.len; dsimp only at hcv5; subst hcv5; clear cS_0 cS_1 cS_2 cS_3 cS_4 zS cC_0 cC_1 zC; have t_ := hS.below hS.2.2 k4; clear hS; have hS := t_; clear t_; have t_ := hC.below hC.2.2 k4; clear hC; have hC := t_; clear t_; have t_ := hp.below (Nat.le_refl _) k4; clear hp; have hp := t_; clear t_; have t_ := hu.below (Nat.le_refl _) k4; clear hu; have hu := t_; clear t_; have t_ := hb.trans (k4.mono hb.size); clear hb; have hb := t_; clear t_; clear k4; have cS_0 := hS.1 0 _ rfl; have cS_1 := hS.1 1 _ rfl; have cS_2 := hS.1 2 _ rfl; have cS_3 := hS.1 3 _ rfl; have cS_4 := hS.1 4 _ rfl; have zS := hS.2.2; have cC_0 := hC.1 0 _ rfl; have cC_1 := hC.1 1 _ rfl; have zC := hC.2.2)
  obtain ⟨W5, hW5⟩ : ∃ V : World, V = w4.alloc (.cells #[.slice ua5 use.length uc5, .int .i64 ev, .int .i64 PM, .int .i64 D, .slice ca5 CS.length cc5] 35) := ⟨_, rfl⟩
  rw [← hW5]
  clear cS_0 cS_1 cS_2 cS_3 cS_4 zS cC_0 cC_1 zC
  have a5 : Below w4.heap.size w4 W5 := by rw [hW5]; ((with_reducible repeat' first | exact .refl _ _ | refine .alloc ?_ ?_ _ | refine .setCell ?_ ?_ _ | refine .drew ?_ | refine below_drewN ?_ _) <;> first | omega | simp <;> omega)
  have hA : BxC W5 (w4.heap.size) [.slice ua5 use.length uc5, .int .i64 ev, .int .i64 PM, .int .i64 D, .slice ca5 CS.length cc5] := by
   rw [hW5]
   have h_ := BxC.made (w4) [.slice ua5 use.length uc5, .int .i64 ev, .int .i64 PM, .int .i64 D, .slice ca5 CS.length cc5] 35
   exact h_
  have t_ := hS.below hS.2.2 a5; clear hS; have hS := t_; clear t_
  have t_ := hC.below hC.2.2 a5; clear hC; have hC := t_; clear t_
  have t_ := hp.below (Nat.le_refl _) a5; clear hp; have hp := t_; clear t_
  have t_ := hu.below (Nat.le_refl _) a5; clear hu; have hu := t_; clear t_
  have t_ := q5.below (Nat.le_refl _) a5; clear q5; have q5 := t_; clear t_
  have t_ := e5.below (Nat.le_refl _) a5; clear e5; have e5 := t_; clear t_
  have t_ := d5.below (Nat.le_refl _) a5; clear d5; have d5 := t_; clear t_
  have t_ := hb.trans (a5.mono hb.size); clear hb; have hb := t_; clear t_
  clear hW5 a5
  have cS_0 := hS.1 0 _ rfl
  have cS_1 := hS.1 1 _ rfl
  have cS_2 := hS.1 2 _ rfl
  have cS_3 := hS.1 3 _ rfl
  have cS_4 := hS.1 4 _ rfl
  have zS := hS.2.2
  have cC_0 := hC.1 0 _ rfl
  have cC_1 := hC.1 1 _ rfl
  have zC := hC.2.2
  have cA_0 := hA.1 0 _ rfl
  have cA_1 := hA.1 1 _ rfl
  have cA_2 := hA.1 2 _ rfl
  have cA_3 := hA.1 3 _ rfl
  have cA_4 := hA.1 4 _ rfl
  have zA := hA.2.2
  go_upto_region 9 with (go_at_call 9; (with_reducible refine (Check_val rB rC _ _ _ _ hp q5 d5).mono ?_); rintro e w6 ⟨rfl, k6⟩; clear cS_0 cS_1 cS_2 cS_3 cS_4 zS cC_0 cC_1 zC cA_0 cA_1 cA_2 cA_3 cA_4 zA; have t_ := hS.below hS.2.2 k6; clear hS; have hS := t_; clear t_; have t_ := hC.below hC.2.2 k6; clear hC; have hC := t_; clear t_; have t_ := hA.below hA.2.2 k6; clear hA; have hA := t_; clear t_; have t_ := hp.below (Nat.le_refl _) k6; clear hp; have hp := t_; clear t_; have t_ := hu.below (Nat.le_refl _) k6; clear hu; have hu := t_; clear t_; have t_ := q5.below (Nat.le_refl _) k6; clear q5; have q5 := t_; clear t_; have t_ := e5.below (Nat.le_refl _) k6; clear e5; have e5 := t_; clear t_; have t_ := d5.below (Nat.le_refl _) k6; clear d5; have d5 := t_; clear t_; have t_ := hb.trans (k6.mono hb.size); clear hb; have hb := t_; clear t_; clear k6; have cS_0 := hS.1 0 _ rfl; have cS_1 := hS.1 1 _ rfl; have cS_2 := hS.1 2 _ rfl; have cS_3 := hS.1 3 _ rfl; have cS_4 := hS.1 4 _ rfl; have zS := hS.2.2; have cC_0 := hC.1 0 _ rfl; have cC_1 := hC.1 1 _ rfl; have zC := hC.2.2; have cA_0 := hA.1 0 _ rfl; have cA_1 := hA.1 1 _ rfl; have cA_2 := hA.1 2 _ rfl; have cA_3 := hA.1 3 _ rfl; have cA_4 := hA.1 4 _ rfl; have zA := hA.2.2)
  obtain ⟨WA, hWA⟩ : ∃ V : World, V = w6 := ⟨_, rfl⟩
  subst hWA
  obtain ⟨xs, hx1, hx2, hx3⟩ := e5
  have hxl : xs.length = CS.length := by rw [← hx1, List.length_map]
  have hsrc := src_rws encC_length (by omega) (Owns.row encC_length cv0 (by omega) hx2)
  rw [hxl] at hsrc
  have hone : ∀ u ∈ xs.flatMap encC, u.oneCell' = true := by
   intro u hu
   rw [List.mem_flatMap] at hu
   obtain ⟨x, hx, hu⟩ := hu
   exact encC_one (hx3 x hx).1.rwt (hx3 x hx).2.rwt u hu
  have Hsrc := hide hsrc
  have Hx1 := hide hx1
  have Hx3 := hide hx3
  have Hone := hide hone
  clear hsrc hx1 hx2 hx3 hone
  clear d5
  have HA := hide (fun (V : World) (hV : Below WA.heap.size WA V) => And.intro (hS.below hS.2.2 hV) (And.intro (hC.below hC.2.2 hV) (And.intro (hA.below hA.2.2 hV) (And.intro (hp.below (Nat.le_refl _) hV) (And.intro (hu.below (Nat.le_refl _) hV) (And.intro (q5.below (Nat.le_refl _) hV) (hb.trans (hV.mono hb.size))))))))
  go_upto_region 10 with fail
  obtain ⟨W7, hW7⟩ : ∃ V : World, V = WA.alloc (.cells #[.slice ua5 use.length uc5, .int .i64 ev, .int .i64 PM, .int .i64 D, .slice ca5 CS.length cc5] 35) := ⟨_, rfl⟩
  rw [← hW7]
  clear cS_0 cS_1 cS_2 cS_3 cS_4 zS cC_0 cC_1 zC cA_0 cA_1 cA_2 cA_3 cA_4 zA
  have a7 : Below WA.heap.size WA W7 := by rw [hW7]; ((with_reducible repeat' first | exact .refl _ _ | refine .alloc ?_ ?_ _ | refine .setCell ?_ ?_ _ | refine .drew ?_ | refine below_drewN ?_ _) <;> first | omega | simp <;> omega)
  have hB : BxC W7 (WA.heap.size) [.slice ua5 use.length uc5, .int .i64 ev, .int .i64 PM, .int .i64 D, .slice ca5 CS.length cc5] := by
   rw [hW7]
   have h_ := BxC.made (WA) [.slice ua5 use.length uc5, .int .i64 ev, .int .i64 PM, .int .i64 D, .slice ca5 CS.length cc5] 35
   exact h_
  have t_ := hS.below hS.2.2 a7; clear hS; have hS := t_; clear t_
  have t_ := hC.below hC.2.2 a7; clear hC; have hC := t_; clear t_
  have t_ := hA.below hA.2.2 a7; clear hA; have hA := t_; clear t_
  have t_ := hp.below (Nat.le_refl _) a7; clear hp; have hp := t_; clear t_
  have t_ := hu.below (Nat.le_refl _) a7; clear hu; have hu := t_; clear t_
  have t_ := q5.below (Nat.le_refl _) a7; clear q5; have q5 := t_; clear t_
  have t_ := hb.trans (a7.mono hb.size); clear hb; have hb := t_; clear t_
  have hWB := a7
  clear hW7 a7
  have cS_0 := hS.1 0 _ rfl
  have cS_1 := hS.1 1 _ rfl
  have cS_2 := hS.1 2 _ rfl
  have cS_3 := hS.1 3 _ rfl
  have cS_4 := hS.1 4 _ rfl
  have zS := hS.2.2
  have cC_0 := hC.1 0 _ rfl
  have cC_1 := hC.1 1 _ rfl
  have zC := hC.2.2
  have cA_0 := hA.1 0 _ rfl
  have cA_1 := hA.1 1 _ rfl
  have cA_2 := hA.1 2 _ rfl
  have cA_3 := hA.1 3 _ rfl
  have cA_4 := hA.1 4 _ rfl
  have zA := hA.2.2
  have cB_0 := hB.1 0 _ rfl
  have cB_1 := hB.1 1 _ rfl
  have cB_2 := hB.1 2 _ rfl
  have cB_3 := hB.1 3 _ rfl
  have cB_4 := hB.1 4 _ rfl
  have zB := hB.2.2
  have hBz : WA.heap.size < W7.heap.size := hB.2.2
  have fB4 := hB.2.1 4
  go_upto_region 11 with (at_builtin; refine wpList_append_src _ rfl _ _ 33 rfl W7.heap.size 44 i0 (.agg #[.slice none 0 0, .slice none 0 0, .int .i64 0]) 3 56 Try.underlying33 hi0 iz0 iz1 iz2 rfl (by decide) _ 0 [] rfl (own_zeroC (World.alloc_heap_new W7 _) (Nat.le_refl _)) _ CS.length (xs.flatMap encC) rfl (Hsrc.out.below (by ((with_reducible repeat' first | exact .refl _ _ | exact hWB | refine .alloc ?_ ?_ _ | refine .setCell ?_ ?_ _ | refine .drew ?_ | refine below_drewN ?_ _ | refine Below.trans ?_ (hWB.mono ?_)) <;> first | omega | simp <;> omega))) Hone.out (by unfold maxLen; omega) (by omega) (by simp) ?_; intro v5 w5 hown5 hg5 hb5; have hz5 := hg5.size; simp only [World.size_alloc] at hz5; obtain ⟨c5, f5⟩ := grown_keeps hg5 (b := WA.heap.size) (by simp; omega) (fun h => absurd (Option.some.inj (show some WA.heap.size = some W7.heap.size from h)) (by omega)); obtain ⟨a6, cap6, hv6⟩ := ownsRow_val hown5; rw [Nat.zero_add] at hv6; subst hv6)
  obtain ⟨V1, hV1⟩ : ∃ V : World, V = w5.setCell ⟨WA.heap.size, 4, none⟩ (.slice a6 CS.length cap6) := ⟨_, rfl⟩
  rw [← hV1]
  have hWB5 : Below W7.heap.size W7 w5 := Below.grown (by ((with_reducible repeat' first | exact .refl _ _ | refine .alloc ?_ ?_ _ | refine .setCell ?_ ?_ _ | refine .drew ?_ | refine below_drewN ?_ _) <;> first | omega | simp <;> omega)) hg5 (by simp) (fun r h => by have h2 := Option.some.inj (show some W7.heap.size = some r from h); omega)
  have hA5 : Below WA.heap.size WA w5 := hWB.trans (hWB5.mono (by omega))
  have hV1A : Below WA.heap.size WA V1 := by rw [hV1]; exact hA5.setCell (p := ⟨WA.heap.size, 4, none⟩) (Nat.le_refl _) _
  have hBx : BxC V1 WA.heap.size [.slice ua5 use.length uc5, .int .i64 ev, .int .i64 PM, .int .i64 D, .slice a6 CS.length cap6] := by
   rw [hV1]
   exact (hB.below hB.2.2 hWB5).set 4 (.slice a6 CS.length cap6) (by simp)
  rw [Nat.zero_add, List.nil_append] at hown5
  have hown1 : V1.ownsRow W7.heap.size 44 3 (.slice a6 CS.length cap6) CS.length (xs.flatMap encC) := by
   rw [hV1]
   exact owns_setNe hown5 hBz _
  clear hS hC hA hp hu q5 hb cS_0 cS_1 cS_2 cS_3 cS_4 zS cC_0 cC_1 zC cA_0 cA_1 cA_2 cA_3 cA_4 zA cB_0 cB_1 cB_2 cB_3 cB_4 zB hB hV1 hg5 hown5 c5 f5 hWB5 hA5 fB4 hz5 hb5
  obtain ⟨g, gcap, hvg, hg1, hg2⟩ := World.ownsRow.form hown1 (by omega)
  simp only [Value.slice.injEq, true_and] at hvg
  obtain ⟨rfl, rfl⟩ := hvg
  have hgne : g ≠ WA.heap.size := by omega
  obtain ⟨i, hi⟩ : ∃ i : Nat, wh % (CS.length : Int) = i := ⟨(wh % (CS.length : Int)).toNat, by have := Int.emod_nonneg wh (show (CS.length : Int) ≠ 0 by omega); omega⟩
  have hil : i < CS.length := by have := Int.emod_lt_of_pos wh (show (0 : Int) < (CS.length : Int) by omega); omega
  obtain ⟨k, hk⟩ : ∃ k : Nat, wh / 7 % (CS.length : Int) = k := ⟨(wh / 7 % (CS.length : Int)).toNat, by have := Int.emod_nonneg (wh / 7) (show (CS.length : Int) ≠ 0 by omega); omega⟩
  have hkl : k < CS.length := by have := Int.emod_lt_of_pos (wh / 7) (show (0 : Int) < (CS.length : Int) by omega); omega
  have wwh : IntKind.i64.wrap wh = wh := IntWalk.i64_in _ (by omega)
  have ww7 : IntKind.i64.wrap (wh / 7) = wh / 7 := IntWalk.i64_in _ (by omega)
  have wby : IntKind.i64.wrap by_ = by_ := IntWalk.i64_in _ (by omega)
  have hwh0 : 0 ≤ wh := hwh.1
  have hwh7 : 0 ≤ wh / 7 := by omega
  have n1 : ¬ (CS.length : Int) = 0 := by omega
  have n2 : (0 : Int) < (CS.length : Int) := by omega
  have I1 : (0 : Int) ≤ (i : Int) := by omega
  have I2 : (i : Int) < (CS.length : Int) := by omega
  have I3 : (0 : Int) ≤ (k : Int) := by omega
  have I4 : (k : Int) < (CS.length : Int) := by omega
  have Hown1 := hide hown1
  have HV1A := hide hV1A
  have HBx := hide hBx
  have b0 := hBx.1 0 _ rfl
  have b1 := hBx.1 1 _ rfl
  have b2 := hBx.1 2 _ rfl
  have b3 := hBx.1 3 _ rfl
  have b4 := hBx.1 4 _ rfl
  have zb := hBx.2.2
  have fb2 := hBx.2.1 2
  have fb3 := hBx.2.1 3
  have fb4 := hBx.2.1 4
  have hwt0 : 0 ≤ wt := hwt.1
  clear hown1 hV1A hBx
  obtain ⟨X, hX⟩ : ∃ X, xs[i]? = some X := ⟨xs[i], List.getElem?_eq_getElem (by omega)⟩
  have hX2 : xs[i] = X := by
   rw [List.getElem?_eq_getElem (by omega)] at hX
   exact Option.some.inj hX
  obtain ⟨x0, x1, x2⟩ := own_atC Hown1.out hxl (i := i) (by omega)
  rw [hX2] at x0 x1 x2
  have hXm : X ∈ xs := List.mem_of_getElem? hX
  obtain ⟨lx, gx, ⟨lix, lox, wx⟩⟩ := X
  simp only at x0 x1 x2
  obtain ⟨lxa, lxc, hlx, -⟩ := id (Hx3.out _ hXm).1.1
  obtain ⟨gxa, gxc, hgx, -⟩ := id (Hx3.out _ hXm).2.1
  simp only at hlx hgx
  subst hlx hgx
  have xf0 := World.ownsRow.frozenAt Hown1.out (i * 3)
  have xf1 := World.ownsRow.frozenAt Hown1.out (i * 3 + 1)
  have xf2 := World.ownsRow.frozenAt Hown1.out (i * 3 + 2)
  clear hX hX2
  have hik : ¬ i = k := by
   rw [hCS] at hq
   omega
  obtain ⟨Y, hY⟩ : ∃ X, xs[k]? = some X := ⟨xs[k], List.getElem?_eq_getElem (by omega)⟩
  have hY2 : xs[k] = Y := by
   rw [List.getElem?_eq_getElem (by omega)] at hY
   exact Option.some.inj hY
  obtain ⟨y0, y1, y2⟩ := own_atC Hown1.out hxl (i := k) (by omega)
  rw [hY2] at y0 y1 y2
  have hYm : Y ∈ xs := List.mem_of_getElem? hY
  obtain ⟨ly, gy, ⟨liy, loy, wy⟩⟩ := Y
  simp only at y0 y1 y2
  obtain ⟨lya, lyc, hly, -⟩ := id (Hx3.out _ hYm).1.1
  obtain ⟨gya, gyc, hgy, -⟩ := id (Hx3.out _ hYm).2.1
  simp only at hly hgy
  subst hly hgy
  have yf0 := World.ownsRow.frozenAt Hown1.out (k * 3)
  have yf1 := World.ownsRow.frozenAt Hown1.out (k * 3 + 1)
  have yf2 := World.ownsRow.frozenAt Hown1.out (k * 3 + 2)
  clear hY hY2
  have m0 : ¬ i * 3 = k * 3 := by omega
  have m1 : ¬ i * 3 = k * 3 + 1 := by omega
  have m2 : ¬ i * 3 = k * 3 + 2 := by omega
  have m3 : ¬ i * 3 + 1 = k * 3 := by omega
  have m4 : ¬ i * 3 + 1 = k * 3 + 1 := by omega
  have m5 : ¬ i * 3 + 1 = k * 3 + 2 := by omega
  have m6 : ¬ i * 3 + 2 = k * 3 := by omega
  have m7 : ¬ i * 3 + 2 = k * 3 + 1 := by omega
  have m8 : ¬ i * 3 + 2 = k * 3 + 2 := by omega
  have o0 : ¬ k * 3 = i * 3 := by omega
  have o1 : ¬ k * 3 + 1 = i * 3 := by omega
  have o2 : ¬ k * 3 + 2 = i * 3 := by omega
  have o3 : ¬ k * 3 = i * 3 + 1 := by omega
  have o4 : ¬ k * 3 + 1 = i * 3 + 1 := by omega
  have o5 : ¬ k * 3 + 2 = i * 3 + 1 := by omega
  have o6 : ¬ k * 3 = i * 3 + 2 := by omega
  have o7 : ¬ k * 3 + 1 = i * 3 + 2 := by omega
  have o8 : ¬ k * 3 + 2 = i * 3 + 2 := by omega
  go_upto_region 23 with fail
  go_region
  go_upto_region 24 with fail
  obtain ⟨V2, hV2⟩ : ∃ V : World, V = ((((((V1.setCell ⟨g, i * 3, none⟩ (.slice lya liy.length lyc)).setCell ⟨g, i * 3 + 1, none⟩ (.slice gya loy.length gyc)).setCell ⟨g, i * 3 + 2, none⟩ (.int .i64 wy)).setCell ⟨g, k * 3, none⟩ (.slice lxa lix.length lxc)).setCell ⟨g, k * 3 + 1, none⟩ (.slice gxa lox.length gxc)).setCell ⟨g, k * 3 + 2, none⟩ (.int .i64 wx)).drew := ⟨_, rfl⟩
  rw [← hV2]
  have hVA : Below WA.heap.size WA V2 := by rw [hV2]; ((with_reducible repeat' first | exact .refl _ _ | exact HV1A.out | refine .alloc ?_ ?_ _ | refine .setCell ?_ ?_ _ | refine .drew ?_ | refine below_drewN ?_ _ | refine Below.trans ?_ (HV1A.out.mono ?_)) <;> first | omega | simp <;> omega)
  have hBy : BxC V2 WA.heap.size [.slice ua5 use.length uc5, .int .i64 ev, .int .i64 PM, .int .i64 D, .slice (some ⟨g, 0, none⟩) CS.length cap6] := by rw [hV2]; exact BxC.drewB ((((((HBx.out.setNe (show WA.heap.size ≠ g by omega) _).setNe (show WA.heap.size ≠ g by omega) _).setNe (show WA.heap.size ≠ g by omega) _).setNe (show WA.heap.size ≠ g by omega) _).setNe (show WA.heap.size ≠ g by omega) _).setNe (show WA.heap.size ≠ g by omega) _)
  have hyc : CsRow V2 (.slice (some ⟨g, 0, none⟩) CS.length cap6) (((xs.set i (⟨.slice lya liy.length lyc, .slice gya loy.length gyc, ⟨liy, loy, wy⟩⟩ : Cv)).set k (⟨.slice lxa lix.length lxc, .slice gxa lox.length gxc, ⟨lix, lox, wx⟩⟩ : Cv)).map (·.c)) := by
   have h1 := World.ownsRow.drewR (own_setC (own_setC Hown1.out i (by omega) (⟨.slice lya liy.length lyc, .slice gya loy.length gyc, ⟨liy, loy, wy⟩⟩ : Cv)) k (by rw [List.length_set]; omega) (⟨.slice lxa lix.length lxc, .slice gxa lox.length gxc, ⟨lix, lox, wx⟩⟩ : Cv))
   simp only at h1
   rw [← hV2] at h1
   exact own_csrow Hx3.out hVA (by rw [List.length_set, List.length_set, hxl]; exact h1) (fun y hy => by
    rcases List.mem_or_eq_of_mem_set hy with h | h
    ·exact mem_set_c (z := (⟨.slice lya liy.length lyc, .slice gya loy.length gyc, ⟨liy, loy, wy⟩⟩ : Cv)) ⟨_, hYm, rfl, rfl, rfl, rfl⟩ h
    ·exact ⟨_, hXm, by rw [h], by rw [h], by rw [h], by rw [h]⟩)
  clear b0 b1 b2 b3 b4 zb fb2 fb3 fb4
  clear hV2
  obtain ⟨cs2, hcs2⟩ : ∃ c, c = ((xs.set i (⟨.slice lya liy.length lyc, .slice gya loy.length gyc, ⟨liy, loy, wy⟩⟩ : Cv)).set k (⟨.slice lxa lix.length lxc, .slice gxa lox.length gxc, ⟨lix, lox, wx⟩⟩ : Cv)).map (·.c) := ⟨_, rfl⟩
  rw [← hcs2] at hyc
  obtain ⟨hS, hC, hA, hp, hu, q5, hb⟩ := HA.out V2 hVA
  have hy := hBy
  clear hBy hcs2
  obtain ⟨Z, rZ⟩ : ∃ Z, mkX ⟨r, f, lo, tm, ps⟩ use ev PM = Z := ⟨_, rfl⟩
  obtain ⟨F, rF⟩ : ∃ F, mkE ⟨r, f, lo, tm, ps⟩ use ev PM = F := ⟨_, rfl⟩
  have hck := ckB_smB (s := ⟨r, f, lo, tm, ps⟩) (x := ⟨use, ev, PM, D, cs2⟩) rC
  simp only at hck
  rw [rF, rZ] at hck
  by_cases hF0 : F = 0
  ·subst hF0
   rw [decide_eq_true rfl, Bool.true_and] at hck
   obtain ⟨RR, rH⟩ : ∃ R, smB ⟨use, ev, PM, D, cs2⟩ Z = R := ⟨_, rfl⟩
   have rG : ckB ⟨r, f, lo, tm, ps⟩ ⟨use, ev, PM, D, cs2⟩ = RR := by rw [hck, smB_comm, rH]
   clear hck
   have cS_0 := hS.1 0 _ rfl
   have cS_1 := hS.1 1 _ rfl
   have cS_2 := hS.1 2 _ rfl
   have cS_3 := hS.1 3 _ rfl
   have cS_4 := hS.1 4 _ rfl
   have zS := hS.2.2
   have cC_0 := hC.1 0 _ rfl
   have cC_1 := hC.1 1 _ rfl
   have zC := hC.2.2
   have cA_0 := hA.1 0 _ rfl
   have cA_1 := hA.1 1 _ rfl
   have cA_2 := hA.1 2 _ rfl
   have cA_3 := hA.1 3 _ rfl
   have cA_4 := hA.1 4 _ rfl
   have zA := hA.2.2
   have cy_0 := hy.1 0 _ rfl
   have cy_1 := hy.1 1 _ rfl
   have cy_2 := hy.1 2 _ rfl
   have cy_3 := hy.1 3 _ rfl
   have cy_4 := hy.1 4 _ rfl
   have zy := hy.2.2
   go_upto_region 25 with (go_at_call 8; (with_reducible refine (Make_val rZ rF _ _ _ hp q5).mono ?_); rintro e w1 ⟨uv8, cv8, rfl, ⟨ho8, hc8⟩, k1⟩; have q8 := ho8.row; have d8 := hc8.row; clear ho8 hc8; obtain ⟨ua8, uc8, huv8, -⟩ := id q8; subst huv8; obtain ⟨ca8, cc8, hcv8, -, -⟩ := d8.len; subst hcv8; clear cS_0 cS_1 cS_2 cS_3 cS_4 zS cC_0 cC_1 zC cA_0 cA_1 cA_2 cA_3 cA_4 zA cy_0 cy_1 cy_2 cy_3 cy_4 zy; have t_ := hS.below hS.2.2 k1; clear hS; have hS := t_; clear t_; have t_ := hC.below hC.2.2 k1; clear hC; have hC := t_; clear t_; have t_ := hA.below hA.2.2 k1; clear hA; have hA := t_; clear t_; have t_ := hy.below hy.2.2 k1; clear hy; have hy := t_; clear t_; have t_ := hp.below (Nat.le_refl _) k1; clear hp; have hp := t_; clear t_; have t_ := hu.below (Nat.le_refl _) k1; clear hu; have hu := t_; clear t_; have t_ := q5.below (Nat.le_refl _) k1; clear q5; have q5 := t_; clear t_; have t_ := hyc.below (Nat.le_refl _) k1; clear hyc; have hyc := t_; clear t_; have t_ := hb.trans (k1.mono hb.size); clear hb; have hb := t_; clear t_; clear k1; have cS_0 := hS.1 0 _ rfl; have cS_1 := hS.1 1 _ rfl; have cS_2 := hS.1 2 _ rfl; have cS_3 := hS.1 3 _ rfl; have cS_4 := hS.1 4 _ rfl; have zS := hS.2.2; have cC_0 := hC.1 0 _ rfl; have cC_1 := hC.1 1 _ rfl; have zC := hC.2.2; have cA_0 := hA.1 0 _ rfl; have cA_1 := hA.1 1 _ rfl; have cA_2 := hA.1 2 _ rfl; have cA_3 := hA.1 3 _ rfl; have cA_4 := hA.1 4 _ rfl; have zA := hA.2.2; have cy_0 := hy.1 0 _ rfl; have cy_1 := hy.1 1 _ rfl; have cy_2 := hy.1 2 _ rfl; have cy_3 := hy.1 3 _ rfl; have cy_4 := hy.1 4 _ rfl; have zy := hy.2.2)
   obtain ⟨W2, hW2⟩ : ∃ V : World, V = w1.alloc (.cells #[.slice ua8 Z.use.length uc8, .int .i64 Z.ev, .int .i64 Z.bd, .int .i64 Z.wo, .slice ca8 Z.cs.length cc8] 35) := ⟨_, rfl⟩
   rw [← hW2]
   clear cS_0 cS_1 cS_2 cS_3 cS_4 zS cC_0 cC_1 zC cA_0 cA_1 cA_2 cA_3 cA_4 zA cy_0 cy_1 cy_2 cy_3 cy_4 zy
   have a2 : Below w1.heap.size w1 W2 := by rw [hW2]; ((with_reducible repeat' first | exact .refl _ _ | refine .alloc ?_ ?_ _ | refine .setCell ?_ ?_ _ | refine .drew ?_ | refine below_drewN ?_ _) <;> first | omega | simp <;> omega)
   have hZ : BxC W2 (w1.heap.size) [.slice ua8 Z.use.length uc8, .int .i64 Z.ev, .int .i64 Z.bd, .int .i64 Z.wo, .slice ca8 Z.cs.length cc8] := by
    rw [hW2]
    have h_ := BxC.made (w1) [.slice ua8 Z.use.length uc8, .int .i64 Z.ev, .int .i64 Z.bd, .int .i64 Z.wo, .slice ca8 Z.cs.length cc8] 35
    exact h_
   have t_ := hS.below hS.2.2 a2; clear hS; have hS := t_; clear t_
   have t_ := hC.below hC.2.2 a2; clear hC; have hC := t_; clear t_
   have t_ := hA.below hA.2.2 a2; clear hA; have hA := t_; clear t_
   have t_ := hy.below hy.2.2 a2; clear hy; have hy := t_; clear t_
   have t_ := hp.below (Nat.le_refl _) a2; clear hp; have hp := t_; clear t_
   have t_ := hu.below (Nat.le_refl _) a2; clear hu; have hu := t_; clear t_
   have t_ := q5.below (Nat.le_refl _) a2; clear q5; have q5 := t_; clear t_
   have t_ := hyc.below (Nat.le_refl _) a2; clear hyc; have hyc := t_; clear t_
   have t_ := q8.below (Nat.le_refl _) a2; clear q8; have q8 := t_; clear t_
   have t_ := d8.below (Nat.le_refl _) a2; clear d8; have d8 := t_; clear t_
   have t_ := hb.trans (a2.mono hb.size); clear hb; have hb := t_; clear t_
   clear hW2 a2
   have cS_0 := hS.1 0 _ rfl
   have cS_1 := hS.1 1 _ rfl
   have cS_2 := hS.1 2 _ rfl
   have cS_3 := hS.1 3 _ rfl
   have cS_4 := hS.1 4 _ rfl
   have zS := hS.2.2
   have cC_0 := hC.1 0 _ rfl
   have cC_1 := hC.1 1 _ rfl
   have zC := hC.2.2
   have cA_0 := hA.1 0 _ rfl
   have cA_1 := hA.1 1 _ rfl
   have cA_2 := hA.1 2 _ rfl
   have cA_3 := hA.1 3 _ rfl
   have cA_4 := hA.1 4 _ rfl
   have zA := hA.2.2
   have cy_0 := hy.1 0 _ rfl
   have cy_1 := hy.1 1 _ rfl
   have cy_2 := hy.1 2 _ rfl
   have cy_3 := hy.1 3 _ rfl
   have cy_4 := hy.1 4 _ rfl
   have zy := hy.2.2
   have cZ_0 := hZ.1 0 _ rfl
   have cZ_1 := hZ.1 1 _ rfl
   have cZ_2 := hZ.1 2 _ rfl
   have cZ_3 := hZ.1 3 _ rfl
   have cZ_4 := hZ.1 4 _ rfl
   have zZ := hZ.2.2
   go_upto_region 26 with (go_at_call 9; (with_reducible refine (Check_val rG rC _ _ _ _ hp q5 hyc).mono ?_); rintro e w3 ⟨rfl, k3⟩; clear cS_0 cS_1 cS_2 cS_3 cS_4 zS cC_0 cC_1 zC cA_0 cA_1 cA_2 cA_3 cA_4 zA cy_0 cy_1 cy_2 cy_3 cy_4 zy cZ_0 cZ_1 cZ_2 cZ_3 cZ_4 zZ; have t_ := hS.below hS.2.2 k3; clear hS; have hS := t_; clear t_; have t_ := hC.below hC.2.2 k3; clear hC; have hC := t_; clear t_; have t_ := hA.below hA.2.2 k3; clear hA; have hA := t_; clear t_; have t_ := hy.below hy.2.2 k3; clear hy; have hy := t_; clear t_; have t_ := hZ.below hZ.2.2 k3; clear hZ; have hZ := t_; clear t_; have t_ := hp.below (Nat.le_refl _) k3; clear hp; have hp := t_; clear t_; have t_ := hu.below (Nat.le_refl _) k3; clear hu; have hu := t_; clear t_; have t_ := q5.below (Nat.le_refl _) k3; clear q5; have q5 := t_; clear t_; have t_ := hyc.below (Nat.le_refl _) k3; clear hyc; have hyc := t_; clear t_; have t_ := q8.below (Nat.le_refl _) k3; clear q8; have q8 := t_; clear t_; have t_ := d8.below (Nat.le_refl _) k3; clear d8; have d8 := t_; clear t_; have t_ := hb.trans (k3.mono hb.size); clear hb; have hb := t_; clear t_; clear k3; have cS_0 := hS.1 0 _ rfl; have cS_1 := hS.1 1 _ rfl; have cS_2 := hS.1 2 _ rfl; have cS_3 := hS.1 3 _ rfl; have cS_4 := hS.1 4 _ rfl; have zS := hS.2.2; have cC_0 := hC.1 0 _ rfl; have cC_1 := hC.1 1 _ rfl; have zC := hC.2.2; have cA_0 := hA.1 0 _ rfl; have cA_1 := hA.1 1 _ rfl; have cA_2 := hA.1 2 _ rfl; have cA_3 := hA.1 3 _ rfl; have cA_4 := hA.1 4 _ rfl; have zA := hA.2.2; have cy_0 := hy.1 0 _ rfl; have cy_1 := hy.1 1 _ rfl; have cy_2 := hy.1 2 _ rfl; have cy_3 := hy.1 3 _ rfl; have cy_4 := hy.1 4 _ rfl; have zy := hy.2.2; have cZ_0 := hZ.1 0 _ rfl; have cZ_1 := hZ.1 1 _ rfl; have cZ_2 := hZ.1 2 _ rfl; have cZ_3 := hZ.1 3 _ rfl; have cZ_4 := hZ.1 4 _ rfl; have zZ := hZ.2.2)
   go_wp2_with (go_at_call 10; (with_reducible refine (Same_res rH _ _ _ _ _ q5 hyc q8 d8).mono ?_); rintro e w4 ⟨rfl, k4⟩; clear cS_0 cS_1 cS_2 cS_3 cS_4 zS cC_0 cC_1 zC cA_0 cA_1 cA_2 cA_3 cA_4 zA cy_0 cy_1 cy_2 cy_3 cy_4 zy cZ_0 cZ_1 cZ_2 cZ_3 cZ_4 zZ; have t_ := hS.below hS.2.2 k4; clear hS; have hS := t_; clear t_; have t_ := hC.below hC.2.2 k4; clear hC; have hC := t_; clear t_; have t_ := hA.below hA.2.2 k4; clear hA; have hA := t_; clear t_; have t_ := hy.below hy.2.2 k4; clear hy; have hy := t_; clear t_; have t_ := hZ.below hZ.2.2 k4; clear hZ; have hZ := t_; clear t_; have t_ := hp.below (Nat.le_refl _) k4; clear hp; have hp := t_; clear t_; have t_ := hu.below (Nat.le_refl _) k4; clear hu; have hu := t_; clear t_; have t_ := q5.below (Nat.le_refl _) k4; clear q5; have q5 := t_; clear t_; have t_ := hyc.below (Nat.le_refl _) k4; clear hyc; have hyc := t_; clear t_; have t_ := q8.below (Nat.le_refl _) k4; clear q8; have q8 := t_; clear t_; have t_ := d8.below (Nat.le_refl _) k4; clear d8; have d8 := t_; clear t_; have t_ := hb.trans (k4.mono hb.size); clear hb; have hb := t_; clear t_; clear k4; have cS_0 := hS.1 0 _ rfl; have cS_1 := hS.1 1 _ rfl; have cS_2 := hS.1 2 _ rfl; have cS_3 := hS.1 3 _ rfl; have cS_4 := hS.1 4 _ rfl; have zS := hS.2.2; have cC_0 := hC.1 0 _ rfl; have cC_1 := hC.1 1 _ rfl; have zC := hC.2.2; have cA_0 := hA.1 0 _ rfl; have cA_1 := hA.1 1 _ rfl; have cA_2 := hA.1 2 _ rfl; have cA_3 := hA.1 3 _ rfl; have cA_4 := hA.1 4 _ rfl; have zA := hA.2.2; have cy_0 := hy.1 0 _ rfl; have cy_1 := hy.1 1 _ rfl; have cy_2 := hy.1 2 _ rfl; have cy_3 := hy.1 3 _ rfl; have cy_4 := hy.1 4 _ rfl; have zy := hy.2.2; have cZ_0 := hZ.1 0 _ rfl; have cZ_1 := hZ.1 1 _ rfl; have cZ_2 := hZ.1 2 _ rfl; have cZ_3 := hZ.1 3 _ rfl; have cZ_4 := hZ.1 4 _ rfl; have zZ := hZ.2.2)
   go_ret
   exact ⟨by cases RR <;> rfl, hb⟩
  ·have rG : ckB ⟨r, f, lo, tm, ps⟩ ⟨use, ev, PM, D, cs2⟩ = false := by rw [hck, decide_eq_false hF0]; rfl
   have dF : (F == 0) = false := by rw [beq_eq_false_iff_ne]; exact hF0
   clear hck hF0
   have cS_0 := hS.1 0 _ rfl
   have cS_1 := hS.1 1 _ rfl
   have cS_2 := hS.1 2 _ rfl
   have cS_3 := hS.1 3 _ rfl
   have cS_4 := hS.1 4 _ rfl
   have zS := hS.2.2
   have cC_0 := hC.1 0 _ rfl
   have cC_1 := hC.1 1 _ rfl
   have zC := hC.2.2
   have cA_0 := hA.1 0 _ rfl
   have cA_1 := hA.1 1 _ rfl
   have cA_2 := hA.1 2 _ rfl
   have cA_3 := hA.1 3 _ rfl
   have cA_4 := hA.1 4 _ rfl
   have zA := hA.2.2
   have cy_0 := hy.1 0 _ rfl
   have cy_1 := hy.1 1 _ rfl
   have cy_2 := hy.1 2 _ rfl
   have cy_3 := hy.1 3 _ rfl
   have cy_4 := hy.1 4 _ rfl
   have zy := hy.2.2
   go_upto_region 25 with (go_at_call 8; (with_reducible refine (Make_val rZ rF _ _ _ hp q5).mono ?_); rintro e w1 ⟨uv8, cv8, rfl, ⟨ho8, hc8⟩, k1⟩; have q8 := ho8.row; have d8 := hc8.row; clear ho8 hc8; obtain ⟨ua8, uc8, huv8, -⟩ := id q8; subst huv8; obtain ⟨ca8, cc8, hcv8, -, -⟩ := d8.len; subst hcv8; clear cS_0 cS_1 cS_2 cS_3 cS_4 zS cC_0 cC_1 zC cA_0 cA_1 cA_2 cA_3 cA_4 zA cy_0 cy_1 cy_2 cy_3 cy_4 zy; have t_ := hS.below hS.2.2 k1; clear hS; have hS := t_; clear t_; have t_ := hC.below hC.2.2 k1; clear hC; have hC := t_; clear t_; have t_ := hA.below hA.2.2 k1; clear hA; have hA := t_; clear t_; have t_ := hy.below hy.2.2 k1; clear hy; have hy := t_; clear t_; have t_ := hp.below (Nat.le_refl _) k1; clear hp; have hp := t_; clear t_; have t_ := hu.below (Nat.le_refl _) k1; clear hu; have hu := t_; clear t_; have t_ := q5.below (Nat.le_refl _) k1; clear q5; have q5 := t_; clear t_; have t_ := hyc.below (Nat.le_refl _) k1; clear hyc; have hyc := t_; clear t_; have t_ := hb.trans (k1.mono hb.size); clear hb; have hb := t_; clear t_; clear k1; have cS_0 := hS.1 0 _ rfl; have cS_1 := hS.1 1 _ rfl; have cS_2 := hS.1 2 _ rfl; have cS_3 := hS.1 3 _ rfl; have cS_4 := hS.1 4 _ rfl; have zS := hS.2.2; have cC_0 := hC.1 0 _ rfl; have cC_1 := hC.1 1 _ rfl; have zC := hC.2.2; have cA_0 := hA.1 0 _ rfl; have cA_1 := hA.1 1 _ rfl; have cA_2 := hA.1 2 _ rfl; have cA_3 := hA.1 3 _ rfl; have cA_4 := hA.1 4 _ rfl; have zA := hA.2.2; have cy_0 := hy.1 0 _ rfl; have cy_1 := hy.1 1 _ rfl; have cy_2 := hy.1 2 _ rfl; have cy_3 := hy.1 3 _ rfl; have cy_4 := hy.1 4 _ rfl; have zy := hy.2.2)
   obtain ⟨W2, hW2⟩ : ∃ V : World, V = w1.alloc (.cells #[.slice ua8 Z.use.length uc8, .int .i64 Z.ev, .int .i64 Z.bd, .int .i64 Z.wo, .slice ca8 Z.cs.length cc8] 35) := ⟨_, rfl⟩
   rw [← hW2]
   clear cS_0 cS_1 cS_2 cS_3 cS_4 zS cC_0 cC_1 zC cA_0 cA_1 cA_2 cA_3 cA_4 zA cy_0 cy_1 cy_2 cy_3 cy_4 zy
   have a2 : Below w1.heap.size w1 W2 := by rw [hW2]; ((with_reducible repeat' first | exact .refl _ _ | refine .alloc ?_ ?_ _ | refine .setCell ?_ ?_ _ | refine .drew ?_ | refine below_drewN ?_ _) <;> first | omega | simp <;> omega)
   have hZ : BxC W2 (w1.heap.size) [.slice ua8 Z.use.length uc8, .int .i64 Z.ev, .int .i64 Z.bd, .int .i64 Z.wo, .slice ca8 Z.cs.length cc8] := by
    rw [hW2]
    have h_ := BxC.made (w1) [.slice ua8 Z.use.length uc8, .int .i64 Z.ev, .int .i64 Z.bd, .int .i64 Z.wo, .slice ca8 Z.cs.length cc8] 35
    exact h_
   have t_ := hS.below hS.2.2 a2; clear hS; have hS := t_; clear t_
   have t_ := hC.below hC.2.2 a2; clear hC; have hC := t_; clear t_
   have t_ := hA.below hA.2.2 a2; clear hA; have hA := t_; clear t_
   have t_ := hy.below hy.2.2 a2; clear hy; have hy := t_; clear t_
   have t_ := hp.below (Nat.le_refl _) a2; clear hp; have hp := t_; clear t_
   have t_ := hu.below (Nat.le_refl _) a2; clear hu; have hu := t_; clear t_
   have t_ := q5.below (Nat.le_refl _) a2; clear q5; have q5 := t_; clear t_
   have t_ := hyc.below (Nat.le_refl _) a2; clear hyc; have hyc := t_; clear t_
   have t_ := q8.below (Nat.le_refl _) a2; clear q8; have q8 := t_; clear t_
   have t_ := d8.below (Nat.le_refl _) a2; clear d8; have d8 := t_; clear t_
   have t_ := hb.trans (a2.mono hb.size); clear hb; have hb := t_; clear t_
   clear hW2 a2
   have cS_0 := hS.1 0 _ rfl
   have cS_1 := hS.1 1 _ rfl
   have cS_2 := hS.1 2 _ rfl
   have cS_3 := hS.1 3 _ rfl
   have cS_4 := hS.1 4 _ rfl
   have zS := hS.2.2
   have cC_0 := hC.1 0 _ rfl
   have cC_1 := hC.1 1 _ rfl
   have zC := hC.2.2
   have cA_0 := hA.1 0 _ rfl
   have cA_1 := hA.1 1 _ rfl
   have cA_2 := hA.1 2 _ rfl
   have cA_3 := hA.1 3 _ rfl
   have cA_4 := hA.1 4 _ rfl
   have zA := hA.2.2
   have cy_0 := hy.1 0 _ rfl
   have cy_1 := hy.1 1 _ rfl
   have cy_2 := hy.1 2 _ rfl
   have cy_3 := hy.1 3 _ rfl
   have cy_4 := hy.1 4 _ rfl
   have zy := hy.2.2
   have cZ_0 := hZ.1 0 _ rfl
   have cZ_1 := hZ.1 1 _ rfl
   have cZ_2 := hZ.1 2 _ rfl
   have cZ_3 := hZ.1 3 _ rfl
   have cZ_4 := hZ.1 4 _ rfl
   have zZ := hZ.2.2
   go_upto_region 26 with (go_at_call 9; (with_reducible refine (Check_val rG rC _ _ _ _ hp q5 hyc).mono ?_); rintro e w3 ⟨rfl, k3⟩; clear cS_0 cS_1 cS_2 cS_3 cS_4 zS cC_0 cC_1 zC cA_0 cA_1 cA_2 cA_3 cA_4 zA cy_0 cy_1 cy_2 cy_3 cy_4 zy cZ_0 cZ_1 cZ_2 cZ_3 cZ_4 zZ; have t_ := hS.below hS.2.2 k3; clear hS; have hS := t_; clear t_; have t_ := hC.below hC.2.2 k3; clear hC; have hC := t_; clear t_; have t_ := hA.below hA.2.2 k3; clear hA; have hA := t_; clear t_; have t_ := hy.below hy.2.2 k3; clear hy; have hy := t_; clear t_; have t_ := hZ.below hZ.2.2 k3; clear hZ; have hZ := t_; clear t_; have t_ := hp.below (Nat.le_refl _) k3; clear hp; have hp := t_; clear t_; have t_ := hu.below (Nat.le_refl _) k3; clear hu; have hu := t_; clear t_; have t_ := q5.below (Nat.le_refl _) k3; clear q5; have q5 := t_; clear t_; have t_ := hyc.below (Nat.le_refl _) k3; clear hyc; have hyc := t_; clear t_; have t_ := q8.below (Nat.le_refl _) k3; clear q8; have q8 := t_; clear t_; have t_ := d8.below (Nat.le_refl _) k3; clear d8; have d8 := t_; clear t_; have t_ := hb.trans (k3.mono hb.size); clear hb; have hb := t_; clear t_; clear k3; have cS_0 := hS.1 0 _ rfl; have cS_1 := hS.1 1 _ rfl; have cS_2 := hS.1 2 _ rfl; have cS_3 := hS.1 3 _ rfl; have cS_4 := hS.1 4 _ rfl; have zS := hS.2.2; have cC_0 := hC.1 0 _ rfl; have cC_1 := hC.1 1 _ rfl; have zC := hC.2.2; have cA_0 := hA.1 0 _ rfl; have cA_1 := hA.1 1 _ rfl; have cA_2 := hA.1 2 _ rfl; have cA_3 := hA.1 3 _ rfl; have cA_4 := hA.1 4 _ rfl; have zA := hA.2.2; have cy_0 := hy.1 0 _ rfl; have cy_1 := hy.1 1 _ rfl; have cy_2 := hy.1 2 _ rfl; have cy_3 := hy.1 3 _ rfl; have cy_4 := hy.1 4 _ rfl; have zy := hy.2.2; have cZ_0 := hZ.1 0 _ rfl; have cZ_1 := hZ.1 1 _ rfl; have cZ_2 := hZ.1 2 _ rfl; have cZ_3 := hZ.1 3 _ rfl; have cZ_4 := hZ.1 4 _ rfl; have zZ := hZ.2.2)
   go_wp2_with fail
   go_ret
   exact ⟨rfl, hb⟩
end Go.Proofs.Ytlmcoollkmhanaa
