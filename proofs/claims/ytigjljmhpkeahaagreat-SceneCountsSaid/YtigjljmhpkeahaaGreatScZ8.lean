
/- SceneCounts: for all arguments the statement answers true and leaves its arguments as they were. No condition. -/
import Derived.Test.YtigjljmhpkeahaaGreatScX
import Derived.Test.YtigjljmhpkeahaaGreatScN
namespace Go.Proofs.YtigjljmhpkeahaaGreat
open Go.RowKit

set_option maxRecDepth 100000 in
set_option maxHeartbeats 2000000 in
theorem ScZCounts_any (w : World) (v0 : Value) (s : SiA) (hs : SiOk w v0 s) (v1 : Value) (x : SnA) (hx : SnOk w v1 x) (el : Int) (hel : 0 ≤ el ∧ el ≤ 18446744073709551615) :
  Calls Tryz.prog 8 #[v0, v1, .int .u64 el] w fun e w' => e = .returned (.bool true) ∧ Below w.heap.size w w' := by
 obtain ⟨r, f, lo, tm, pv, ps⟩ := s
 obtain ⟨rfl, hp, -, -⟩ := hs
 simp only at hp ⊢
 obtain ⟨pa, pc, rfl, -, -⟩ := hp.len
 obtain ⟨uv, av, use, ev, at_, an, ct⟩ := x
 obtain ⟨rfl, ⟨hu, -⟩, ⟨ha, -⟩, hev, hat, hct⟩ := hx
 simp only at hu ha hev hat hct ⊢
 obtain ⟨ua, uc, rfl, -, -, -⟩ := id hu
 obtain ⟨aa, ac, rfl, -, -⟩ := ha.len
 obtain ⟨W0, hW0⟩ : ∃ W : World, W = (w.alloc (.cells #[.int .i64 r, .int .i64 f, .int .i64 lo, .int .i64 tm, .slice pa ps.length pc] 24)).alloc (.cells #[.slice ua use.length uc, .int .i64 ev, .int .i64 at_, .slice aa an.length ac, .int .i64 ct] 30) := ⟨_, rfl⟩
 have hS : ∀ V : World, Below (w.heap.size + 2) W0 V → (V.cell? ⟨w.heap.size, 0, none⟩ = some (.int .i64 r) ∧ V.cell? ⟨w.heap.size, 1, none⟩ = some (.int .i64 f) ∧ V.cell? ⟨w.heap.size, 2, none⟩ = some (.int .i64 lo) ∧ V.cell? ⟨w.heap.size, 3, none⟩ = some (.int .i64 tm) ∧ V.cell? ⟨w.heap.size, 4, none⟩ = some (.slice pa ps.length pc)) ∧ (V.cell? ⟨w.heap.size + 1, 0, none⟩ = some (.slice ua use.length uc) ∧ V.cell? ⟨w.heap.size + 1, 1, none⟩ = some (.int .i64 ev) ∧ V.cell? ⟨w.heap.size + 1, 2, none⟩ = some (.int .i64 at_) ∧ V.cell? ⟨w.heap.size + 1, 3, none⟩ = some (.slice aa an.length ac) ∧ V.cell? ⟨w.heap.size + 1, 4, none⟩ = some (.int .i64 ct)) ∧ (PrRow V (.slice pa ps.length pc) ps ∧ IsRow V (.slice ua use.length uc) use ∧ AnRow V (.slice aa an.length ac) an) ∧ Below w.heap.size w V ∧ w.heap.size + 2 ≤ V.heap.size := by
  intro V hV
  have bW : Below w.heap.size w W0 := by rw [hW0]; ((with_reducible repeat' first | exact .refl _ _ | refine .alloc ?_ ?_ _ | refine .setCell ?_ ?_ _ | refine .drew ?_ | refine below_drewN ?_ _) <;> first | omega | simp <;> omega)
  have zW : W0.heap.size = w.heap.size + 2 := by rw [hW0]; simp
  have hb := bW.trans (hV.mono (by omega))
  have h0 := (bk hV w.heap.size (by omega)).1
  have h1 := (bk hV (w.heap.size + 1) (by omega)).1
  exact ⟨⟨(h0 0).trans (by rw [hW0]; simp [go_sem]), (h0 1).trans (by rw [hW0]; simp [go_sem]), (h0 2).trans (by rw [hW0]; simp [go_sem]), (h0 3).trans (by rw [hW0]; simp [go_sem]), (h0 4).trans (by rw [hW0]; simp [go_sem])⟩, ⟨(h1 0).trans (by rw [hW0]; simp [go_sem]), (h1 1).trans (by rw [hW0]; simp [go_sem]), (h1 2).trans (by rw [hW0]; simp [go_sem]), (h1 3).trans (by rw [hW0]; simp [go_sem]), (h1 4).trans (by rw [hW0]; simp [go_sem])⟩, ⟨hp.below (Nat.le_refl _) hb, hu.below (Nat.le_refl _) hb, ha.below (Nat.le_refl _) hb⟩, hb, by have := hV.size; omega⟩
 have HS := hide hS
 clear hS hp hu ha
 cases hU : decide ((ps.length ≤ 20 ∧ use.length ≤ 20) ∧ an.length ≤ 20) with
 | false =>
  go_enter Tryz.func8, Tryz.ntmps8
  go_upto_region 1 with fail
  rw [← hW0]
  clear hW0
  have B0 : Below (w.heap.size + 2) W0 W0 := Below.refl _ _
  obtain ⟨⟨y0, y1, y2, y3, y4⟩, ⟨x0, x1, x2, x3, x4⟩, -, -, yz⟩ := HS.out W0 B0
  have yq := Nat.lt_of_succ_le yz
  have ys : w.heap.size < W0.heap.size := by omega
  go_wp2_with fail
  refine (scHead_any _).mono ?_
  rintro e w1 ⟨rfl, b1⟩
  have B1 : Below (w.heap.size + 2) W0 w1 := B0.trans (b1.mono (HS.out _ B0).2.2.2.2)
  clear y0 y1 y2 y3 y4 x0 x1 x2 x3 x4 yz yq ys b1 B0
  obtain ⟨⟨y0, y1, y2, y3, y4⟩, ⟨x0, x1, x2, x3, x4⟩, -, -, yz⟩ := HS.out w1 B1
  have yq := Nat.lt_of_succ_le yz
  have ys : w.heap.size < w1.heap.size := by omega
  go_wp2_with fail
  refine (scFew_any r f lo tm _ ps _ use ev at_ _ an ct _ (HS.out _ B1).2.2.1.1 (HS.out _ B1).2.2.1.2.1 (HS.out _ B1).2.2.1.2.2).mono ?_
  rintro e w2 ⟨rfl, b2⟩
  rw [hU]
  have B2 : Below (w.heap.size + 2) W0 w2 := B1.trans (b2.mono (HS.out _ B1).2.2.2.2)
  clear y0 y1 y2 y3 y4 x0 x1 x2 x3 x4 yz yq ys b2 B1
  obtain ⟨⟨y0, y1, y2, y3, y4⟩, ⟨x0, x1, x2, x3, x4⟩, -, -, yz⟩ := HS.out w2 B2
  have yq := Nat.lt_of_succ_le yz
  have ys : w.heap.size < w2.heap.size := by omega
  go_wp2_with fail
  go_ret
  exact ⟨rfl, (by ((with_reducible repeat' first | exact .refl _ _ | exact (HS.out _ B2).2.2.2.1 | refine .alloc ?_ ?_ _ | refine .setCell ?_ ?_ _ | refine .drew ?_ | refine below_drewN ?_ _ | refine Below.trans ?_ ((HS.out _ B2).2.2.2.1.mono ?_)) <;> first | omega | simp <;> omega))⟩
 | true =>
  have hun : use.length ≤ 1000000 := by have := of_decide_eq_true hU; omega
  cases hF : fitB ⟨r, f, lo, tm, ps⟩ ⟨use, ev, at_, an, ct⟩ with
  | false =>
   go_enter Tryz.func8, Tryz.ntmps8
   go_upto_region 1 with fail
   rw [← hW0]
   clear hW0
   have B0 : Below (w.heap.size + 2) W0 W0 := Below.refl _ _
   obtain ⟨⟨y0, y1, y2, y3, y4⟩, ⟨x0, x1, x2, x3, x4⟩, -, -, yz⟩ := HS.out W0 B0
   have yq := Nat.lt_of_succ_le yz
   have ys : w.heap.size < W0.heap.size := by omega
   go_wp2_with fail
   refine (scHead_any _).mono ?_
   rintro e w1 ⟨rfl, b1⟩
   have B1 : Below (w.heap.size + 2) W0 w1 := B0.trans (b1.mono (HS.out _ B0).2.2.2.2)
   clear y0 y1 y2 y3 y4 x0 x1 x2 x3 x4 yz yq ys b1 B0
   obtain ⟨⟨y0, y1, y2, y3, y4⟩, ⟨x0, x1, x2, x3, x4⟩, -, -, yz⟩ := HS.out w1 B1
   have yq := Nat.lt_of_succ_le yz
   have ys : w.heap.size < w1.heap.size := by omega
   go_wp2_with fail
   refine (scFew_any r f lo tm _ ps _ use ev at_ _ an ct _ (HS.out _ B1).2.2.1.1 (HS.out _ B1).2.2.1.2.1 (HS.out _ B1).2.2.1.2.2).mono ?_
   rintro e w2 ⟨rfl, b2⟩
   rw [hU]
   have B2 : Below (w.heap.size + 2) W0 w2 := B1.trans (b2.mono (HS.out _ B1).2.2.2.2)
   clear y0 y1 y2 y3 y4 x0 x1 x2 x3 x4 yz yq ys b2 B1
   obtain ⟨⟨y0, y1, y2, y3, y4⟩, ⟨x0, x1, x2, x3, x4⟩, -, -, yz⟩ := HS.out w2 B2
   have yq := Nat.lt_of_succ_le yz
   have ys : w.heap.size < w2.heap.size := by omega
   go_wp2_with fail
   refine (R32Fits_any r f lo tm _ ps _ use ev at_ _ an ct _ (HS.out _ B2).2.2.1.1 (HS.out _ B2).2.2.1.2.1 (HS.out _ B2).2.2.1.2.2 hun).mono ?_
   rintro e w3 ⟨rfl, b3⟩
   rw [hF]
   have B3 : Below (w.heap.size + 2) W0 w3 := B2.trans (b3.mono (HS.out _ B2).2.2.2.2)
   clear y0 y1 y2 y3 y4 x0 x1 x2 x3 x4 yz yq ys b3 B2
   obtain ⟨⟨y0, y1, y2, y3, y4⟩, ⟨x0, x1, x2, x3, x4⟩, -, -, yz⟩ := HS.out w3 B3
   have yq := Nat.lt_of_succ_le yz
   have ys : w.heap.size < w3.heap.size := by omega
   go_wp2_with fail
   go_ret
   exact ⟨rfl, (by ((with_reducible repeat' first | exact .refl _ _ | exact (HS.out _ B3).2.2.2.1 | refine .alloc ?_ ?_ _ | refine .setCell ?_ ?_ _ | refine .drew ?_ | refine below_drewN ?_ _ | refine Below.trans ?_ ((HS.out _ B3).2.2.2.1.mono ?_)) <;> first | omega | simp <;> omega))⟩
  | true =>
   have hti := (fitB_iff _ _).1 hF
   simp only at hti
   have hev2 := (siN_iff _).1 ((siB_iff _).1 ((rgB_iff _ _ _).1 hti.1).1).1
   have hrg2 := (rgB_iff _ _ _).1 hti.1
   simp only at hev2 hrg2
   have hm : 0 ≤ el % (ct + 1) ∧ el % (ct + 1) ≤ ct := ⟨Int.emod_nonneg _ (by omega), by have := Int.emod_lt_of_pos el (show 0 < ct + 1 by omega); omega⟩
   have wc1 : IntKind.i64.wrap (ct + 1) = ct + 1 := IntWalk.i64_in _ (by omega)
   have wc2 : IntKind.u64.wrap (ct + 1) = ct + 1 := IntWalk.u64_in _ (by omega)
   have wc3 : IntKind.i64.wrap (el % (ct + 1)) = el % (ct + 1) := IntWalk.i64_in _ (by omega)
   have wc4 : ct + 1 ≠ 0 := by omega
   obtain ⟨s1, s2, s3, s4⟩ := sc_counts hF hm.1 hm.2
   have hA1 := fun pv uv av W q1 q2 q3 => scAllowed_fit r f lo tm pv ps uv use ev at_ av an ct W q1 q2 q3 hF
   have hA2 := fun pv uv av W q1 q2 q3 => scAllowed_fit r f lo tm pv ps uv use ev at_ av an (el % (ct + 1)) W q1 q2 q3 s1
   rw [s2] at hA2
   generalize alB ⟨r, f, lo, tm, ps⟩ ⟨use, ev, at_, an, ct⟩ = AB at *
   have hP1 := fun pv uv av W q1 q2 q3 => scPlay_any r f lo tm pv ps uv use ev at_ av an ct W q1 q2 q3
   have hP2 := fun pv uv av W q1 q2 q3 => scPlay_any r f lo tm pv ps uv use ev at_ av an (el % (ct + 1)) W q1 q2 q3
   unfold PlayPost at hP1 hP2
   rw [s3] at hP2
   generalize pyEr ⟨r, f, lo, tm, ps⟩ ⟨use, ev, at_, an, ct⟩ = E at *
   generalize pyHi ⟨r, f, lo, tm, ps⟩ ⟨use, ev, at_, an, ct⟩ = Y at *
   generalize pyLo ⟨r, f, lo, tm, ps⟩ ⟨use, ev, at_, an, ct⟩ = X at *
   generalize pyHi ⟨r, f, lo, tm, ps⟩ ⟨use, ev, at_, an, el % (ct + 1)⟩ = Y2 at *
   generalize pyLo ⟨r, f, lo, tm, ps⟩ ⟨use, ev, at_, an, el % (ct + 1)⟩ = X2 at *
   have dE : (E != E) = false := by simp
   have dA : (AB != AB) = false := by simp
   have H4 := hide s4
   have HA1 := hide hA1
   have HA2 := hide hA2
   have HP1 := hide hP1
   have HP2 := hide hP2
   clear hti hm s1 s2 s3 s4 hA1 hA2 hP1 hP2 hev2 hrg2
   go_enter Tryz.func8, Tryz.ntmps8
   go_upto_region 1 with fail
   rw [← hW0]
   clear hW0
   have B0 : Below (w.heap.size + 2) W0 W0 := Below.refl _ _
   obtain ⟨⟨y0, y1, y2, y3, y4⟩, ⟨x0, x1, x2, x3, x4⟩, -, -, yz⟩ := HS.out W0 B0
   have yq := Nat.lt_of_succ_le yz
   have ys : w.heap.size < W0.heap.size := by omega
   go_wp2_with fail
   refine (scHead_any _).mono ?_
   rintro e w1 ⟨rfl, b1⟩
   have B1 : Below (w.heap.size + 2) W0 w1 := B0.trans (b1.mono (HS.out _ B0).2.2.2.2)
   clear y0 y1 y2 y3 y4 x0 x1 x2 x3 x4 yz yq ys b1 B0
   obtain ⟨⟨y0, y1, y2, y3, y4⟩, ⟨x0, x1, x2, x3, x4⟩, -, -, yz⟩ := HS.out w1 B1
   have yq := Nat.lt_of_succ_le yz
   have ys : w.heap.size < w1.heap.size := by omega
   go_wp2_with fail
   refine (scFew_any r f lo tm _ ps _ use ev at_ _ an ct _ (HS.out _ B1).2.2.1.1 (HS.out _ B1).2.2.1.2.1 (HS.out _ B1).2.2.1.2.2).mono ?_
   rintro e w2 ⟨rfl, b2⟩
   rw [hU]
   have B2 : Below (w.heap.size + 2) W0 w2 := B1.trans (b2.mono (HS.out _ B1).2.2.2.2)
   clear y0 y1 y2 y3 y4 x0 x1 x2 x3 x4 yz yq ys b2 B1
   obtain ⟨⟨y0, y1, y2, y3, y4⟩, ⟨x0, x1, x2, x3, x4⟩, -, -, yz⟩ := HS.out w2 B2
   have yq := Nat.lt_of_succ_le yz
   have ys : w.heap.size < w2.heap.size := by omega
   go_wp2_with fail
   refine (R32Fits_any r f lo tm _ ps _ use ev at_ _ an ct _ (HS.out _ B2).2.2.1.1 (HS.out _ B2).2.2.1.2.1 (HS.out _ B2).2.2.1.2.2 hun).mono ?_
   rintro e w3 ⟨rfl, b3⟩
   rw [hF]
   have B3 : Below (w.heap.size + 2) W0 w3 := B2.trans (b3.mono (HS.out _ B2).2.2.2.2)
   clear y0 y1 y2 y3 y4 x0 x1 x2 x3 x4 yz yq ys b3 B2
   obtain ⟨⟨y0, y1, y2, y3, y4⟩, ⟨x0, x1, x2, x3, x4⟩, -, -, yz⟩ := HS.out w3 B3
   have yq := Nat.lt_of_succ_le yz
   have ys : w.heap.size < w3.heap.size := by omega
   go_upto_region 6 with fail
   have ky := (SnBox.made (x := ⟨use, ev, at_, an, el % (ct + 1)⟩) (HS.out _ B3).2.2.1.2.1 (HS.out _ B3).2.2.1.2.2 : SnBox (w3.alloc (.cells #[.slice ua use.length uc, .int .i64 ev, .int .i64 at_, .slice aa an.length ac, .int .i64 (el % (ct + 1))] 30)) w3.heap.size ⟨use, ev, at_, an, el % (ct + 1)⟩ (.slice ua use.length uc) (.slice aa an.length ac))
   have b4 : Below w3.heap.size w3 (w3.alloc (.cells #[.slice ua use.length uc, .int .i64 ev, .int .i64 at_, .slice aa an.length ac, .int .i64 (el % (ct + 1))] 30)) := (by ((with_reducible repeat' first | exact .refl _ _ | refine .alloc ?_ ?_ _ | refine .setCell ?_ ?_ _ | refine .drew ?_ | refine below_drewN ?_ _) <;> first | omega | simp <;> omega))
   have B4 : Below (w.heap.size + 2) W0 (w3.alloc (.cells #[.slice ua use.length uc, .int .i64 ev, .int .i64 at_, .slice aa an.length ac, .int .i64 (el % (ct + 1))] 30)) := B3.trans (b4.mono (HS.out _ B3).2.2.2.2)
   obtain ⟨gky, hgky⟩ : ∃ g, g = w3.heap.size := ⟨_, rfl⟩
   rw [← hgky] at ky ⊢
   clear hgky b4 y0 y1 y2 y3 y4 x0 x1 x2 x3 x4 yz yq ys B3
   generalize w3.alloc (.cells #[.slice ua use.length uc, .int .i64 ev, .int .i64 at_, .slice aa an.length ac, .int .i64 (el % (ct + 1))] 30) = w4 at *
   obtain ⟨⟨y0, y1, y2, y3, y4⟩, ⟨x0, x1, x2, x3, x4⟩, -, -, yz⟩ := HS.out w4 B4
   have yq := Nat.lt_of_succ_le yz
   have ys : w.heap.size < w4.heap.size := by omega
   generalize el % (ct + 1) = c2 at *
   go_wp2_with fail
   refine (HA1.out _ _ _ _ (HS.out _ B4).2.2.1.1 (HS.out _ B4).2.2.1.2.1 (HS.out _ B4).2.2.1.2.2).mono ?_
   rintro e w5 ⟨rfl, b5⟩
   have B5 : Below (w.heap.size + 2) W0 w5 := B4.trans (b5.mono (HS.out _ B4).2.2.2.2)
   have tky := ky.below b5
   clear ky
   have ky := tky
   clear tky
   clear y0 y1 y2 y3 y4 x0 x1 x2 x3 x4 yz yq ys b5 B4
   obtain ⟨⟨y0, y1, y2, y3, y4⟩, ⟨x0, x1, x2, x3, x4⟩, -, -, yz⟩ := HS.out w5 B5
   have yq := Nat.lt_of_succ_le yz
   have ys : w.heap.size < w5.heap.size := by omega
   obtain ⟨⟨cky0, cky1, cky2, cky3, cky4⟩, -, -, ckyz⟩ := id ky
   simp only at cky1 cky2 cky4
   go_wp2_with fail
   refine (HA2.out _ _ _ _ (HS.out _ B5).2.2.1.1 ky.2.1 ky.2.2.1).mono ?_
   rintro e w6 ⟨rfl, b6⟩
   have B6 : Below (w.heap.size + 2) W0 w6 := B5.trans (b6.mono (HS.out _ B5).2.2.2.2)
   have tky := ky.below b6
   clear ky
   have ky := tky
   clear tky
   clear y0 y1 y2 y3 y4 x0 x1 x2 x3 x4 yz yq ys b6 B5
   obtain ⟨⟨y0, y1, y2, y3, y4⟩, ⟨x0, x1, x2, x3, x4⟩, -, -, yz⟩ := HS.out w6 B6
   have yq := Nat.lt_of_succ_le yz
   have ys : w.heap.size < w6.heap.size := by omega
   clear cky0 cky1 cky2 cky3 cky4 ckyz
   go_wp2_with fail
   refine (HP1.out _ _ _ _ (HS.out _ B6).2.2.1.1 (HS.out _ B6).2.2.1.2.1 (HS.out _ B6).2.2.1.2.2).mono ?_
   rintro e w7 ⟨rfl, b7⟩
   have B7 : Below (w.heap.size + 2) W0 w7 := B6.trans (b7.mono (HS.out _ B6).2.2.2.2)
   have tky := ky.below b7
   clear ky
   have ky := tky
   clear tky
   clear y0 y1 y2 y3 y4 x0 x1 x2 x3 x4 yz yq ys b7 B6
   obtain ⟨⟨y0, y1, y2, y3, y4⟩, ⟨x0, x1, x2, x3, x4⟩, -, -, yz⟩ := HS.out w7 B7
   have yq := Nat.lt_of_succ_le yz
   have ys : w.heap.size < w7.heap.size := by omega
   go_upto_region 9 with fail
   have ki := (IvBox.made : IvBox (w7.alloc (.cells #[.int .i64 X, .int .i64 Y] 41)) w7.heap.size X Y)
   have b8 : Below w7.heap.size w7 (w7.alloc (.cells #[.int .i64 X, .int .i64 Y] 41)) := (by ((with_reducible repeat' first | exact .refl _ _ | refine .alloc ?_ ?_ _ | refine .setCell ?_ ?_ _ | refine .drew ?_ | refine below_drewN ?_ _) <;> first | omega | simp <;> omega))
   have tky := ky.below b8
   clear ky
   have ky := tky
   clear tky
   have B8 : Below (w.heap.size + 2) W0 (w7.alloc (.cells #[.int .i64 X, .int .i64 Y] 41)) := B7.trans (b8.mono (HS.out _ B7).2.2.2.2)
   obtain ⟨gki, hgki⟩ : ∃ g, g = w7.heap.size := ⟨_, rfl⟩
   rw [← hgki] at ki ⊢
   clear hgki b8 y0 y1 y2 y3 y4 x0 x1 x2 x3 x4 yz yq ys B7
   generalize w7.alloc (.cells #[.int .i64 X, .int .i64 Y] 41) = w8 at *
   obtain ⟨⟨y0, y1, y2, y3, y4⟩, ⟨x0, x1, x2, x3, x4⟩, -, -, yz⟩ := HS.out w8 B8
   have yq := Nat.lt_of_succ_le yz
   have ys : w.heap.size < w8.heap.size := by omega
   obtain ⟨⟨cky0, cky1, cky2, cky3, cky4⟩, -, -, ckyz⟩ := id ky
   simp only at cky1 cky2 cky4
   go_wp2_with fail
   refine (HP2.out _ _ _ _ (HS.out _ B8).2.2.1.1 ky.2.1 ky.2.2.1).mono ?_
   rintro e w9 ⟨rfl, b9⟩
   have B9 : Below (w.heap.size + 2) W0 w9 := B8.trans (b9.mono (HS.out _ B8).2.2.2.2)
   have tky := ky.below b9
   clear ky
   have ky := tky
   clear tky
   have tki := ki.below b9
   clear ki
   have ki := tki
   clear tki
   clear y0 y1 y2 y3 y4 x0 x1 x2 x3 x4 yz yq ys b9 B8
   obtain ⟨⟨y0, y1, y2, y3, y4⟩, ⟨x0, x1, x2, x3, x4⟩, -, -, yz⟩ := HS.out w9 B9
   have yq := Nat.lt_of_succ_le yz
   have ys : w.heap.size < w9.heap.size := by omega
   clear cky0 cky1 cky2 cky3 cky4 ckyz
   go_upto_region 10 with fail
   have kk := (IvBox.made : IvBox (w9.alloc (.cells #[.int .i64 X2, .int .i64 Y2] 41)) w9.heap.size X2 Y2)
   have b10 : Below w9.heap.size w9 (w9.alloc (.cells #[.int .i64 X2, .int .i64 Y2] 41)) := (by ((with_reducible repeat' first | exact .refl _ _ | refine .alloc ?_ ?_ _ | refine .setCell ?_ ?_ _ | refine .drew ?_ | refine below_drewN ?_ _) <;> first | omega | simp <;> omega))
   have tky := ky.below b10
   clear ky
   have ky := tky
   clear tky
   have tki := ki.below b10
   clear ki
   have ki := tki
   clear tki
   have B10 : Below (w.heap.size + 2) W0 (w9.alloc (.cells #[.int .i64 X2, .int .i64 Y2] 41)) := B9.trans (b10.mono (HS.out _ B9).2.2.2.2)
   obtain ⟨gkk, hgkk⟩ : ∃ g, g = w9.heap.size := ⟨_, rfl⟩
   rw [← hgkk] at kk ⊢
   clear hgkk b10 y0 y1 y2 y3 y4 x0 x1 x2 x3 x4 yz yq ys B9
   generalize w9.alloc (.cells #[.int .i64 X2, .int .i64 Y2] 41) = w10 at *
   obtain ⟨⟨y0, y1, y2, y3, y4⟩, ⟨x0, x1, x2, x3, x4⟩, -, -, yz⟩ := HS.out w10 B10
   have yq := Nat.lt_of_succ_le yz
   have ys : w.heap.size < w10.heap.size := by omega
   obtain ⟨cki0, cki1, ckiz⟩ := id ki
   obtain ⟨ckk0, ckk1, ckkz⟩ := id kk
   by_cases hE0 : E = 0
   ·obtain ⟨h1, h2, h3, h4, h5⟩ := H4.out hE0
    subst hE0
    have t1 : decide (X2 ≤ X) = true := decide_eq_true h1
    have t2 : decide (Y2 ≤ Y) = true := decide_eq_true h2
    have wi : IntKind.i64.wrap (Y - X) = Y - X := IntWalk.i64_in _ (by omega)
    have wk : IntKind.i64.wrap (Y2 - X2) = Y2 - X2 := IntWalk.i64_in _ (by omega)
    by_cases hY : Y = 3000000000000000
    ·subst hY
     clear h1 h2 h3 h4 h5 dE
     go_wp2_with fail
     go_ret
     exact ⟨rfl, (by ((with_reducible repeat' first | exact .refl _ _ | exact (HS.out _ B10).2.2.2.1 | refine .alloc ?_ ?_ _ | refine .setCell ?_ ?_ _ | refine .drew ?_ | refine below_drewN ?_ _ | refine Below.trans ?_ ((HS.out _ B10).2.2.2.1.mono ?_)) <;> first | omega | simp <;> omega))⟩
    ·have dY : (Y == 3000000000000000) = false := by rw [beq_eq_false_iff_ne]; exact hY
     have t3 : decide (Y2 - X2 ≤ Y - X) = true := decide_eq_true (by omega)
     clear h1 h2 h3 h4 h5 hY dE
     go_wp2_with fail
     go_ret
     exact ⟨rfl, (by ((with_reducible repeat' first | exact .refl _ _ | exact (HS.out _ B10).2.2.2.1 | refine .alloc ?_ ?_ _ | refine .setCell ?_ ?_ _ | refine .drew ?_ | refine below_drewN ?_ _ | refine Below.trans ?_ ((HS.out _ B10).2.2.2.1.mono ?_)) <;> first | omega | simp <;> omega))⟩
   ·have dN : (E != 0) = true := by rw [bne_iff_ne]; exact hE0
    clear hE0
    go_wp2_with fail
    go_ret
    exact ⟨rfl, (by ((with_reducible repeat' first | exact .refl _ _ | exact (HS.out _ B10).2.2.2.1 | refine .alloc ?_ ?_ _ | refine .setCell ?_ ?_ _ | refine .drew ?_ | refine below_drewN ?_ _ | refine Below.trans ?_ ((HS.out _ B10).2.2.2.1.mono ?_)) <;> first | omega | simp <;> omega))⟩
set_option maxRecDepth 100000 in
theorem sceneCounts_holds : Rows.SceneCountsSaid :=
 OpenClaim.holds_of_wide 8 Tryz.f8 rfl rfl rfl rfl rfl rfl rfl ⟨rfl, rfl, rfl, rfl, rfl⟩ rfl rfl rfl rfl rfl (by kernel_rfl) Tryz.func8 (by kernel_rfl)
  (of_decide_eq_true (by kernel_rfl)) (by unfold Func.isWrapper; rw [if_neg (of_decide_eq_false (by kernel_rfl))]; exact ⟨rfl, rfl⟩)
  (fun os started H enc _ => law_lifted started 8 Tryz.f8 Tryz.func8 (by kernel_rfl) Rows.sceneCountsSpec rfl rfl
   (fun ds h => by match ds, h with | [_, _, _], _ => exact ⟨rfl, rfl, rfl⟩)
   (fun t h => by
    rw [Tryz.params8] at h
    simp only [List.mem_cons, List.not_mem_nil, or_false] at h
    rcases h with rfl | rfl | rfl <;> exact ⟨by kernel_rfl, of_decide_eq_true (by kernel_rfl)⟩)
   (ChangeSpec.witness6 (enc := enc) (C := Tryz.checked) false ⟨#[], #[.agg #[.int .i64 0, .int .i64 0, .int .i64 0, .int .i64 0, .slice none 0 0], .agg #[.slice none 0 0, .int .i64 0, .int .i64 0, .slice none 0 0, .int .i64 0], .int .u64 0], []⟩ 8 (by kernel_rfl) (by kernel_rfl) (by kernel_rfl) (by kernel_rfl))
   (fun W base args ds p hA hok => by
    rw [Tryz.params8] at hA hok
    obtain ⟨v0, vs0, d0, ds0, p0, q0, hargs, rfl, rfl, h0, r0⟩ := ChangeShapes.trodAll_cons hA
    obtain ⟨v1, vs1, d1, ds1, p1, q1, rfl, rfl, rfl, h1, r1⟩ := ChangeShapes.trodAll_cons r0
    obtain ⟨v2, vs2, d2, ds2, p2, q2, rfl, rfl, rfl, h2, r2⟩ := ChangeShapes.trodAll_cons r1
    obtain ⟨rfl, rfl, rfl⟩ := ChangeShapes.trodAll_nil r2
    obtain rfl : args = #[v0, v1, v2] := by rw [← Array.toArray_toList (xs := args), hargs]
    obtain ⟨l0, hl0⟩ := open_site (hok 0 _ v0 rfl rfl) h0
    obtain ⟨l1, hl1⟩ := open_scene (hok 1 _ v1 rfl rfl) h1
    obtain ⟨x2, rfl, hx2⟩ := open_u64 Tryz.underlying51 (hok 2 _ v2 rfl rfl) h2
    exact ScZCounts_any W v0 l0 hl0 v1 l1 hl1 x2 hx2))
end Go.Proofs.YtigjljmhpkeahaaGreat
