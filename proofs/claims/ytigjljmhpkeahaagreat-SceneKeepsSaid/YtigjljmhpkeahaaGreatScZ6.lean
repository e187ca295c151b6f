
/- SceneKeeps: for all arguments the statement answers true and leaves its arguments as they were. No condition. -/
import Derived.Test.YtigjljmhpkeahaaGreatScX
import Derived.Test.YtigjljmhpkeahaaGreatScYs
namespace Go.Proofs.YtigjljmhpkeahaaGreat
open Go.RowKit

set_option maxRecDepth 100000 in
set_option maxHeartbeats 2000000 in
theorem ScZKeeps_any (w : World) (v0 : Value) (s : SiA) (hs : SiOk w v0 s) (v : Value) (pl : List Int) (hv : IsRow w v pl) (_wl : WfI pl) (pm at_ : Int) (av : Value) (an : List An) (ha : AnRow w av an ∧ ∀ x, x ∈ an → AnWf x) (ct : Int) :
  Calls Tryz.prog 10 #[v0, v, .int .i64 pm, .int .i64 at_, av, .int .i64 ct] w fun e w' => e = .returned (.bool true) ∧ Below w.heap.size w w' := by
 obtain ⟨r, f, lo, tm, pv, ps⟩ := s
 obtain ⟨rfl, hp, -, -⟩ := hs
 simp only at hp ⊢
 obtain ⟨pa, pc, rfl, -, -⟩ := hp.len
 obtain ⟨va, vc, rfl, -, -, -⟩ := id hv
 obtain ⟨ha, -⟩ := ha
 obtain ⟨aa, ac, rfl, -, -⟩ := ha.len
 obtain ⟨W0, hW0⟩ : ∃ W : World, W = w.alloc (.cells #[.int .i64 r, .int .i64 f, .int .i64 lo, .int .i64 tm, .slice pa ps.length pc] 24) := ⟨_, rfl⟩
 have hS : ∀ V : World, Below (w.heap.size + 1) W0 V → (V.cell? ⟨w.heap.size, 0, none⟩ = some (.int .i64 r) ∧ V.cell? ⟨w.heap.size, 1, none⟩ = some (.int .i64 f) ∧ V.cell? ⟨w.heap.size, 2, none⟩ = some (.int .i64 lo) ∧ V.cell? ⟨w.heap.size, 3, none⟩ = some (.int .i64 tm) ∧ V.cell? ⟨w.heap.size, 4, none⟩ = some (.slice pa ps.length pc)) ∧ True ∧ (PrRow V (.slice pa ps.length pc) ps ∧ IsRow V (.slice va pl.length vc) pl ∧ AnRow V (.slice aa an.length ac) an) ∧ Below w.heap.size w V ∧ w.heap.size + 1 ≤ V.heap.size := by
  intro V hV
  have bW : Below w.heap.size w W0 := by rw [hW0]; ((with_reducible repeat' first | exact .refl _ _ | refine .alloc ?_ ?_ _ | refine .setCell ?_ ?_ _ | refine .drew ?_ | refine below_drewN ?_ _) <;> first | omega | simp <;> omega)
  have zW : W0.heap.size = w.heap.size + 1 := by rw [hW0]; simp
  have hb := bW.trans (hV.mono (by omega))
  have h0 := (bk hV w.heap.size (by omega)).1
  exact ⟨⟨(h0 0).trans (by rw [hW0]; simp [go_sem]), (h0 1).trans (by rw [hW0]; simp [go_sem]), (h0 2).trans (by rw [hW0]; simp [go_sem]), (h0 3).trans (by rw [hW0]; simp [go_sem]), (h0 4).trans (by rw [hW0]; simp [go_sem])⟩, trivial, ⟨hp.below (Nat.le_refl _) hb, hv.below (Nat.le_refl _) hb, ha.below (Nat.le_refl _) hb⟩, hb, by have := hV.size; omega⟩
 have HS := hide hS
 clear hS hp hv ha
 by_cases h7 : (7 : Int) < ps.length
 ·have d7 : decide ((7 : Int) < ps.length) = true := decide_eq_true h7
  clear h7
  go_enter Tryz.func10, Tryz.ntmps10
  go_upto_region 1 with fail
  rw [← hW0]
  clear hW0
  have B0 : Below (w.heap.size + 1) W0 W0 := Below.refl _ _
  obtain ⟨⟨y0, y1, y2, y3, y4⟩, -, -, -, yz⟩ := HS.out W0 B0
  have yq := Nat.lt_of_succ_le yz
  have ys : w.heap.size < W0.heap.size := by omega
  go_wp2_with fail
  refine (scHead_any _).mono ?_
  rintro e w1 ⟨rfl, b1⟩
  have B1 : Below (w.heap.size + 1) W0 w1 := B0.trans (b1.mono (HS.out _ B0).2.2.2.2)
  clear y0 y1 y2 y3 y4  yz yq ys b1 B0
  obtain ⟨⟨y0, y1, y2, y3, y4⟩, -, -, -, yz⟩ := HS.out w1 B1
  have yq := Nat.lt_of_succ_le yz
  have ys : w.heap.size < w1.heap.size := by omega
  go_wp2_with fail
  go_ret
  exact ⟨rfl, (by ((with_reducible repeat' first | exact .refl _ _ | exact (HS.out _ B1).2.2.2.1 | refine .alloc ?_ ?_ _ | refine .setCell ?_ ?_ _ | refine .drew ?_ | refine below_drewN ?_ _ | refine Below.trans ?_ ((HS.out _ B1).2.2.2.1.mono ?_)) <;> first | omega | simp <;> omega))⟩
 by_cases h4 : (4 : Int) < pl.length
 ·have d7 : decide ((7 : Int) < ps.length) = false := decide_eq_false h7
  have d4 : decide ((4 : Int) < pl.length) = true := decide_eq_true h4
  clear h7 h4
  go_enter Tryz.func10, Tryz.ntmps10
  go_upto_region 1 with fail
  rw [← hW0]
  clear hW0
  have B0 : Below (w.heap.size + 1) W0 W0 := Below.refl _ _
  obtain ⟨⟨y0, y1, y2, y3, y4⟩, -, -, -, yz⟩ := HS.out W0 B0
  have yq := Nat.lt_of_succ_le yz
  have ys : w.heap.size < W0.heap.size := by omega
  go_wp2_with fail
  refine (scHead_any _).mono ?_
  rintro e w1 ⟨rfl, b1⟩
  have B1 : Below (w.heap.size + 1) W0 w1 := B0.trans (b1.mono (HS.out _ B0).2.2.2.2)
  clear y0 y1 y2 y3 y4  yz yq ys b1 B0
  obtain ⟨⟨y0, y1, y2, y3, y4⟩, -, -, -, yz⟩ := HS.out w1 B1
  have yq := Nat.lt_of_succ_le yz
  have ys : w.heap.size < w1.heap.size := by omega
  go_wp2_with fail
  go_ret
  exact ⟨rfl, (by ((with_reducible repeat' first | exact .refl _ _ | exact (HS.out _ B1).2.2.2.1 | refine .alloc ?_ ?_ _ | refine .setCell ?_ ?_ _ | refine .drew ?_ | refine below_drewN ?_ _ | refine Below.trans ?_ ((HS.out _ B1).2.2.2.1.mono ?_)) <;> first | omega | simp <;> omega))⟩
 by_cases h20 : (20 : Int) < an.length
 ·have d7 : decide ((7 : Int) < ps.length) = false := decide_eq_false h7
  have d4 : decide ((4 : Int) < pl.length) = false := decide_eq_false h4
  have d20 : decide ((20 : Int) < an.length) = true := decide_eq_true h20
  clear h7 h4 h20
  go_enter Tryz.func10, Tryz.ntmps10
  go_upto_region 1 with fail
  rw [← hW0]
  clear hW0
  have B0 : Below (w.heap.size + 1) W0 W0 := Below.refl _ _
  obtain ⟨⟨y0, y1, y2, y3, y4⟩, -, -, -, yz⟩ := HS.out W0 B0
  have yq := Nat.lt_of_succ_le yz
  have ys : w.heap.size < W0.heap.size := by omega
  go_wp2_with fail
  refine (scHead_any _).mono ?_
  rintro e w1 ⟨rfl, b1⟩
  have B1 : Below (w.heap.size + 1) W0 w1 := B0.trans (b1.mono (HS.out _ B0).2.2.2.2)
  clear y0 y1 y2 y3 y4  yz yq ys b1 B0
  obtain ⟨⟨y0, y1, y2, y3, y4⟩, -, -, -, yz⟩ := HS.out w1 B1
  have yq := Nat.lt_of_succ_le yz
  have ys : w.heap.size < w1.heap.size := by omega
  go_wp2_with fail
  go_ret
  exact ⟨rfl, (by ((with_reducible repeat' first | exact .refl _ _ | exact (HS.out _ B1).2.2.2.1 | refine .alloc ?_ ?_ _ | refine .setCell ?_ ?_ _ | refine .drew ?_ | refine below_drewN ?_ _ | refine Below.trans ?_ ((HS.out _ B1).2.2.2.1.mono ?_)) <;> first | omega | simp <;> omega))⟩
 have d7 : decide ((7 : Int) < ps.length) = false := decide_eq_false h7
 have d4 : decide ((4 : Int) < pl.length) = false := decide_eq_false h4
 have d20 : decide ((20 : Int) < an.length) = false := decide_eq_false h20
 have h20 : an.length ≤ 20 := by omega
 clear h7 h4
 cases hR : rfB ⟨r, f, lo, tm, ps⟩ pl pm at_ with
 | true =>
  obtain ⟨use, ev, hE, hs, hrg, hin, hlt, hB, hbE, hpm, hfE⟩ := rf_yes hR
  simp only at hs
  clear hE hrg hin hlt hB hbE hpm
  go_enter Tryz.func10, Tryz.ntmps10
  go_upto_region 1 with fail
  rw [← hW0]
  clear hW0
  have B0 : Below (w.heap.size + 1) W0 W0 := Below.refl _ _
  obtain ⟨⟨y0, y1, y2, y3, y4⟩, -, -, -, yz⟩ := HS.out W0 B0
  have yq := Nat.lt_of_succ_le yz
  have ys : w.heap.size < W0.heap.size := by omega
  go_wp2_with fail
  refine (scHead_any _).mono ?_
  rintro e w1 ⟨rfl, b1⟩
  have B1 : Below (w.heap.size + 1) W0 w1 := B0.trans (b1.mono (HS.out _ B0).2.2.2.2)
  clear y0 y1 y2 y3 y4  yz yq ys b1 B0
  obtain ⟨⟨y0, y1, y2, y3, y4⟩, -, -, -, yz⟩ := HS.out w1 B1
  have yq := Nat.lt_of_succ_le yz
  have ys : w.heap.size < w1.heap.size := by omega
  go_wp2_with fail
  refine (scRefuse_yes r f lo tm _ ps _ pl pm at_ use ev _ (HS.out _ B1).2.2.1.1 (HS.out _ B1).2.2.1.2.1 hR hs hfE).mono ?_
  rintro e w2 ⟨ua2, uc2, aa2, ac2, rfl, hu2, ha2, b2⟩
  have B2 : Below (w.heap.size + 1) W0 w2 := B1.trans (b2.mono (HS.out _ B1).2.2.2.2)
  clear y0 y1 y2 y3 y4  yz yq ys b2 B1
  obtain ⟨⟨y0, y1, y2, y3, y4⟩, -, -, -, yz⟩ := HS.out w2 B2
  have yq := Nat.lt_of_succ_le yz
  have ys : w.heap.size < w2.heap.size := by omega
  go_upto_region 5 with fail
  have kx : SnBox (w2.alloc (.cells #[.slice ua2 use.length uc2, .int .i64 ev, .int .i64 at_, .slice aa2 use.length ac2, .int .i64 (ev + tm)] 30)) w2.heap.size ⟨use, ev, at_, wsL ⟨r, f, lo, tm, ps⟩ use at_, ev + tm⟩ (.slice ua2 use.length uc2) (.slice aa2 use.length ac2) := SnBox.made (x := ⟨use, ev, at_, wsL ⟨r, f, lo, tm, ps⟩ use at_, ev + tm⟩) hu2 ha2
  have b3 : Below w2.heap.size w2 (w2.alloc (.cells #[.slice ua2 use.length uc2, .int .i64 ev, .int .i64 at_, .slice aa2 use.length ac2, .int .i64 (ev + tm)] 30)) := (by ((with_reducible repeat' first | exact .refl _ _ | refine .alloc ?_ ?_ _ | refine .setCell ?_ ?_ _ | refine .drew ?_ | refine below_drewN ?_ _) <;> first | omega | simp <;> omega))
  have B3 : Below (w.heap.size + 1) W0 (w2.alloc (.cells #[.slice ua2 use.length uc2, .int .i64 ev, .int .i64 at_, .slice aa2 use.length ac2, .int .i64 (ev + tm)] 30)) := B2.trans (b3.mono (HS.out _ B2).2.2.2.2)
  obtain ⟨gkx, hgkx⟩ : ∃ g, g = w2.heap.size := ⟨_, rfl⟩
  rw [← hgkx] at kx ⊢
  clear hgkx b3 y0 y1 y2 y3 y4  yz yq ys B2
  generalize w2.alloc (.cells #[.slice ua2 use.length uc2, .int .i64 ev, .int .i64 at_, .slice aa2 use.length ac2, .int .i64 (ev + tm)] 30) = w3 at *
  obtain ⟨⟨y0, y1, y2, y3, y4⟩, -, -, -, yz⟩ := HS.out w3 B3
  have yq := Nat.lt_of_succ_le yz
  have ys : w.heap.size < w3.heap.size := by omega
  go_wp2_with fail
  go_ret
  exact ⟨rfl, (by ((with_reducible repeat' first | exact .refl _ _ | exact (HS.out _ B3).2.2.2.1 | refine .alloc ?_ ?_ _ | refine .setCell ?_ ?_ _ | refine .drew ?_ | refine below_drewN ?_ _ | refine Below.trans ?_ ((HS.out _ B3).2.2.2.1.mono ?_)) <;> first | omega | simp <;> omega))⟩
 | false =>
  by_cases hE0 : rfEr ⟨r, f, lo, tm, ps⟩ pl pm at_ ≠ 0
  ·have dE : (rfEr ⟨r, f, lo, tm, ps⟩ pl pm at_ != 0) = true := by rw [bne_iff_ne]; exact hE0
   go_enter Tryz.func10, Tryz.ntmps10
   go_upto_region 1 with fail
   rw [← hW0]
   clear hW0
   have B0 : Below (w.heap.size + 1) W0 W0 := Below.refl _ _
   obtain ⟨⟨y0, y1, y2, y3, y4⟩, -, -, -, yz⟩ := HS.out W0 B0
   have yq := Nat.lt_of_succ_le yz
   have ys : w.heap.size < W0.heap.size := by omega
   go_wp2_with fail
   refine (scHead_any _).mono ?_
   rintro e w1 ⟨rfl, b1⟩
   have B1 : Below (w.heap.size + 1) W0 w1 := B0.trans (b1.mono (HS.out _ B0).2.2.2.2)
   clear y0 y1 y2 y3 y4  yz yq ys b1 B0
   obtain ⟨⟨y0, y1, y2, y3, y4⟩, -, -, -, yz⟩ := HS.out w1 B1
   have yq := Nat.lt_of_succ_le yz
   have ys : w.heap.size < w1.heap.size := by omega
   go_wp2_with fail
   refine (scRefuse_no r f lo tm _ ps _ pl pm at_ _ (HS.out _ B1).2.2.1.1 (HS.out _ B1).2.2.1.2.1 hR).mono ?_
   rintro e w2 ⟨ua2, uc2, aa2, ac2, rfl, hu2, ha2, b2⟩
   have B2 : Below (w.heap.size + 1) W0 w2 := B1.trans (b2.mono (HS.out _ B1).2.2.2.2)
   clear y0 y1 y2 y3 y4  yz yq ys b2 B1
   obtain ⟨⟨y0, y1, y2, y3, y4⟩, -, -, -, yz⟩ := HS.out w2 B2
   have yq := Nat.lt_of_succ_le yz
   have ys : w.heap.size < w2.heap.size := by omega
   go_upto_region 5 with fail
   have kx : SnBox (w2.alloc (.cells #[.slice ua2 0 uc2, .int .i64 0, .int .i64 0, .slice aa2 0 ac2, .int .i64 0] 30)) w2.heap.size sc0 (.slice ua2 0 uc2) (.slice aa2 0 ac2) := SnBox.made (x := sc0) hu2 ha2
   have b3 : Below w2.heap.size w2 (w2.alloc (.cells #[.slice ua2 0 uc2, .int .i64 0, .int .i64 0, .slice aa2 0 ac2, .int .i64 0] 30)) := (by ((with_reducible repeat' first | exact .refl _ _ | refine .alloc ?_ ?_ _ | refine .setCell ?_ ?_ _ | refine .drew ?_ | refine below_drewN ?_ _) <;> first | omega | simp <;> omega))
   have B3 : Below (w.heap.size + 1) W0 (w2.alloc (.cells #[.slice ua2 0 uc2, .int .i64 0, .int .i64 0, .slice aa2 0 ac2, .int .i64 0] 30)) := B2.trans (b3.mono (HS.out _ B2).2.2.2.2)
   obtain ⟨gkx, hgkx⟩ : ∃ g, g = w2.heap.size := ⟨_, rfl⟩
   rw [← hgkx] at kx ⊢
   clear hgkx b3 y0 y1 y2 y3 y4  yz yq ys B2
   generalize w2.alloc (.cells #[.slice ua2 0 uc2, .int .i64 0, .int .i64 0, .slice aa2 0 ac2, .int .i64 0] 30) = w3 at *
   obtain ⟨⟨y0, y1, y2, y3, y4⟩, -, -, -, yz⟩ := HS.out w3 B3
   have yq := Nat.lt_of_succ_le yz
   have ys : w.heap.size < w3.heap.size := by omega
   clear kx
   clear hE0
   go_wp2_with fail
   go_ret
   exact ⟨rfl, (by ((with_reducible repeat' first | exact .refl _ _ | exact (HS.out _ B3).2.2.2.1 | refine .alloc ?_ ?_ _ | refine .setCell ?_ ?_ _ | refine .drew ?_ | refine below_drewN ?_ _ | refine Below.trans ?_ ((HS.out _ B3).2.2.2.1.mono ?_)) <;> first | omega | simp <;> omega))⟩
  ·skip
   obtain ⟨use, ev, wd, hB, hbE, hrg, hwd, hpm, hat⟩ := rf_keep hR (Classical.not_not.1 hE0)
   have hin := ((rgB_iff _ _ _).1 hrg).2.2.1
   simp only at hin
   have dE : (rfEr ⟨r, f, lo, tm, ps⟩ pl pm at_ != 0) = false := by rw [Classical.not_not.1 hE0]; rfl
   have Hin := hide hin
   have Hrg := hide hrg
   have Hwd := hide (And.intro hwd hpm)
   clear hin hrg hwd hpm hat hE0
   go_enter Tryz.func10, Tryz.ntmps10
   go_upto_region 1 with fail
   rw [← hW0]
   clear hW0
   have B0 : Below (w.heap.size + 1) W0 W0 := Below.refl _ _
   obtain ⟨⟨y0, y1, y2, y3, y4⟩, -, -, -, yz⟩ := HS.out W0 B0
   have yq := Nat.lt_of_succ_le yz
   have ys : w.heap.size < W0.heap.size := by omega
   go_wp2_with fail
   refine (scHead_any _).mono ?_
   rintro e w1 ⟨rfl, b1⟩
   have B1 : Below (w.heap.size + 1) W0 w1 := B0.trans (b1.mono (HS.out _ B0).2.2.2.2)
   clear y0 y1 y2 y3 y4  yz yq ys b1 B0
   obtain ⟨⟨y0, y1, y2, y3, y4⟩, -, -, -, yz⟩ := HS.out w1 B1
   have yq := Nat.lt_of_succ_le yz
   have ys : w.heap.size < w1.heap.size := by omega
   go_wp2_with fail
   refine (scRefuse_no r f lo tm _ ps _ pl pm at_ _ (HS.out _ B1).2.2.1.1 (HS.out _ B1).2.2.1.2.1 hR).mono ?_
   rintro e w2 ⟨ua2, uc2, aa2, ac2, rfl, hu2, ha2, b2⟩
   have B2 : Below (w.heap.size + 1) W0 w2 := B1.trans (b2.mono (HS.out _ B1).2.2.2.2)
   clear y0 y1 y2 y3 y4  yz yq ys b2 B1
   obtain ⟨⟨y0, y1, y2, y3, y4⟩, -, -, -, yz⟩ := HS.out w2 B2
   have yq := Nat.lt_of_succ_le yz
   have ys : w.heap.size < w2.heap.size := by omega
   go_upto_region 5 with fail
   have kx : SnBox (w2.alloc (.cells #[.slice ua2 0 uc2, .int .i64 0, .int .i64 0, .slice aa2 0 ac2, .int .i64 0] 30)) w2.heap.size sc0 (.slice ua2 0 uc2) (.slice aa2 0 ac2) := SnBox.made (x := sc0) hu2 ha2
   have b3 : Below w2.heap.size w2 (w2.alloc (.cells #[.slice ua2 0 uc2, .int .i64 0, .int .i64 0, .slice aa2 0 ac2, .int .i64 0] 30)) := (by ((with_reducible repeat' first | exact .refl _ _ | refine .alloc ?_ ?_ _ | refine .setCell ?_ ?_ _ | refine .drew ?_ | refine below_drewN ?_ _) <;> first | omega | simp <;> omega))
   have B3 : Below (w.heap.size + 1) W0 (w2.alloc (.cells #[.slice ua2 0 uc2, .int .i64 0, .int .i64 0, .slice aa2 0 ac2, .int .i64 0] 30)) := B2.trans (b3.mono (HS.out _ B2).2.2.2.2)
   obtain ⟨gkx, hgkx⟩ : ∃ g, g = w2.heap.size := ⟨_, rfl⟩
   rw [← hgkx] at kx ⊢
   clear hgkx b3 y0 y1 y2 y3 y4  yz yq ys B2
   generalize w2.alloc (.cells #[.slice ua2 0 uc2, .int .i64 0, .int .i64 0, .slice aa2 0 ac2, .int .i64 0] 30) = w3 at *
   obtain ⟨⟨y0, y1, y2, y3, y4⟩, -, -, -, yz⟩ := HS.out w3 B3
   have yq := Nat.lt_of_succ_le yz
   have ys : w.heap.size < w3.heap.size := by omega
   clear kx
   go_wp2_with fail
   refine (plB_any r f lo tm _ ps _ pl pm _ (HS.out _ B3).2.2.1.1 (HS.out _ B3).2.2.1.2.1).mono ?_
   rintro e w4 ⟨uv3, rfl, hu3, -, b4⟩
   rw [hbE, hB]
   have B4 : Below (w.heap.size + 1) W0 w4 := B3.trans (b4.mono (HS.out _ B3).2.2.2.2)
   clear y0 y1 y2 y3 y4  yz yq ys b4 B3
   obtain ⟨⟨y0, y1, y2, y3, y4⟩, -, -, -, yz⟩ := HS.out w4 B4
   have yq := Nat.lt_of_succ_le yz
   have ys : w.heap.size < w4.heap.size := by omega
   rw [hB] at hu3
   simp only [accO, Option.getD_some, Option.isSome_some] at hu3 ⊢
   obtain ⟨ua3, uc3, rfl, -⟩ := id hu3
   go_upto_region 8 with fail
   have kb : SdBox (w4.alloc (.cells #[.slice ua3 use.length uc3, .int .i64 ev] 27)) w4.heap.size (.slice ua3 use.length uc3) use ev := SdBox.made hu3
   have b5 : Below w4.heap.size w4 (w4.alloc (.cells #[.slice ua3 use.length uc3, .int .i64 ev] 27)) := (by ((with_reducible repeat' first | exact .refl _ _ | refine .alloc ?_ ?_ _ | refine .setCell ?_ ?_ _ | refine .drew ?_ | refine below_drewN ?_ _) <;> first | omega | simp <;> omega))
   have B5 : Below (w.heap.size + 1) W0 (w4.alloc (.cells #[.slice ua3 use.length uc3, .int .i64 ev] 27)) := B4.trans (b5.mono (HS.out _ B4).2.2.2.2)
   obtain ⟨gkb, hgkb⟩ : ∃ g, g = w4.heap.size := ⟨_, rfl⟩
   rw [← hgkb] at kb ⊢
   clear hgkb b5 y0 y1 y2 y3 y4  yz yq ys B4
   generalize w4.alloc (.cells #[.slice ua3 use.length uc3, .int .i64 ev] 27) = w5 at *
   obtain ⟨⟨y0, y1, y2, y3, y4⟩, -, -, -, yz⟩ := HS.out w5 B5
   have yq := Nat.lt_of_succ_le yz
   have ys : w.heap.size < w5.heap.size := by omega
   obtain ⟨⟨ckb0, ckb1⟩, -, ckbz⟩ := id kb
   go_wp2_with fail
   refine (wdRight_any r f lo tm _ ps _ use ev _ (HS.out _ B5).2.2.1.1 kb.2.1).mono ?_
   rintro e w6 ⟨rfl, b6⟩
   rw [Hrg.out]
   have B6 : Below (w.heap.size + 1) W0 w6 := B5.trans (b6.mono (HS.out _ B5).2.2.2.2)
   have tkb := kb.below b6
   clear kb
   have kb := tkb
   clear tkb
   clear y0 y1 y2 y3 y4  yz yq ys b6 B5
   obtain ⟨⟨y0, y1, y2, y3, y4⟩, -, -, -, yz⟩ := HS.out w6 B6
   have yq := Nat.lt_of_succ_le yz
   have ys : w.heap.size < w6.heap.size := by omega
   clear ckb0 ckb1 ckbz
   obtain ⟨⟨ckb0, ckb1⟩, -, ckbz⟩ := id kb
   go_upto_region 11 with fail
   obtain ⟨X0, hX0⟩ : ∃ X : World, X = w6.alloc (.cells #[.slice ua3 use.length uc3, .int .i64 ev, .int .i64 at_, .slice none 0 0, .int .i64 ct] 30) := ⟨_, rfl⟩
   have bX0 : Below w6.heap.size w6 X0 := by rw [hX0]; ((with_reducible repeat' first | exact .refl _ _ | refine .alloc ?_ ?_ _ | refine .setCell ?_ ?_ _ | refine .drew ?_ | refine below_drewN ?_ _) <;> first | omega | simp <;> omega)
   have cX0 : SnC X0 w6.heap.size (.slice ua3 use.length uc3) ev at_ (.slice none 0 0) ct := by rw [hX0]; exact SnC.made
   have zX0 : X0.heap.size = w6.heap.size + 1 := by rw [hX0]; simp
   rw [← hX0]
   clear hX0
   have HX0 := hide (And.intro bX0 cX0)
   clear bX0 cX0
   go_wp2_with fail
   go_loopw [21] (fun s21 wr => ∃ (l : List An) (av : Value), l.length ≤ use.length ∧ l.length ≤ an.length ∧ s21 = .int .i64 l.length ∧ SnC wr w6.heap.size (.slice ua3 use.length uc3) ev at_ av ct ∧ OwnAn wr (w6.heap.size + 1) av l ∧ Below w6.heap.size w6 wr) (fun s21 _ => use.length - (intOf s21).toNat)
   case atStart => exact ⟨[], .slice none 0 0, Nat.zero_le _, Nat.zero_le _, rfl, HX0.out.2, OwnAn.nil _ _, HX0.out.1⟩
   case round =>
    clear zX0 HX0
    obtain ⟨l, xv, hk, hka, rfl, hX, hown, hB9⟩ := hrel
    obtain ⟨xa, xc, rfl, -, -⟩ := hown.val
    clear ckb0 ckb1 ckbz y0 y1 y2 y3 y4  yz yq ys
    have B7 : Below (w.heap.size + 1) W0 wr := B6.trans (hB9.mono (HS.out _ B6).2.2.2.2)
    have hcz : w6.heap.size < wr.heap.size := hX.2.2
    have tkb := kb.below hB9
    clear kb
    have kb := tkb
    clear tkb
    obtain ⟨⟨y0, y1, y2, y3, y4⟩, -, -, -, yz⟩ := HS.out wr B7
    have yq := Nat.lt_of_succ_le yz
    have ys : w.heap.size < wr.heap.size := by omega
    obtain ⟨⟨ckb0, ckb1⟩, -, ckbz⟩ := id kb
    obtain ⟨⟨cX0, cX1, cX2, cX3, cX4⟩, fX3, zX⟩ := id hX
    by_cases hlk : l.length < use.length
    ·by_cases hla : l.length < an.length
     ·skip
      obtain ⟨bA, offA, capA, hve, -, -, hbA, g3⟩ := (HS.out _ B7).2.2.1.2.2.at0 (by omega)
      obtain ⟨rfl, -, rfl⟩ : aa = some ⟨bA, offA, none⟩ ∧ True ∧ ac = capA := by cases hve; exact ⟨rfl, trivial, rfl⟩
      obtain ⟨q0, q1, q2, q3, q4, q5⟩ := g3 l.length hla
      obtain ⟨va', vc', hve2, -, -, g4⟩ := id kb.2.1
      obtain ⟨rfl, -, rfl⟩ : ua3 = va' ∧ True ∧ uc3 = vc' := by cases hve2; exact ⟨rfl, trivial, rfl⟩
      obtain ⟨bU, offU, rfl, hbU, g5⟩ := g4 l.length hlk
      have hq0 := Hin.out l.length hlk
      obtain ⟨q, hq⟩ : ∃ q : Nat, iAt use l.length = q := ⟨(iAt use l.length).toNat, by omega⟩
      have hql : q < ps.length := by omega
      rw [hq] at g5
      obtain ⟨bP, offP, capP, hve3, -, -, hbP, g6⟩ := (HS.out _ B7).2.2.1.1.at0 (by omega)
      obtain ⟨rfl, -, rfl⟩ : pa = some ⟨bP, offP, none⟩ ∧ True ∧ pc = capP := by cases hve3; exact ⟨rfl, trivial, rfl⟩
      have gP := (g6 q hql).1
      clear hve hve2 hve3 g3 g4 g6 hq0 hq
      generalize (pAt ps q).au = pAu at *
      generalize anAt an l.length = A at *
      obtain ⟨A1, A2, A3, A4, A5, A6⟩ := A
      simp only at q0 q1 q2 q3 q4 q5
      have I1 : (0 : Int) ≤ (l.length : Int) := by omega
      have I2 : (l.length : Int) < (an.length : Int) := by omega
      have I3 : (l.length : Int) < (use.length : Int) := by omega
      have J1 : (0 : Int) ≤ (q : Int) := by omega
      have J2 : (q : Int) < (ps.length : Int) := by omega
      go_upto_region 15 with fail
      obtain ⟨wb, hwb⟩ : ∃ W : World, W = wr.alloc (.cells #[.int .i64 A1, .bool A2, .int .i64 A3, .int .i64 A4, .int .i64 A5, .int .i64 A6] 59) := ⟨_, rfl⟩
      have bb : Below wr.heap.size wr wb := by rw [hwb]; ((with_reducible repeat' first | exact .refl _ _ | refine .alloc ?_ ?_ _ | refine .setCell ?_ ?_ _ | refine .drew ?_ | refine below_drewN ?_ _) <;> first | omega | simp <;> omega)
      have zb : wr.heap.size < wb.heap.size := by rw [hwb]; simp
      have eb : (wb.cell? ⟨wr.heap.size, 0, none⟩ = some (.int .i64 A1) ∧ wb.cell? ⟨wr.heap.size, 1, none⟩ = some (.bool A2) ∧ wb.cell? ⟨wr.heap.size, 2, none⟩ = some (.int .i64 A3) ∧ wb.cell? ⟨wr.heap.size, 3, none⟩ = some (.int .i64 A4) ∧ wb.cell? ⟨wr.heap.size, 4, none⟩ = some (.int .i64 A5) ∧ wb.cell? ⟨wr.heap.size, 5, none⟩ = some (.int .i64 A6)) ∧ wb.frozen? ⟨wr.heap.size, 0, none⟩ = false := by
       rw [hwb]; refine ⟨⟨?_, ?_, ?_, ?_, ?_, ?_⟩, ?_⟩ <;> simp [go_sem]
      rw [← hwb]
      clear hwb
      have hXb := hX.below bb
      have hownb2 := hown.below (Nat.le_refl _) bb
      have y4b := (bb.cell (p := ⟨w.heap.size, 4, none⟩) ys).trans y4
      have ckb0b := (bb.cell (p := ⟨gkb, 0, none⟩) ckbz).trans ckb0
      have g5b := (bb.cell (p := ⟨bU, offU + l.length, none⟩) hbU).trans g5
      have gPb := (bb.cell (p := ⟨bP, offP + q * 8, none⟩) hbP).trans gP
      have hBb := hB9.trans (bb.mono (Nat.le_of_lt hcz))
      obtain ⟨⟨e0, e1, e2, e3, e4, e5⟩, ef⟩ := eb
      have hlt := fun q h => (World.ownsRow.lt hown q h)
      have Hlt := hide hlt
      have HXb := hide hXb
      have Hownb := hide hownb2
      have HBb := hide hBb
      clear y0 y1 y2 y3 y4 ckb0 ckb1 g5 gP q0 q1 q2 q3 q4 q5 cX0 cX1 cX2 cX3 cX4 fX3 hX hown hB9 hownb2 hXb hBb hlt
      go_still_tail 11, (by kernel_rfl)
      change wpList _ _ _ _ _ wb.drew
      have bd : Below wb.heap.size wb wb.drew := (Below.refl _ _).drew
      have e0d : wb.drew.cell? ⟨wr.heap.size, 0, none⟩ = some (.int .i64 A1) := e0
      have e1d : wb.drew.cell? ⟨wr.heap.size, 1, none⟩ = some (.bool A2) := e1
      have e2d : wb.drew.cell? ⟨wr.heap.size, 2, none⟩ = some (.int .i64 A3) := e2
      have e3d : wb.drew.cell? ⟨wr.heap.size, 3, none⟩ = some (.int .i64 A4) := e3
      have e4d : wb.drew.cell? ⟨wr.heap.size, 4, none⟩ = some (.int .i64 A5) := e4
      have e5d : wb.drew.cell? ⟨wr.heap.size, 5, none⟩ = some (.int .i64 A6) := e5
      have efd : wb.drew.frozen? ⟨wr.heap.size, 0, none⟩ = false := ef
      have HXd := hide (HXb.out.below bd)
      have Hownd := hide (Hownb.out.below (Nat.le_refl _) bd)
      have HBd := hide (HBb.out.trans (bd.mono (by omega)))
      have zd : wr.heap.size < wb.drew.heap.size := Nat.lt_of_lt_of_le zb bd.size
      clear bd e0 e1 e2 e3 e4 e5 ef HXb Hownb HBb zb y4b ckb0b g5b gPb bb
      generalize wb.drew = wc at *
      go_upto_region 16 with fail
      have hxn : ∀ q, (Value.slice xa l.length xc).ownBlock = some q → q ≠ wr.heap.size := fun q h => by have := (Hlt.out q h).2; omega
      have d0 := set_same (.int .i64 pAu) e0d
      have d1 := set_other (p := ⟨wr.heap.size, 0, none⟩) (.int .i64 pAu) e1d (by intro h; simp at h)
      have d2 := set_other (p := ⟨wr.heap.size, 0, none⟩) (.int .i64 pAu) e2d (by intro h; simp at h)
      have d3 := set_other (p := ⟨wr.heap.size, 0, none⟩) (.int .i64 pAu) e3d (by intro h; simp at h)
      have d4 := set_other (p := ⟨wr.heap.size, 0, none⟩) (.int .i64 pAu) e4d (by intro h; simp at h)
      have d5 := set_other (p := ⟨wr.heap.size, 0, none⟩) (.int .i64 pAu) e5d (by intro h; simp at h)
      have HX1 := hide (HXd.out.of (V := wc.setCell ⟨wr.heap.size, 0, none⟩ (.int .i64 pAu)) (Below.heap_setCell wc ⟨wr.heap.size, 0, none⟩ _ (w6.heap.size) (fun e => by simp only at e; omega)))
      have Hown1 : Hid ((wc.setCell ⟨wr.heap.size, 0, none⟩ (.int .i64 pAu)).ownsRow (w6.heap.size + 1) 59 6 (.slice xa l.length xc) l.length (l.flatMap encA)) := hide (ownsRow_setCell_ne Hownd.out (p := ⟨wr.heap.size, 0, none⟩) hxn _)
      have HB1 := hide (HBd.out.setCell (p := ⟨wr.heap.size, 0, none⟩) (Nat.le_of_lt hcz) (.int .i64 pAu))
      have z1 : wr.heap.size < (wc.setCell ⟨wr.heap.size, 0, none⟩ (.int .i64 pAu)).heap.size := by simpa [World.setCell] using zd
      clear HXd Hownd HBd zd e0d e1d e2d e3d e4d e5d efd
      generalize wc.setCell ⟨wr.heap.size, 0, none⟩ (.int .i64 pAu) = wd at *
      obtain ⟨⟨-, -, -, c3, -⟩, f3, -⟩ := HX1.out
      have zg : w6.heap.size < wd.heap.size := by omega
      obtain ⟨i0, hi0, hz0, hz1, hz2⟩ := info_parts infoAn
      go_wp2_with (at_builtin; refine wpList_append_own _ rfl _ _ 28 rfl (w6.heap.size + 1) 59 i0 (.agg #[.int .i64 0, .bool false, .int .i64 0, .int .i64 0, .int .i64 0, .int .i64 0]) 6 48 Tryz.underlying28 hi0 hz0 hz1 hz2 rfl (by decide) _ l.length (l.flatMap encA) rfl (World.ownsRow.alloc Hown1.out _) ⟨wd.heap.size, 0, none⟩ 1 1 (encA (⟨pAu, A2, A3, A4, A5, A6⟩ : An)) rfl rfl (cells_new wd (encA (⟨pAu, A2, A3, A4, A5, A6⟩ : An)) 59) (encA_one _) (by unfold maxLen; omega) (by omega) (by simp; omega) ?_; intro v9 w9 hown9 hg9 _; obtain ⟨a9, ac9, hv9⟩ := ownsRow_val hown9; subst hv9; have hb9 := hg9.block (w6.heap.size) (by simp; omega) (fun e => by have := (Hlt.out _ e.symm).1; omega); have hX9 := (HX1.out.of (Below.heap_alloc _ _ _ zg)).of hb9; obtain ⟨⟨-, -, -, c39, -⟩, f39, -⟩ := id hX9; have HR9 := hide (And.intro hown9 hg9); have HX9 := hide hX9; clear hown9 hg9 hb9 hX9)
      obtain ⟨hown9, hg9⟩ := HR9.out
      have hne9 : ∀ q, (Value.slice a9 (l.length + 1) ac9).ownBlock = some q → q ≠ w6.heap.size := fun q hq => by have := (World.ownsRow.lt hown9 q hq).1; omega
      have hown10 : OwnAn (w9.setCell ⟨w6.heap.size, 3, none⟩ (.slice a9 (l.length + 1) ac9)) (w6.heap.size + 1) (.slice a9 (l.length + 1) ac9) (l ++ [(⟨pAu, A2, A3, A4, A5, A6⟩ : An)]) := OwnAn.app (ownsRow_setCell_ne hown9 (p := ⟨w6.heap.size, 3, none⟩) hne9 (.slice a9 (l.length + 1) ac9))
      have hB10 : Below (w6.heap.size) w6 (w9.setCell ⟨w6.heap.size, 3, none⟩ (.slice a9 (l.length + 1) ac9)) := (((HB1.out).alloc (by omega) _).grown hg9 (by simp; omega) (fun r h => Nat.le_of_succ_le (Hlt.out r h).1)).setCell (p := ⟨w6.heap.size, 3, none⟩) (Nat.le_refl _) _
      have hX10 := HX9.out.put (.slice a9 (l.length + 1) ac9)
      have HF := hide (And.intro hown10 (And.intro hB10 hX10))
      clear hown9 hg9 hown10 hB10 hX10
      go_roundw
      case rel => exact ⟨l ++ [⟨pAu, A2, A3, A4, A5, A6⟩], .slice a9 (l.length + 1) ac9, by simp; omega, by simp; omega, by rw [List.length_append, List.length_singleton]; go_num, HF.out.2.2, HF.out.1, HF.out.2.1⟩
      case measure => simp [intOf]; omega
     ·skip
      have I3 : (l.length : Int) < (use.length : Int) := by omega
      have I4 : decide ((l.length : Int) < (an.length : Int)) = false := decide_eq_false (by omega)
      have kx : SnBox wr w6.heap.size ⟨use, ev, at_, l, ct⟩ (.slice ua3 use.length uc3) (.slice xa l.length xc) := ⟨⟨cX0, cX1, cX2, cX3, cX4⟩, kb.2.1, hown.row, zX⟩
      obtain ⟨gkx, hgkx⟩ : ∃ g, g = w6.heap.size := ⟨_, rfl⟩
      rw [← hgkx] at kx cX0 cX1 cX2 cX3 cX4 zX ⊢
      clear hgkx hX hown hB9 fX3 hcz
      cases hF : fitB ⟨r, f, lo, tm, ps⟩ ⟨use, ev, at_, l, ct⟩ with
      | false =>
       go_wp2_with fail
       refine (scAllowed_un r f lo tm _ ps _ use ev at_ _ l ct _ (HS.out _ B7).2.2.1.1 kx.2.1 kx.2.2.1 hF).mono ?_
       rintro e w8 ⟨rfl, b8⟩
       have B8 : Below (w.heap.size + 1) W0 w8 := B7.trans (b8.mono (HS.out _ B7).2.2.2.2)
       have tkb := kb.below b8
       clear kb
       have kb := tkb
       clear tkb
       have tkx := kx.below b8
       clear kx
       have kx := tkx
       clear tkx
       clear y0 y1 y2 y3 y4  yz yq ys b8 B7
       obtain ⟨⟨y0, y1, y2, y3, y4⟩, -, -, -, yz⟩ := HS.out w8 B8
       have yq := Nat.lt_of_succ_le yz
       have ys : w.heap.size < w8.heap.size := by omega
       clear cX0 cX1 cX2 cX3 cX4 zX
       go_wp2_with fail
       go_ret
       exact ⟨rfl, (by ((with_reducible repeat' first | exact .refl _ _ | exact (HS.out _ B8).2.2.2.1 | refine .alloc ?_ ?_ _ | refine .setCell ?_ ?_ _ | refine .drew ?_ | refine below_drewN ?_ _ | refine Below.trans ?_ ((HS.out _ B8).2.2.2.1.mono ?_)) <;> first | omega | simp <;> omega))⟩
      | true =>
       cases hA : alB ⟨r, f, lo, tm, ps⟩ ⟨use, ev, at_, l, ct⟩ with
       | false =>
        go_wp2_with fail
        refine (scAllowed_fit r f lo tm _ ps _ use ev at_ _ l ct _ (HS.out _ B7).2.2.1.1 kx.2.1 kx.2.2.1 hF).mono ?_
        rintro e w8 ⟨rfl, b8⟩
        rw [hA]
        have B8 : Below (w.heap.size + 1) W0 w8 := B7.trans (b8.mono (HS.out _ B7).2.2.2.2)
        have tkb := kb.below b8
        clear kb
        have kb := tkb
        clear tkb
        have tkx := kx.below b8
        clear kx
        have kx := tkx
        clear tkx
        clear y0 y1 y2 y3 y4  yz yq ys b8 B7
        obtain ⟨⟨y0, y1, y2, y3, y4⟩, -, -, -, yz⟩ := HS.out w8 B8
        have yq := Nat.lt_of_succ_le yz
        have ys : w.heap.size < w8.heap.size := by omega
        clear cX0 cX1 cX2 cX3 cX4 zX
        go_wp2_with fail
        go_ret
        exact ⟨rfl, (by ((with_reducible repeat' first | exact .refl _ _ | exact (HS.out _ B8).2.2.2.1 | refine .alloc ?_ ?_ _ | refine .setCell ?_ ?_ _ | refine .drew ?_ | refine below_drewN ?_ _ | refine Below.trans ?_ ((HS.out _ B8).2.2.2.1.mono ?_)) <;> first | omega | simp <;> omega))⟩
       | true =>
        obtain ⟨h1, h2, h3, -, -, -, -⟩ := al_play hF hA
        have hle := Hwd.out
        simp only at h1 h2 h3
        have hPl := fun pv uv av W q1 q2 q3 => scPlay_any r f lo tm pv ps uv use ev at_ av l ct W q1 q2 q3
        unfold PlayPost at hPl
        rw [h1] at hPl
        generalize pyHi ⟨r, f, lo, tm, ps⟩ ⟨use, ev, at_, l, ct⟩ = Y at *
        generalize pyLo ⟨r, f, lo, tm, ps⟩ ⟨use, ev, at_, l, ct⟩ = X at *
        have wi : IntKind.i64.wrap (Y - X) = Y - X := IntWalk.i64_in _ (by omega)
        have dW : decide (Y - X ≤ pm) = true := decide_eq_true (by omega)
        have HPl := hide hPl
        clear h1 h2 h3 hle hPl
        go_wp2_with fail
        refine (scAllowed_fit r f lo tm _ ps _ use ev at_ _ l ct _ (HS.out _ B7).2.2.1.1 kx.2.1 kx.2.2.1 hF).mono ?_
        rintro e w8 ⟨rfl, b8⟩
        rw [hA]
        have B8 : Below (w.heap.size + 1) W0 w8 := B7.trans (b8.mono (HS.out _ B7).2.2.2.2)
        have tkb := kb.below b8
        clear kb
        have kb := tkb
        clear tkb
        have tkx := kx.below b8
        clear kx
        have kx := tkx
        clear tkx
        clear y0 y1 y2 y3 y4  yz yq ys b8 B7
        obtain ⟨⟨y0, y1, y2, y3, y4⟩, -, -, -, yz⟩ := HS.out w8 B8
        have yq := Nat.lt_of_succ_le yz
        have ys : w.heap.size < w8.heap.size := by omega
        clear cX0 cX1 cX2 cX3 cX4 zX
        obtain ⟨⟨ckx0, ckx1, ckx2, ckx3, ckx4⟩, -, -, ckxz⟩ := id kx
        simp only at ckx1 ckx2 ckx4
        go_wp2_with fail
        refine (HPl.out _ _ _ _ (HS.out _ B8).2.2.1.1 kx.2.1 kx.2.2.1).mono ?_
        rintro e w9 ⟨rfl, b9⟩
        have B9 : Below (w.heap.size + 1) W0 w9 := B8.trans (b9.mono (HS.out _ B8).2.2.2.2)
        have tkb := kb.below b9
        clear kb
        have kb := tkb
        clear tkb
        have tkx := kx.below b9
        clear kx
        have kx := tkx
        clear tkx
        clear y0 y1 y2 y3 y4  yz yq ys b9 B8
        obtain ⟨⟨y0, y1, y2, y3, y4⟩, -, -, -, yz⟩ := HS.out w9 B9
        have yq := Nat.lt_of_succ_le yz
        have ys : w.heap.size < w9.heap.size := by omega
        clear ckx0 ckx1 ckx2 ckx3 ckx4 ckxz
        go_upto_region 21 with fail
        have ki : IvBox (w9.alloc (.cells #[.int .i64 X, .int .i64 Y] 41)) w9.heap.size X Y := IvBox.made
        have b10 : Below w9.heap.size w9 (w9.alloc (.cells #[.int .i64 X, .int .i64 Y] 41)) := (by ((with_reducible repeat' first | exact .refl _ _ | refine .alloc ?_ ?_ _ | refine .setCell ?_ ?_ _ | refine .drew ?_ | refine below_drewN ?_ _) <;> first | omega | simp <;> omega))
        have tkb := kb.below b10
        clear kb
        have kb := tkb
        clear tkb
        have tkx := kx.below b10
        clear kx
        have kx := tkx
        clear tkx
        have B10 : Below (w.heap.size + 1) W0 (w9.alloc (.cells #[.int .i64 X, .int .i64 Y] 41)) := B9.trans (b10.mono (HS.out _ B9).2.2.2.2)
        obtain ⟨gki, hgki⟩ : ∃ g, g = w9.heap.size := ⟨_, rfl⟩
        rw [← hgki] at ki ⊢
        clear hgki b10 y0 y1 y2 y3 y4  yz yq ys B9
        generalize w9.alloc (.cells #[.int .i64 X, .int .i64 Y] 41) = w10 at *
        obtain ⟨⟨y0, y1, y2, y3, y4⟩, -, -, -, yz⟩ := HS.out w10 B10
        have yq := Nat.lt_of_succ_le yz
        have ys : w.heap.size < w10.heap.size := by omega
        obtain ⟨cki0, cki1, ckiz⟩ := id ki
        go_wp2_with fail
        go_ret
        exact ⟨rfl, (by ((with_reducible repeat' first | exact .refl _ _ | exact (HS.out _ B10).2.2.2.1 | refine .alloc ?_ ?_ _ | refine .setCell ?_ ?_ _ | refine .drew ?_ | refine below_drewN ?_ _ | refine Below.trans ?_ ((HS.out _ B10).2.2.2.1.mono ?_)) <;> first | omega | simp <;> omega))⟩
    ·skip
     have I3 : decide ((l.length : Int) < (use.length : Int)) = false := decide_eq_false (by omega)
     have kx : SnBox wr w6.heap.size ⟨use, ev, at_, l, ct⟩ (.slice ua3 use.length uc3) (.slice xa l.length xc) := ⟨⟨cX0, cX1, cX2, cX3, cX4⟩, kb.2.1, hown.row, zX⟩
     obtain ⟨gkx, hgkx⟩ : ∃ g, g = w6.heap.size := ⟨_, rfl⟩
     rw [← hgkx] at kx cX0 cX1 cX2 cX3 cX4 zX ⊢
     clear hgkx hX hown hB9 fX3 hcz
     cases hF : fitB ⟨r, f, lo, tm, ps⟩ ⟨use, ev, at_, l, ct⟩ with
     | false =>
      go_wp2_with fail
      refine (scAllowed_un r f lo tm _ ps _ use ev at_ _ l ct _ (HS.out _ B7).2.2.1.1 kx.2.1 kx.2.2.1 hF).mono ?_
      rintro e w8 ⟨rfl, b8⟩
      have B8 : Below (w.heap.size + 1) W0 w8 := B7.trans (b8.mono (HS.out _ B7).2.2.2.2)
      have tkb := kb.below b8
      clear kb
      have kb := tkb
      clear tkb
      have tkx := kx.below b8
      clear kx
      have kx := tkx
      clear tkx
      clear y0 y1 y2 y3 y4  yz yq ys b8 B7
      obtain ⟨⟨y0, y1, y2, y3, y4⟩, -, -, -, yz⟩ := HS.out w8 B8
      have yq := Nat.lt_of_succ_le yz
      have ys : w.heap.size < w8.heap.size := by omega
      clear cX0 cX1 cX2 cX3 cX4 zX
      go_wp2_with fail
      go_ret
      exact ⟨rfl, (by ((with_reducible repeat' first | exact .refl _ _ | exact (HS.out _ B8).2.2.2.1 | refine .alloc ?_ ?_ _ | refine .setCell ?_ ?_ _ | refine .drew ?_ | refine below_drewN ?_ _ | refine Below.trans ?_ ((HS.out _ B8).2.2.2.1.mono ?_)) <;> first | omega | simp <;> omega))⟩
     | true =>
      cases hA : alB ⟨r, f, lo, tm, ps⟩ ⟨use, ev, at_, l, ct⟩ with
      | false =>
       go_wp2_with fail
       refine (scAllowed_fit r f lo tm _ ps _ use ev at_ _ l ct _ (HS.out _ B7).2.2.1.1 kx.2.1 kx.2.2.1 hF).mono ?_
       rintro e w8 ⟨rfl, b8⟩
       rw [hA]
       have B8 : Below (w.heap.size + 1) W0 w8 := B7.trans (b8.mono (HS.out _ B7).2.2.2.2)
       have tkb := kb.below b8
       clear kb
       have kb := tkb
       clear tkb
       have tkx := kx.below b8
       clear kx
       have kx := tkx
       clear tkx
       clear y0 y1 y2 y3 y4  yz yq ys b8 B7
       obtain ⟨⟨y0, y1, y2, y3, y4⟩, -, -, -, yz⟩ := HS.out w8 B8
       have yq := Nat.lt_of_succ_le yz
       have ys : w.heap.size < w8.heap.size := by omega
       clear cX0 cX1 cX2 cX3 cX4 zX
       go_wp2_with fail
       go_ret
       exact ⟨rfl, (by ((with_reducible repeat' first | exact .refl _ _ | exact (HS.out _ B8).2.2.2.1 | refine .alloc ?_ ?_ _ | refine .setCell ?_ ?_ _ | refine .drew ?_ | refine below_drewN ?_ _ | refine Below.trans ?_ ((HS.out _ B8).2.2.2.1.mono ?_)) <;> first | omega | simp <;> omega))⟩
      | true =>
       obtain ⟨h1, h2, h3, -, -, -, -⟩ := al_play hF hA
       have hle := Hwd.out
       simp only at h1 h2 h3
       have hPl := fun pv uv av W q1 q2 q3 => scPlay_any r f lo tm pv ps uv use ev at_ av l ct W q1 q2 q3
       unfold PlayPost at hPl
       rw [h1] at hPl
       generalize pyHi ⟨r, f, lo, tm, ps⟩ ⟨use, ev, at_, l, ct⟩ = Y at *
       generalize pyLo ⟨r, f, lo, tm, ps⟩ ⟨use, ev, at_, l, ct⟩ = X at *
       have wi : IntKind.i64.wrap (Y - X) = Y - X := IntWalk.i64_in _ (by omega)
       have dW : decide (Y - X ≤ pm) = true := decide_eq_true (by omega)
       have HPl := hide hPl
       clear h1 h2 h3 hle hPl
       go_wp2_with fail
       refine (scAllowed_fit r f lo tm _ ps _ use ev at_ _ l ct _ (HS.out _ B7).2.2.1.1 kx.2.1 kx.2.2.1 hF).mono ?_
       rintro e w8 ⟨rfl, b8⟩
       rw [hA]
       have B8 : Below (w.heap.size + 1) W0 w8 := B7.trans (b8.mono (HS.out _ B7).2.2.2.2)
       have tkb := kb.below b8
       clear kb
       have kb := tkb
       clear tkb
       have tkx := kx.below b8
       clear kx
       have kx := tkx
       clear tkx
       clear y0 y1 y2 y3 y4  yz yq ys b8 B7
       obtain ⟨⟨y0, y1, y2, y3, y4⟩, -, -, -, yz⟩ := HS.out w8 B8
       have yq := Nat.lt_of_succ_le yz
       have ys : w.heap.size < w8.heap.size := by omega
       clear cX0 cX1 cX2 cX3 cX4 zX
       obtain ⟨⟨ckx0, ckx1, ckx2, ckx3, ckx4⟩, -, -, ckxz⟩ := id kx
       simp only at ckx1 ckx2 ckx4
       go_wp2_with fail
       refine (HPl.out _ _ _ _ (HS.out _ B8).2.2.1.1 kx.2.1 kx.2.2.1).mono ?_
       rintro e w9 ⟨rfl, b9⟩
       have B9 : Below (w.heap.size + 1) W0 w9 := B8.trans (b9.mono (HS.out _ B8).2.2.2.2)
       have tkb := kb.below b9
       clear kb
       have kb := tkb
       clear tkb
       have tkx := kx.below b9
       clear kx
       have kx := tkx
       clear tkx
       clear y0 y1 y2 y3 y4  yz yq ys b9 B8
       obtain ⟨⟨y0, y1, y2, y3, y4⟩, -, -, -, yz⟩ := HS.out w9 B9
       have yq := Nat.lt_of_succ_le yz
       have ys : w.heap.size < w9.heap.size := by omega
       clear ckx0 ckx1 ckx2 ckx3 ckx4 ckxz
       go_upto_region 21 with fail
       have ki : IvBox (w9.alloc (.cells #[.int .i64 X, .int .i64 Y] 41)) w9.heap.size X Y := IvBox.made
       have b10 : Below w9.heap.size w9 (w9.alloc (.cells #[.int .i64 X, .int .i64 Y] 41)) := (by ((with_reducible repeat' first | exact .refl _ _ | refine .alloc ?_ ?_ _ | refine .setCell ?_ ?_ _ | refine .drew ?_ | refine below_drewN ?_ _) <;> first | omega | simp <;> omega))
       have tkb := kb.below b10
       clear kb
       have kb := tkb
       clear tkb
       have tkx := kx.below b10
       clear kx
       have kx := tkx
       clear tkx
       have B10 : Below (w.heap.size + 1) W0 (w9.alloc (.cells #[.int .i64 X, .int .i64 Y] 41)) := B9.trans (b10.mono (HS.out _ B9).2.2.2.2)
       obtain ⟨gki, hgki⟩ : ∃ g, g = w9.heap.size := ⟨_, rfl⟩
       rw [← hgki] at ki ⊢
       clear hgki b10 y0 y1 y2 y3 y4  yz yq ys B9
       generalize w9.alloc (.cells #[.int .i64 X, .int .i64 Y] 41) = w10 at *
       obtain ⟨⟨y0, y1, y2, y3, y4⟩, -, -, -, yz⟩ := HS.out w10 B10
       have yq := Nat.lt_of_succ_le yz
       have ys : w.heap.size < w10.heap.size := by omega
       obtain ⟨cki0, cki1, ckiz⟩ := id ki
       go_wp2_with fail
       go_ret
       exact ⟨rfl, (by ((with_reducible repeat' first | exact .refl _ _ | exact (HS.out _ B10).2.2.2.1 | refine .alloc ?_ ?_ _ | refine .setCell ?_ ?_ _ | refine .drew ?_ | refine below_drewN ?_ _ | refine Below.trans ?_ ((HS.out _ B10).2.2.2.1.mono ?_)) <;> first | omega | simp <;> omega))⟩
set_option maxRecDepth 100000 in
theorem sceneKeeps_holds : Rows.SceneKeepsSaid :=
 OpenClaim.holds_of_wide 10 Tryz.f10 rfl rfl rfl rfl rfl rfl rfl ⟨rfl, rfl, rfl, rfl, rfl⟩ rfl rfl rfl rfl rfl (by kernel_rfl) Tryz.func10 (by kernel_rfl)
  (of_decide_eq_true (by kernel_rfl)) (by unfold Func.isWrapper; rw [if_neg (of_decide_eq_false (by kernel_rfl))]; exact ⟨rfl, rfl⟩)
  (fun os started H enc _ => law_lifted started 10 Tryz.f10 Tryz.func10 (by kernel_rfl) Rows.sceneKeepsSpec rfl rfl
   (fun ds h => by match ds, h with | [_, _, _, _, _, _], _ => exact ⟨rfl, rfl, rfl⟩)
   (fun t h => by
    rw [Tryz.params10] at h
    simp only [List.mem_cons, List.not_mem_nil, or_false] at h
    rcases h with rfl | rfl | rfl | rfl | rfl | rfl <;> exact ⟨by kernel_rfl, of_decide_eq_true (by kernel_rfl)⟩)
   (ChangeSpec.witness6 (enc := enc) (C := Tryz.checked) false ⟨#[], #[.agg #[.int .i64 0, .int .i64 0, .int .i64 0, .int .i64 0, .slice none 0 0], .slice none 0 0, .int .i64 0, .int .i64 0, .slice none 0 0, .int .i64 0], []⟩ 8 (by kernel_rfl) (by kernel_rfl) (by kernel_rfl) (by kernel_rfl))
   (fun W base args ds p hA hok => by
    rw [Tryz.params10] at hA hok
    obtain ⟨v0, vs0, d0, ds0, p0, q0, hargs, rfl, rfl, h0, r0⟩ := ChangeShapes.trodAll_cons hA
    obtain ⟨v1, vs1, d1, ds1, p1, q1, rfl, rfl, rfl, h1, r1⟩ := ChangeShapes.trodAll_cons r0
    obtain ⟨v2, vs2, d2, ds2, p2, q2, rfl, rfl, rfl, h2, r2⟩ := ChangeShapes.trodAll_cons r1
    obtain ⟨v3, vs3, d3, ds3, p3, q3, rfl, rfl, rfl, h3, r3⟩ := ChangeShapes.trodAll_cons r2
    obtain ⟨v4, vs4, d4, ds4, p4, q4, rfl, rfl, rfl, h4, r4⟩ := ChangeShapes.trodAll_cons r3
    obtain ⟨v5, vs5, d5, ds5, p5, q5, rfl, rfl, rfl, h5, r5⟩ := ChangeShapes.trodAll_cons r4
    obtain ⟨rfl, rfl, rfl⟩ := ChangeShapes.trodAll_nil r5
    obtain rfl : args = #[v0, v1, v2, v3, v4, v5] := by rw [← Array.toArray_toList (xs := args), hargs]
    obtain ⟨l0, hl0⟩ := open_site (hok 0 _ v0 rfl rfl) h0
    obtain ⟨l1, hl1, wl1⟩ := open_is (hok 1 _ v1 rfl rfl) h1
    obtain ⟨x2, rfl, hx2⟩ := open_i64 Tryz.underlying3 (hok 2 _ v2 rfl rfl) h2
    obtain ⟨x3, rfl, hx3⟩ := open_i64 Tryz.underlying3 (hok 3 _ v3 rfl rfl) h3
    obtain ⟨l4, hl4⟩ := open_ans (hok 4 _ v4 rfl rfl) h4
    obtain ⟨x5, rfl, hx5⟩ := open_i64 Tryz.underlying3 (hok 5 _ v5 rfl rfl) h5
    exact ScZKeeps_any W v0 l0 hl0 v1 l1 hl1 wl1 x2 x3 v4 l4 hl4 x5))
end Go.Proofs.YtigjljmhpkeahaaGreat
