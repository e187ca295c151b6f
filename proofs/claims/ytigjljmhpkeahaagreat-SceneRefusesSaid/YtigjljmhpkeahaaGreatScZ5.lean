
/- SceneRefuses: for all arguments the statement answers true and leaves its arguments as they were. No condition. -/
import Derived.Test.YtigjljmhpkeahaaGreatScX
import Derived.Test.YtigjljmhpkeahaaGreatScYs
namespace Go.Proofs.YtigjljmhpkeahaaGreat
open Go.RowKit

set_option maxRecDepth 100000 in
set_option maxHeartbeats 2000000 in
theorem ScZRefuses_any (w : World) (v0 : Value) (s : SiA) (hs : SiOk w v0 s) (v : Value) (pl : List Int) (hv : IsRow w v pl) (_wl : WfI pl) (pm at_ : Int) :
  Calls Tryz.prog 9 #[v0, v, .int .i64 pm, .int .i64 at_] w fun e w' => e = .returned (.bool true) ∧ Below w.heap.size w w' := by
 obtain ⟨r, f, lo, tm, pv, ps⟩ := s
 obtain ⟨rfl, hp, -, -⟩ := hs
 simp only at hp ⊢
 obtain ⟨pa, pc, rfl, -, -⟩ := hp.len
 obtain ⟨va, vc, rfl, -, -, -⟩ := id hv
 obtain ⟨W0, hW0⟩ : ∃ W : World, W = w.alloc (.cells #[.int .i64 r, .int .i64 f, .int .i64 lo, .int .i64 tm, .slice pa ps.length pc] 24) := ⟨_, rfl⟩
 have hS : ∀ V : World, Below (w.heap.size + 1) W0 V → (V.cell? ⟨w.heap.size, 0, none⟩ = some (.int .i64 r) ∧ V.cell? ⟨w.heap.size, 1, none⟩ = some (.int .i64 f) ∧ V.cell? ⟨w.heap.size, 2, none⟩ = some (.int .i64 lo) ∧ V.cell? ⟨w.heap.size, 3, none⟩ = some (.int .i64 tm) ∧ V.cell? ⟨w.heap.size, 4, none⟩ = some (.slice pa ps.length pc)) ∧ True ∧ (PrRow V (.slice pa ps.length pc) ps ∧ IsRow V (.slice va pl.length vc) pl) ∧ Below w.heap.size w V ∧ w.heap.size + 1 ≤ V.heap.size := by
  intro V hV
  have bW : Below w.heap.size w W0 := by rw [hW0]; ((with_reducible repeat' first | exact .refl _ _ | refine .alloc ?_ ?_ _ | refine .setCell ?_ ?_ _ | refine .drew ?_ | refine below_drewN ?_ _) <;> first | omega | simp <;> omega)
  have zW : W0.heap.size = w.heap.size + 1 := by rw [hW0]; simp
  have hb := bW.trans (hV.mono (by omega))
  have h0 := (bk hV w.heap.size (by omega)).1
  exact ⟨⟨(h0 0).trans (by rw [hW0]; simp [go_sem]), (h0 1).trans (by rw [hW0]; simp [go_sem]), (h0 2).trans (by rw [hW0]; simp [go_sem]), (h0 3).trans (by rw [hW0]; simp [go_sem]), (h0 4).trans (by rw [hW0]; simp [go_sem])⟩, trivial, ⟨hp.below (Nat.le_refl _) hb, hv.below (Nat.le_refl _) hb⟩, hb, by have := hV.size; omega⟩
 have HS := hide hS
 clear hS hp hv
 by_cases h7 : (7 : Int) < ps.length
 ·have d7 : decide ((7 : Int) < ps.length) = true := decide_eq_true h7
  clear h7
  go_enter Tryz.func9, Tryz.ntmps9
  go_upto_region 1 with fail
  rw [← hW0]
  clear hW0
  have B0 : Below (w.heap.size + 1) W0 W0 := Below.refl _ _
  obtain ⟨⟨y0, y1, y2, y3, y4⟩, -, -, -, yz⟩ := HS.out W0 B0
  have yq := Nat.lt_of_succ_le yz
  have ys : w.heap.size < W0.heap.size := by omega
  go_wp2_with fail
  refine (scHead_any _).mono ?_
  rintro e w1 ⟨rfl, b1⟩
  have B1 : Below (w.heap.size + 1) W0 w1 := B0.trans (b1.mono (HS.out _ B0).2.2.2.2)
  clear y0 y1 y2 y3 y4  yz yq ys b1 B0
  obtain ⟨⟨y0, y1, y2, y3, y4⟩, -, -, -, yz⟩ := HS.out w1 B1
  have yq := Nat.lt_of_succ_le yz
  have ys : w.heap.size < w1.heap.size := by omega
  go_wp2_with fail
  go_ret
  exact ⟨rfl, (by ((with_reducible repeat' first | exact .refl _ _ | exact (HS.out _ B1).2.2.2.1 | refine .alloc ?_ ?_ _ | refine .setCell ?_ ?_ _ | refine .drew ?_ | refine below_drewN ?_ _ | refine Below.trans ?_ ((HS.out _ B1).2.2.2.1.mono ?_)) <;> first | omega | simp <;> omega))⟩
 by_cases h4 : (4 : Int) < pl.length
 ·have d7 : decide ((7 : Int) < ps.length) = false := decide_eq_false h7
  have d4 : decide ((4 : Int) < pl.length) = true := decide_eq_true h4
  clear h7 h4
  go_enter Tryz.func9, Tryz.ntmps9
  go_upto_region 1 with fail
  rw [← hW0]
  clear hW0
  have B0 : Below (w.heap.size + 1) W0 W0 := Below.refl _ _
  obtain ⟨⟨y0, y1, y2, y3, y4⟩, -, -, -, yz⟩ := HS.out W0 B0
  have yq := Nat.lt_of_succ_le yz
  have ys : w.heap.size < W0.heap.size := by omega
  go_wp2_with fail
  refine (scHead_any _).mono ?_
  rintro e w1 ⟨rfl, b1⟩
  have B1 : Below (w.heap.size + 1) W0 w1 := B0.trans (b1.mono (HS.out _ B0).2.2.2.2)
  clear y0 y1 y2 y3 y4  yz yq ys b1 B0
  obtain ⟨⟨y0, y1, y2, y3, y4⟩, -, -, -, yz⟩ := HS.out w1 B1
  have yq := Nat.lt_of_succ_le yz
  have ys : w.heap.size < w1.heap.size := by omega
  go_wp2_with fail
  go_ret
  exact ⟨rfl, (by ((with_reducible repeat' first | exact .refl _ _ | exact (HS.out _ B1).2.2.2.1 | refine .alloc ?_ ?_ _ | refine .setCell ?_ ?_ _ | refine .drew ?_ | refine below_drewN ?_ _ | refine Below.trans ?_ ((HS.out _ B1).2.2.2.1.mono ?_)) <;> first | omega | simp <;> omega))⟩
 have d7 : decide ((7 : Int) < ps.length) = false := decide_eq_false h7
 have d4 : decide ((4 : Int) < pl.length) = false := decide_eq_false h4
 have hpl4 : pl.length ≤ 4 := by omega
 clear h7 h4
 cases hR : rfB ⟨r, f, lo, tm, ps⟩ pl pm at_ with
 | false =>
  by_cases hE0 : rfEr ⟨r, f, lo, tm, ps⟩ pl pm at_ = 0
  ·have dE : (rfEr ⟨r, f, lo, tm, ps⟩ pl pm at_ != 0) = false := by rw [hE0]; rfl
   go_enter Tryz.func9, Tryz.ntmps9
   go_upto_region 1 with fail
   rw [← hW0]
   clear hW0
   have B0 : Below (w.heap.size + 1) W0 W0 := Below.refl _ _
   obtain ⟨⟨y0, y1, y2, y3, y4⟩, -, -, -, yz⟩ := HS.out W0 B0
   have yq := Nat.lt_of_succ_le yz
   have ys : w.heap.size < W0.heap.size := by omega
   go_wp2_with fail
   refine (scHead_any _).mono ?_
   rintro e w1 ⟨rfl, b1⟩
   have B1 : Below (w.heap.size + 1) W0 w1 := B0.trans (b1.mono (HS.out _ B0).2.2.2.2)
   clear y0 y1 y2 y3 y4  yz yq ys b1 B0
   obtain ⟨⟨y0, y1, y2, y3, y4⟩, -, -, -, yz⟩ := HS.out w1 B1
   have yq := Nat.lt_of_succ_le yz
   have ys : w.heap.size < w1.heap.size := by omega
   go_wp2_with fail
   refine (scRefuse_no r f lo tm _ ps _ pl pm at_ _ (HS.out _ B1).2.2.1.1 (HS.out _ B1).2.2.1.2 hR).mono ?_
   rintro e w2 ⟨ua2, uc2, aa2, ac2, rfl, hu2, ha2, b2⟩
   have B2 : Below (w.heap.size + 1) W0 w2 := B1.trans (b2.mono (HS.out _ B1).2.2.2.2)
   clear y0 y1 y2 y3 y4  yz yq ys b2 B1
   obtain ⟨⟨y0, y1, y2, y3, y4⟩, -, -, -, yz⟩ := HS.out w2 B2
   have yq := Nat.lt_of_succ_le yz
   have ys : w.heap.size < w2.heap.size := by omega
   go_upto_region 5 with fail
   have kx : SnBox (w2.alloc (.cells #[.slice ua2 0 uc2, .int .i64 0, .int .i64 0, .slice aa2 0 ac2, .int .i64 0] 30)) w2.heap.size sc0 (.slice ua2 0 uc2) (.slice aa2 0 ac2) := SnBox.made (x := sc0) hu2 ha2
   have b3 : Below w2.heap.size w2 (w2.alloc (.cells #[.slice ua2 0 uc2, .int .i64 0, .int .i64 0, .slice aa2 0 ac2, .int .i64 0] 30)) := (by ((with_reducible repeat' first | exact .refl _ _ | refine .alloc ?_ ?_ _ | refine .setCell ?_ ?_ _ | refine .drew ?_ | refine below_drewN ?_ _) <;> first | omega | simp <;> omega))
   have B3 : Below (w.heap.size + 1) W0 (w2.alloc (.cells #[.slice ua2 0 uc2, .int .i64 0, .int .i64 0, .slice aa2 0 ac2, .int .i64 0] 30)) := B2.trans (b3.mono (HS.out _ B2).2.2.2.2)
   obtain ⟨gkx, hgkx⟩ : ∃ g, g = w2.heap.size := ⟨_, rfl⟩
   rw [← hgkx] at kx ⊢
   clear hgkx b3 y0 y1 y2 y3 y4  yz yq ys B2
   generalize w2.alloc (.cells #[.slice ua2 0 uc2, .int .i64 0, .int .i64 0, .slice aa2 0 ac2, .int .i64 0] 30) = w3 at *
   obtain ⟨⟨y0, y1, y2, y3, y4⟩, -, -, -, yz⟩ := HS.out w3 B3
   have yq := Nat.lt_of_succ_le yz
   have ys : w.heap.size < w3.heap.size := by omega
   obtain ⟨⟨ckx0, ckx1, ckx2, ckx3, ckx4⟩, -, -, ckxz⟩ := id kx
   simp only [sc0] at ckx1 ckx2 ckx4
   clear hE0
   go_wp2_with fail
   go_ret
   exact ⟨rfl, (by ((with_reducible repeat' first | exact .refl _ _ | exact (HS.out _ B3).2.2.2.1 | refine .alloc ?_ ?_ _ | refine .setCell ?_ ?_ _ | refine .drew ?_ | refine below_drewN ?_ _ | refine Below.trans ?_ ((HS.out _ B3).2.2.2.1.mono ?_)) <;> first | omega | simp <;> omega))⟩
  ·have dE : (rfEr ⟨r, f, lo, tm, ps⟩ pl pm at_ != 0) = true := by rw [bne_iff_ne]; exact hE0
   go_enter Tryz.func9, Tryz.ntmps9
   go_upto_region 1 with fail
   rw [← hW0]
   clear hW0
   have B0 : Below (w.heap.size + 1) W0 W0 := Below.refl _ _
   obtain ⟨⟨y0, y1, y2, y3, y4⟩, -, -, -, yz⟩ := HS.out W0 B0
   have yq := Nat.lt_of_succ_le yz
   have ys : w.heap.size < W0.heap.size := by omega
   go_wp2_with fail
   refine (scHead_any _).mono ?_
   rintro e w1 ⟨rfl, b1⟩
   have B1 : Below (w.heap.size + 1) W0 w1 := B0.trans (b1.mono (HS.out _ B0).2.2.2.2)
   clear y0 y1 y2 y3 y4  yz yq ys b1 B0
   obtain ⟨⟨y0, y1, y2, y3, y4⟩, -, -, -, yz⟩ := HS.out w1 B1
   have yq := Nat.lt_of_succ_le yz
   have ys : w.heap.size < w1.heap.size := by omega
   go_wp2_with fail
   refine (scRefuse_no r f lo tm _ ps _ pl pm at_ _ (HS.out _ B1).2.2.1.1 (HS.out _ B1).2.2.1.2 hR).mono ?_
   rintro e w2 ⟨ua2, uc2, aa2, ac2, rfl, hu2, ha2, b2⟩
   have B2 : Below (w.heap.size + 1) W0 w2 := B1.trans (b2.mono (HS.out _ B1).2.2.2.2)
   clear y0 y1 y2 y3 y4  yz yq ys b2 B1
   obtain ⟨⟨y0, y1, y2, y3, y4⟩, -, -, -, yz⟩ := HS.out w2 B2
   have yq := Nat.lt_of_succ_le yz
   have ys : w.heap.size < w2.heap.size := by omega
   go_upto_region 5 with fail
   have kx : SnBox (w2.alloc (.cells #[.slice ua2 0 uc2, .int .i64 0, .int .i64 0, .slice aa2 0 ac2, .int .i64 0] 30)) w2.heap.size sc0 (.slice ua2 0 uc2) (.slice aa2 0 ac2) := SnBox.made (x := sc0) hu2 ha2
   have b3 : Below w2.heap.size w2 (w2.alloc (.cells #[.slice ua2 0 uc2, .int .i64 0, .int .i64 0, .slice aa2 0 ac2, .int .i64 0] 30)) := (by ((with_reducible repeat' first | exact .refl _ _ | refine .alloc ?_ ?_ _ | refine .setCell ?_ ?_ _ | refine .drew ?_ | refine below_drewN ?_ _) <;> first | omega | simp <;> omega))
   have B3 : Below (w.heap.size + 1) W0 (w2.alloc (.cells #[.slice ua2 0 uc2, .int .i64 0, .int .i64 0, .slice aa2 0 ac2, .int .i64 0] 30)) := B2.trans (b3.mono (HS.out _ B2).2.2.2.2)
   obtain ⟨gkx, hgkx⟩ : ∃ g, g = w2.heap.size := ⟨_, rfl⟩
   rw [← hgkx] at kx ⊢
   clear hgkx b3 y0 y1 y2 y3 y4  yz yq ys B2
   generalize w2.alloc (.cells #[.slice ua2 0 uc2, .int .i64 0, .int .i64 0, .slice aa2 0 ac2, .int .i64 0] 30) = w3 at *
   obtain ⟨⟨y0, y1, y2, y3, y4⟩, -, -, -, yz⟩ := HS.out w3 B3
   have yq := Nat.lt_of_succ_le yz
   have ys : w.heap.size < w3.heap.size := by omega
   obtain ⟨⟨ckx0, ckx1, ckx2, ckx3, ckx4⟩, -, -, ckxz⟩ := id kx
   simp only [sc0] at ckx1 ckx2 ckx4
   clear hE0
   go_wp2_with fail
   go_ret
   exact ⟨rfl, (by ((with_reducible repeat' first | exact .refl _ _ | exact (HS.out _ B3).2.2.2.1 | refine .alloc ?_ ?_ _ | refine .setCell ?_ ?_ _ | refine .drew ?_ | refine below_drewN ?_ _ | refine Below.trans ?_ ((HS.out _ B3).2.2.2.1.mono ?_)) <;> first | omega | simp <;> omega))⟩
 | true =>
  obtain ⟨use, ev, hE, hs, hrg, hin, hlt, hB, hbE, hpm, hfE⟩ := rf_yes hR
  simp only at hs
  obtain ⟨h1, h2, h3, -, h5⟩ := ws_width hE
  obtain ⟨hf, ha⟩ := ws_allowed hE
  have hpi := perIn_mem hin
  rw [wsS_eq hE] at h1 h2 h5 hf ha
  simp only at h1 h2 h5 hf ha
  have wi : IntKind.i64.wrap (pyHi ⟨r, f, lo, tm, ps⟩ ⟨use, ev, at_, wsL ⟨r, f, lo, tm, ps⟩ use at_, ev + tm⟩ - pyLo ⟨r, f, lo, tm, ps⟩ ⟨use, ev, at_, wsL ⟨r, f, lo, tm, ps⟩ use at_, ev + tm⟩) = pyHi ⟨r, f, lo, tm, ps⟩ ⟨use, ev, at_, wsL ⟨r, f, lo, tm, ps⟩ use at_, ev + tm⟩ - pyLo ⟨r, f, lo, tm, ps⟩ ⟨use, ev, at_, wsL ⟨r, f, lo, tm, ps⟩ use at_, ev + tm⟩ := IntWalk.i64_in _ (by omega)
  have hPl := fun pv uv av W q1 q2 q3 => scPlay_any r f lo tm pv ps uv use ev at_ av (wsL ⟨r, f, lo, tm, ps⟩ use at_) (ev + tm) W q1 q2 q3
  unfold PlayPost at hPl
  rw [h1] at hPl
  have h6 : pyHi ⟨r, f, lo, tm, ps⟩ ⟨use, ev, at_, wsL ⟨r, f, lo, tm, ps⟩ use at_, ev + tm⟩ = 3000000000000000 ∨ pm < pyHi ⟨r, f, lo, tm, ps⟩ ⟨use, ev, at_, wsL ⟨r, f, lo, tm, ps⟩ use at_, ev + tm⟩ - pyLo ⟨r, f, lo, tm, ps⟩ ⟨use, ev, at_, wsL ⟨r, f, lo, tm, ps⟩ use at_, ev + tm⟩ := by
   rcases h2 with h | h
   ·exact .inl h
   ·exact .inr (by omega)
  generalize pyHi ⟨r, f, lo, tm, ps⟩ ⟨use, ev, at_, wsL ⟨r, f, lo, tm, ps⟩ use at_, ev + tm⟩ = Y at *
  generalize pyLo ⟨r, f, lo, tm, ps⟩ ⟨use, ev, at_, wsL ⟨r, f, lo, tm, ps⟩ use at_, ev + tm⟩ = X at *
  have HPl := hide hPl
  have Hpi := hide hpi
  have Hrg := hide hrg
  have H6 := hide h6
  clear hE hrg hin hlt hpm h1 h2 h3 h5 h6 hPl hpi
  go_enter Tryz.func9, Tryz.ntmps9
  go_upto_region 1 with fail
  rw [← hW0]
  clear hW0
  have B0 : Below (w.heap.size + 1) W0 W0 := Below.refl _ _
  obtain ⟨⟨y0, y1, y2, y3, y4⟩, -, -, -, yz⟩ := HS.out W0 B0
  have yq := Nat.lt_of_succ_le yz
  have ys : w.heap.size < W0.heap.size := by omega
  go_wp2_with fail
  refine (scHead_any _).mono ?_
  rintro e w1 ⟨rfl, b1⟩
  have B1 : Below (w.heap.size + 1) W0 w1 := B0.trans (b1.mono (HS.out _ B0).2.2.2.2)
  clear y0 y1 y2 y3 y4  yz yq ys b1 B0
  obtain ⟨⟨y0, y1, y2, y3, y4⟩, -, -, -, yz⟩ := HS.out w1 B1
  have yq := Nat.lt_of_succ_le yz
  have ys : w.heap.size < w1.heap.size := by omega
  go_wp2_with fail
  refine (scRefuse_yes r f lo tm _ ps _ pl pm at_ use ev _ (HS.out _ B1).2.2.1.1 (HS.out _ B1).2.2.1.2 hR hs hfE).mono ?_
  rintro e w2 ⟨ua2, uc2, aa2, ac2, rfl, hu2, ha2, b2⟩
  have B2 : Below (w.heap.size + 1) W0 w2 := B1.trans (b2.mono (HS.out _ B1).2.2.2.2)
  clear y0 y1 y2 y3 y4  yz yq ys b2 B1
  obtain ⟨⟨y0, y1, y2, y3, y4⟩, -, -, -, yz⟩ := HS.out w2 B2
  have yq := Nat.lt_of_succ_le yz
  have ys : w.heap.size < w2.heap.size := by omega
  go_upto_region 5 with fail
  have kx : SnBox (w2.alloc (.cells #[.slice ua2 use.length uc2, .int .i64 ev, .int .i64 at_, .slice aa2 use.length ac2, .int .i64 (ev + tm)] 30)) w2.heap.size ⟨use, ev, at_, wsL ⟨r, f, lo, tm, ps⟩ use at_, ev + tm⟩ (.slice ua2 use.length uc2) (.slice aa2 use.length ac2) := SnBox.made (x := ⟨use, ev, at_, wsL ⟨r, f, lo, tm, ps⟩ use at_, ev + tm⟩) hu2 ha2
  have b3 : Below w2.heap.size w2 (w2.alloc (.cells #[.slice ua2 use.length uc2, .int .i64 ev, .int .i64 at_, .slice aa2 use.length ac2, .int .i64 (ev + tm)] 30)) := (by ((with_reducible repeat' first | exact .refl _ _ | refine .alloc ?_ ?_ _ | refine .setCell ?_ ?_ _ | refine .drew ?_ | refine below_drewN ?_ _) <;> first | omega | simp <;> omega))
  have B3 : Below (w.heap.size + 1) W0 (w2.alloc (.cells #[.slice ua2 use.length uc2, .int .i64 ev, .int .i64 at_, .slice aa2 use.length ac2, .int .i64 (ev + tm)] 30)) := B2.trans (b3.mono (HS.out _ B2).2.2.2.2)
  obtain ⟨gkx, hgkx⟩ : ∃ g, g = w2.heap.size := ⟨_, rfl⟩
  rw [← hgkx] at kx ⊢
  clear hgkx b3 y0 y1 y2 y3 y4  yz yq ys B2
  generalize w2.alloc (.cells #[.slice ua2 use.length uc2, .int .i64 ev, .int .i64 at_, .slice aa2 use.length ac2, .int .i64 (ev + tm)] 30) = w3 at *
  obtain ⟨⟨y0, y1, y2, y3, y4⟩, -, -, -, yz⟩ := HS.out w3 B3
  have yq := Nat.lt_of_succ_le yz
  have ys : w.heap.size < w3.heap.size := by omega
  go_wp2_with fail
  refine (plB_any r f lo tm _ ps _ pl pm _ (HS.out _ B3).2.2.1.1 (HS.out _ B3).2.2.1.2).mono ?_
  rintro e w4 ⟨uv3, rfl, hu3, -, b4⟩
  rw [hbE, hB]
  have B4 : Below (w.heap.size + 1) W0 w4 := B3.trans (b4.mono (HS.out _ B3).2.2.2.2)
  have tkx := kx.below b4
  clear kx
  have kx := tkx
  clear tkx
  clear y0 y1 y2 y3 y4  yz yq ys b4 B3
  obtain ⟨⟨y0, y1, y2, y3, y4⟩, -, -, -, yz⟩ := HS.out w4 B4
  have yq := Nat.lt_of_succ_le yz
  have ys : w.heap.size < w4.heap.size := by omega
  rw [hB] at hu3
  simp only [accO, Option.getD_none, of0, Option.isSome_none] at hu3 ⊢
  obtain ⟨ua3, uc3, rfl, -⟩ := id hu3
  simp only [List.length_nil] at hu3 ⊢
  go_upto_region 8 with fail
  have kb : SdBox (w4.alloc (.cells #[.slice ua3 0 uc3, .int .i64 0] 27)) w4.heap.size (.slice ua3 0 uc3) [] 0 := SdBox.made hu3
  have b5 : Below w4.heap.size w4 (w4.alloc (.cells #[.slice ua3 0 uc3, .int .i64 0] 27)) := (by ((with_reducible repeat' first | exact .refl _ _ | refine .alloc ?_ ?_ _ | refine .setCell ?_ ?_ _ | refine .drew ?_ | refine below_drewN ?_ _) <;> first | omega | simp <;> omega))
  have tkx := kx.below b5
  clear kx
  have kx := tkx
  clear tkx
  have B5 : Below (w.heap.size + 1) W0 (w4.alloc (.cells #[.slice ua3 0 uc3, .int .i64 0] 27)) := B4.trans (b5.mono (HS.out _ B4).2.2.2.2)
  obtain ⟨gkb, hgkb⟩ : ∃ g, g = w4.heap.size := ⟨_, rfl⟩
  rw [← hgkb] at kb ⊢
  clear hgkb b5 y0 y1 y2 y3 y4  yz yq ys B4
  generalize w4.alloc (.cells #[.slice ua3 0 uc3, .int .i64 0] 27) = w5 at *
  obtain ⟨⟨y0, y1, y2, y3, y4⟩, -, -, -, yz⟩ := HS.out w5 B5
  have yq := Nat.lt_of_succ_le yz
  have ys : w.heap.size < w5.heap.size := by omega
  obtain ⟨⟨ckx0, ckx1, ckx2, ckx3, ckx4⟩, -, -, ckxz⟩ := id kx
  simp only at ckx1 ckx2 ckx4
  go_wp2_with fail
  refine (scAllowed_fit r f lo tm _ ps _ use ev at_ _ _ (ev + tm) _ (HS.out _ B5).2.2.1.1 kx.2.1 kx.2.2.1 hf).mono ?_
  rintro e w6 ⟨rfl, b6⟩
  rw [ha]
  have B6 : Below (w.heap.size + 1) W0 w6 := B5.trans (b6.mono (HS.out _ B5).2.2.2.2)
  have tkx := kx.below b6
  clear kx
  have kx := tkx
  clear tkx
  have tkb := kb.below b6
  clear kb
  have kb := tkb
  clear tkb
  clear y0 y1 y2 y3 y4  yz yq ys b6 B5
  obtain ⟨⟨y0, y1, y2, y3, y4⟩, -, -, -, yz⟩ := HS.out w6 B6
  have yq := Nat.lt_of_succ_le yz
  have ys : w.heap.size < w6.heap.size := by omega
  clear ckx0 ckx1 ckx2 ckx3 ckx4 ckxz
  obtain ⟨⟨ckx0, ckx1, ckx2, ckx3, ckx4⟩, -, -, ckxz⟩ := id kx
  simp only at ckx1 ckx2 ckx4
  go_wp2_with fail
  refine (HPl.out _ _ _ _ (HS.out _ B6).2.2.1.1 kx.2.1 kx.2.2.1).mono ?_
  rintro e w7 ⟨rfl, b7⟩
  have B7 : Below (w.heap.size + 1) W0 w7 := B6.trans (b7.mono (HS.out _ B6).2.2.2.2)
  have tkx := kx.below b7
  clear kx
  have kx := tkx
  clear tkx
  have tkb := kb.below b7
  clear kb
  have kb := tkb
  clear tkb
  clear y0 y1 y2 y3 y4  yz yq ys b7 B6
  obtain ⟨⟨y0, y1, y2, y3, y4⟩, -, -, -, yz⟩ := HS.out w7 B7
  have yq := Nat.lt_of_succ_le yz
  have ys : w.heap.size < w7.heap.size := by omega
  clear ckx0 ckx1 ckx2 ckx3 ckx4 ckxz
  go_upto_region 10 with fail
  have ki : IvBox (w7.alloc (.cells #[.int .i64 X, .int .i64 Y] 41)) w7.heap.size X Y := IvBox.made
  have b8 : Below w7.heap.size w7 (w7.alloc (.cells #[.int .i64 X, .int .i64 Y] 41)) := (by ((with_reducible repeat' first | exact .refl _ _ | refine .alloc ?_ ?_ _ | refine .setCell ?_ ?_ _ | refine .drew ?_ | refine below_drewN ?_ _) <;> first | omega | simp <;> omega))
  have tkx := kx.below b8
  clear kx
  have kx := tkx
  clear tkx
  have tkb := kb.below b8
  clear kb
  have kb := tkb
  clear tkb
  have B8 : Below (w.heap.size + 1) W0 (w7.alloc (.cells #[.int .i64 X, .int .i64 Y] 41)) := B7.trans (b8.mono (HS.out _ B7).2.2.2.2)
  obtain ⟨gki, hgki⟩ : ∃ g, g = w7.heap.size := ⟨_, rfl⟩
  rw [← hgki] at ki ⊢
  clear hgki b8 y0 y1 y2 y3 y4  yz yq ys B7
  generalize w7.alloc (.cells #[.int .i64 X, .int .i64 Y] 41) = w8 at *
  obtain ⟨⟨y0, y1, y2, y3, y4⟩, -, -, -, yz⟩ := HS.out w8 B8
  have yq := Nat.lt_of_succ_le yz
  have ys : w.heap.size < w8.heap.size := by omega
  go_wp2_with fail
  go_loopw [20, 21] (fun s20 s21 wr => ∃ k : Nat, k ≤ pl.length ∧ s21 = .int .i64 k ∧ s20 = .bool (perIn pl ev k) ∧ Below w8.heap.size w8 wr) (fun _ s21 _ => pl.length - (intOf s21).toNat)
  case atStart => exact ⟨0, Nat.zero_le _, rfl, rfl, Below.refl _ _⟩
  case round =>
   obtain ⟨k, hk, rfl, rfl, hB9⟩ := hrel
   clear y0 y1 y2 y3 y4  yz yq ys
   have B9 : Below (w.heap.size + 1) W0 wr := B8.trans (hB9.mono (HS.out _ B8).2.2.2.2)
   have tkx := kx.below hB9
   clear kx
   have kx := tkx
   clear tkx
   have tkb := kb.below hB9
   clear kb
   have kb := tkb
   clear tkb
   have tki := ki.below hB9
   clear ki
   have ki := tki
   clear tki
   obtain ⟨⟨y0, y1, y2, y3, y4⟩, -, -, -, yz⟩ := HS.out wr B9
   have yq := Nat.lt_of_succ_le yz
   have ys : w.heap.size < wr.heap.size := by omega
   obtain ⟨⟨ckx0, ckx1, ckx2, ckx3, ckx4⟩, -, -, ckxz⟩ := id kx
   simp only at ckx1 ckx2 ckx4
   by_cases hlk : k < pl.length
   ·skip
    obtain ⟨va', vc', hve, -, -, g3⟩ := id (HS.out _ B9).2.2.1.2
    obtain ⟨rfl, -, rfl⟩ : va = va' ∧ True ∧ vc = vc' := by cases hve; exact ⟨rfl, trivial, rfl⟩
    obtain ⟨b, off, rfl, g4, g5⟩ := g3 k hlk
    have hst : perIn pl ev (k + 1) = (perIn pl ev k || (iAt pl k == ev)) := rfl
    have Hst := hide hst
    clear hve g3 hst
    generalize iAt pl k = q at *
    have I1 : (0 : Int) ≤ (k : Int) := by omega
    have I2 : (k : Int) < (pl.length : Int) := by omega
    cases hP : perIn pl ev k with
    | true =>
     rw [hP] at Hst
     go_wp2_with fail
     go_quiet (fail)
     go_wp2_with fail
     go_roundw
     case rel => exact ⟨k + 1, by omega, by go_num, by rw [Hst.out]; simp, by first | exact hB9 | exact below_drewN hB9 _⟩
     case measure => simp [intOf]; omega
    | false =>
     rw [hP] at Hst
     go_wp2_with fail
     go_quiet (fail)
     go_wp2_with fail
     go_roundw
     case rel => exact ⟨k + 1, by omega, by go_num, by rw [Hst.out]; simp, by first | exact hB9 | exact below_drewN hB9 _⟩
     case measure => simp [intOf]; omega
   ·skip
    obtain rfl : k = pl.length := by omega
    have hpe := Hpi.out
    rw [hpe]
    clear hpe
    obtain ⟨cki0, cki1, ckiz⟩ := id ki
    go_wp2_with fail
    refine (wdRight_any r f lo tm _ ps _ use ev _ (HS.out _ B9).2.2.1.1 kx.2.1).mono ?_
    rintro e w10 ⟨rfl, b10⟩
    rw [Hrg.out]
    have B10 : Below (w.heap.size + 1) W0 w10 := B9.trans (b10.mono (HS.out _ B9).2.2.2.2)
    have tkx := kx.below b10
    clear kx
    have kx := tkx
    clear tkx
    have tkb := kb.below b10
    clear kb
    have kb := tkb
    clear tkb
    have tki := ki.below b10
    clear ki
    have ki := tki
    clear tki
    clear y0 y1 y2 y3 y4  yz yq ys b10 B9
    obtain ⟨⟨y0, y1, y2, y3, y4⟩, -, -, -, yz⟩ := HS.out w10 B10
    have yq := Nat.lt_of_succ_le yz
    have ys : w.heap.size < w10.heap.size := by omega
    clear cki0 cki1 ckiz
    obtain ⟨cki0, cki1, ckiz⟩ := id ki
    by_cases hY : Y = 3000000000000000
    ·subst hY
     go_wp2_with fail
     go_ret
     exact ⟨rfl, (by ((with_reducible repeat' first | exact .refl _ _ | exact (HS.out _ B10).2.2.2.1 | refine .alloc ?_ ?_ _ | refine .setCell ?_ ?_ _ | refine .drew ?_ | refine below_drewN ?_ _ | refine Below.trans ?_ ((HS.out _ B10).2.2.2.1.mono ?_)) <;> first | omega | simp <;> omega))⟩
    ·have dY : (Y == 3000000000000000) = false := by rw [beq_eq_false_iff_ne]; exact hY
     have dW : decide (pm < Y - X) = true := decide_eq_true (by have := H6.out; omega)
     clear hY
     go_wp2_with fail
     go_ret
     exact ⟨rfl, (by ((with_reducible repeat' first | exact .refl _ _ | exact (HS.out _ B10).2.2.2.1 | refine .alloc ?_ ?_ _ | refine .setCell ?_ ?_ _ | refine .drew ?_ | refine below_drewN ?_ _ | refine Below.trans ?_ ((HS.out _ B10).2.2.2.1.mono ?_)) <;> first | omega | simp <;> omega))⟩
set_option maxRecDepth 100000 in
theorem sceneRefuses_holds : Rows.SceneRefusesSaid :=
 OpenClaim.holds_of_wide 9 Tryz.f9 rfl rfl rfl rfl rfl rfl rfl ⟨rfl, rfl, rfl, rfl, rfl⟩ rfl rfl rfl rfl rfl (by kernel_rfl) Tryz.func9 (by kernel_rfl)
  (of_decide_eq_true (by kernel_rfl)) (by unfold Func.isWrapper; rw [if_neg (of_decide_eq_false (by kernel_rfl))]; exact ⟨rfl, rfl⟩)
  (fun os started H enc _ => law_lifted started 9 Tryz.f9 Tryz.func9 (by kernel_rfl) Rows.sceneRefusesSpec rfl rfl
   (fun ds h => by match ds, h with | [_, _, _, _], _ => exact ⟨rfl, rfl, rfl⟩)
   (fun t h => by
    rw [Tryz.params9] at h
    simp only [List.mem_cons, List.not_mem_nil, or_false] at h
    rcases h with rfl | rfl | rfl | rfl <;> exact ⟨by kernel_rfl, of_decide_eq_true (by kernel_rfl)⟩)
   (ChangeSpec.witness6 (enc := enc) (C := Tryz.checked) false ⟨#[], #[.agg #[.int .i64 0, .int .i64 0, .int .i64 0, .int .i64 0, .slice none 0 0], .slice none 0 0, .int .i64 0, .int .i64 0], []⟩ 8 (by kernel_rfl) (by kernel_rfl) (by kernel_rfl) (by kernel_rfl))
   (fun W base args ds p hA hok => by
    rw [Tryz.params9] at hA hok
    obtain ⟨v0, vs0, d0, ds0, p0, q0, hargs, rfl, rfl, h0, r0⟩ := ChangeShapes.trodAll_cons hA
    obtain ⟨v1, vs1, d1, ds1, p1, q1, rfl, rfl, rfl, h1, r1⟩ := ChangeShapes.trodAll_cons r0
    obtain ⟨v2, vs2, d2, ds2, p2, q2, rfl, rfl, rfl, h2, r2⟩ := ChangeShapes.trodAll_cons r1
    obtain ⟨v3, vs3, d3, ds3, p3, q3, rfl, rfl, rfl, h3, r3⟩ := ChangeShapes.trodAll_cons r2
    obtain ⟨rfl, rfl, rfl⟩ := ChangeShapes.trodAll_nil r3
    obtain rfl : args = #[v0, v1, v2, v3] := by rw [← Array.toArray_toList (xs := args), hargs]
    obtain ⟨l0, hl0⟩ := open_site (hok 0 _ v0 rfl rfl) h0
    obtain ⟨l1, hl1, wl1⟩ := open_is (hok 1 _ v1 rfl rfl) h1
    obtain ⟨x2, rfl, hx2⟩ := open_i64 Tryz.underlying3 (hok 2 _ v2 rfl rfl) h2
    obtain ⟨x3, rfl, hx3⟩ := open_i64 Tryz.underlying3 (hok 3 _ v3 rfl rfl) h3
    exact ScZRefuses_any W v0 l0 hl0 v1 l1 hl1 wl1 x2 x3))
end Go.Proofs.YtigjljmhpkeahaaGreat
