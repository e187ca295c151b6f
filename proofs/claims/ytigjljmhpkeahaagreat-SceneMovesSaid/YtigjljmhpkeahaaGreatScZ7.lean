
/- SceneMoves: for all arguments the statement answers true and leaves its arguments as they were. No condition. -/
import Derived.Test.YtigjljmhpkeahaaGreatScX
import Derived.Test.YtigjljmhpkeahaaGreatScYm
import Derived.Test.YtigjljmhpkeahaaGreatScU
namespace Go.Proofs.YtigjljmhpkeahaaGreat
open Go.RowKit

attribute [local go_sem ↓] run_eql_iv run_neq_iv
set_option maxRecDepth 100000 in
set_option maxHeartbeats 2000000 in
theorem ScZMoves_any (w : World) (v0 : Value) (s : SiA) (hs : SiOk w v0 s) (v1 : Value) (c : ScA) (hc : ScOk w v1 c) (at_ : Int) (d : Int) (hd : 0 ≤ d ∧ d ≤ 4294967295) :
  Calls Tryz.prog 7 #[v0, v1, .int .i64 at_, .int .u32 d] w fun e w' => e = .returned (.bool true) ∧ Below w.heap.size w w' := by
 obtain ⟨r, f, lo, tm, pv, ps⟩ := s
 obtain ⟨rfl, hp, -, -⟩ := hs
 simp only at hp ⊢
 obtain ⟨pa, pc, rfl, -, -⟩ := hp.len
 obtain ⟨uv, use, ev⟩ := c
 obtain ⟨rfl, hu, -, hev⟩ := hc
 simp only at hu hev ⊢
 obtain ⟨ua, uc, rfl, -, -, -⟩ := id hu
 obtain ⟨W0, hW0⟩ : ∃ W : World, W = (w.alloc (.cells #[.int .i64 r, .int .i64 f, .int .i64 lo, .int .i64 tm, .slice pa ps.length pc] 24)).alloc (.cells #[.slice ua use.length uc, .int .i64 ev] 27) := ⟨_, rfl⟩
 have hS : ∀ V : World, Below (w.heap.size + 2) W0 V → (V.cell? ⟨w.heap.size, 0, none⟩ = some (.int .i64 r) ∧ V.cell? ⟨w.heap.size, 1, none⟩ = some (.int .i64 f) ∧ V.cell? ⟨w.heap.size, 2, none⟩ = some (.int .i64 lo) ∧ V.cell? ⟨w.heap.size, 3, none⟩ = some (.int .i64 tm) ∧ V.cell? ⟨w.heap.size, 4, none⟩ = some (.slice pa ps.length pc)) ∧ (V.cell? ⟨w.heap.size + 1, 0, none⟩ = some (.slice ua use.length uc) ∧ V.cell? ⟨w.heap.size + 1, 1, none⟩ = some (.int .i64 ev)) ∧ (PrRow V (.slice pa ps.length pc) ps ∧ IsRow V (.slice ua use.length uc) use) ∧ Below w.heap.size w V ∧ w.heap.size + 2 ≤ V.heap.size := by
  intro V hV
  have bW : Below w.heap.size w W0 := by rw [hW0]; ((with_reducible repeat' first | exact .refl _ _ | refine .alloc ?_ ?_ _ | refine .setCell ?_ ?_ _ | refine .drew ?_ | refine below_drewN ?_ _) <;> first | omega | simp <;> omega)
  have zW : W0.heap.size = w.heap.size + 2 := by rw [hW0]; simp
  have hb := bW.trans (hV.mono (by omega))
  have h0 := (bk hV w.heap.size (by omega)).1
  have h1 := (bk hV (w.heap.size + 1) (by omega)).1
  exact ⟨⟨(h0 0).trans (by rw [hW0]; simp [go_sem]), (h0 1).trans (by rw [hW0]; simp [go_sem]), (h0 2).trans (by rw [hW0]; simp [go_sem]), (h0 3).trans (by rw [hW0]; simp [go_sem]), (h0 4).trans (by rw [hW0]; simp [go_sem])⟩, ⟨(h1 0).trans (by rw [hW0]; simp [go_sem]), (h1 1).trans (by rw [hW0]; simp [go_sem])⟩, ⟨hp.below (Nat.le_refl _) hb, hu.below (Nat.le_refl _) hb⟩, hb, by have := hV.size; omega⟩
 have HS := hide hS
 clear hS hp hu
 have wd : IntKind.i64.wrap d = d := IntWalk.i64_in _ (by omega)
 have wm : IntKind.i64.wrap (3000000000000000 - d) = 3000000000000000 - d := IntWalk.i64_in _ (by omega)
 cases hU : decide (ps.length ≤ 20 ∧ use.length ≤ 20) with
 | false =>
  go_enter Tryz.func7, Tryz.ntmps7
  go_upto_region 1 with fail
  rw [← hW0]
  clear hW0
  have B0 : Below (w.heap.size + 2) W0 W0 := Below.refl _ _
  obtain ⟨⟨y0, y1, y2, y3, y4⟩, ⟨x0, x1⟩, -, -, yz⟩ := HS.out W0 B0
  have yq := Nat.lt_of_succ_le yz
  have ys : w.heap.size < W0.heap.size := by omega
  go_wp2_with fail
  refine (scHead_any _).mono ?_
  rintro e w1 ⟨rfl, b1⟩
  have B1 : Below (w.heap.size + 2) W0 w1 := B0.trans (b1.mono (HS.out _ B0).2.2.2.2)
  clear y0 y1 y2 y3 y4 x0 x1 yz yq ys b1 B0
  obtain ⟨⟨y0, y1, y2, y3, y4⟩, ⟨x0, x1⟩, -, -, yz⟩ := HS.out w1 B1
  have yq := Nat.lt_of_succ_le yz
  have ys : w.heap.size < w1.heap.size := by omega
  go_wp2_with fail
  refine (R29Few_any r f lo tm _ ps _ use ev _ (HS.out _ B1).2.2.1.1 (HS.out _ B1).2.2.1.2).mono ?_
  rintro e w2 ⟨rfl, b2⟩
  rw [hU]
  have B2 : Below (w.heap.size + 2) W0 w2 := B1.trans (b2.mono (HS.out _ B1).2.2.2.2)
  clear y0 y1 y2 y3 y4 x0 x1 yz yq ys b2 B1
  obtain ⟨⟨y0, y1, y2, y3, y4⟩, ⟨x0, x1⟩, -, -, yz⟩ := HS.out w2 B2
  have yq := Nat.lt_of_succ_le yz
  have ys : w.heap.size < w2.heap.size := by omega
  go_wp2_with fail
  go_ret
  exact ⟨rfl, (by ((with_reducible repeat' first | exact .refl _ _ | exact (HS.out _ B2).2.2.2.1 | refine .alloc ?_ ?_ _ | refine .setCell ?_ ?_ _ | refine .drew ?_ | refine below_drewN ?_ _ | refine Below.trans ?_ ((HS.out _ B2).2.2.2.1.mono ?_)) <;> first | omega | simp <;> omega))⟩
 | true =>
  by_cases hE : wsEr ⟨r, f, lo, tm, ps⟩ use ev at_ = 0
  case neg =>
   go_enter Tryz.func7, Tryz.ntmps7
   go_upto_region 1 with fail
   rw [← hW0]
   clear hW0
   have B0 : Below (w.heap.size + 2) W0 W0 := Below.refl _ _
   obtain ⟨⟨y0, y1, y2, y3, y4⟩, ⟨x0, x1⟩, -, -, yz⟩ := HS.out W0 B0
   have yq := Nat.lt_of_succ_le yz
   have ys : w.heap.size < W0.heap.size := by omega
   go_wp2_with fail
   refine (scHead_any _).mono ?_
   rintro e w1 ⟨rfl, b1⟩
   have B1 : Below (w.heap.size + 2) W0 w1 := B0.trans (b1.mono (HS.out _ B0).2.2.2.2)
   clear y0 y1 y2 y3 y4 x0 x1 yz yq ys b1 B0
   obtain ⟨⟨y0, y1, y2, y3, y4⟩, ⟨x0, x1⟩, -, -, yz⟩ := HS.out w1 B1
   have yq := Nat.lt_of_succ_le yz
   have ys : w.heap.size < w1.heap.size := by omega
   go_wp2_with fail
   refine (R29Few_any r f lo tm _ ps _ use ev _ (HS.out _ B1).2.2.1.1 (HS.out _ B1).2.2.1.2).mono ?_
   rintro e w2 ⟨rfl, b2⟩
   rw [hU]
   have B2 : Below (w.heap.size + 2) W0 w2 := B1.trans (b2.mono (HS.out _ B1).2.2.2.2)
   clear y0 y1 y2 y3 y4 x0 x1 yz yq ys b2 B1
   obtain ⟨⟨y0, y1, y2, y3, y4⟩, ⟨x0, x1⟩, -, -, yz⟩ := HS.out w2 B2
   have yq := Nat.lt_of_succ_le yz
   have ys : w.heap.size < w2.heap.size := by omega
   have dE : (wsEr ⟨r, f, lo, tm, ps⟩ use ev at_ != 0) = true := by rw [bne_iff_ne]; exact hE
   go_wp2_with fail
   refine (scWorst_no r f lo tm _ ps _ use ev at_ _ (HS.out _ B2).2.2.1.1 (HS.out _ B2).2.2.1.2 hE).mono ?_
   rintro e w3 ⟨ua2, uc2, aa2, ac2, rfl, hu2, ha2, b3⟩
   have B3 : Below (w.heap.size + 2) W0 w3 := B2.trans (b3.mono (HS.out _ B2).2.2.2.2)
   clear y0 y1 y2 y3 y4 x0 x1 yz yq ys b3 B2
   obtain ⟨⟨y0, y1, y2, y3, y4⟩, ⟨x0, x1⟩, -, -, yz⟩ := HS.out w3 B3
   have yq := Nat.lt_of_succ_le yz
   have ys : w.heap.size < w3.heap.size := by omega
   clear hu2 ha2 hE
   go_wp2_with fail
   go_ret
   exact ⟨rfl, (by ((with_reducible repeat' first | exact .refl _ _ | exact (HS.out _ B3).2.2.2.1 | refine .alloc ?_ ?_ _ | refine .setCell ?_ ?_ _ | refine .drew ?_ | refine below_drewN ?_ _ | refine Below.trans ?_ ((HS.out _ B3).2.2.2.1.mono ?_)) <;> first | omega | simp <;> omega))⟩
  case pos =>
  obtain ⟨hrg, ht, -, -⟩ := ws_ok hE
  obtain ⟨hf, -⟩ := ws_allowed hE
  rw [wsS_eq hE] at hf
  by_cases hM : 3000000000000000 - d < at_
  ·have dM : decide (3000000000000000 - d < at_) = true := decide_eq_true hM
   clear hrg ht hf hM
   go_enter Tryz.func7, Tryz.ntmps7
   go_upto_region 1 with fail
   rw [← hW0]
   clear hW0
   have B0 : Below (w.heap.size + 2) W0 W0 := Below.refl _ _
   obtain ⟨⟨y0, y1, y2, y3, y4⟩, ⟨x0, x1⟩, -, -, yz⟩ := HS.out W0 B0
   have yq := Nat.lt_of_succ_le yz
   have ys : w.heap.size < W0.heap.size := by omega
   go_wp2_with fail
   refine (scHead_any _).mono ?_
   rintro e w1 ⟨rfl, b1⟩
   have B1 : Below (w.heap.size + 2) W0 w1 := B0.trans (b1.mono (HS.out _ B0).2.2.2.2)
   clear y0 y1 y2 y3 y4 x0 x1 yz yq ys b1 B0
   obtain ⟨⟨y0, y1, y2, y3, y4⟩, ⟨x0, x1⟩, -, -, yz⟩ := HS.out w1 B1
   have yq := Nat.lt_of_succ_le yz
   have ys : w.heap.size < w1.heap.size := by omega
   go_wp2_with fail
   refine (R29Few_any r f lo tm _ ps _ use ev _ (HS.out _ B1).2.2.1.1 (HS.out _ B1).2.2.1.2).mono ?_
   rintro e w2 ⟨rfl, b2⟩
   rw [hU]
   have B2 : Below (w.heap.size + 2) W0 w2 := B1.trans (b2.mono (HS.out _ B1).2.2.2.2)
   clear y0 y1 y2 y3 y4 x0 x1 yz yq ys b2 B1
   obtain ⟨⟨y0, y1, y2, y3, y4⟩, ⟨x0, x1⟩, -, -, yz⟩ := HS.out w2 B2
   have yq := Nat.lt_of_succ_le yz
   have ys : w.heap.size < w2.heap.size := by omega
   go_wp2_with fail
   refine (scWorst_ok2 r f lo tm _ ps _ use ev at_ _ (HS.out _ B2).2.2.1.1 (HS.out _ B2).2.2.1.2 hE).mono ?_
   rintro e w3 ⟨ua2, uc2, aa2, ac2, rfl, hu2, ha2, ho2, b3⟩
   have B3 : Below (w.heap.size + 2) W0 w3 := B2.trans (b3.mono (HS.out _ B2).2.2.2.2)
   clear y0 y1 y2 y3 y4 x0 x1 yz yq ys b3 B2
   obtain ⟨⟨y0, y1, y2, y3, y4⟩, ⟨x0, x1⟩, -, -, yz⟩ := HS.out w3 B3
   have yq := Nat.lt_of_succ_le yz
   have ys : w.heap.size < w3.heap.size := by omega
   go_upto_region 6 with fail
   have hqu : ∀ q, (Value.slice ua2 use.length uc2).ownBlock = some q → q < w3.heap.size := fun q h => (ho2.1 q h).2
   have hgx0 : w.heap.size + 2 ≤ w3.heap.size := yz
   clear ho2
   have fkx := (FzBox.made : FzBox (w3.alloc (.cells #[.slice ua2 use.length uc2, .int .i64 ev, .int .i64 at_, .slice aa2 use.length ac2, .int .i64 (ev + tm)] 30)) w3.heap.size)
   have kx : SnBox (w3.alloc (.cells #[.slice ua2 use.length uc2, .int .i64 ev, .int .i64 at_, .slice aa2 use.length ac2, .int .i64 (ev + tm)] 30)) w3.heap.size ⟨use, ev, at_, wsL ⟨r, f, lo, tm, ps⟩ use at_, ev + tm⟩ (.slice ua2 use.length uc2) (.slice aa2 use.length ac2) := SnBox.made (x := ⟨use, ev, at_, wsL ⟨r, f, lo, tm, ps⟩ use at_, ev + tm⟩) hu2 ha2
   have b4 : Below w3.heap.size w3 (w3.alloc (.cells #[.slice ua2 use.length uc2, .int .i64 ev, .int .i64 at_, .slice aa2 use.length ac2, .int .i64 (ev + tm)] 30)) := (by ((with_reducible repeat' first | exact .refl _ _ | refine .alloc ?_ ?_ _ | refine .setCell ?_ ?_ _ | refine .drew ?_ | refine below_drewN ?_ _) <;> first | omega | simp <;> omega))
   have B4 : Below (w.heap.size + 2) W0 (w3.alloc (.cells #[.slice ua2 use.length uc2, .int .i64 ev, .int .i64 at_, .slice aa2 use.length ac2, .int .i64 (ev + tm)] 30)) := B3.trans (b4.mono (HS.out _ B3).2.2.2.2)
   obtain ⟨gkx, hgkx⟩ : ∃ g, g = w3.heap.size := ⟨_, rfl⟩
   rw [← hgkx] at kx fkx hqu hgx0 ⊢
   clear hgkx b4 y0 y1 y2 y3 y4 x0 x1 yz yq ys B3
   generalize w3.alloc (.cells #[.slice ua2 use.length uc2, .int .i64 ev, .int .i64 at_, .slice aa2 use.length ac2, .int .i64 (ev + tm)] 30) = w4 at *
   obtain ⟨⟨y0, y1, y2, y3, y4⟩, ⟨x0, x1⟩, -, -, yz⟩ := HS.out w4 B4
   have yq := Nat.lt_of_succ_le yz
   have ys : w.heap.size < w4.heap.size := by omega
   have Hqu := hide hqu
   clear hqu
   go_wp2_with fail
   go_ret
   exact ⟨rfl, (by ((with_reducible repeat' first | exact .refl _ _ | exact (HS.out _ B4).2.2.2.1 | refine .alloc ?_ ?_ _ | refine .setCell ?_ ?_ _ | refine .drew ?_ | refine below_drewN ?_ _ | refine Below.trans ?_ ((HS.out _ B4).2.2.2.1.mono ?_)) <;> first | omega | simp <;> omega))⟩
  have dM : decide (3000000000000000 - d < at_) = false := decide_eq_false hM
  have wa : IntKind.i64.wrap (at_ + d) = at_ + d := IntWalk.i64_in _ (by omega)
  by_cases hE2 : wsEr ⟨r, f, lo, tm, ps⟩ use ev (at_ + d) = 0
  case neg =>
   have e3 := wsEr_range hE2 hrg (by omega) (by omega)
   clear hrg ht hf hM
   go_enter Tryz.func7, Tryz.ntmps7
   go_upto_region 1 with fail
   rw [← hW0]
   clear hW0
   have B0 : Below (w.heap.size + 2) W0 W0 := Below.refl _ _
   obtain ⟨⟨y0, y1, y2, y3, y4⟩, ⟨x0, x1⟩, -, -, yz⟩ := HS.out W0 B0
   have yq := Nat.lt_of_succ_le yz
   have ys : w.heap.size < W0.heap.size := by omega
   go_wp2_with fail
   refine (scHead_any _).mono ?_
   rintro e w1 ⟨rfl, b1⟩
   have B1 : Below (w.heap.size + 2) W0 w1 := B0.trans (b1.mono (HS.out _ B0).2.2.2.2)
   clear y0 y1 y2 y3 y4 x0 x1 yz yq ys b1 B0
   obtain ⟨⟨y0, y1, y2, y3, y4⟩, ⟨x0, x1⟩, -, -, yz⟩ := HS.out w1 B1
   have yq := Nat.lt_of_succ_le yz
   have ys : w.heap.size < w1.heap.size := by omega
   go_wp2_with fail
   refine (R29Few_any r f lo tm _ ps _ use ev _ (HS.out _ B1).2.2.1.1 (HS.out _ B1).2.2.1.2).mono ?_
   rintro e w2 ⟨rfl, b2⟩
   rw [hU]
   have B2 : Below (w.heap.size + 2) W0 w2 := B1.trans (b2.mono (HS.out _ B1).2.2.2.2)
   clear y0 y1 y2 y3 y4 x0 x1 yz yq ys b2 B1
   obtain ⟨⟨y0, y1, y2, y3, y4⟩, ⟨x0, x1⟩, -, -, yz⟩ := HS.out w2 B2
   have yq := Nat.lt_of_succ_le yz
   have ys : w.heap.size < w2.heap.size := by omega
   go_wp2_with fail
   refine (scWorst_ok2 r f lo tm _ ps _ use ev at_ _ (HS.out _ B2).2.2.1.1 (HS.out _ B2).2.2.1.2 hE).mono ?_
   rintro e w3 ⟨ua2, uc2, aa2, ac2, rfl, hu2, ha2, ho2, b3⟩
   have B3 : Below (w.heap.size + 2) W0 w3 := B2.trans (b3.mono (HS.out _ B2).2.2.2.2)
   clear y0 y1 y2 y3 y4 x0 x1 yz yq ys b3 B2
   obtain ⟨⟨y0, y1, y2, y3, y4⟩, ⟨x0, x1⟩, -, -, yz⟩ := HS.out w3 B3
   have yq := Nat.lt_of_succ_le yz
   have ys : w.heap.size < w3.heap.size := by omega
   go_upto_region 6 with fail
   have hqu : ∀ q, (Value.slice ua2 use.length uc2).ownBlock = some q → q < w3.heap.size := fun q h => (ho2.1 q h).2
   have hgx0 : w.heap.size + 2 ≤ w3.heap.size := yz
   clear ho2
   have fkx := (FzBox.made : FzBox (w3.alloc (.cells #[.slice ua2 use.length uc2, .int .i64 ev, .int .i64 at_, .slice aa2 use.length ac2, .int .i64 (ev + tm)] 30)) w3.heap.size)
   have kx : SnBox (w3.alloc (.cells #[.slice ua2 use.length uc2, .int .i64 ev, .int .i64 at_, .slice aa2 use.length ac2, .int .i64 (ev + tm)] 30)) w3.heap.size ⟨use, ev, at_, wsL ⟨r, f, lo, tm, ps⟩ use at_, ev + tm⟩ (.slice ua2 use.length uc2) (.slice aa2 use.length ac2) := SnBox.made (x := ⟨use, ev, at_, wsL ⟨r, f, lo, tm, ps⟩ use at_, ev + tm⟩) hu2 ha2
   have b4 : Below w3.heap.size w3 (w3.alloc (.cells #[.slice ua2 use.length uc2, .int .i64 ev, .int .i64 at_, .slice aa2 use.length ac2, .int .i64 (ev + tm)] 30)) := (by ((with_reducible repeat' first | exact .refl _ _ | refine .alloc ?_ ?_ _ | refine .setCell ?_ ?_ _ | refine .drew ?_ | refine below_drewN ?_ _) <;> first | omega | simp <;> omega))
   have B4 : Below (w.heap.size + 2) W0 (w3.alloc (.cells #[.slice ua2 use.length uc2, .int .i64 ev, .int .i64 at_, .slice aa2 use.length ac2, .int .i64 (ev + tm)] 30)) := B3.trans (b4.mono (HS.out _ B3).2.2.2.2)
   obtain ⟨gkx, hgkx⟩ : ∃ g, g = w3.heap.size := ⟨_, rfl⟩
   rw [← hgkx] at kx fkx hqu hgx0 ⊢
   clear hgkx b4 y0 y1 y2 y3 y4 x0 x1 yz yq ys B3
   generalize w3.alloc (.cells #[.slice ua2 use.length uc2, .int .i64 ev, .int .i64 at_, .slice aa2 use.length ac2, .int .i64 (ev + tm)] 30) = w4 at *
   obtain ⟨⟨y0, y1, y2, y3, y4⟩, ⟨x0, x1⟩, -, -, yz⟩ := HS.out w4 B4
   have yq := Nat.lt_of_succ_le yz
   have ys : w.heap.size < w4.heap.size := by omega
   have Hqu := hide hqu
   clear hqu
   go_wp2_with fail
   refine (scWorst_no r f lo tm _ ps _ use ev (at_ + d) _ (HS.out _ B4).2.2.1.1 (HS.out _ B4).2.2.1.2 hE2).mono ?_
   rintro e w5 ⟨ua3, uc3, aa3, ac3, rfl, hu3, ha3, b5⟩
   have B5 : Below (w.heap.size + 2) W0 w5 := B4.trans (b5.mono (HS.out _ B4).2.2.2.2)
   have tkx := kx.below b5
   clear kx
   have kx := tkx
   clear tkx
   have tfkx := fkx.below b5
   clear fkx
   have fkx := tfkx
   clear tfkx
   clear y0 y1 y2 y3 y4 x0 x1 yz yq ys b5 B4
   obtain ⟨⟨y0, y1, y2, y3, y4⟩, ⟨x0, x1⟩, -, -, yz⟩ := HS.out w5 B5
   have yq := Nat.lt_of_succ_le yz
   have ys : w.heap.size < w5.heap.size := by omega
   rw [e3]
   clear hu3 ha3 hE2 e3
   go_wp2_with fail
   go_ret
   exact ⟨rfl, (by ((with_reducible repeat' first | exact .refl _ _ | exact (HS.out _ B5).2.2.2.1 | refine .alloc ?_ ?_ _ | refine .setCell ?_ ?_ _ | refine .drew ?_ | refine below_drewN ?_ _ | refine Below.trans ?_ ((HS.out _ B5).2.2.2.1.mono ?_)) <;> first | omega | simp <;> omega))⟩
  case pos =>
   have hul : 0 < use.length := by
    have h1 := (spOk_iff _ _ _).1 (rg_spOk hrg)
    rw [wdL_length] at h1
    omega
   have hul2 : use.length ≤ 20 := (of_decide_eq_true hU).2
   have hmv := ws_moved hE hE2
   have hsm := sc_moves hE hE2
   obtain ⟨p1, -, -, -, p3⟩ := ws_width hE
   obtain ⟨p2, -, -, -, -⟩ := ws_width hE2
   rw [wsS_eq hE, wsS_eq hE2] at hsm
   rw [wsS_eq hE] at p1 p3
   rw [wsS_eq hE2] at p2
   simp only at p1 p2 p3 hsm
   have hfi := ((fitB_iff _ _).1 hf).2.2.2.2
   simp only [wsL_length] at hfi
   have hfit : ∀ k, k < use.length → (anAt (wsL ⟨r, f, lo, tm, ps⟩ use at_) k).ls = false → (0 ≤ (anAt (wsL ⟨r, f, lo, tm, ps⟩ use at_) k).lo ∧ (anAt (wsL ⟨r, f, lo, tm, ps⟩ use at_) k).lo ≤ (anAt (wsL ⟨r, f, lo, tm, ps⟩ use at_) k).hi ∧ (anAt (wsL ⟨r, f, lo, tm, ps⟩ use at_) k).hi ≤ 3000000000000000) := fun k hk hl => ((anFit_no hl).1 (hfi k hk)).2.2.2
   have hP1 := fun pv uv av W q1 q2 q3 => scPlay_any r f lo tm pv ps uv use ev at_ av (wsL ⟨r, f, lo, tm, ps⟩ use at_) (ev + tm) W q1 q2 q3
   have hP2 := fun pv uv av W q1 q2 q3 => scPlay_any r f lo tm pv ps uv use ev (at_ + d) av (wsL ⟨r, f, lo, tm, ps⟩ use (at_ + d)) (ev + tm) W q1 q2 q3
   unfold PlayPost at hP1 hP2
   rw [p1] at hP1
   rw [p2] at hP2
   generalize pyHi ⟨r, f, lo, tm, ps⟩ ⟨use, ev, at_, wsL ⟨r, f, lo, tm, ps⟩ use at_, ev + tm⟩ = Y at *
   generalize pyLo ⟨r, f, lo, tm, ps⟩ ⟨use, ev, at_, wsL ⟨r, f, lo, tm, ps⟩ use at_, ev + tm⟩ = X at *
   generalize pyHi ⟨r, f, lo, tm, ps⟩ ⟨use, ev, at_ + d, wsL ⟨r, f, lo, tm, ps⟩ use (at_ + d), ev + tm⟩ = Y2 at *
   generalize pyLo ⟨r, f, lo, tm, ps⟩ ⟨use, ev, at_ + d, wsL ⟨r, f, lo, tm, ps⟩ use (at_ + d), ev + tm⟩ = X2 at *
   have Hfit := hide hfit
   have Hmv := hide hmv
   have Hsm := hide hsm
   have Hxy := hide p3
   have HP1 := hide hP1
   have HP2 := hide hP2
   clear hmv hsm p1 p2 p3 hfi hfit hP1 hP2 hrg ht hf hM
   go_enter Tryz.func7, Tryz.ntmps7
   go_upto_region 1 with fail
   rw [← hW0]
   clear hW0
   have B0 : Below (w.heap.size + 2) W0 W0 := Below.refl _ _
   obtain ⟨⟨y0, y1, y2, y3, y4⟩, ⟨x0, x1⟩, -, -, yz⟩ := HS.out W0 B0
   have yq := Nat.lt_of_succ_le yz
   have ys : w.heap.size < W0.heap.size := by omega
   go_wp2_with fail
   refine (scHead_any _).mono ?_
   rintro e w1 ⟨rfl, b1⟩
   have B1 : Below (w.heap.size + 2) W0 w1 := B0.trans (b1.mono (HS.out _ B0).2.2.2.2)
   clear y0 y1 y2 y3 y4 x0 x1 yz yq ys b1 B0
   obtain ⟨⟨y0, y1, y2, y3, y4⟩, ⟨x0, x1⟩, -, -, yz⟩ := HS.out w1 B1
   have yq := Nat.lt_of_succ_le yz
   have ys : w.heap.size < w1.heap.size := by omega
   go_wp2_with fail
   refine (R29Few_any r f lo tm _ ps _ use ev _ (HS.out _ B1).2.2.1.1 (HS.out _ B1).2.2.1.2).mono ?_
   rintro e w2 ⟨rfl, b2⟩
   rw [hU]
   have B2 : Below (w.heap.size + 2) W0 w2 := B1.trans (b2.mono (HS.out _ B1).2.2.2.2)
   clear y0 y1 y2 y3 y4 x0 x1 yz yq ys b2 B1
   obtain ⟨⟨y0, y1, y2, y3, y4⟩, ⟨x0, x1⟩, -, -, yz⟩ := HS.out w2 B2
   have yq := Nat.lt_of_succ_le yz
   have ys : w.heap.size < w2.heap.size := by omega
   go_wp2_with fail
   refine (scWorst_ok2 r f lo tm _ ps _ use ev at_ _ (HS.out _ B2).2.2.1.1 (HS.out _ B2).2.2.1.2 hE).mono ?_
   rintro e w3 ⟨ua2, uc2, aa2, ac2, rfl, hu2, ha2, ho2, b3⟩
   have B3 : Below (w.heap.size + 2) W0 w3 := B2.trans (b3.mono (HS.out _ B2).2.2.2.2)
   clear y0 y1 y2 y3 y4 x0 x1 yz yq ys b3 B2
   obtain ⟨⟨y0, y1, y2, y3, y4⟩, ⟨x0, x1⟩, -, -, yz⟩ := HS.out w3 B3
   have yq := Nat.lt_of_succ_le yz
   have ys : w.heap.size < w3.heap.size := by omega
   go_upto_region 6 with fail
   have hqu : ∀ q, (Value.slice ua2 use.length uc2).ownBlock = some q → q < w3.heap.size := fun q h => (ho2.1 q h).2
   have hgx0 : w.heap.size + 2 ≤ w3.heap.size := yz
   clear ho2
   have fkx := (FzBox.made : FzBox (w3.alloc (.cells #[.slice ua2 use.length uc2, .int .i64 ev, .int .i64 at_, .slice aa2 use.length ac2, .int .i64 (ev + tm)] 30)) w3.heap.size)
   have kx : SnBox (w3.alloc (.cells #[.slice ua2 use.length uc2, .int .i64 ev, .int .i64 at_, .slice aa2 use.length ac2, .int .i64 (ev + tm)] 30)) w3.heap.size ⟨use, ev, at_, wsL ⟨r, f, lo, tm, ps⟩ use at_, ev + tm⟩ (.slice ua2 use.length uc2) (.slice aa2 use.length ac2) := SnBox.made (x := ⟨use, ev, at_, wsL ⟨r, f, lo, tm, ps⟩ use at_, ev + tm⟩) hu2 ha2
   have b4 : Below w3.heap.size w3 (w3.alloc (.cells #[.slice ua2 use.length uc2, .int .i64 ev, .int .i64 at_, .slice aa2 use.length ac2, .int .i64 (ev + tm)] 30)) := (by ((with_reducible repeat' first | exact .refl _ _ | refine .alloc ?_ ?_ _ | refine .setCell ?_ ?_ _ | refine .drew ?_ | refine below_drewN ?_ _) <;> first | omega | simp <;> omega))
   have B4 : Below (w.heap.size + 2) W0 (w3.alloc (.cells #[.slice ua2 use.length uc2, .int .i64 ev, .int .i64 at_, .slice aa2 use.length ac2, .int .i64 (ev + tm)] 30)) := B3.trans (b4.mono (HS.out _ B3).2.2.2.2)
   obtain ⟨gkx, hgkx⟩ : ∃ g, g = w3.heap.size := ⟨_, rfl⟩
   rw [← hgkx] at kx fkx hqu hgx0 ⊢
   clear hgkx b4 y0 y1 y2 y3 y4 x0 x1 yz yq ys B3
   generalize w3.alloc (.cells #[.slice ua2 use.length uc2, .int .i64 ev, .int .i64 at_, .slice aa2 use.length ac2, .int .i64 (ev + tm)] 30) = w4 at *
   obtain ⟨⟨y0, y1, y2, y3, y4⟩, ⟨x0, x1⟩, -, -, yz⟩ := HS.out w4 B4
   have yq := Nat.lt_of_succ_le yz
   have ys : w.heap.size < w4.heap.size := by omega
   have Hqu := hide hqu
   clear hqu
   go_wp2_with fail
   have CZX : gkx < w4.heap.size := kx.2.2.2
   refine (scWorst_ok2 r f lo tm _ ps _ use ev (at_ + d) _ (HS.out _ B4).2.2.1.1 (HS.out _ B4).2.2.1.2 hE2).mono ?_
   rintro e w5 ⟨ua3, uc3, aa3, ac3, rfl, hu3, ha3, ho3, b5⟩
   have B5 : Below (w.heap.size + 2) W0 w5 := B4.trans (b5.mono (HS.out _ B4).2.2.2.2)
   have tkx := kx.below b5
   clear kx
   have kx := tkx
   clear tkx
   have tfkx := fkx.below b5
   clear fkx
   have fkx := tfkx
   clear tfkx
   have hqy : (∀ q, (Value.slice ua3 use.length uc3).ownBlock = some q → q ≠ gkx) ∧ (∀ q, (Value.slice aa3 use.length ac3).ownBlock = some q → q ≠ gkx) := ⟨fun q h => by have := (ho3.1 q h).1; have := CZX; omega, fun q h => by have := (ho3.2 q h).1; have := CZX; omega⟩
   have Hqy := hide hqy
   clear hqy ho3
   clear y0 y1 y2 y3 y4 x0 x1 yz yq ys b5 B4
   obtain ⟨⟨y0, y1, y2, y3, y4⟩, ⟨x0, x1⟩, -, -, yz⟩ := HS.out w5 B5
   have yq := Nat.lt_of_succ_le yz
   have ys : w.heap.size < w5.heap.size := by omega
   clear CZX
   go_upto_region 9 with fail
   have lkxky : gkx < w5.heap.size := kx.2.2.2
   have ky : SnBox (w5.alloc (.cells #[.slice ua3 use.length uc3, .int .i64 ev, .int .i64 (at_ + d), .slice aa3 use.length ac3, .int .i64 (ev + tm)] 30)) w5.heap.size ⟨use, ev, at_ + d, wsL ⟨r, f, lo, tm, ps⟩ use (at_ + d), ev + tm⟩ (.slice ua3 use.length uc3) (.slice aa3 use.length ac3) := SnBox.made (x := ⟨use, ev, at_ + d, wsL ⟨r, f, lo, tm, ps⟩ use (at_ + d), ev + tm⟩) hu3 ha3
   have b6 : Below w5.heap.size w5 (w5.alloc (.cells #[.slice ua3 use.length uc3, .int .i64 ev, .int .i64 (at_ + d), .slice aa3 use.length ac3, .int .i64 (ev + tm)] 30)) := (by ((with_reducible repeat' first | exact .refl _ _ | refine .alloc ?_ ?_ _ | refine .setCell ?_ ?_ _ | refine .drew ?_ | refine below_drewN ?_ _) <;> first | omega | simp <;> omega))
   have tkx := kx.below b6
   clear kx
   have kx := tkx
   clear tkx
   have tfkx := fkx.below b6
   clear fkx
   have fkx := tfkx
   clear tfkx
   have B6 : Below (w.heap.size + 2) W0 (w5.alloc (.cells #[.slice ua3 use.length uc3, .int .i64 ev, .int .i64 (at_ + d), .slice aa3 use.length ac3, .int .i64 (ev + tm)] 30)) := B5.trans (b6.mono (HS.out _ B5).2.2.2.2)
   obtain ⟨gky, hgky⟩ : ∃ g, g = w5.heap.size := ⟨_, rfl⟩
   rw [← hgky] at ky lkxky ⊢
   clear hgky b6 y0 y1 y2 y3 y4 x0 x1 yz yq ys B5
   generalize w5.alloc (.cells #[.slice ua3 use.length uc3, .int .i64 ev, .int .i64 (at_ + d), .slice aa3 use.length ac3, .int .i64 (ev + tm)] 30) = w6 at *
   obtain ⟨⟨y0, y1, y2, y3, y4⟩, ⟨x0, x1⟩, -, -, yz⟩ := HS.out w6 B6
   have yq := Nat.lt_of_succ_le yz
   have ys : w.heap.size < w6.heap.size := by omega
   obtain ⟨⟨ckx0, ckx1, ckx2, ckx3, ckx4⟩, -, -, ckxz⟩ := id kx
   simp only at ckx1 ckx2 ckx4
   go_wp2_with fail
   refine (HP1.out _ _ _ _ (HS.out _ B6).2.2.1.1 kx.2.1 kx.2.2.1).mono ?_
   rintro e w7 ⟨rfl, b7⟩
   have B7 : Below (w.heap.size + 2) W0 w7 := B6.trans (b7.mono (HS.out _ B6).2.2.2.2)
   have tkx := kx.below b7
   clear kx
   have kx := tkx
   clear tkx
   have tfkx := fkx.below b7
   clear fkx
   have fkx := tfkx
   clear tfkx
   have tky := ky.below b7
   clear ky
   have ky := tky
   clear tky
   clear y0 y1 y2 y3 y4 x0 x1 yz yq ys b7 B6
   obtain ⟨⟨y0, y1, y2, y3, y4⟩, ⟨x0, x1⟩, -, -, yz⟩ := HS.out w7 B7
   have yq := Nat.lt_of_succ_le yz
   have ys : w.heap.size < w7.heap.size := by omega
   clear ckx0 ckx1 ckx2 ckx3 ckx4 ckxz
   go_upto_region 12 with fail
   have lkxki : gkx < w7.heap.size := kx.2.2.2
   have ki : IvBox (w7.alloc (.cells #[.int .i64 X, .int .i64 Y] 41)) w7.heap.size X Y := IvBox.made
   have b8 : Below w7.heap.size w7 (w7.alloc (.cells #[.int .i64 X, .int .i64 Y] 41)) := (by ((with_reducible repeat' first | exact .refl _ _ | refine .alloc ?_ ?_ _ | refine .setCell ?_ ?_ _ | refine .drew ?_ | refine below_drewN ?_ _) <;> first | omega | simp <;> omega))
   have tkx := kx.below b8
   clear kx
   have kx := tkx
   clear tkx
   have tfkx := fkx.below b8
   clear fkx
   have fkx := tfkx
   clear tfkx
   have tky := ky.below b8
   clear ky
   have ky := tky
   clear tky
   have B8 : Below (w.heap.size + 2) W0 (w7.alloc (.cells #[.int .i64 X, .int .i64 Y] 41)) := B7.trans (b8.mono (HS.out _ B7).2.2.2.2)
   obtain ⟨gki, hgki⟩ : ∃ g, g = w7.heap.size := ⟨_, rfl⟩
   rw [← hgki] at ki lkxki ⊢
   clear hgki b8 y0 y1 y2 y3 y4 x0 x1 yz yq ys B7
   generalize w7.alloc (.cells #[.int .i64 X, .int .i64 Y] 41) = w8 at *
   obtain ⟨⟨y0, y1, y2, y3, y4⟩, ⟨x0, x1⟩, -, -, yz⟩ := HS.out w8 B8
   have yq := Nat.lt_of_succ_le yz
   have ys : w.heap.size < w8.heap.size := by omega
   obtain ⟨⟨cky0, cky1, cky2, cky3, cky4⟩, -, -, ckyz⟩ := id ky
   simp only at cky1 cky2 cky4
   go_wp2_with fail
   refine (HP2.out _ _ _ _ (HS.out _ B8).2.2.1.1 ky.2.1 ky.2.2.1).mono ?_
   rintro e w9 ⟨rfl, b9⟩
   have B9 : Below (w.heap.size + 2) W0 w9 := B8.trans (b9.mono (HS.out _ B8).2.2.2.2)
   have tkx := kx.below b9
   clear kx
   have kx := tkx
   clear tkx
   have tfkx := fkx.below b9
   clear fkx
   have fkx := tfkx
   clear tfkx
   have tky := ky.below b9
   clear ky
   have ky := tky
   clear tky
   have tki := ki.below b9
   clear ki
   have ki := tki
   clear tki
   clear y0 y1 y2 y3 y4 x0 x1 yz yq ys b9 B8
   obtain ⟨⟨y0, y1, y2, y3, y4⟩, ⟨x0, x1⟩, -, -, yz⟩ := HS.out w9 B9
   have yq := Nat.lt_of_succ_le yz
   have ys : w.heap.size < w9.heap.size := by omega
   clear cky0 cky1 cky2 cky3 cky4 ckyz
   go_upto_region 13 with fail
   have lkxkk : gkx < w9.heap.size := kx.2.2.2
   have kk : IvBox (w9.alloc (.cells #[.int .i64 X2, .int .i64 Y2] 41)) w9.heap.size X2 Y2 := IvBox.made
   have b10 : Below w9.heap.size w9 (w9.alloc (.cells #[.int .i64 X2, .int .i64 Y2] 41)) := (by ((with_reducible repeat' first | exact .refl _ _ | refine .alloc ?_ ?_ _ | refine .setCell ?_ ?_ _ | refine .drew ?_ | refine below_drewN ?_ _) <;> first | omega | simp <;> omega))
   have tkx := kx.below b10
   clear kx
   have kx := tkx
   clear tkx
   have tfkx := fkx.below b10
   clear fkx
   have fkx := tfkx
   clear tfkx
   have tky := ky.below b10
   clear ky
   have ky := tky
   clear tky
   have tki := ki.below b10
   clear ki
   have ki := tki
   clear tki
   have B10 : Below (w.heap.size + 2) W0 (w9.alloc (.cells #[.int .i64 X2, .int .i64 Y2] 41)) := B9.trans (b10.mono (HS.out _ B9).2.2.2.2)
   obtain ⟨gkk, hgkk⟩ : ∃ g, g = w9.heap.size := ⟨_, rfl⟩
   rw [← hgkk] at kk lkxkk ⊢
   clear hgkk b10 y0 y1 y2 y3 y4 x0 x1 yz yq ys B9
   generalize w9.alloc (.cells #[.int .i64 X2, .int .i64 Y2] 41) = w10 at *
   obtain ⟨⟨y0, y1, y2, y3, y4⟩, ⟨x0, x1⟩, -, -, yz⟩ := HS.out w10 B10
   have yq := Nat.lt_of_succ_le yz
   have ys : w.heap.size < w10.heap.size := by omega
   obtain ⟨⟨ckx0, ckx1, ckx2, ckx3, ckx4⟩, -, -, ckxz⟩ := id kx
   simp only at ckx1 ckx2 ckx4
   obtain ⟨i0, hi0, hz0, hz1, hz2⟩ := info_parts infoAn
   have hax := kx.2.2.1
   simp only at hax
   have hsrc : ∀ V, Below w10.heap.size w10 V → SrcRow V (.slice aa2 use.length ac2) use.length 6 ((wsL ⟨r, f, lo, tm, ps⟩ use at_).flatMap encA) := fun V hV => by
    have h := src_an (hax.below (Nat.le_refl _) hV)
    rwa [wsL_length] at h
   have Hsrc := hide hsrc
   clear hax hsrc
   go_upto_region 14 with (at_builtin; refine wpList_append_src _ rfl _ _ 28 rfl w10.heap.size 59 i0 (.agg #[.int .i64 0, .bool false, .int .i64 0, .int .i64 0, .int .i64 0, .int .i64 0]) 6 48 Tryz.underlying28 hi0 hz0 hz1 hz2 rfl (by decide) _ 0 [] rfl (own_newA (base := w10.heap.size) (World.alloc_heap_new w10 _) (Nat.le_refl _)) _ use.length ((wsL ⟨r, f, lo, tm, ps⟩ use at_).flatMap encA) rfl (Hsrc.out _ ((Below.refl _ _).alloc (Nat.le_refl _) _)) (flat_one encA_one _) (by unfold maxLen; omega) (by omega) (by simp) ?_; intro vM wM hownM hgM _; rw [Nat.zero_add, List.nil_append] at hownM)
   have bM : Below w10.heap.size w10 wM := ((Below.refl _ _).alloc (Nat.le_refl _) _).grown hgM (by simp) (fun r h => by cases h; exact Nat.le_refl _)
   obtain ⟨gm, cm, rfl, hgm, hgl⟩ := World.ownsRow.form hownM hul
   have BM : Below (w.heap.size + 2) W0 wM := B10.trans (bM.mono (HS.out _ B10).2.2.2.2)
   have HownM := hide hownM
   have HBM := hide (And.intro bM BM)
   clear hgM hownM bM BM ckx0 ckx1 ckx2 ckx3 ckx4 ckxz y0 y1 y2 y3 y4 x0 x1 yz yq ys
   go_wp2_with fail
   go_loopw [20] (fun s20 wr => ∃ k : Nat, k ≤ use.length ∧ s20 = .int .i64 k ∧ wr.ownsRow w10.heap.size 59 6 (.slice (some ⟨gm, 0, none⟩) use.length cm) use.length ((mvL d (wsL ⟨r, f, lo, tm, ps⟩ use at_) k).flatMap encA) ∧ Below w10.heap.size w10 wr) (fun s20 _ => use.length - (intOf s20).toNat)
   case atStart => exact ⟨0, Nat.zero_le _, rfl, HownM.out, HBM.out.1⟩
   case round =>
    clear HownM HBM
    obtain ⟨k, hk, rfl, hown, hB9⟩ := hrel
    by_cases hlk : k < use.length
    ·skip
     have hlen := mvL_length d (wsL ⟨r, f, lo, tm, ps⟩ use at_) k
     rw [wsL_length] at hlen
     have hak := mvL_at d (wsL ⟨r, f, lo, tm, ps⟩ use at_) k (by rw [wsL_length]; omega) k
     rw [if_neg (by omega)] at hak
     have c1 := World.ownsRow.cellAt hown (k * 6 + 1) (by omega)
     have c4 := World.ownsRow.cellAt hown (k * 6 + 4) (by omega)
     have c5 := World.ownsRow.cellAt hown (k * 6 + 5) (by omega)
     have fr := World.ownsRow.frozenAt hown
     have hfl := fun j u => flat_at encA_length an0 (mvL d (wsL ⟨r, f, lo, tm, ps⟩ use at_) k) k (by omega) j u
     rw [show (mvL d (wsL ⟨r, f, lo, tm, ps⟩ use at_) k).getD k an0 = anAt (wsL ⟨r, f, lo, tm, ps⟩ use at_) k from hak] at hfl
     rw [hfl 1 _ rfl] at c1
     rw [hfl 4 _ rfl] at c4
     rw [hfl 5 _ rfl] at c5
     have hst : mvL d (wsL ⟨r, f, lo, tm, ps⟩ use at_) (k + 1) = (mvL d (wsL ⟨r, f, lo, tm, ps⟩ use at_) k).set k (mvA d (anAt (wsL ⟨r, f, lo, tm, ps⟩ use at_) k)) := rfl
     have Hst := hide hst
     have hft := Hfit.out k hlk
     have Hown := hide hown
     have HB9 := hide hB9
     have Hln := hide (And.intro hlen hak)
     have zg := (World.ownsRow.lt hown gm rfl)
     clear hst hfl hown hB9 hlen hak
     generalize anAt (wsL ⟨r, f, lo, tm, ps⟩ use at_) k = A at *
     obtain ⟨A1, A2, A3, A4, A5, A6⟩ := A
     simp only at c1 c4 c5 hft Hst Hln
     have I1 : (0 : Int) ≤ (k : Int) := by omega
     have I2 : (k : Int) < (use.length : Int) := by omega
     cases A2 with
     | true =>
      clear hft
      go_wp2_with fail
      go_roundw
      case rel =>
       refine ⟨k + 1, by omega, by go_num, ?_, HB9.out⟩
       rw [Hst.out]
       have e : (mvL d (wsL ⟨r, f, lo, tm, ps⟩ use at_) k).set k (mvA d ⟨A1, true, A3, A4, A5, A6⟩) = mvL d (wsL ⟨r, f, lo, tm, ps⟩ use at_) k := by
        refine ans_ext (by rw [List.length_set]) fun j hj => ?_
        rw [anAt_set _ _ _ _ (by rw [Hln.out.1]; omega)]
        by_cases hj2 : j = k
        ·subst hj2; rw [if_pos rfl, Hln.out.2]; rfl
        ·rw [if_neg hj2]
       rw [e]
       exact Hown.out
      case measure => simp [intOf]; omega
     | false =>
      obtain ⟨n1, n2, n3⟩ := hft rfl
      have wl : IntKind.i64.wrap (A5 + d) = A5 + d := IntWalk.i64_in _ (by omega)
      have wh : IntKind.i64.wrap (A6 + d) = A6 + d := IntWalk.i64_in _ (by omega)
      have f4 := fr (k * 6 + 4)
      have f5 := fr (k * 6 + 5)
      clear fr hft n1 n2 n3
      go_wp2_with fail
      go_roundw
      case rel =>
       refine ⟨k + 1, by omega, by go_num, ?_, (HB9.out.setCell (p := ⟨gm, k * 6 + 4, none⟩) zg.1 _).setCell (p := ⟨gm, k * 6 + 5, none⟩) zg.1 _⟩
       have q1 := OwnAn.putLo Hown.out (i := k) (by rw [Hln.out.1]; omega) (A5 + d)
       have q2 := OwnAn.putHi q1 (i := k) (by rw [List.length_set, Hln.out.1]; omega) (A6 + d)
       rw [Hst.out]
       rw [anAt_set _ _ _ _ (by rw [Hln.out.1]; omega), if_pos rfl, List.set_set, Hln.out.2] at q2
       exact q2
      case measure => simp [intOf]; omega
    ·skip
     obtain rfl : k = use.length := by omega
     have B9 : Below (w.heap.size + 2) W0 wr := B10.trans (hB9.mono (HS.out _ B10).2.2.2.2)
     have hmv : mvL d (wsL ⟨r, f, lo, tm, ps⟩ use at_) use.length = wsL ⟨r, f, lo, tm, ps⟩ use (at_ + d) := Hmv.out
     rw [hmv] at hown
     have hownA : OwnAn wr w10.heap.size (.slice (some ⟨gm, 0, none⟩) use.length cm) (wsL ⟨r, f, lo, tm, ps⟩ use (at_ + d)) := by unfold OwnAn Owns; rw [wsL_length]; exact hown
     have zg := (World.ownsRow.lt hown gm rfl)
     clear hmv hown
     have hgx : gkx < w10.heap.size := kx.2.2.2
     have tkx := kx.below hB9
     clear kx
     have kx := tkx
     clear tkx
     have tfkx := fkx.below hB9
     clear fkx
     have fkx := tfkx
     clear tfkx
     have tky := ky.below hB9
     clear ky
     have ky := tky
     clear tky
     have tki := ki.below hB9
     clear ki
     have ki := tki
     clear tki
     have tkk := kk.below hB9
     clear kk
     have kk := tkk
     clear tkk
     clear hB9
     obtain ⟨⟨y0, y1, y2, y3, y4⟩, ⟨x0, x1⟩, -, -, yz⟩ := HS.out wr B9
     have yq := Nat.lt_of_succ_le yz
     have ys : w.heap.size < wr.heap.size := by omega
     obtain ⟨⟨ckx0, ckx1, ckx2, ckx3, ckx4⟩, -, -, ckxz⟩ := id kx
     simp only at ckx1 ckx2 ckx4
     have x3 := fkx.1 3
     have x2 := fkx.1 2
     go_upto_region 21 with fail
     have kx2 := SnBox.move (y := ⟨use, ev, at_ + d, wsL ⟨r, f, lo, tm, ps⟩ use (at_ + d), ev + tm⟩) kx rfl rfl rfl (fun q h => by have := Hqu.out q h; omega) hownA.row (fun q h => (by have e : gm = q := (by simpa [Value.ownBlock] using h); omega))
     have ky2 := (ky.setNe (p := ⟨gkx, 3, none⟩) (.slice (some ⟨gm, 0, none⟩) use.length cm) (by show gky ≠ gkx; omega) Hqy.out.1 Hqy.out.2).setNe (p := ⟨gkx, 2, none⟩) (.int .i64 (at_ + d)) (by show gky ≠ gkx; omega) Hqy.out.1 Hqy.out.2
     have ki2 := (ki.setNe (p := ⟨gkx, 3, none⟩) (.slice (some ⟨gm, 0, none⟩) use.length cm) (by show gki ≠ gkx; omega)).setNe (p := ⟨gkx, 2, none⟩) (.int .i64 (at_ + d)) (by show gki ≠ gkx; omega)
     have kk2 := (kk.setNe (p := ⟨gkx, 3, none⟩) (.slice (some ⟨gm, 0, none⟩) use.length cm) (by show gkk ≠ gkx; omega)).setNe (p := ⟨gkx, 2, none⟩) (.int .i64 (at_ + d)) (by show gkk ≠ gkx; omega)
     have B10 : Below (w.heap.size + 2) W0 ((wr.setCell ⟨gkx, 3, none⟩ (.slice (some ⟨gm, 0, none⟩) use.length cm)).setCell ⟨gkx, 2, none⟩ (.int .i64 (at_ + d))) := (B9.setCell (p := ⟨gkx, 3, none⟩) hgx0 _).setCell (p := ⟨gkx, 2, none⟩) hgx0 _
     simp only at kx2
     clear kx ky ki kk fkx x3 x2 ckx0 ckx1 ckx2 ckx3 ckx4 ckxz hownA y0 y1 y2 y3 y4 x0 x1 yz yq ys B9
     generalize (wr.setCell ⟨gkx, 3, none⟩ (.slice (some ⟨gm, 0, none⟩) use.length cm)).setCell ⟨gkx, 2, none⟩ (.int .i64 (at_ + d)) = wz at *
     obtain ⟨⟨y0, y1, y2, y3, y4⟩, ⟨x0, x1⟩, -, -, yz⟩ := HS.out wz B10
     have yq := Nat.lt_of_succ_le yz
     have ys : w.heap.size < wz.heap.size := by omega
     obtain ⟨⟨ckx20, ckx21, ckx22, ckx23, ckx24⟩, -, -, ckx2z⟩ := id kx2
     obtain ⟨⟨cky20, cky21, cky22, cky23, cky24⟩, -, -, cky2z⟩ := id ky2
     simp only at ckx21 ckx22 ckx24 cky21 cky22 cky24
     have hSm := R32Same_any ⟨use, ev, at_ + d, wsL ⟨r, f, lo, tm, ps⟩ use (at_ + d), ev + tm⟩ ⟨use, ev, at_ + d, wsL ⟨r, f, lo, tm, ps⟩ use (at_ + d), ev + tm⟩ (.slice ua2 use.length uc2) (.slice (some ⟨gm, 0, none⟩) use.length cm) (.slice ua3 use.length uc3) (.slice aa3 use.length ac3) wz kx2.2.1 kx2.2.2.1 ky2.2.1 ky2.2.2.1
     rw [scSame_self] at hSm
     unfold valSc at hSm
     simp only at hSm
     have HSm := hide hSm
     clear hSm
     go_wp2_with fail
     refine (HSm.out).mono ?_
     rintro e w23 ⟨rfl, b23⟩
     have B23 : Below (w.heap.size + 2) W0 w23 := B10.trans (b23.mono (HS.out _ B10).2.2.2.2)
     have tkx2 := kx2.below b23
     clear kx2
     have kx2 := tkx2
     clear tkx2
     have tky2 := ky2.below b23
     clear ky2
     have ky2 := tky2
     clear tky2
     have tki2 := ki2.below b23
     clear ki2
     have ki2 := tki2
     clear tki2
     have tkk2 := kk2.below b23
     clear kk2
     have kk2 := tkk2
     clear tkk2
     clear y0 y1 y2 y3 y4 x0 x1 yz yq ys b23 B10
     obtain ⟨⟨y0, y1, y2, y3, y4⟩, ⟨x0, x1⟩, -, -, yz⟩ := HS.out w23 B23
     have yq := Nat.lt_of_succ_le yz
     have ys : w.heap.size < w23.heap.size := by omega
     clear ckx20 ckx21 ckx22 ckx23 ckx24 ckx2z cky20 cky21 cky22 cky23 cky24 cky2z
     obtain ⟨cki20, cki21, cki2z⟩ := id ki2
     obtain ⟨ckk20, ckk21, ckk2z⟩ := id kk2
     by_cases hY : Y2 = 3000000000000000
     ·subst hY
      go_wp2_with fail
      go_ret
      exact ⟨rfl, (by ((with_reducible repeat' first | exact .refl _ _ | exact (HS.out _ B23).2.2.2.1 | refine .alloc ?_ ?_ _ | refine .setCell ?_ ?_ _ | refine .drew ?_ | refine below_drewN ?_ _ | refine Below.trans ?_ ((HS.out _ B23).2.2.2.1.mono ?_)) <;> first | omega | simp <;> omega))⟩
     ·have dY : (Y2 == 3000000000000000) = false := by rw [beq_eq_false_iff_ne]; exact hY
      obtain ⟨m1, m2⟩ : X2 = X + d ∧ Y2 = Y + d := by
       rcases Hsm.out with h | h | h
       ·exact absurd h hY
       ·exact h
       ·omega
      have wl : IntKind.i64.wrap (X + d) = X + d := IntWalk.i64_in _ (by have := Hxy.out; omega)
      have wh : IntKind.i64.wrap (Y + d) = Y + d := IntWalk.i64_in _ (by have := Hxy.out; omega)
      subst m1 m2
      have dE : ivEq (X + d) (Y + d) (X + d) (Y + d) = true := by simp [ivEq]
      clear hY
      go_wp2_with fail
      go_ret
      exact ⟨rfl, (by ((with_reducible repeat' first | exact .refl _ _ | exact (HS.out _ B23).2.2.2.1 | refine .alloc ?_ ?_ _ | refine .setCell ?_ ?_ _ | refine .drew ?_ | refine below_drewN ?_ _ | refine Below.trans ?_ ((HS.out _ B23).2.2.2.1.mono ?_)) <;> first | omega | simp <;> omega))⟩
set_option maxRecDepth 100000 in
theorem sceneMoves_holds : Rows.SceneMovesSaid :=
 OpenClaim.holds_of_wide 7 Tryz.f7 rfl rfl rfl rfl rfl rfl rfl ⟨rfl, rfl, rfl, rfl, rfl⟩ rfl rfl rfl rfl rfl (by kernel_rfl) Tryz.func7 (by kernel_rfl)
  (of_decide_eq_true (by kernel_rfl)) (by unfold Func.isWrapper; rw [if_neg (of_decide_eq_false (by kernel_rfl))]; exact ⟨rfl, rfl⟩)
  (fun os started H enc _ => law_lifted started 7 Tryz.f7 Tryz.func7 (by kernel_rfl) Rows.sceneMovesSpec rfl rfl
   (fun ds h => by match ds, h with | [_, _, _, _], _ => exact ⟨rfl, rfl, rfl⟩)
   (fun t h => by
    rw [Tryz.params7] at h
    simp only [List.mem_cons, List.not_mem_nil, or_false] at h
    rcases h with rfl | rfl | rfl | rfl <;> exact ⟨by kernel_rfl, of_decide_eq_true (by kernel_rfl)⟩)
   (ChangeSpec.witness6 (enc := enc) (C := Tryz.checked) false ⟨#[], #[.agg #[.int .i64 0, .int .i64 0, .int .i64 0, .int .i64 0, .slice none 0 0], .agg #[.slice none 0 0, .int .i64 0], .int .i64 0, .int .u32 0], []⟩ 8 (by kernel_rfl) (by kernel_rfl) (by kernel_rfl) (by kernel_rfl))
   (fun W base args ds p hA hok => by
    rw [Tryz.params7] at hA hok
    obtain ⟨v0, vs0, d0, ds0, p0, q0, hargs, rfl, rfl, h0, r0⟩ := ChangeShapes.trodAll_cons hA
    obtain ⟨v1, vs1, d1, ds1, p1, q1, rfl, rfl, rfl, h1, r1⟩ := ChangeShapes.trodAll_cons r0
    obtain ⟨v2, vs2, d2, ds2, p2, q2, rfl, rfl, rfl, h2, r2⟩ := ChangeShapes.trodAll_cons r1
    obtain ⟨v3, vs3, d3, ds3, p3, q3, rfl, rfl, rfl, h3, r3⟩ := ChangeShapes.trodAll_cons r2
    obtain ⟨rfl, rfl, rfl⟩ := ChangeShapes.trodAll_nil r3
    obtain rfl : args = #[v0, v1, v2, v3] := by rw [← Array.toArray_toList (xs := args), hargs]
    obtain ⟨l0, hl0⟩ := open_site (hok 0 _ v0 rfl rfl) h0
    obtain ⟨l1, hl1⟩ := open_sched (hok 1 _ v1 rfl rfl) h1
    obtain ⟨x2, rfl, hx2⟩ := open_i64 Tryz.underlying3 (hok 2 _ v2 rfl rfl) h2
    obtain ⟨x3, rfl, hx3⟩ := open_u32 Tryz.underlying57 (hok 3 _ v3 rfl rfl) h3
    exact ScZMoves_any W v0 l0 hl0 v1 l1 hl1 x2 x3 hx3))
end Go.Proofs.YtigjljmhpkeahaaGreat
