
/- SceneMatchesReference, the walk: for all arguments the statement answers true and leaves its arguments as they were. No condition. -/
import Derived.Test.YtigjljmhpkeahaaGreatScX
import Derived.Test.YtigjljmhpkeahaaGreatScYp
import Derived.Test.YtigjljmhpkeahaaGreatScO
import Derived.Test.YtigjljmhpkeahaaGreatScS
namespace Go.Proofs.YtigjljmhpkeahaaGreat
open Go.RowKit

attribute [local go_sem ↓] run_eql_iv run_neq_iv
set_option maxRecDepth 100000 in
set_option maxHeartbeats 4000000 in
theorem ScZMatch_any (w : World) (v0 : Value) (s : SiA) (hs : SiOk w v0 s) (v1 : Value) (c : ScA) (hc : ScOk w v1 c) (v2 : Value) (x : SnA) (hx : SnOk w v2 x) (v : Value) (pl : List Int) (hv : IsRow w v pl) (_wl : WfI pl) (pm tt : Int) :
  Calls Tryz.prog 3 #[v0, v1, v2, v, .int .i64 pm, .int .i64 tt] w fun e w' => e = .returned (.bool true) ∧ Below w.heap.size w w' := by
 obtain ⟨r, f, lo, tm, pv, ps⟩ := s
 obtain ⟨rfl, hp, -, -⟩ := hs
 simp only at hp ⊢
 obtain ⟨pa, pc, rfl, -, -⟩ := hp.len
 obtain ⟨cuv, cu, cev⟩ := c
 obtain ⟨rfl, hcu, -, hcev⟩ := hc
 simp only at hcu hcev ⊢
 obtain ⟨ca, cc, rfl, -, -, -⟩ := id hcu
 obtain ⟨uv, av, use, ev, at_, an, ct⟩ := x
 obtain ⟨rfl, ⟨hu, -⟩, ⟨ha, -⟩, hev, hat, hct⟩ := hx
 simp only at hu ha hev hat hct ⊢
 obtain ⟨ua, uc, rfl, -, -, -⟩ := id hu
 obtain ⟨aa, ac, rfl, -, -⟩ := ha.len
 obtain ⟨va, vc, rfl, -, -, -⟩ := id hv
 obtain ⟨W0, hW0⟩ : ∃ W : World, W = ((w.alloc (.cells #[.int .i64 r, .int .i64 f, .int .i64 lo, .int .i64 tm, .slice pa ps.length pc] 24)).alloc (.cells #[.slice ca cu.length cc, .int .i64 cev] 27)).alloc (.cells #[.slice ua use.length uc, .int .i64 ev, .int .i64 at_, .slice aa an.length ac, .int .i64 ct] 30) := ⟨_, rfl⟩
 have hS : ∀ V : World, Below (w.heap.size + 3) W0 V → (V.cell? ⟨w.heap.size, 0, none⟩ = some (.int .i64 r) ∧ V.cell? ⟨w.heap.size, 1, none⟩ = some (.int .i64 f) ∧ V.cell? ⟨w.heap.size, 2, none⟩ = some (.int .i64 lo) ∧ V.cell? ⟨w.heap.size, 3, none⟩ = some (.int .i64 tm) ∧ V.cell? ⟨w.heap.size, 4, none⟩ = some (.slice pa ps.length pc)) ∧
   (V.cell? ⟨w.heap.size + 1, 0, none⟩ = some (.slice ca cu.length cc) ∧ V.cell? ⟨w.heap.size + 1, 1, none⟩ = some (.int .i64 cev) ∧ V.cell? ⟨w.heap.size + 2, 0, none⟩ = some (.slice ua use.length uc) ∧ V.cell? ⟨w.heap.size + 2, 1, none⟩ = some (.int .i64 ev) ∧ V.cell? ⟨w.heap.size + 2, 2, none⟩ = some (.int .i64 at_) ∧ V.cell? ⟨w.heap.size + 2, 3, none⟩ = some (.slice aa an.length ac) ∧ V.cell? ⟨w.heap.size + 2, 4, none⟩ = some (.int .i64 ct)) ∧
   (PrRow V (.slice pa ps.length pc) ps ∧ IsRow V (.slice ca cu.length cc) cu ∧ IsRow V (.slice ua use.length uc) use ∧ AnRow V (.slice aa an.length ac) an ∧ IsRow V (.slice va pl.length vc) pl) ∧ Below w.heap.size w V ∧ w.heap.size + 3 ≤ V.heap.size := by
  intro V hV
  have bW : Below w.heap.size w W0 := by rw [hW0]; ((with_reducible repeat' first | exact .refl _ _ | refine .alloc ?_ ?_ _ | refine .setCell ?_ ?_ _ | refine .drew ?_ | refine below_drewN ?_ _) <;> first | omega | simp <;> omega)
  have zW : W0.heap.size = w.heap.size + 3 := by rw [hW0]; simp
  have hb := bW.trans (hV.mono (by omega))
  have h0 := (bk hV w.heap.size (by omega)).1
  have h1 := (bk hV (w.heap.size + 1) (by omega)).1
  have h2 := (bk hV (w.heap.size + 2) (by omega)).1
  refine ⟨⟨(h0 _).trans ?_, (h0 _).trans ?_, (h0 _).trans ?_, (h0 _).trans ?_, (h0 _).trans ?_⟩, ⟨(h1 _).trans ?_, (h1 _).trans ?_, (h2 _).trans ?_, (h2 _).trans ?_, (h2 _).trans ?_, (h2 _).trans ?_, (h2 _).trans ?_⟩, ⟨hp.below (Nat.le_refl _) hb, hcu.below (Nat.le_refl _) hb, hu.below (Nat.le_refl _) hb, ha.below (Nat.le_refl _) hb, hv.below (Nat.le_refl _) hb⟩, hb, by have := hV.size; omega⟩ <;> (rw [hW0]; simp [go_sem])
 have HS := hide hS
 clear hS hp hcu hu ha hv
 cases hU : decide ((ps.length ≤ 20 ∧ use.length ≤ 20) ∧ an.length ≤ 20) with
 | false =>
  go_enter Tryz.func3, Tryz.ntmps3
  go_upto_region 1 with fail
  rw [← hW0]
  clear hW0
  have B0 : Below (w.heap.size + 3) W0 W0 := Below.refl _ _
  obtain ⟨⟨y0, y1, y2, y3, y4⟩, ⟨x0, x1, n0, n1, n2, n3, n4⟩, -, -, yz⟩ := HS.out W0 B0
  have yq := Nat.lt_of_succ_le yz
  have ys : w.heap.size < W0.heap.size := by omega
  go_wp2_with fail
  refine (scHead_any _).mono ?_
  rintro e w1 ⟨rfl, b1⟩
  have B1 : Below (w.heap.size + 3) W0 w1 := B0.trans (b1.mono (HS.out _ B0).2.2.2.2)
  clear y0 y1 y2 y3 y4 x0 x1 n0 n1 n2 n3 n4 yz yq ys b1 B0
  obtain ⟨⟨y0, y1, y2, y3, y4⟩, ⟨x0, x1, n0, n1, n2, n3, n4⟩, -, -, yz⟩ := HS.out w1 B1
  have yq := Nat.lt_of_succ_le yz
  have ys : w.heap.size < w1.heap.size := by omega
  go_wp2_with fail
  refine (scFew_any r f lo tm _ ps _ use ev at_ _ an ct _ (HS.out _ B1).2.2.1.1 (HS.out _ B1).2.2.1.2.2.1 (HS.out _ B1).2.2.1.2.2.2.1).mono ?_
  rintro e w2 ⟨rfl, b2⟩
  rw [hU]
  have B2 : Below (w.heap.size + 3) W0 w2 := B1.trans (b2.mono (HS.out _ B1).2.2.2.2)
  clear y0 y1 y2 y3 y4 x0 x1 n0 n1 n2 n3 n4 yz yq ys b2 B1
  obtain ⟨⟨y0, y1, y2, y3, y4⟩, ⟨x0, x1, n0, n1, n2, n3, n4⟩, -, -, yz⟩ := HS.out w2 B2
  have yq := Nat.lt_of_succ_le yz
  have ys : w.heap.size < w2.heap.size := by omega
  go_wp2_with fail
  go_ret
  exact ⟨rfl, (by ((with_reducible repeat' first | exact .refl _ _ | exact (HS.out _ B2).2.2.2.1 | refine .alloc ?_ ?_ _ | refine .setCell ?_ ?_ _ | refine .drew ?_ | refine below_drewN ?_ _ | refine Below.trans ?_ ((HS.out _ B2).2.2.2.1.mono ?_)) <;> first | omega | simp <;> omega))⟩
 | true =>
  have hun : use.length ≤ 1000000 := by have := of_decide_eq_true hU; omega
  cases hV : decide (ps.length ≤ 20 ∧ cu.length ≤ 20) with
  | false =>
   go_enter Tryz.func3, Tryz.ntmps3
   go_upto_region 1 with fail
   rw [← hW0]
   clear hW0
   have B0 : Below (w.heap.size + 3) W0 W0 := Below.refl _ _
   obtain ⟨⟨y0, y1, y2, y3, y4⟩, ⟨x0, x1, n0, n1, n2, n3, n4⟩, -, -, yz⟩ := HS.out W0 B0
   have yq := Nat.lt_of_succ_le yz
   have ys : w.heap.size < W0.heap.size := by omega
   go_wp2_with fail
   refine (scHead_any _).mono ?_
   rintro e w1 ⟨rfl, b1⟩
   have B1 : Below (w.heap.size + 3) W0 w1 := B0.trans (b1.mono (HS.out _ B0).2.2.2.2)
   clear y0 y1 y2 y3 y4 x0 x1 n0 n1 n2 n3 n4 yz yq ys b1 B0
   obtain ⟨⟨y0, y1, y2, y3, y4⟩, ⟨x0, x1, n0, n1, n2, n3, n4⟩, -, -, yz⟩ := HS.out w1 B1
   have yq := Nat.lt_of_succ_le yz
   have ys : w.heap.size < w1.heap.size := by omega
   go_wp2_with fail
   refine (scFew_any r f lo tm _ ps _ use ev at_ _ an ct _ (HS.out _ B1).2.2.1.1 (HS.out _ B1).2.2.1.2.2.1 (HS.out _ B1).2.2.1.2.2.2.1).mono ?_
   rintro e w2 ⟨rfl, b2⟩
   rw [hU]
   have B2 : Below (w.heap.size + 3) W0 w2 := B1.trans (b2.mono (HS.out _ B1).2.2.2.2)
   clear y0 y1 y2 y3 y4 x0 x1 n0 n1 n2 n3 n4 yz yq ys b2 B1
   obtain ⟨⟨y0, y1, y2, y3, y4⟩, ⟨x0, x1, n0, n1, n2, n3, n4⟩, -, -, yz⟩ := HS.out w2 B2
   have yq := Nat.lt_of_succ_le yz
   have ys : w.heap.size < w2.heap.size := by omega
   go_wp2_with fail
   refine (R29Few_any r f lo tm _ ps _ cu cev _ (HS.out _ B2).2.2.1.1 (HS.out _ B2).2.2.1.2.1).mono ?_
   rintro e w3 ⟨rfl, b3⟩
   rw [hV]
   have B3 : Below (w.heap.size + 3) W0 w3 := B2.trans (b3.mono (HS.out _ B2).2.2.2.2)
   clear y0 y1 y2 y3 y4 x0 x1 n0 n1 n2 n3 n4 yz yq ys b3 B2
   obtain ⟨⟨y0, y1, y2, y3, y4⟩, ⟨x0, x1, n0, n1, n2, n3, n4⟩, -, -, yz⟩ := HS.out w3 B3
   have yq := Nat.lt_of_succ_le yz
   have ys : w.heap.size < w3.heap.size := by omega
   go_wp2_with fail
   go_ret
   exact ⟨rfl, (by ((with_reducible repeat' first | exact .refl _ _ | exact (HS.out _ B3).2.2.2.1 | refine .alloc ?_ ?_ _ | refine .setCell ?_ ?_ _ | refine .drew ?_ | refine below_drewN ?_ _ | refine Below.trans ?_ ((HS.out _ B3).2.2.2.1.mono ?_)) <;> first | omega | simp <;> omega))⟩
  | true =>
   have hcn : cu.length ≤ 1000000 := by have := of_decide_eq_true hV; omega
   obtain ⟨X, hX⟩ : ∃ X, wsS ⟨r, f, lo, tm, ps⟩ cu cev tt = X := ⟨_, rfl⟩
   obtain ⟨E, hE⟩ : ∃ E, wsEr ⟨r, f, lo, tm, ps⟩ cu cev tt = E := ⟨_, rfl⟩
   have hW1 := fun pv uv W q1 q2 => scWorst_v r f lo tm pv ps uv cu cev tt W q1 q2 hX hE
   have hW2 := fun pv uv W q1 q2 => R32Worst_v r f lo tm pv ps uv cu cev tt W q1 q2 hcn hX hE
   have hA1 := fun pv uv av W q1 q2 q3 => scAllowed_any r f lo tm pv ps uv use ev at_ av an ct W q1 q2 q3
   have hA2 := fun pv uv av W q1 q2 q3 => R32Allowed_any r f lo tm pv ps uv use ev at_ av an ct W q1 q2 q3 hun
   unfold AllPost at hA1 hA2
   generalize (fitB ⟨r, f, lo, tm, ps⟩ ⟨use, ev, at_, an, ct⟩ && alB ⟨r, f, lo, tm, ps⟩ ⟨use, ev, at_, an, ct⟩) = A at *
   generalize (if fitB ⟨r, f, lo, tm, ps⟩ ⟨use, ev, at_, an, ct⟩ = true then (0 : Int) else 1) = A' at *
   have hP1 := fun pv uv av W q1 q2 q3 => scPlay_any r f lo tm pv ps uv use ev at_ av an ct W q1 q2 q3
   have hP2 := fun pv uv av W q1 q2 q3 => R32Play_any r f lo tm pv ps uv use ev at_ av an ct W q1 q2 q3 hun
   unfold PlayPost at hP1 hP2
   generalize pyEr ⟨r, f, lo, tm, ps⟩ ⟨use, ev, at_, an, ct⟩ = P0 at *
   generalize pyLo ⟨r, f, lo, tm, ps⟩ ⟨use, ev, at_, an, ct⟩ = P1 at *
   generalize pyHi ⟨r, f, lo, tm, ps⟩ ⟨use, ev, at_, an, ct⟩ = P2 at *
   have dE : (E == E) = true := by simp
   have dA : (A == A) = true := by simp
   have dA' : (A' == A') = true := by simp
   have dP0 : (P0 == P0) = true := by simp
   have dP : ivEq P1 P2 P1 P2 = true := by simp [ivEq]
   have HW1 := hide hW1
   have HW2 := hide hW2
   have HA1 := hide hA1
   have HA2 := hide hA2
   have HP1 := hide hP1
   have HP2 := hide hP2
   clear hW1 hW2 hA1 hA2 hP1 hP2 hX hE
   go_enter Tryz.func3, Tryz.ntmps3
   go_upto_region 1 with fail
   rw [← hW0]
   clear hW0
   have B0 : Below (w.heap.size + 3) W0 W0 := Below.refl _ _
   obtain ⟨⟨y0, y1, y2, y3, y4⟩, ⟨x0, x1, n0, n1, n2, n3, n4⟩, -, -, yz⟩ := HS.out W0 B0
   have yq := Nat.lt_of_succ_le yz
   have ys : w.heap.size < W0.heap.size := by omega
   go_wp2_with fail
   refine (scHead_any _).mono ?_
   rintro e w1 ⟨rfl, b1⟩
   have B1 : Below (w.heap.size + 3) W0 w1 := B0.trans (b1.mono (HS.out _ B0).2.2.2.2)
   clear y0 y1 y2 y3 y4 x0 x1 n0 n1 n2 n3 n4 yz yq ys b1 B0
   obtain ⟨⟨y0, y1, y2, y3, y4⟩, ⟨x0, x1, n0, n1, n2, n3, n4⟩, -, -, yz⟩ := HS.out w1 B1
   have yq := Nat.lt_of_succ_le yz
   have ys : w.heap.size < w1.heap.size := by omega
   go_wp2_with fail
   refine (scFew_any r f lo tm _ ps _ use ev at_ _ an ct _ (HS.out _ B1).2.2.1.1 (HS.out _ B1).2.2.1.2.2.1 (HS.out _ B1).2.2.1.2.2.2.1).mono ?_
   rintro e w2 ⟨rfl, b2⟩
   rw [hU]
   have B2 : Below (w.heap.size + 3) W0 w2 := B1.trans (b2.mono (HS.out _ B1).2.2.2.2)
   clear y0 y1 y2 y3 y4 x0 x1 n0 n1 n2 n3 n4 yz yq ys b2 B1
   obtain ⟨⟨y0, y1, y2, y3, y4⟩, ⟨x0, x1, n0, n1, n2, n3, n4⟩, -, -, yz⟩ := HS.out w2 B2
   have yq := Nat.lt_of_succ_le yz
   have ys : w.heap.size < w2.heap.size := by omega
   go_wp2_with fail
   refine (R29Few_any r f lo tm _ ps _ cu cev _ (HS.out _ B2).2.2.1.1 (HS.out _ B2).2.2.1.2.1).mono ?_
   rintro e w3 ⟨rfl, b3⟩
   rw [hV]
   have B3 : Below (w.heap.size + 3) W0 w3 := B2.trans (b3.mono (HS.out _ B2).2.2.2.2)
   clear y0 y1 y2 y3 y4 x0 x1 n0 n1 n2 n3 n4 yz yq ys b3 B2
   obtain ⟨⟨y0, y1, y2, y3, y4⟩, ⟨x0, x1, n0, n1, n2, n3, n4⟩, -, -, yz⟩ := HS.out w3 B3
   have yq := Nat.lt_of_succ_le yz
   have ys : w.heap.size < w3.heap.size := by omega
   go_wp2_with fail
   refine (HW1.out _ _ _ (HS.out _ B3).2.2.1.1 (HS.out _ B3).2.2.1.2.1).mono ?_
   rintro e w4 ⟨ua2, uc2, aa2, ac2, rfl, hu2, ha2, ho2, b4⟩
   have B4 : Below (w.heap.size + 3) W0 w4 := B3.trans (b4.mono (HS.out _ B3).2.2.2.2)
   clear y0 y1 y2 y3 y4 x0 x1 n0 n1 n2 n3 n4 yz yq ys b4 B3
   obtain ⟨⟨y0, y1, y2, y3, y4⟩, ⟨x0, x1, n0, n1, n2, n3, n4⟩, -, -, yz⟩ := HS.out w4 B4
   have yq := Nat.lt_of_succ_le yz
   have ys : w.heap.size < w4.heap.size := by omega
   go_upto_region 5 with fail
   have hgx0 : w.heap.size + 3 ≤ w4.heap.size := yz
   have fkx := (FzBox.made : FzBox (w4.alloc (.cells #[.slice ua2 X.use.length uc2, .int .i64 X.ev, .int .i64 X.at_, .slice aa2 X.an.length ac2, .int .i64 X.ct] 30)) w4.heap.size)
   have kx : SnBox (w4.alloc (.cells #[.slice ua2 X.use.length uc2, .int .i64 X.ev, .int .i64 X.at_, .slice aa2 X.an.length ac2, .int .i64 X.ct] 30)) w4.heap.size X (.slice ua2 X.use.length uc2) (.slice aa2 X.an.length ac2) := SnBox.made (x := X) hu2 ha2
   have b5 : Below w4.heap.size w4 (w4.alloc (.cells #[.slice ua2 X.use.length uc2, .int .i64 X.ev, .int .i64 X.at_, .slice aa2 X.an.length ac2, .int .i64 X.ct] 30)) := (by ((with_reducible repeat' first | exact .refl _ _ | refine .alloc ?_ ?_ _ | refine .setCell ?_ ?_ _ | refine .drew ?_ | refine below_drewN ?_ _) <;> first | omega | simp <;> omega))
   have B5 : Below (w.heap.size + 3) W0 (w4.alloc (.cells #[.slice ua2 X.use.length uc2, .int .i64 X.ev, .int .i64 X.at_, .slice aa2 X.an.length ac2, .int .i64 X.ct] 30)) := B4.trans (b5.mono (HS.out _ B4).2.2.2.2)
   obtain ⟨gkx, hgkx⟩ : ∃ g, g = w4.heap.size := ⟨_, rfl⟩
   rw [← hgkx] at kx fkx hgx0 ⊢
   clear hgkx b5 y0 y1 y2 y3 y4 x0 x1 n0 n1 n2 n3 n4 yz yq ys B4
   generalize w4.alloc (.cells #[.slice ua2 X.use.length uc2, .int .i64 X.ev, .int .i64 X.at_, .slice aa2 X.an.length ac2, .int .i64 X.ct] 30) = w5 at *
   obtain ⟨⟨y0, y1, y2, y3, y4⟩, ⟨x0, x1, n0, n1, n2, n3, n4⟩, -, -, yz⟩ := HS.out w5 B5
   have yq := Nat.lt_of_succ_le yz
   have ys : w.heap.size < w5.heap.size := by omega
   clear ho2
   have CZX : gkx < w5.heap.size := kx.2.2.2
   go_wp2_with fail
   refine (HW2.out _ _ _ (HS.out _ B5).2.2.1.1 (HS.out _ B5).2.2.1.2.1).mono ?_
   rintro e w6 ⟨ub2, ud2, ab2, ad2, rfl, hu3, ha3, ho3, b6⟩
   have B6 : Below (w.heap.size + 3) W0 w6 := B5.trans (b6.mono (HS.out _ B5).2.2.2.2)
   have tkx := kx.below b6
   clear kx
   have kx := tkx
   clear tkx
   have tfkx := fkx.below b6
   clear fkx
   have fkx := tfkx
   clear tfkx
   have Hqy := hide (show (∀ q, (Value.slice ub2 X.use.length ud2).ownBlock = some q → q ≠ gkx) ∧ (∀ q, (Value.slice ab2 X.an.length ad2).ownBlock = some q → q ≠ gkx) from ⟨fun q h => by have := (ho3.1 q h).1; omega, fun q h => by have := (ho3.2 q h).1; omega⟩)
   clear ho3 CZX
   clear y0 y1 y2 y3 y4 x0 x1 n0 n1 n2 n3 n4 yz yq ys b6 B5
   obtain ⟨⟨y0, y1, y2, y3, y4⟩, ⟨x0, x1, n0, n1, n2, n3, n4⟩, -, -, yz⟩ := HS.out w6 B6
   have yq := Nat.lt_of_succ_le yz
   have ys : w.heap.size < w6.heap.size := by omega
   go_upto_region 6 with fail
   have hgy0 : w.heap.size + 3 ≤ w6.heap.size := yz
   have fky := (FzBox.made : FzBox (w6.alloc (.cells #[.slice ub2 X.use.length ud2, .int .i64 X.ev, .int .i64 X.at_, .slice ab2 X.an.length ad2, .int .i64 X.ct] 30)) w6.heap.size)
   have lkxky : gkx < w6.heap.size := kx.2.2.2
   have ky : SnBox (w6.alloc (.cells #[.slice ub2 X.use.length ud2, .int .i64 X.ev, .int .i64 X.at_, .slice ab2 X.an.length ad2, .int .i64 X.ct] 30)) w6.heap.size X (.slice ub2 X.use.length ud2) (.slice ab2 X.an.length ad2) := SnBox.made (x := X) hu3 ha3
   have b7 : Below w6.heap.size w6 (w6.alloc (.cells #[.slice ub2 X.use.length ud2, .int .i64 X.ev, .int .i64 X.at_, .slice ab2 X.an.length ad2, .int .i64 X.ct] 30)) := (by ((with_reducible repeat' first | exact .refl _ _ | refine .alloc ?_ ?_ _ | refine .setCell ?_ ?_ _ | refine .drew ?_ | refine below_drewN ?_ _) <;> first | omega | simp <;> omega))
   have tkx := kx.below b7
   clear kx
   have kx := tkx
   clear tkx
   have tfkx := fkx.below b7
   clear fkx
   have fkx := tfkx
   clear tfkx
   have B7 : Below (w.heap.size + 3) W0 (w6.alloc (.cells #[.slice ub2 X.use.length ud2, .int .i64 X.ev, .int .i64 X.at_, .slice ab2 X.an.length ad2, .int .i64 X.ct] 30)) := B6.trans (b7.mono (HS.out _ B6).2.2.2.2)
   obtain ⟨gky, hgky⟩ : ∃ g, g = w6.heap.size := ⟨_, rfl⟩
   rw [← hgky] at ky fky hgy0 lkxky ⊢
   clear hgky b7 y0 y1 y2 y3 y4 x0 x1 n0 n1 n2 n3 n4 yz yq ys B6
   generalize w6.alloc (.cells #[.slice ub2 X.use.length ud2, .int .i64 X.ev, .int .i64 X.at_, .slice ab2 X.an.length ad2, .int .i64 X.ct] 30) = w7 at *
   obtain ⟨⟨y0, y1, y2, y3, y4⟩, ⟨x0, x1, n0, n1, n2, n3, n4⟩, -, -, yz⟩ := HS.out w7 B7
   have yq := Nat.lt_of_succ_le yz
   have ys : w.heap.size < w7.heap.size := by omega
   obtain ⟨⟨ckx0, ckx1, ckx2, ckx3, ckx4⟩, -, -, ckxz⟩ := id kx
   obtain ⟨⟨cky0, cky1, cky2, cky3, cky4⟩, -, -, ckyz⟩ := id ky
   go_wp2_with fail
   refine (scSame_v X _ _ _ _ _ _ _ _ _ kx.2.1 kx.2.2.1 ky.2.1 ky.2.2.1).mono ?_
   rintro e w8 ⟨rfl, b8⟩
   have B8 : Below (w.heap.size + 3) W0 w8 := B7.trans (b8.mono (HS.out _ B7).2.2.2.2)
   have tkx := kx.below b8
   clear kx
   have kx := tkx
   clear tkx
   have tfkx := fkx.below b8
   clear fkx
   have fkx := tfkx
   clear tfkx
   have tky := ky.below b8
   clear ky
   have ky := tky
   clear tky
   have tfky := fky.below b8
   clear fky
   have fky := tfky
   clear tfky
   clear y0 y1 y2 y3 y4 x0 x1 n0 n1 n2 n3 n4 yz yq ys b8 B7
   obtain ⟨⟨y0, y1, y2, y3, y4⟩, ⟨x0, x1, n0, n1, n2, n3, n4⟩, -, -, yz⟩ := HS.out w8 B8
   have yq := Nat.lt_of_succ_le yz
   have ys : w.heap.size < w8.heap.size := by omega
   clear ckx0 ckx1 ckx2 ckx3 ckx4 ckxz
   clear cky0 cky1 cky2 cky3 cky4 ckyz
   go_wp2_with fail
   refine (HA1.out _ _ _ _ (HS.out _ B8).2.2.1.1 (HS.out _ B8).2.2.1.2.2.1 (HS.out _ B8).2.2.1.2.2.2.1).mono ?_
   rintro e w9 ⟨rfl, b9⟩
   have B9 : Below (w.heap.size + 3) W0 w9 := B8.trans (b9.mono (HS.out _ B8).2.2.2.2)
   have tkx := kx.below b9
   clear kx
   have kx := tkx
   clear tkx
   have tfkx := fkx.below b9
   clear fkx
   have fkx := tfkx
   clear tfkx
   have tky := ky.below b9
   clear ky
   have ky := tky
   clear tky
   have tfky := fky.below b9
   clear fky
   have fky := tfky
   clear tfky
   clear y0 y1 y2 y3 y4 x0 x1 n0 n1 n2 n3 n4 yz yq ys b9 B8
   obtain ⟨⟨y0, y1, y2, y3, y4⟩, ⟨x0, x1, n0, n1, n2, n3, n4⟩, -, -, yz⟩ := HS.out w9 B9
   have yq := Nat.lt_of_succ_le yz
   have ys : w.heap.size < w9.heap.size := by omega
   go_wp2_with fail
   refine (HA2.out _ _ _ _ (HS.out _ B9).2.2.1.1 (HS.out _ B9).2.2.1.2.2.1 (HS.out _ B9).2.2.1.2.2.2.1).mono ?_
   rintro e w10 ⟨rfl, b10⟩
   have B10 : Below (w.heap.size + 3) W0 w10 := B9.trans (b10.mono (HS.out _ B9).2.2.2.2)
   have tkx := kx.below b10
   clear kx
   have kx := tkx
   clear tkx
   have tfkx := fkx.below b10
   clear fkx
   have fkx := tfkx
   clear tfkx
   have tky := ky.below b10
   clear ky
   have ky := tky
   clear tky
   have tfky := fky.below b10
   clear fky
   have fky := tfky
   clear tfky
   clear y0 y1 y2 y3 y4 x0 x1 n0 n1 n2 n3 n4 yz yq ys b10 B9
   obtain ⟨⟨y0, y1, y2, y3, y4⟩, ⟨x0, x1, n0, n1, n2, n3, n4⟩, -, -, yz⟩ := HS.out w10 B10
   have yq := Nat.lt_of_succ_le yz
   have ys : w.heap.size < w10.heap.size := by omega
   go_wp2_with fail
   refine (HP1.out _ _ _ _ (HS.out _ B10).2.2.1.1 (HS.out _ B10).2.2.1.2.2.1 (HS.out _ B10).2.2.1.2.2.2.1).mono ?_
   rintro e w11 ⟨rfl, b11⟩
   have B11 : Below (w.heap.size + 3) W0 w11 := B10.trans (b11.mono (HS.out _ B10).2.2.2.2)
   have tkx := kx.below b11
   clear kx
   have kx := tkx
   clear tkx
   have tfkx := fkx.below b11
   clear fkx
   have fkx := tfkx
   clear tfkx
   have tky := ky.below b11
   clear ky
   have ky := tky
   clear tky
   have tfky := fky.below b11
   clear fky
   have fky := tfky
   clear tfky
   clear y0 y1 y2 y3 y4 x0 x1 n0 n1 n2 n3 n4 yz yq ys b11 B10
   obtain ⟨⟨y0, y1, y2, y3, y4⟩, ⟨x0, x1, n0, n1, n2, n3, n4⟩, -, -, yz⟩ := HS.out w11 B11
   have yq := Nat.lt_of_succ_le yz
   have ys : w.heap.size < w11.heap.size := by omega
   go_upto_region 11 with fail
   have ki : IvBox (w11.alloc (.cells #[.int .i64 P1, .int .i64 P2] 41)) w11.heap.size P1 P2 := IvBox.made
   have b12 : Below w11.heap.size w11 (w11.alloc (.cells #[.int .i64 P1, .int .i64 P2] 41)) := (by ((with_reducible repeat' first | exact .refl _ _ | refine .alloc ?_ ?_ _ | refine .setCell ?_ ?_ _ | refine .drew ?_ | refine below_drewN ?_ _) <;> first | omega | simp <;> omega))
   have tkx := kx.below b12
   clear kx
   have kx := tkx
   clear tkx
   have tfkx := fkx.below b12
   clear fkx
   have fkx := tfkx
   clear tfkx
   have tky := ky.below b12
   clear ky
   have ky := tky
   clear tky
   have tfky := fky.below b12
   clear fky
   have fky := tfky
   clear tfky
   have B12 : Below (w.heap.size + 3) W0 (w11.alloc (.cells #[.int .i64 P1, .int .i64 P2] 41)) := B11.trans (b12.mono (HS.out _ B11).2.2.2.2)
   obtain ⟨gki, hgki⟩ : ∃ g, g = w11.heap.size := ⟨_, rfl⟩
   rw [← hgki] at ki ⊢
   clear hgki b12 y0 y1 y2 y3 y4 x0 x1 n0 n1 n2 n3 n4 yz yq ys B11
   generalize w11.alloc (.cells #[.int .i64 P1, .int .i64 P2] 41) = w12 at *
   obtain ⟨⟨y0, y1, y2, y3, y4⟩, ⟨x0, x1, n0, n1, n2, n3, n4⟩, -, -, yz⟩ := HS.out w12 B12
   have yq := Nat.lt_of_succ_le yz
   have ys : w.heap.size < w12.heap.size := by omega
   go_wp2_with fail
   refine (HP2.out _ _ _ _ (HS.out _ B12).2.2.1.1 (HS.out _ B12).2.2.1.2.2.1 (HS.out _ B12).2.2.1.2.2.2.1).mono ?_
   rintro e w13 ⟨rfl, b13⟩
   have B13 : Below (w.heap.size + 3) W0 w13 := B12.trans (b13.mono (HS.out _ B12).2.2.2.2)
   have tkx := kx.below b13
   clear kx
   have kx := tkx
   clear tkx
   have tfkx := fkx.below b13
   clear fkx
   have fkx := tfkx
   clear tfkx
   have tky := ky.below b13
   clear ky
   have ky := tky
   clear tky
   have tfky := fky.below b13
   clear fky
   have fky := tfky
   clear tfky
   have tki := ki.below b13
   clear ki
   have ki := tki
   clear tki
   clear y0 y1 y2 y3 y4 x0 x1 n0 n1 n2 n3 n4 yz yq ys b13 B12
   obtain ⟨⟨y0, y1, y2, y3, y4⟩, ⟨x0, x1, n0, n1, n2, n3, n4⟩, -, -, yz⟩ := HS.out w13 B13
   have yq := Nat.lt_of_succ_le yz
   have ys : w.heap.size < w13.heap.size := by omega
   go_upto_region 12 with fail
   have kk : IvBox (w13.alloc (.cells #[.int .i64 P1, .int .i64 P2] 41)) w13.heap.size P1 P2 := IvBox.made
   have b14 : Below w13.heap.size w13 (w13.alloc (.cells #[.int .i64 P1, .int .i64 P2] 41)) := (by ((with_reducible repeat' first | exact .refl _ _ | refine .alloc ?_ ?_ _ | refine .setCell ?_ ?_ _ | refine .drew ?_ | refine below_drewN ?_ _) <;> first | omega | simp <;> omega))
   have tkx := kx.below b14
   clear kx
   have kx := tkx
   clear tkx
   have tfkx := fkx.below b14
   clear fkx
   have fkx := tfkx
   clear tfkx
   have tky := ky.below b14
   clear ky
   have ky := tky
   clear tky
   have tfky := fky.below b14
   clear fky
   have fky := tfky
   clear tfky
   have tki := ki.below b14
   clear ki
   have ki := tki
   clear tki
   have B14 : Below (w.heap.size + 3) W0 (w13.alloc (.cells #[.int .i64 P1, .int .i64 P2] 41)) := B13.trans (b14.mono (HS.out _ B13).2.2.2.2)
   obtain ⟨gkk, hgkk⟩ : ∃ g, g = w13.heap.size := ⟨_, rfl⟩
   rw [← hgkk] at kk ⊢
   clear hgkk b14 y0 y1 y2 y3 y4 x0 x1 n0 n1 n2 n3 n4 yz yq ys B13
   generalize w13.alloc (.cells #[.int .i64 P1, .int .i64 P2] 41) = w14 at *
   obtain ⟨⟨y0, y1, y2, y3, y4⟩, ⟨x0, x1, n0, n1, n2, n3, n4⟩, -, -, yz⟩ := HS.out w14 B14
   have yq := Nat.lt_of_succ_le yz
   have ys : w.heap.size < w14.heap.size := by omega
   obtain ⟨cki0, cki1, ckiz⟩ := id ki
   obtain ⟨ckk0, ckk1, ckkz⟩ := id kk
   go_wp2_with fail
   refine (R30Few_any r f lo tm _ ps _ pl _ (HS.out _ B14).2.2.1.1 (HS.out _ B14).2.2.1.2.2.2.2).mono ?_
   rintro e w15 ⟨rfl, b15⟩
   have B15 : Below (w.heap.size + 3) W0 w15 := B14.trans (b15.mono (HS.out _ B14).2.2.2.2)
   have tkx := kx.below b15
   clear kx
   have kx := tkx
   clear tkx
   have tfkx := fkx.below b15
   clear fkx
   have fkx := tfkx
   clear tfkx
   have tky := ky.below b15
   clear ky
   have ky := tky
   clear tky
   have tfky := fky.below b15
   clear fky
   have fky := tfky
   clear tfky
   have tki := ki.below b15
   clear ki
   have ki := tki
   clear tki
   have tkk := kk.below b15
   clear kk
   have kk := tkk
   clear tkk
   clear y0 y1 y2 y3 y4 x0 x1 n0 n1 n2 n3 n4 yz yq ys b15 B14
   obtain ⟨⟨y0, y1, y2, y3, y4⟩, ⟨x0, x1, n0, n1, n2, n3, n4⟩, -, -, yz⟩ := HS.out w15 B15
   have yq := Nat.lt_of_succ_le yz
   have ys : w.heap.size < w15.heap.size := by omega
   clear cki0 cki1 ckiz ckk0 ckk1 ckkz ki kk
   cases hF30 : fewB30 ps.length pl.length with
   | false =>
    go_wp2_with fail
    go_ret
    exact ⟨rfl, (by ((with_reducible repeat' first | exact .refl _ _ | exact (HS.out _ B15).2.2.2.1 | refine .alloc ?_ ?_ _ | refine .setCell ?_ ?_ _ | refine .drew ?_ | refine below_drewN ?_ _ | refine Below.trans ?_ ((HS.out _ B15).2.2.2.1.mono ?_)) <;> first | omega | simp <;> omega))⟩
   | true =>
    obtain ⟨Z, hZ⟩ : ∃ X, rfS ⟨r, f, lo, tm, ps⟩ pl pm tt = X := ⟨_, rfl⟩
    obtain ⟨RB, hRB⟩ : ∃ E, rfB ⟨r, f, lo, tm, ps⟩ pl pm tt = E := ⟨_, rfl⟩
    obtain ⟨RE, hRE⟩ : ∃ E, rfEr ⟨r, f, lo, tm, ps⟩ pl pm tt = E := ⟨_, rfl⟩
    have hR1 := fun pv v W q1 q2 => scRefuse_v r f lo tm pv ps v pl pm tt W q1 q2 hZ hRB hRE
    have hR2 := fun pv v W q1 q2 => R32Refuse_v r f lo tm pv ps v pl pm tt W q1 q2 hZ hRB hRE
    have dRB : (RB == RB) = true := by simp
    have dRE : (RE == RE) = true := by simp
    have HR1 := hide hR1
    have HR2 := hide hR2
    clear hZ hRB hRE hR1 hR2
    go_wp2_with fail
    have CZX : gkx < w15.heap.size ∧ gky < w15.heap.size := ⟨kx.2.2.2, ky.2.2.2⟩
    refine (HR1.out _ _ _ (HS.out _ B15).2.2.1.1 (HS.out _ B15).2.2.1.2.2.2.2).mono ?_
    rintro e w16 ⟨ua4, uc4, aa4, ac4, rfl, hu4, ha4, ho4, b16⟩
    have B16 : Below (w.heap.size + 3) W0 w16 := B15.trans (b16.mono (HS.out _ B15).2.2.2.2)
    have tkx := kx.below b16
    clear kx
    have kx := tkx
    clear tkx
    have tfkx := fkx.below b16
    clear fkx
    have fkx := tfkx
    clear tfkx
    have tky := ky.below b16
    clear ky
    have ky := tky
    clear tky
    have tfky := fky.below b16
    clear fky
    have fky := tfky
    clear tfky
    have Hq4 := hide (show ((∀ q, (Value.slice ua4 Z.use.length uc4).ownBlock = some q → q ≠ gkx) ∧ (∀ q, (Value.slice aa4 Z.an.length ac4).ownBlock = some q → q ≠ gkx)) ∧ (∀ q, (Value.slice ua4 Z.use.length uc4).ownBlock = some q → q ≠ gky) ∧ (∀ q, (Value.slice aa4 Z.an.length ac4).ownBlock = some q → q ≠ gky) from ⟨⟨fun q h => by have := (ho4.1 q h).1; omega, fun q h => by have := (ho4.2 q h).1; omega⟩, fun q h => by have := (ho4.1 q h).1; omega, fun q h => by have := (ho4.2 q h).1; omega⟩)
    clear ho4 CZX
    clear y0 y1 y2 y3 y4 x0 x1 n0 n1 n2 n3 n4 yz yq ys b16 B15
    obtain ⟨⟨y0, y1, y2, y3, y4⟩, ⟨x0, x1, n0, n1, n2, n3, n4⟩, -, -, yz⟩ := HS.out w16 B16
    have yq := Nat.lt_of_succ_le yz
    have ys : w.heap.size < w16.heap.size := by omega
    obtain ⟨⟨ckx0, ckx1, ckx2, ckx3, ckx4⟩, -, -, ckxz⟩ := id kx
    have z0 := fkx.1 0
    have z1 := fkx.1 1
    have z2 := fkx.1 2
    have z3 := fkx.1 3
    have z4 := fkx.1 4
    go_upto_region 16 with fail
    clear z0 z1 z2 z3 z4
    clear ckx0 ckx1 ckx2 ckx3 ckx4 ckxz
    have kx2 := SnBox.store (W := w16) (g := gkx) (y := Z) kx.ex fkx.2 hu4 ha4 Hq4.out.1.1 Hq4.out.1.2
    have tky := ky.past (b := gkx) (by omega) Hqy.out.1 Hqy.out.2 (.slice ua4 Z.use.length uc4) (.int .i64 Z.ev) (.int .i64 Z.at_) (.slice aa4 Z.an.length ac4) (.int .i64 Z.ct)
    clear ky
    have ky := tky
    clear tky
    have tky := fky.past (b := gkx) (.slice ua4 Z.use.length uc4) (.int .i64 Z.ev) (.int .i64 Z.at_) (.slice aa4 Z.an.length ac4) (.int .i64 Z.ct)
    clear fky
    have fky := tky
    clear tky
    have B17 : Below (w.heap.size + 3) W0 (((((w16.setCell ⟨gkx, 0, none⟩ (.slice ua4 Z.use.length uc4)).setCell ⟨gkx, 1, none⟩ (.int .i64 Z.ev)).setCell ⟨gkx, 2, none⟩ (.int .i64 Z.at_)).setCell ⟨gkx, 3, none⟩ (.slice aa4 Z.an.length ac4)).setCell ⟨gkx, 4, none⟩ (.int .i64 Z.ct)) := sn_past B16 hgx0 (.slice ua4 Z.use.length uc4) (.int .i64 Z.ev) (.int .i64 Z.at_) (.slice aa4 Z.an.length ac4) (.int .i64 Z.ct)
    clear kx fkx y0 y1 y2 y3 y4 x0 x1 n0 n1 n2 n3 n4 yz yq ys B16
    generalize (((((w16.setCell ⟨gkx, 0, none⟩ (.slice ua4 Z.use.length uc4)).setCell ⟨gkx, 1, none⟩ (.int .i64 Z.ev)).setCell ⟨gkx, 2, none⟩ (.int .i64 Z.at_)).setCell ⟨gkx, 3, none⟩ (.slice aa4 Z.an.length ac4)).setCell ⟨gkx, 4, none⟩ (.int .i64 Z.ct)) = w17 at *
    obtain ⟨⟨y0, y1, y2, y3, y4⟩, ⟨x0, x1, n0, n1, n2, n3, n4⟩, -, -, yz⟩ := HS.out w17 B17
    have yq := Nat.lt_of_succ_le yz
    have ys : w.heap.size < w17.heap.size := by omega
    clear hu4 ha4
    have CZX : gkx < w17.heap.size ∧ gky < w17.heap.size := ⟨kx2.2.2.2, ky.2.2.2⟩
    go_wp2_with fail
    refine (HR2.out _ _ _ (HS.out _ B17).2.2.1.1 (HS.out _ B17).2.2.1.2.2.2.2).mono ?_
    rintro e w18 ⟨ub4, ud4, ab4, ad4, rfl, hu5, ha5, ho5, b18⟩
    have B18 : Below (w.heap.size + 3) W0 w18 := B17.trans (b18.mono (HS.out _ B17).2.2.2.2)
    have tky := ky.below b18
    clear ky
    have ky := tky
    clear tky
    have tfky := fky.below b18
    clear fky
    have fky := tfky
    clear tfky
    have tkx2 := kx2.below b18
    clear kx2
    have kx2 := tkx2
    clear tkx2
    have Hq5 := hide (show (∀ q, (Value.slice ub4 Z.use.length ud4).ownBlock = some q → q ≠ gky) ∧ (∀ q, (Value.slice ab4 Z.an.length ad4).ownBlock = some q → q ≠ gky) from ⟨fun q h => by have := (ho5.1 q h).1; omega, fun q h => by have := (ho5.2 q h).1; omega⟩)
    clear ho5 CZX
    clear y0 y1 y2 y3 y4 x0 x1 n0 n1 n2 n3 n4 yz yq ys b18 B17
    obtain ⟨⟨y0, y1, y2, y3, y4⟩, ⟨x0, x1, n0, n1, n2, n3, n4⟩, -, -, yz⟩ := HS.out w18 B18
    have yq := Nat.lt_of_succ_le yz
    have ys : w.heap.size < w18.heap.size := by omega
    obtain ⟨⟨cky0, cky1, cky2, cky3, cky4⟩, -, -, ckyz⟩ := id ky
    have z0 := fky.1 0
    have z1 := fky.1 1
    have z2 := fky.1 2
    have z3 := fky.1 3
    have z4 := fky.1 4
    go_upto_region 17 with fail
    clear z0 z1 z2 z3 z4
    clear cky0 cky1 cky2 cky3 cky4 ckyz
    have ky2 := SnBox.store (W := w18) (g := gky) (y := Z) ky.ex fky.2 hu5 ha5 Hq5.out.1 Hq5.out.2
    have tkx2 := kx2.past (b := gky) (by omega) Hq4.out.2.1 Hq4.out.2.2 (.slice ub4 Z.use.length ud4) (.int .i64 Z.ev) (.int .i64 Z.at_) (.slice ab4 Z.an.length ad4) (.int .i64 Z.ct)
    clear kx2
    have kx2 := tkx2
    clear tkx2
    have B19 : Below (w.heap.size + 3) W0 (((((w18.setCell ⟨gky, 0, none⟩ (.slice ub4 Z.use.length ud4)).setCell ⟨gky, 1, none⟩ (.int .i64 Z.ev)).setCell ⟨gky, 2, none⟩ (.int .i64 Z.at_)).setCell ⟨gky, 3, none⟩ (.slice ab4 Z.an.length ad4)).setCell ⟨gky, 4, none⟩ (.int .i64 Z.ct)) := sn_past B18 hgy0 (.slice ub4 Z.use.length ud4) (.int .i64 Z.ev) (.int .i64 Z.at_) (.slice ab4 Z.an.length ad4) (.int .i64 Z.ct)
    clear ky fky y0 y1 y2 y3 y4 x0 x1 n0 n1 n2 n3 n4 yz yq ys B18
    generalize (((((w18.setCell ⟨gky, 0, none⟩ (.slice ub4 Z.use.length ud4)).setCell ⟨gky, 1, none⟩ (.int .i64 Z.ev)).setCell ⟨gky, 2, none⟩ (.int .i64 Z.at_)).setCell ⟨gky, 3, none⟩ (.slice ab4 Z.an.length ad4)).setCell ⟨gky, 4, none⟩ (.int .i64 Z.ct)) = w19 at *
    obtain ⟨⟨y0, y1, y2, y3, y4⟩, ⟨x0, x1, n0, n1, n2, n3, n4⟩, -, -, yz⟩ := HS.out w19 B19
    have yq := Nat.lt_of_succ_le yz
    have ys : w.heap.size < w19.heap.size := by omega
    clear hu5 ha5
    obtain ⟨⟨ckx20, ckx21, ckx22, ckx23, ckx24⟩, -, -, ckx2z⟩ := id kx2
    obtain ⟨⟨cky20, cky21, cky22, cky23, cky24⟩, -, -, cky2z⟩ := id ky2
    go_wp2_with fail
    refine (scSame_v Z _ _ _ _ _ _ _ _ _ kx2.2.1 kx2.2.2.1 ky2.2.1 ky2.2.2.1).mono ?_
    rintro e w20 ⟨rfl, b20⟩
    have B20 : Below (w.heap.size + 3) W0 w20 := B19.trans (b20.mono (HS.out _ B19).2.2.2.2)
    have tkx2 := kx2.below b20
    clear kx2
    have kx2 := tkx2
    clear tkx2
    have tky2 := ky2.below b20
    clear ky2
    have ky2 := tky2
    clear tky2
    clear y0 y1 y2 y3 y4 x0 x1 n0 n1 n2 n3 n4 yz yq ys b20 B19
    obtain ⟨⟨y0, y1, y2, y3, y4⟩, ⟨x0, x1, n0, n1, n2, n3, n4⟩, -, -, yz⟩ := HS.out w20 B20
    have yq := Nat.lt_of_succ_le yz
    have ys : w.heap.size < w20.heap.size := by omega
    clear ckx20 ckx21 ckx22 ckx23 ckx24 ckx2z cky20 cky21 cky22 cky23 cky24 cky2z
    go_wp2_with fail
    go_ret
    exact ⟨rfl, (by ((with_reducible repeat' first | exact .refl _ _ | exact (HS.out _ B20).2.2.2.1 | refine .alloc ?_ ?_ _ | refine .setCell ?_ ?_ _ | refine .drew ?_ | refine below_drewN ?_ _ | refine Below.trans ?_ ((HS.out _ B20).2.2.2.1.mono ?_)) <;> first | omega | simp <;> omega))⟩
end Go.Proofs.YtigjljmhpkeahaaGreat
