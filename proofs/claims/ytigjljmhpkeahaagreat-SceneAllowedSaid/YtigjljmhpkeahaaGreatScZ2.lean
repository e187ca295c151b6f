/- SceneAllowed: for all arguments the statement answers true and leaves its arguments as they were. No condition. -/
import Derived.Test.YtigjljmhpkeahaaGreatScX
namespace Go.Proofs.YtigjljmhpkeahaaGreat
open Go.RowKit

set_option maxRecDepth 100000 in
set_option maxHeartbeats 2000000 in
theorem ScZAllowed_any (w : World) (v0 : Value) (s : SiA) (hs : SiOk w v0 s) (v1 : Value) (c : ScA) (hc : ScOk w v1 c) (at_ : Int) :
    Calls Tryz.prog 4 #[v0, v1, .int .i64 at_] w fun e w' => e = .returned (.bool true) ∧ Below w.heap.size w w' := by
  obtain ⟨r, f, lo, tm, pv, ps⟩ := s
  obtain ⟨rfl, hp, -, -⟩ := hs
  simp only at hp ⊢
  obtain ⟨pa, pc, rfl, -, -⟩ := hp.len
  obtain ⟨uv, use, ev⟩ := c
  obtain ⟨rfl, hu, -, hev⟩ := hc
  simp only at hu hev ⊢
  obtain ⟨ua, uc, rfl, -, -, -⟩ := id hu
  obtain ⟨W0, hW0⟩ : ∃ W : World, W = (w.alloc (.cells #[.int .i64 r, .int .i64 f, .int .i64 lo, .int .i64 tm, .slice pa ps.length pc] 24)).alloc (.cells #[.slice ua use.length uc, .int .i64 ev] 27) := ⟨_, rfl⟩
  have hS : ∀ V : World, Below (w.heap.size + 2) W0 V → (V.cell? ⟨w.heap.size, 0, none⟩ = some (.int .i64 r) ∧ V.cell? ⟨w.heap.size, 1, none⟩ = some (.int .i64 f) ∧ V.cell? ⟨w.heap.size, 2, none⟩ = some (.int .i64 lo) ∧ V.cell? ⟨w.heap.size, 3, none⟩ = some (.int .i64 tm) ∧ V.cell? ⟨w.heap.size, 4, none⟩ = some (.slice pa ps.length pc)) ∧ (V.cell? ⟨w.heap.size + 1, 0, none⟩ = some (.slice ua use.length uc) ∧ V.cell? ⟨w.heap.size + 1, 1, none⟩ = some (.int .i64 ev)) ∧ (PrRow V (.slice pa ps.length pc) ps ∧ IsRow V (.slice ua use.length uc) use) ∧ Below w.heap.size w V ∧ w.heap.size + 2 ≤ V.heap.size := by
    intro V hV
    have bW : Below w.heap.size w W0 := by rw [hW0]; ((repeat' (first | with_reducible exact Below.refl _ _ | with_reducible refine Below.alloc ?_ ?_ _ | with_reducible refine Below.setCell ?_ ?_ _ | with_reducible refine Below.drew ?_ | with_reducible refine below_drewN ?_ _)) <;> (first | omega | (simp; done) | (simp; omega)))
    have zW : W0.heap.size = w.heap.size + 2 := by rw [hW0]; simp
    have hb := bW.trans (hV.mono (by omega))
    have h0 := (bk hV w.heap.size (by omega)).1
    have h1 := (bk hV (w.heap.size + 1) (by omega)).1
    exact ⟨⟨(h0 0).trans (by rw [hW0]; simp [go_sem]), (h0 1).trans (by rw [hW0]; simp [go_sem]), (h0 2).trans (by rw [hW0]; simp [go_sem]), (h0 3).trans (by rw [hW0]; simp [go_sem]), (h0 4).trans (by rw [hW0]; simp [go_sem])⟩, ⟨(h1 0).trans (by rw [hW0]; simp [go_sem]), (h1 1).trans (by rw [hW0]; simp [go_sem])⟩, ⟨hp.below (Nat.le_refl _) hb, hu.below (Nat.le_refl _) hb⟩, hb, by have := hV.size; omega⟩
  have HS := hide hS
  clear hS hp hu
  cases hU : decide (ps.length ≤ 20 ∧ use.length ≤ 20) with
  | false =>
    go_enter Tryz.func4, Tryz.ntmps4
    go_upto_region 1 with fail
    rw [← hW0]
    clear hW0
    have B0 : Below (w.heap.size + 2) W0 W0 := Below.refl _ _
    obtain ⟨⟨y0, y1, y2, y3, y4⟩, ⟨x0, x1⟩, -, -, yz⟩ := HS.out W0 B0
    have yq := Nat.lt_of_succ_le yz
    have ys : w.heap.size < W0.heap.size := by omega
    go_wp2_with fail
    refine (scHead_any _).mono ?_
    rintro e w1 ⟨rfl, b1⟩
    have B1 : Below (w.heap.size + 2) W0 w1 := B0.trans (b1.mono (HS.out _ B0).2.2.2.2)
    clear y0 y1 y2 y3 y4 x0 x1 yz yq ys b1 B0
    obtain ⟨⟨y0, y1, y2, y3, y4⟩, ⟨x0, x1⟩, -, -, yz⟩ := HS.out w1 B1
    have yq := Nat.lt_of_succ_le yz
    have ys : w.heap.size < w1.heap.size := by omega
    go_wp2_with fail
    refine (R29Few_any r f lo tm _ ps _ use ev _ (HS.out _ B1).2.2.1.1 (HS.out _ B1).2.2.1.2).mono ?_
    rintro e w2 ⟨rfl, b2⟩
    rw [hU]
    have B2 : Below (w.heap.size + 2) W0 w2 := B1.trans (b2.mono (HS.out _ B1).2.2.2.2)
    clear y0 y1 y2 y3 y4 x0 x1 yz yq ys b2 B1
    obtain ⟨⟨y0, y1, y2, y3, y4⟩, ⟨x0, x1⟩, -, -, yz⟩ := HS.out w2 B2
    have yq := Nat.lt_of_succ_le yz
    have ys : w.heap.size < w2.heap.size := by omega
    go_wp2_with fail
    go_ret
    exact ⟨rfl, (by ((repeat' (first | with_reducible exact Below.refl _ _ | with_reducible exact (HS.out _ B2).2.2.2.1 | with_reducible refine Below.alloc ?_ ?_ _ | with_reducible refine Below.setCell ?_ ?_ _ | with_reducible refine Below.drew ?_ | with_reducible refine below_drewN ?_ _ | with_reducible refine Below.trans ?_ ((HS.out _ B2).2.2.2.1.mono ?_))) <;> (first | omega | (simp; done) | (simp; omega))))⟩
  | true =>
    by_cases hE : wsEr ⟨r, f, lo, tm, ps⟩ use ev at_ = 0
    · skip
      obtain ⟨hf, ha⟩ := ws_allowed hE
      have hrg := (ws_ok hE).1
      have hsi := (siN_iff _).1 ((siB_iff _).1 ((rgB_iff _ _ _).1 hrg).1).1
      have hr2 := (rgB_iff _ _ _).1 hrg
      rw [wsS_eq hE] at hf ha
      simp only at hf ha hsi hr2
      have we : IntKind.i64.wrap (ev + tm) = ev + tm := IntWalk.i64_in _ (by omega)
      clear hrg hsi hr2
      go_enter Tryz.func4, Tryz.ntmps4
      go_upto_region 1 with fail
      rw [← hW0]
      clear hW0
      have B0 : Below (w.heap.size + 2) W0 W0 := Below.refl _ _
      obtain ⟨⟨y0, y1, y2, y3, y4⟩, ⟨x0, x1⟩, -, -, yz⟩ := HS.out W0 B0
      have yq := Nat.lt_of_succ_le yz
      have ys : w.heap.size < W0.heap.size := by omega
      go_wp2_with fail
      refine (scHead_any _).mono ?_
      rintro e w1 ⟨rfl, b1⟩
      have B1 : Below (w.heap.size + 2) W0 w1 := B0.trans (b1.mono (HS.out _ B0).2.2.2.2)
      clear y0 y1 y2 y3 y4 x0 x1 yz yq ys b1 B0
      obtain ⟨⟨y0, y1, y2, y3, y4⟩, ⟨x0, x1⟩, -, -, yz⟩ := HS.out w1 B1
      have yq := Nat.lt_of_succ_le yz
      have ys : w.heap.size < w1.heap.size := by omega
      go_wp2_with fail
      refine (R29Few_any r f lo tm _ ps _ use ev _ (HS.out _ B1).2.2.1.1 (HS.out _ B1).2.2.1.2).mono ?_
      rintro e w2 ⟨rfl, b2⟩
      rw [hU]
      have B2 : Below (w.heap.size + 2) W0 w2 := B1.trans (b2.mono (HS.out _ B1).2.2.2.2)
      clear y0 y1 y2 y3 y4 x0 x1 yz yq ys b2 B1
      obtain ⟨⟨y0, y1, y2, y3, y4⟩, ⟨x0, x1⟩, -, -, yz⟩ := HS.out w2 B2
      have yq := Nat.lt_of_succ_le yz
      have ys : w.heap.size < w2.heap.size := by omega
      go_wp2_with fail
      refine (scWorst_ok r f lo tm _ ps _ use ev at_ _ (HS.out _ B2).2.2.1.1 (HS.out _ B2).2.2.1.2 hE).mono ?_
      rintro e w3 ⟨ua2, uc2, aa2, ac2, rfl, hu2, ha2, b3⟩
      have B3 : Below (w.heap.size + 2) W0 w3 := B2.trans (b3.mono (HS.out _ B2).2.2.2.2)
      clear y0 y1 y2 y3 y4 x0 x1 yz yq ys b3 B2
      obtain ⟨⟨y0, y1, y2, y3, y4⟩, ⟨x0, x1⟩, -, -, yz⟩ := HS.out w3 B3
      have yq := Nat.lt_of_succ_le yz
      have ys : w.heap.size < w3.heap.size := by omega
      go_upto_region 5 with fail
      have kx := (SnBox.made (x := ⟨use, ev, at_, wsL ⟨r, f, lo, tm, ps⟩ use at_, ev + tm⟩) hu2 ha2 : SnBox (w3.alloc (.cells #[.slice ua2 use.length uc2, .int .i64 ev, .int .i64 at_, .slice aa2 use.length ac2, .int .i64 (ev + tm)] 30)) w3.heap.size ⟨use, ev, at_, wsL ⟨r, f, lo, tm, ps⟩ use at_, ev + tm⟩ (.slice ua2 use.length uc2) (.slice aa2 use.length ac2))
      have b4 : Below w3.heap.size w3 (w3.alloc (.cells #[.slice ua2 use.length uc2, .int .i64 ev, .int .i64 at_, .slice aa2 use.length ac2, .int .i64 (ev + tm)] 30)) := (by ((repeat' (first | with_reducible exact Below.refl _ _ | with_reducible refine Below.alloc ?_ ?_ _ | with_reducible refine Below.setCell ?_ ?_ _ | with_reducible refine Below.drew ?_ | with_reducible refine below_drewN ?_ _)) <;> (first | omega | (simp; done) | (simp; omega))))
      have B4 : Below (w.heap.size + 2) W0 (w3.alloc (.cells #[.slice ua2 use.length uc2, .int .i64 ev, .int .i64 at_, .slice aa2 use.length ac2, .int .i64 (ev + tm)] 30)) := B3.trans (b4.mono (HS.out _ B3).2.2.2.2)
      obtain ⟨gkx, hgkx⟩ : ∃ g, g = w3.heap.size := ⟨_, rfl⟩
      rw [← hgkx] at kx ⊢
      clear hgkx b4 y0 y1 y2 y3 y4 x0 x1 yz yq ys B3
      generalize w3.alloc (.cells #[.slice ua2 use.length uc2, .int .i64 ev, .int .i64 at_, .slice aa2 use.length ac2, .int .i64 (ev + tm)] 30) = w4 at *
      obtain ⟨⟨y0, y1, y2, y3, y4⟩, ⟨x0, x1⟩, -, -, yz⟩ := HS.out w4 B4
      have yq := Nat.lt_of_succ_le yz
      have ys : w.heap.size < w4.heap.size := by omega
      obtain ⟨⟨ckx0, ckx1, ckx2, ckx3, ckx4⟩, -, -, ckxz⟩ := id kx
      simp only at ckx1 ckx2 ckx4
      go_wp2_with fail
      refine (scAllowed_fit r f lo tm _ ps _ use ev at_ _ _ (ev + tm) _ (HS.out _ B4).2.2.1.1 kx.2.1 kx.2.2.1 hf).mono ?_
      rintro e w5 ⟨rfl, b5⟩
      rw [ha]
      have B5 : Below (w.heap.size + 2) W0 w5 := B4.trans (b5.mono (HS.out _ B4).2.2.2.2)
      have tkx := kx.below b5
      clear kx
      have kx := tkx
      clear tkx
      clear y0 y1 y2 y3 y4 x0 x1 yz yq ys b5 B4
      obtain ⟨⟨y0, y1, y2, y3, y4⟩, ⟨x0, x1⟩, -, -, yz⟩ := HS.out w5 B5
      have yq := Nat.lt_of_succ_le yz
      have ys : w.heap.size < w5.heap.size := by omega
      clear ckx0 ckx1 ckx2 ckx3 ckx4 ckxz
      obtain ⟨⟨ckx0, ckx1, ckx2, ckx3, ckx4⟩, -, -, ckxz⟩ := id kx
      simp only at ckx1 ckx2 ckx4
      go_wp2_with fail
      go_ret
      exact ⟨rfl, (by ((repeat' (first | with_reducible exact Below.refl _ _ | with_reducible exact (HS.out _ B5).2.2.2.1 | with_reducible refine Below.alloc ?_ ?_ _ | with_reducible refine Below.setCell ?_ ?_ _ | with_reducible refine Below.drew ?_ | with_reducible refine below_drewN ?_ _ | with_reducible refine Below.trans ?_ ((HS.out _ B5).2.2.2.1.mono ?_))) <;> (first | omega | (simp; done) | (simp; omega))))⟩
    · skip
      go_enter Tryz.func4, Tryz.ntmps4
      go_upto_region 1 with fail
      rw [← hW0]
      clear hW0
      have B0 : Below (w.heap.size + 2) W0 W0 := Below.refl _ _
      obtain ⟨⟨y0, y1, y2, y3, y4⟩, ⟨x0, x1⟩, -, -, yz⟩ := HS.out W0 B0
      have yq := Nat.lt_of_succ_le yz
      have ys : w.heap.size < W0.heap.size := by omega
      go_wp2_with fail
      refine (scHead_any _).mono ?_
      rintro e w1 ⟨rfl, b1⟩
      have B1 : Below (w.heap.size + 2) W0 w1 := B0.trans (b1.mono (HS.out _ B0).2.2.2.2)
      clear y0 y1 y2 y3 y4 x0 x1 yz yq ys b1 B0
      obtain ⟨⟨y0, y1, y2, y3, y4⟩, ⟨x0, x1⟩, -, -, yz⟩ := HS.out w1 B1
      have yq := Nat.lt_of_succ_le yz
      have ys : w.heap.size < w1.heap.size := by omega
      go_wp2_with fail
      refine (R29Few_any r f lo tm _ ps _ use ev _ (HS.out _ B1).2.2.1.1 (HS.out _ B1).2.2.1.2).mono ?_
      rintro e w2 ⟨rfl, b2⟩
      rw [hU]
      have B2 : Below (w.heap.size + 2) W0 w2 := B1.trans (b2.mono (HS.out _ B1).2.2.2.2)
      clear y0 y1 y2 y3 y4 x0 x1 yz yq ys b2 B1
      obtain ⟨⟨y0, y1, y2, y3, y4⟩, ⟨x0, x1⟩, -, -, yz⟩ := HS.out w2 B2
      have yq := Nat.lt_of_succ_le yz
      have ys : w.heap.size < w2.heap.size := by omega
      have dE : (wsEr ⟨r, f, lo, tm, ps⟩ use ev at_ != 0) = true := by rw [bne_iff_ne]; exact hE
      go_wp2_with fail
      refine (scWorst_no r f lo tm _ ps _ use ev at_ _ (HS.out _ B2).2.2.1.1 (HS.out _ B2).2.2.1.2 hE).mono ?_
      rintro e w3 ⟨ua2, uc2, aa2, ac2, rfl, hu2, ha2, b3⟩
      have B3 : Below (w.heap.size + 2) W0 w3 := B2.trans (b3.mono (HS.out _ B2).2.2.2.2)
      clear y0 y1 y2 y3 y4 x0 x1 yz yq ys b3 B2
      obtain ⟨⟨y0, y1, y2, y3, y4⟩, ⟨x0, x1⟩, -, -, yz⟩ := HS.out w3 B3
      have yq := Nat.lt_of_succ_le yz
      have ys : w.heap.size < w3.heap.size := by omega
      clear hu2 ha2
      go_wp2_with fail
      go_ret
      exact ⟨rfl, (by ((repeat' (first | with_reducible exact Below.refl _ _ | with_reducible exact (HS.out _ B3).2.2.2.1 | with_reducible refine Below.alloc ?_ ?_ _ | with_reducible refine Below.setCell ?_ ?_ _ | with_reducible refine Below.drew ?_ | with_reducible refine below_drewN ?_ _ | with_reducible refine Below.trans ?_ ((HS.out _ B3).2.2.2.1.mono ?_))) <;> (first | omega | (simp; done) | (simp; omega))))⟩
set_option maxRecDepth 100000 in
theorem sceneAllowed_holds : Rows.SceneAllowedSaid :=
  OpenClaim.holds_of_wide 4 Tryz.f4 rfl rfl rfl rfl rfl rfl rfl ⟨rfl, rfl, rfl, rfl, rfl⟩ rfl rfl rfl rfl rfl (by kernel_rfl) Tryz.func4 (by kernel_rfl)
    (of_decide_eq_true (by kernel_rfl)) (by unfold Func.isWrapper; rw [if_neg (of_decide_eq_false (by kernel_rfl))]; exact ⟨rfl, rfl⟩)
    (fun os started H enc _ => law_lifted started 4 Tryz.f4 Tryz.func4 (by kernel_rfl) Rows.sceneAllowedSpec rfl rfl
      (fun ds h => by match ds, h with | [_, _, _], _ => exact ⟨rfl, rfl, rfl⟩)
      (fun t h => by
        rw [Tryz.params4] at h
        simp only [List.mem_cons, List.not_mem_nil, or_false] at h
        rcases h with rfl | rfl | rfl <;> exact ⟨by kernel_rfl, of_decide_eq_true (by kernel_rfl)⟩)
      (ChangeSpec.witness6 (enc := enc) (C := Tryz.checked) false ⟨#[], #[.agg #[.int .i64 0, .int .i64 0, .int .i64 0, .int .i64 0, .slice none 0 0], .agg #[.slice none 0 0, .int .i64 0], .int .i64 0], []⟩ 8 (by kernel_rfl) (by kernel_rfl) (by kernel_rfl) (by kernel_rfl))
      (fun W base args ds p hA hok => by
        rw [Tryz.params4] at hA hok
        obtain ⟨v0, vs0, d0, ds0, p0, q0, hargs, rfl, rfl, h0, r0⟩ := ChangeShapes.trodAll_cons hA
        obtain ⟨v1, vs1, d1, ds1, p1, q1, rfl, rfl, rfl, h1, r1⟩ := ChangeShapes.trodAll_cons r0
        obtain ⟨v2, vs2, d2, ds2, p2, q2, rfl, rfl, rfl, h2, r2⟩ := ChangeShapes.trodAll_cons r1
        obtain ⟨rfl, rfl, rfl⟩ := ChangeShapes.trodAll_nil r2
        obtain rfl : args = #[v0, v1, v2] := by rw [← Array.toArray_toList (xs := args), hargs]
        obtain ⟨l0, hl0⟩ := open_site (hok 0 _ v0 rfl rfl) h0
        obtain ⟨l1, hl1⟩ := open_sched (hok 1 _ v1 rfl rfl) h1
        obtain ⟨x2, rfl, hx2⟩ := open_i64 Tryz.underlying3 (hok 2 _ v2 rfl rfl) h2
        exact ScZAllowed_any W v0 l0 hl0 v1 l1 hl1 x2))
end Go.Proofs.YtigjljmhpkeahaaGreat
