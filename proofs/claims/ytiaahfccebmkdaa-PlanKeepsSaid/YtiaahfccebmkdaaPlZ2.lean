/- PlanKeeps: for all arguments the statement answers true and leaves its arguments as they were. No condition. -/
import Derived.Test.YtiaahfccebmkdaaPlR
import Derived.Test.YtiaahfccebmkdaaPlQ
import Derived.Test.YtiaahfccebmkdaaFg
import Derived.Test.YtiaahfccebmkdaaFs
namespace Go.Proofs.Ytiaahfccebmkdaa
open Go.RowKit

theorem us_ck {s : Si} {pl : List Int} (h : usB s pl = true) : ckE s pl = 0 := by
  have h1 := of_decide_eq_true h
  unfold ckE
  rw [if_pos ⟨h1.2.2.1, h1.2.2.2⟩, if_pos (by omega)]
set_option maxRecDepth 100000 in
set_option maxHeartbeats 2000000 in
theorem PlKeeps_any (w : World) (v0 : Value) (s : SiA) (hs : SiOk w v0 s) (v : Value) (pl : List Int) (hv : IsRow w v pl) (_wl : WfI pl) (x : Int) :
    Calls Try.prog 3 #[v0, v, .int .i64 x] w fun e w' => e = .returned (.bool true) ∧ Below w.heap.size w w' := by
  obtain ⟨r, f, lo, tm, pv, ps⟩ := s
  obtain ⟨rfl, hp, -, -⟩ := hs
  simp only at hp ⊢
  obtain ⟨pa, pc, rfl, -, -⟩ := hp.len
  obtain ⟨va, vc, rfl, -, -, -⟩ := id hv
  obtain ⟨W0, hW0⟩ : ∃ W : World, W = w.alloc (.cells #[.int .i64 r, .int .i64 f, .int .i64 lo, .int .i64 tm, .slice pa ps.length pc] 24) := ⟨_, rfl⟩
  have hS : ∀ V : World, Below (w.heap.size + 1) W0 V → (V.cell? ⟨w.heap.size, 0, none⟩ = some (.int .i64 r) ∧ V.cell? ⟨w.heap.size, 1, none⟩ = some (.int .i64 f) ∧ V.cell? ⟨w.heap.size, 2, none⟩ = some (.int .i64 lo) ∧ V.cell? ⟨w.heap.size, 3, none⟩ = some (.int .i64 tm) ∧ V.cell? ⟨w.heap.size, 4, none⟩ = some (.slice pa ps.length pc)) ∧ PrRow V (.slice pa ps.length pc) ps ∧ IsRow V (.slice va pl.length vc) pl ∧ Below w.heap.size w V ∧ w.heap.size + 1 ≤ V.heap.size := by
    intro V hV
    have bW : Below w.heap.size w W0 := by rw [hW0]; ((repeat' (first | with_reducible exact Below.refl _ _ | with_reducible refine Below.alloc ?_ ?_ _ | with_reducible refine Below.setCell ?_ ?_ _ | with_reducible refine Below.drew ?_ | with_reducible refine below_drewN ?_ _)) <;> (first | omega | (simp; done) | (simp; omega)))
    have zW : W0.heap.size = w.heap.size + 1 := by rw [hW0]; simp
    have hb := bW.trans (hV.mono (by omega))
    have h0 := (bk hV w.heap.size (by omega)).1
    exact ⟨⟨(h0 0).trans (by rw [hW0]; simp), (h0 1).trans (by rw [hW0]; simp), (h0 2).trans (by rw [hW0]; simp), (h0 3).trans (by rw [hW0]; simp), (h0 4).trans (by rw [hW0]; simp)⟩, hp.below (Nat.le_refl _) hb, hv.below (Nat.le_refl _) hb, hb, by have := hV.size; omega⟩
  have HS := hide hS
  clear hS hp hv
  cases hU : usB ⟨r, f, lo, tm, ps⟩ pl with
  | false =>
    go_enter Try.func3, Try.ntmps3
    go_upto_region 1 with fail
    rw [← hW0]
    clear hW0
    have B0 : Below (w.heap.size + 1) W0 W0 := Below.refl _ _
    obtain ⟨⟨y0, y1, y2, y3, y4⟩, -, -, -, yz⟩ := HS.out W0 B0
    have yq := Nat.lt_of_succ_le yz
    go_wp2_with fail
    refine (plHead_any _).mono ?_
    rintro e w1 ⟨rfl, b1⟩
    have B1 : Below (w.heap.size + 1) W0 w1 := B0.trans (b1.mono (HS.out _ B0).2.2.2.2)
    clear y0 y1 y2 y3 y4 yz yq b1 B0
    obtain ⟨⟨y0, y1, y2, y3, y4⟩, -, -, -, yz⟩ := HS.out w1 B1
    have yq := Nat.lt_of_succ_le yz
    go_wp2_with fail
    refine (usable_any r f lo tm _ ps _ pl _ (HS.out _ B1).2.1 (HS.out _ B1).2.2.1).mono ?_
    rintro e w2 ⟨rfl, b2⟩
    rw [hU]
    have B2 : Below (w.heap.size + 1) W0 w2 := B1.trans (b2.mono (HS.out _ B1).2.2.2.2)
    clear y0 y1 y2 y3 y4 yz yq b2 B1
    obtain ⟨⟨y0, y1, y2, y3, y4⟩, -, -, -, yz⟩ := HS.out w2 B2
    have yq := Nat.lt_of_succ_le yz
    go_wp2_with fail
    go_ret
    exact ⟨rfl, (HS.out _ B2).2.2.2.1⟩
  | true =>
    obtain ⟨E, hE⟩ : ∃ E, E = bsE ⟨r, f, lo, tm, ps⟩ pl x := ⟨_, rfl⟩
    cases hres : bsO ⟨r, f, lo, tm, ps⟩ pl x with
    | none =>
      by_cases hE0 : E = 0
      · have d1 : (E != 0) = false := by rw [hE0]; rfl
        have HE := hide hE
        clear hE hE0
        go_enter Try.func3, Try.ntmps3
        go_upto_region 1 with fail
        rw [← hW0]
        clear hW0
        have B0 : Below (w.heap.size + 1) W0 W0 := Below.refl _ _
        obtain ⟨⟨y0, y1, y2, y3, y4⟩, -, -, -, yz⟩ := HS.out W0 B0
        have yq := Nat.lt_of_succ_le yz
        go_wp2_with fail
        refine (plHead_any _).mono ?_
        rintro e w1 ⟨rfl, b1⟩
        have B1 : Below (w.heap.size + 1) W0 w1 := B0.trans (b1.mono (HS.out _ B0).2.2.2.2)
        clear y0 y1 y2 y3 y4 yz yq b1 B0
        obtain ⟨⟨y0, y1, y2, y3, y4⟩, -, -, -, yz⟩ := HS.out w1 B1
        have yq := Nat.lt_of_succ_le yz
        go_wp2_with fail
        refine (usable_any r f lo tm _ ps _ pl _ (HS.out _ B1).2.1 (HS.out _ B1).2.2.1).mono ?_
        rintro e w2 ⟨rfl, b2⟩
        rw [hU]
        have B2 : Below (w.heap.size + 1) W0 w2 := B1.trans (b2.mono (HS.out _ B1).2.2.2.2)
        clear y0 y1 y2 y3 y4 yz yq b2 B1
        obtain ⟨⟨y0, y1, y2, y3, y4⟩, -, -, -, yz⟩ := HS.out w2 B2
        have yq := Nat.lt_of_succ_le yz
        go_wp2_with fail
        refine (plB_any r f lo tm _ ps _ pl x _ (HS.out _ B2).2.1 (HS.out _ B2).2.2.1).mono ?_
        rintro e w3 ⟨uv, rfl, hrow, hown, b3⟩
        rw [hres, ← HE.out]
        have B3 : Below (w.heap.size + 1) W0 w3 := B2.trans (b3.mono (HS.out _ B2).2.2.2.2)
        rw [hres] at hrow
        obtain ⟨ua, uc, huv, -⟩ := id hrow
        simp only [accO, Option.getD_none, of0, List.length_nil] at huv
        subst huv
        clear y0 y1 y2 y3 y4 yz yq b3 B2
        obtain ⟨⟨y0, y1, y2, y3, y4⟩, -, -, -, yz⟩ := HS.out w3 B3
        have yq := Nat.lt_of_succ_le yz
        simp only [accO, Option.getD_none, of0, Option.isSome_none]
        go_wp2_with fail
        go_ret
        exact ⟨rfl, (by ((repeat' (first | with_reducible exact Below.refl _ _ | with_reducible exact (HS.out _ B3).2.2.2.1 | with_reducible refine Below.alloc ?_ ?_ _ | with_reducible refine Below.setCell ?_ ?_ _ | with_reducible refine Below.drew ?_ | with_reducible refine below_drewN ?_ _ | with_reducible refine Below.trans ?_ ((HS.out _ B3).2.2.2.1.mono ?_))) <;> (first | omega | (simp; done) | (simp; omega))))⟩
      · have d1 : (E != 0) = true := by rw [bne_iff_ne]; exact hE0
        have HE := hide hE
        clear hE hE0
        go_enter Try.func3, Try.ntmps3
        go_upto_region 1 with fail
        rw [← hW0]
        clear hW0
        have B0 : Below (w.heap.size + 1) W0 W0 := Below.refl _ _
        obtain ⟨⟨y0, y1, y2, y3, y4⟩, -, -, -, yz⟩ := HS.out W0 B0
        have yq := Nat.lt_of_succ_le yz
        go_wp2_with fail
        refine (plHead_any _).mono ?_
        rintro e w1 ⟨rfl, b1⟩
        have B1 : Below (w.heap.size + 1) W0 w1 := B0.trans (b1.mono (HS.out _ B0).2.2.2.2)
        clear y0 y1 y2 y3 y4 yz yq b1 B0
        obtain ⟨⟨y0, y1, y2, y3, y4⟩, -, -, -, yz⟩ := HS.out w1 B1
        have yq := Nat.lt_of_succ_le yz
        go_wp2_with fail
        refine (usable_any r f lo tm _ ps _ pl _ (HS.out _ B1).2.1 (HS.out _ B1).2.2.1).mono ?_
        rintro e w2 ⟨rfl, b2⟩
        rw [hU]
        have B2 : Below (w.heap.size + 1) W0 w2 := B1.trans (b2.mono (HS.out _ B1).2.2.2.2)
        clear y0 y1 y2 y3 y4 yz yq b2 B1
        obtain ⟨⟨y0, y1, y2, y3, y4⟩, -, -, -, yz⟩ := HS.out w2 B2
        have yq := Nat.lt_of_succ_le yz
        go_wp2_with fail
        refine (plB_any r f lo tm _ ps _ pl x _ (HS.out _ B2).2.1 (HS.out _ B2).2.2.1).mono ?_
        rintro e w3 ⟨uv, rfl, hrow, hown, b3⟩
        rw [hres, ← HE.out]
        have B3 : Below (w.heap.size + 1) W0 w3 := B2.trans (b3.mono (HS.out _ B2).2.2.2.2)
        rw [hres] at hrow
        obtain ⟨ua, uc, huv, -⟩ := id hrow
        simp only [accO, Option.getD_none, of0, List.length_nil] at huv
        subst huv
        clear y0 y1 y2 y3 y4 yz yq b3 B2
        obtain ⟨⟨y0, y1, y2, y3, y4⟩, -, -, -, yz⟩ := HS.out w3 B3
        have yq := Nat.lt_of_succ_le yz
        simp only [accO, Option.getD_none, of0, Option.isSome_none]
        go_wp2_with fail
        go_ret
        exact ⟨rfl, (by ((repeat' (first | with_reducible exact Below.refl _ _ | with_reducible exact (HS.out _ B3).2.2.2.1 | with_reducible refine Below.alloc ?_ ?_ _ | with_reducible refine Below.setCell ?_ ?_ _ | with_reducible refine Below.drew ?_ | with_reducible refine below_drewN ?_ _ | with_reducible refine Below.trans ?_ ((HS.out _ B3).2.2.2.1.mono ?_))) <;> (first | omega | (simp; done) | (simp; omega))))⟩
    | some b =>
      obtain ⟨e0, hb, -, -⟩ := bsO_some hres
      obtain ⟨b1', b2', -⟩ := bst_some hb
      obtain ⟨-, hR, hW, hin⟩ := ofL_v b1'
      rw [e0] at hE
      have hWE := wdEr_ok hR
      have hle : wdt ⟨r, f, lo, tm, ps⟩ b.use b.ev ≤ x := by rw [← hW]; exact b2'
      have hdi := decide_eq_true hin
      have hq := fun V (h1 : PrRow V (.slice pa ps.length pc) ps) uv (h2 : IsRow V uv b.use) => wdWidthS_any r f lo tm _ ps uv b.use b.ev V h1 h2
      rw [hWE] at hq
      generalize wdt ⟨r, f, lo, tm, ps⟩ b.use b.ev = wd at *
      have Hq := hide hq
      have HR2 := hide hR
      have Hdi := hide hdi
      clear e0 hb b1' b2' hW hin hWE hq hR hdi hE E
      go_enter Try.func3, Try.ntmps3
      go_upto_region 1 with fail
      rw [← hW0]
      clear hW0
      have B0 : Below (w.heap.size + 1) W0 W0 := Below.refl _ _
      obtain ⟨⟨y0, y1, y2, y3, y4⟩, -, -, -, yz⟩ := HS.out W0 B0
      have yq := Nat.lt_of_succ_le yz
      go_wp2_with fail
      refine (plHead_any _).mono ?_
      rintro e w1 ⟨rfl, b1⟩
      have B1 : Below (w.heap.size + 1) W0 w1 := B0.trans (b1.mono (HS.out _ B0).2.2.2.2)
      clear y0 y1 y2 y3 y4 yz yq b1 B0
      obtain ⟨⟨y0, y1, y2, y3, y4⟩, -, -, -, yz⟩ := HS.out w1 B1
      have yq := Nat.lt_of_succ_le yz
      go_wp2_with fail
      refine (usable_any r f lo tm _ ps _ pl _ (HS.out _ B1).2.1 (HS.out _ B1).2.2.1).mono ?_
      rintro e w2 ⟨rfl, b2⟩
      rw [hU]
      have B2 : Below (w.heap.size + 1) W0 w2 := B1.trans (b2.mono (HS.out _ B1).2.2.2.2)
      clear y0 y1 y2 y3 y4 yz yq b2 B1
      obtain ⟨⟨y0, y1, y2, y3, y4⟩, -, -, -, yz⟩ := HS.out w2 B2
      have yq := Nat.lt_of_succ_le yz
      go_wp2_with fail
      refine (plB_any r f lo tm _ ps _ pl x _ (HS.out _ B2).2.1 (HS.out _ B2).2.2.1).mono ?_
      rintro e w3 ⟨uv, rfl, hrow, hown, b3⟩
      rw [hres, (bsO_some hres).1]
      have B3 : Below (w.heap.size + 1) W0 w3 := B2.trans (b3.mono (HS.out _ B2).2.2.2.2)
      rw [hres] at hrow
      simp only [accO, Option.getD_some] at hrow
      obtain ⟨ua, uc, huv, -⟩ := id hrow
      subst huv
      clear y0 y1 y2 y3 y4 yz yq b3 B2
      obtain ⟨⟨y0, y1, y2, y3, y4⟩, -, -, -, yz⟩ := HS.out w3 B3
      have yq := Nat.lt_of_succ_le yz
      simp only [accO, Option.getD_some, Option.isSome_some]
      clear hown
      go_wp2_with fail
      have kb : BxS (w3.alloc (.cells #[.slice ua b.use.length uc, .int .i64 b.ev] 29)) w3.heap.size (.slice ua b.use.length uc) b.use b.ev := BxS.made hrow
      have b4 : Below w3.heap.size w3 (w3.alloc (.cells #[.slice ua b.use.length uc, .int .i64 b.ev] 29)) := (by ((repeat' (first | with_reducible exact Below.refl _ _ | with_reducible refine Below.alloc ?_ ?_ _ | with_reducible refine Below.setCell ?_ ?_ _ | with_reducible refine Below.drew ?_ | with_reducible refine below_drewN ?_ _)) <;> (first | omega | (simp; done) | (simp; omega))))
      have B4 : Below (w.heap.size + 1) W0 (w3.alloc (.cells #[.slice ua b.use.length uc, .int .i64 b.ev] 29)) := B3.trans (b4.mono (HS.out _ B3).2.2.2.2)
      obtain ⟨gkb, hgkb⟩ : ∃ g, g = w3.heap.size := ⟨_, rfl⟩
      rw [← hgkb] at kb ⊢
      clear hgkb b4 y0 y1 y2 y3 y4 yz yq B3
      generalize w3.alloc (.cells #[.slice ua b.use.length uc, .int .i64 b.ev] 29) = w4 at *
      obtain ⟨⟨y0, y1, y2, y3, y4⟩, -, -, -, yz⟩ := HS.out w4 B4
      have yq := Nat.lt_of_succ_le yz
      obtain ⟨ckb0, ckb1, -, ckb3⟩ := id kb
      refine (Hq.out _ (HS.out _ B4).2.1 _ kb.2.2.1).mono ?_
      rintro e w5 ⟨rfl, b5⟩
      have B5 : Below (w.heap.size + 1) W0 w5 := B4.trans (b5.mono (HS.out _ B4).2.2.2.2)
      have tkb := kb.below (Nat.le_refl _) b5
      clear kb
      have kb := tkb
      clear tkb
      clear ckb0 ckb1 ckb3
      clear y0 y1 y2 y3 y4 yz yq b5 B4
      obtain ⟨⟨y0, y1, y2, y3, y4⟩, -, -, -, yz⟩ := HS.out w5 B5
      have yq := Nat.lt_of_succ_le yz
      obtain ⟨ckb0, ckb1, -, ckb3⟩ := id kb
      go_wp2_with fail
      refine (wdRight_any r f lo tm _ ps _ b.use b.ev _ (HS.out _ B5).2.1 kb.2.2.1).mono ?_
      rintro e w6 ⟨rfl, b6⟩
      rw [HR2.out]
      have B6 : Below (w.heap.size + 1) W0 w6 := B5.trans (b6.mono (HS.out _ B5).2.2.2.2)
      have tkb := kb.below (Nat.le_refl _) b6
      clear kb
      have kb := tkb
      clear tkb
      clear ckb0 ckb1 ckb3
      clear y0 y1 y2 y3 y4 yz yq b6 B5
      obtain ⟨⟨y0, y1, y2, y3, y4⟩, -, -, -, yz⟩ := HS.out w6 B6
      have yq := Nat.lt_of_succ_le yz
      obtain ⟨ckb0, ckb1, -, ckb3⟩ := id kb
      go_wp2_with fail
      refine (lin_any _ pl b.ev _ (HS.out _ B6).2.2.1).mono ?_
      rintro e w' ⟨rfl, rfl⟩
      rw [Hdi.out]
      go_wp2_with fail
      go_ret
      exact ⟨rfl, (HS.out _ B6).2.2.2.1⟩
set_option maxRecDepth 100000 in
theorem planKeeps_holds : Rows.PlanKeepsSaid :=
  OpenClaim.holds_of_wide 3 Try.f3 rfl rfl rfl rfl rfl rfl rfl ⟨rfl, rfl, rfl, rfl, rfl⟩ rfl rfl rfl rfl rfl (by kernel_rfl) Try.func3 (by kernel_rfl)
    (of_decide_eq_true (by kernel_rfl)) (by unfold Func.isWrapper; rw [if_neg (of_decide_eq_false (by kernel_rfl))]; exact ⟨rfl, rfl⟩)
    (fun os started H enc _ => law_lifted started 3 Try.f3 Try.func3 (by kernel_rfl) Rows.planKeepsSpec rfl rfl
      (fun ds h => by match ds, h with | [_, _, _], _ => exact ⟨rfl, rfl, rfl⟩)
      (fun t h => by
        rw [Try.params3] at h
        simp only [List.mem_cons, List.not_mem_nil, or_false] at h
        rcases h with rfl | rfl | rfl <;> exact ⟨by kernel_rfl, of_decide_eq_true (by kernel_rfl)⟩)
      (ChangeSpec.witness6 (enc := enc) (C := Try.checked) false ⟨#[], #[.agg #[.int .i64 0, .int .i64 0, .int .i64 0, .int .i64 0, .slice none 0 0], .slice none 0 0, .int .i64 0], []⟩ 8 (by kernel_rfl) (by kernel_rfl) (by kernel_rfl) (by kernel_rfl))
      (fun W base args ds p hA hok => by
        rw [Try.params3] at hA hok
        obtain ⟨v0, vs0, d0, ds0, p0, q0, hargs, rfl, rfl, h0, r0⟩ := ChangeShapes.trodAll_cons hA
        obtain ⟨v1, vs1, d1, ds1, p1, q1, rfl, rfl, rfl, h1, r1⟩ := ChangeShapes.trodAll_cons r0
        obtain ⟨v2, vs2, d2, ds2, p2, q2, rfl, rfl, rfl, h2, r2⟩ := ChangeShapes.trodAll_cons r1
        obtain ⟨rfl, rfl, rfl⟩ := ChangeShapes.trodAll_nil r2
        obtain rfl : args = #[v0, v1, v2] := by rw [← Array.toArray_toList (xs := args), hargs]
        obtain ⟨l0, hl0⟩ := open_site (hok 0 _ v0 rfl rfl) h0
        obtain ⟨l1, hl1, wl1⟩ := open_is (hok 1 _ v1 rfl rfl) h1
        obtain ⟨x2, rfl, hx2⟩ := open_i64 Try.underlying3 (hok 2 _ v2 rfl rfl) h2
        exact PlKeeps_any W v0 l0 hl0 v1 l1 hl1 wl1 x2))
end Go.Proofs.Ytiaahfccebmkdaa
