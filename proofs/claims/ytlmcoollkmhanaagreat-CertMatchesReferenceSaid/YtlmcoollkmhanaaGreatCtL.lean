
/- The reference of cert: Choice. -/
import Derived.Test.YtlmcoollkmhanaaGreatCtK
namespace Go.Proofs.YtlmcoollkmhanaaGreat
open Go.RowKit

theorem wouL_cm (l o : List Int) : ((wouL l o).length : Int) = l.length ↔ cmB l o = false := by
 rw [cmB_iff]
 unfold wouL
 have h := List.length_filter_le (fun x => !decide (x ∈ o)) l
 rw [Int.ofNat_inj, List.length_filter_eq_length_iff]
 constructor
 ·intro h1 x hx hm
  have := h1 x hx
  simp [hm] at this
 ·intro h1 x hx
  simp [h1 x hx]
def SsBox (w : World) (r f lo tm : Int) (pv uv : Value) (ev : Int) (V : World) : Prop :=
 (V.cell? ⟨w.heap.size, 0, none⟩ = some (.int .i64 r) ∧ V.cell? ⟨w.heap.size, 1, none⟩ = some (.int .i64 f) ∧ V.cell? ⟨w.heap.size, 2, none⟩ = some (.int .i64 lo) ∧ V.cell? ⟨w.heap.size, 3, none⟩ = some (.int .i64 tm) ∧ V.cell? ⟨w.heap.size, 4, none⟩ = some pv) ∧
 (V.cell? ⟨w.heap.size + 1, 0, none⟩ = some uv ∧ V.cell? ⟨w.heap.size + 1, 1, none⟩ = some (.int .i64 ev)) ∧ w.heap.size + 2 ≤ V.heap.size ∧ Below w.heap.size w V
theorem ss_boxes {w W0 : World} {r f lo tm : Int} {pv uv : Value} {ev : Int} {t1 t2 : TypeId} (hW0 : W0 = (w.alloc (.cells #[.int .i64 r, .int .i64 f, .int .i64 lo, .int .i64 tm, pv] t1)).alloc (.cells #[uv, .int .i64 ev] t2)) (V : World) (hV : Below (w.heap.size + 2) W0 V) : SsBox w r f lo tm pv uv ev V := by
 have bW : Below w.heap.size w W0 := by rw [hW0]; ((with_reducible repeat' first | exact .refl _ _ | refine .alloc ?_ ?_ _ | refine .setCell ?_ ?_ _ | refine .drew ?_ | refine below_drewN ?_ _) <;> first | omega | simp <;> omega)
 have zW : W0.heap.size = w.heap.size + 2 := by rw [hW0]; simp
 have hz := hV.size
 have h0 := (bk hV w.heap.size (by omega)).1
 have h1 := (bk hV (w.heap.size + 1) (by omega)).1
 refine ⟨⟨(h0 _).trans ?_, (h0 _).trans ?_, (h0 _).trans ?_, (h0 _).trans ?_, (h0 _).trans ?_⟩, ⟨(h1 _).trans ?_, (h1 _).trans ?_⟩, by omega, bW.trans (hV.mono (by omega))⟩ <;> rw [hW0] <;> simp [go_sem]
set_option maxRecDepth 100000 in
set_option maxHeartbeats 2000000 in
theorem R31Choice_any (r f lo tm : Int) (pv : Value) (ps : List Pr) (uv : Value) (use : List Int) (ev : Int) (lv : Value) (li : List Int) (gv : Value) (lg : List Int) (w : World) (hu : IsRow w uv use) (hl : IsRow w lv li) (hg : IsRow w gv lg) (hn : li.length ≤ 1000) :
  Calls Tryz.prog 39 #[.agg #[.int .i64 r, .int .i64 f, .int .i64 lo, .int .i64 tm, pv], .agg #[uv, .int .i64 ev], lv, gv] w fun e w' => e = .returned (.bool (coB ⟨r, f, lo, tm, ps⟩ use li lg)) ∧ Below w.heap.size w w' := by
 have HR := hide (fun (W : World) (hW : Below w.heap.size w W) => (And.intro (hl.below (Nat.le_refl _) hW) (hg.below (Nat.le_refl _) hW) : IsRow W lv li ∧ IsRow W gv lg))
 obtain ⟨ua, uc, rfl, vq1, vq2, -⟩ := id hu
 obtain ⟨la, lc, rfl, lq1, lq2, -⟩ := id hl
 obtain ⟨W0, hW0⟩ : ∃ W : World, W = (w.alloc (.cells #[.int .i64 r, .int .i64 f, .int .i64 lo, .int .i64 tm, pv] 24)).alloc (.cells #[.slice ua use.length uc, .int .i64 ev] 27) := ⟨_, rfl⟩
 have HS := hide (ss_boxes hW0)
 clear hu hl hg
 obtain ⟨A, hA⟩ : ∃ A, A = isB li f use.length := ⟨_, rfl⟩
 obtain ⟨B, hBq⟩ : ∃ B, B = isB lg lo use.length := ⟨_, rfl⟩
 obtain ⟨R, hRq⟩ : ∃ R, R = coB ⟨r, f, lo, tm, ps⟩ use li lg := ⟨_, rfl⟩
 have hR2 : R = (A && B && !cmB li lg) := by rw [hRq, hA, hBq]; rfl
 rw [← hRq]
 have H1 := hide (fun (W : World) (h : IsRow W (.slice la li.length lc) li) => by
  have k := R31rising_any (.slice la li.length lc) li f use.length W h
  rw [← hA] at k
  exact k)
 have H2 := hide (fun (W : World) (h : IsRow W gv lg) => by
  have k := R31rising_any gv lg lo use.length W h
  rw [← hBq] at k
  exact k)
 clear hRq hA hBq
 cases A with
 | false =>
  have hR3 : R = false := by rw [hR2]; rfl
  subst hR3
  clear hR2
  go_enter Tryz.func39, Tryz.ntmps39
  go_upto_region 1 with fail
  rw [← hW0]
  have B0 : Below (w.heap.size + 2) W0 W0 := Below.refl _ _
  clear hW0
  obtain ⟨⟨y0, y1, y2, y3, y4⟩, ⟨x0, x1⟩, z0, b0⟩ := HS.out W0 B0
  go_wp2_with (first | (go_at_call 64; (with_reducible refine (H1.out _ (HR.out _ b0).1).mono ?_); rintro e w1 ⟨rfl, k1⟩; have B1 : Below (w.heap.size + 2) W0 w1 := B0.trans (k1.mono z0); clear y0 y1 y2 y3 y4 x0 x1 z0 b0 k1 B0; obtain ⟨⟨y0, y1, y2, y3, y4⟩, ⟨x0, x1⟩, z0, b0⟩ := HS.out w1 B1) | (go_at_call 64; (with_reducible refine (H2.out _ (HR.out _ b0).2).mono ?_); rintro e w2 ⟨rfl, k2⟩; have B2 : Below (w.heap.size + 2) W0 w2 := B1.trans (k2.mono z0); clear y0 y1 y2 y3 y4 x0 x1 z0 b0 k2 B1; obtain ⟨⟨y0, y1, y2, y3, y4⟩, ⟨x0, x1⟩, z0, b0⟩ := HS.out w2 B2))
  go_ret
  exact ⟨rfl, b0⟩
 | true =>
  cases B with
  | false =>
   have hR3 : R = false := by rw [hR2]; rfl
   subst hR3
   clear hR2
   go_enter Tryz.func39, Tryz.ntmps39
   go_upto_region 1 with fail
   rw [← hW0]
   have B0 : Below (w.heap.size + 2) W0 W0 := Below.refl _ _
   clear hW0
   obtain ⟨⟨y0, y1, y2, y3, y4⟩, ⟨x0, x1⟩, z0, b0⟩ := HS.out W0 B0
   go_wp2_with (first | (go_at_call 64; (with_reducible refine (H1.out _ (HR.out _ b0).1).mono ?_); rintro e w1 ⟨rfl, k1⟩; have B1 : Below (w.heap.size + 2) W0 w1 := B0.trans (k1.mono z0); clear y0 y1 y2 y3 y4 x0 x1 z0 b0 k1 B0; obtain ⟨⟨y0, y1, y2, y3, y4⟩, ⟨x0, x1⟩, z0, b0⟩ := HS.out w1 B1) | (go_at_call 64; (with_reducible refine (H2.out _ (HR.out _ b0).2).mono ?_); rintro e w2 ⟨rfl, k2⟩; have B2 : Below (w.heap.size + 2) W0 w2 := B1.trans (k2.mono z0); clear y0 y1 y2 y3 y4 x0 x1 z0 b0 k2 B1; obtain ⟨⟨y0, y1, y2, y3, y4⟩, ⟨x0, x1⟩, z0, b0⟩ := HS.out w2 B2))
   go_ret
   exact ⟨rfl, b0⟩
  | true =>
   rw [Bool.true_and, Bool.true_and] at hR2
   have hcm := wouL_cm li lg
   obtain ⟨wl, hwl⟩ : ∃ n, n = (wouL li lg).length := ⟨_, rfl⟩
   rw [← hwl] at hcm
   have hR4 : ((wl : Int) == (li.length : Int)) = R := by
    rw [hR2]
    cases hc : cmB li lg with
    | false => rw [hcm.2 hc]; simp
    | true =>
     have hne : ¬ (wl : Int) = (li.length : Int) := fun e => by
      have := hcm.1 e
      rw [hc] at this
      cases this
     simpa using hne
   have HW := hide hwl
   clear hR2 hcm hwl
   go_enter Tryz.func39, Tryz.ntmps39
   go_upto_region 1 with fail
   rw [← hW0]
   have B0 : Below (w.heap.size + 2) W0 W0 := Below.refl _ _
   clear hW0
   obtain ⟨⟨y0, y1, y2, y3, y4⟩, ⟨x0, x1⟩, z0, b0⟩ := HS.out W0 B0
   go_wp2_with (first | (go_at_call 64; (with_reducible refine (H1.out _ (HR.out _ b0).1).mono ?_); rintro e w1 ⟨rfl, k1⟩; have B1 : Below (w.heap.size + 2) W0 w1 := B0.trans (k1.mono z0); clear y0 y1 y2 y3 y4 x0 x1 z0 b0 k1 B0; obtain ⟨⟨y0, y1, y2, y3, y4⟩, ⟨x0, x1⟩, z0, b0⟩ := HS.out w1 B1) | (go_at_call 64; (with_reducible refine (H2.out _ (HR.out _ b0).2).mono ?_); rintro e w2 ⟨rfl, k2⟩; have B2 : Below (w.heap.size + 2) W0 w2 := B1.trans (k2.mono z0); clear y0 y1 y2 y3 y4 x0 x1 z0 b0 k2 B1; obtain ⟨⟨y0, y1, y2, y3, y4⟩, ⟨x0, x1⟩, z0, b0⟩ := HS.out w2 B2) | (go_at_call 42; (with_reducible refine (R31Without_any _ li _ lg _ (HR.out _ b0).1 (HR.out _ b0).2 hn).mono ?_); rintro e w3 ⟨v3, rfl, ho3, k3⟩; have B3 : Below (w.heap.size + 2) W0 w3 := B2.trans (k3.mono z0); obtain ⟨oa, oc, ov3, -, -⟩ := ho3.val; subst ov3; rw [← HW.out]; clear y0 y1 y2 y3 y4 x0 x1 z0 b0 k3 B2 ho3; obtain ⟨⟨y0, y1, y2, y3, y4⟩, ⟨x0, x1⟩, z0, b0⟩ := HS.out w3 B3))
   go_ret
   exact ⟨rfl, b0⟩
end Go.Proofs.YtlmcoollkmhanaaGreat
