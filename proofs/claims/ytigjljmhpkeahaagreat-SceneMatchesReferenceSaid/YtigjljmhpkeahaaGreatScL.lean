
/- Package scene, the reference: has, Worst. -/
import Derived.Test.YtigjljmhpkeahaaGreatScG
import Derived.Test.YtigjljmhpkeahaaGreatGt
import Derived.Test.YtigjljmhpkeahaaGreatGg
namespace Go.Proofs.YtigjljmhpkeahaaGreat
open Go.RowKit
attribute [local go_sem ↓] run_max_mx run_min_mn

set_option maxRecDepth 100000 in
set_option maxHeartbeats 400000 in
theorem R32has_any (v : Value) (l : List Int) (x : Int) (w : World) (hv : IsRow w v l) :
  Calls Tryz.prog 45 #[v, .int .i64 x] w fun e w' => e = .returned (.bool (decide (x ∈ l))) ∧ w = w' := by
 obtain ⟨a, cap, rfl, h1, h2, h3⟩ := hv
 go_enter Tryz.func45, Tryz.ntmps45
 go_wp2
 go_loop [5] (fun i => ∃ k : Nat, k ≤ l.length ∧ i = .int .i64 k ∧ Hid (∀ j, j < k → iAt l j ≠ x)) (fun i => l.length - (intOf i).toNat)
 case atStart => exact ⟨0, Nat.zero_le _, rfl, hide (fun j hj => by omega)⟩
 case round =>
  obtain ⟨k, hk, rfl, Hall⟩ := hrel
  by_cases hlt : k < l.length
  ·obtain ⟨b, off, rfl, h4, h5⟩ := h3 k hlt
   have hm := iAt_mem hlt
   clear h3
   by_cases hb : iAt l k = x
   ·rw [hb] at h5 hm
    have hd : decide (x ∈ l) = true := decide_eq_true hm
    have Hd := hide hd
    have d1 : (x == x) = true := by simp
    clear hm hb hd
    go_wp2
    go_ret
    exact ⟨ret_bool Hd.out.symm, rfl⟩
   ·have d1 : (iAt l k == x) = false := by rw [beq_eq_false_iff_ne]; exact hb
    have Hb := hide hb
    clear hb hm
    go_wp2
    go_round
    case rel => exact ⟨k + 1, by omega, by go_num, hide (fun j hj => by
     rcases Nat.lt_or_ge j k with h | h
     ·exact Hall.out j h
     ·obtain rfl : j = k := by omega
      exact Hb.out)⟩
    case measure => simp [intOf]; omega
  ·clear h3
   have hd : decide (x ∈ l) = false := decide_eq_false fun hx => by
    obtain ⟨j, hj, e⟩ := List.mem_iff_getElem.1 hx
    exact Hall.out j (by omega) (by rw [iAt_lt l j hj]; exact e)
   have Hd := hide hd
   clear hd
   go_wp2
   go_ret
   exact ⟨ret_bool Hd.out.symm, rfl⟩
theorem heap_dq (W : World) (o : Obj) : ((W.alloc o).drew).heap[W.heap.size]? = some o := World.alloc_heap_new W o
set_option maxRecDepth 100000 in
set_option maxHeartbeats 1500000 in
theorem R32Worst_any (r f lo tm : Int) (pv : Value) (ps : List Pr) (uv : Value) (use : List Int) (ev at_ : Int) (w : World) (hp : PrRow w pv ps) (hu : IsRow w uv use) (hun : use.length ≤ 1000000) :
  Calls Tryz.prog 15 #[.agg #[.int .i64 r, .int .i64 f, .int .i64 lo, .int .i64 tm, pv], .agg #[uv, .int .i64 ev], .int .i64 at_] w (WorstPost w ⟨r, f, lo, tm, ps⟩ use ev at_) := by
 have hR : ∀ W : World, Below w.heap.size w W → PrRow W pv ps ∧ IsRow W uv use := fun W hW => ⟨hp.below (Nat.le_refl _) hW, hu.below (Nat.le_refl _) hW⟩
 have HR := hide hR
 obtain ⟨W0, hW0⟩ : ∃ W : World, W = ((w.alloc (.cells #[.int .i64 r, .int .i64 f, .int .i64 lo, .int .i64 tm, pv] 24)).alloc (.cells #[uv, .int .i64 ev] 27)).alloc (.cells #[.slice none 0 0, .int .i64 0, .int .i64 0, .slice none 0 0, .int .i64 0] 30) := ⟨_, rfl⟩
 have hS : ∀ V : World, Below (w.heap.size + 3) W0 V → (V.cell? ⟨w.heap.size, 0, none⟩ = some (.int .i64 r) ∧ V.cell? ⟨w.heap.size, 1, none⟩ = some (.int .i64 f) ∧ V.cell? ⟨w.heap.size, 2, none⟩ = some (.int .i64 lo) ∧ V.cell? ⟨w.heap.size, 3, none⟩ = some (.int .i64 tm) ∧ V.cell? ⟨w.heap.size, 4, none⟩ = some pv) ∧ (V.cell? ⟨w.heap.size + 1, 0, none⟩ = some uv ∧ V.cell? ⟨w.heap.size + 1, 1, none⟩ = some (.int .i64 ev)) ∧
   (V.cell? ⟨w.heap.size + 2, 0, none⟩ = some (.slice none 0 0) ∧ V.cell? ⟨w.heap.size + 2, 1, none⟩ = some (.int .i64 0) ∧ V.cell? ⟨w.heap.size + 2, 2, none⟩ = some (.int .i64 0) ∧ V.cell? ⟨w.heap.size + 2, 3, none⟩ = some (.slice none 0 0) ∧ V.cell? ⟨w.heap.size + 2, 4, none⟩ = some (.int .i64 0)) ∧
   (V.frozen? ⟨w.heap.size + 2, 0, none⟩ = false ∧ V.frozen? ⟨w.heap.size + 2, 1, none⟩ = false ∧ V.frozen? ⟨w.heap.size + 2, 2, none⟩ = false ∧ V.frozen? ⟨w.heap.size + 2, 3, none⟩ = false ∧ V.frozen? ⟨w.heap.size + 2, 4, none⟩ = false) ∧ w.heap.size + 3 ≤ V.heap.size ∧ Below w.heap.size w V := by
  intro V hV
  have bW : Below w.heap.size w W0 := by rw [hW0]; ((with_reducible repeat' first | exact .refl _ _ | refine .alloc ?_ ?_ _ | refine .setCell ?_ ?_ _ | refine .drew ?_ | refine below_drewN ?_ _) <;> first | omega | simp <;> omega)
  have zW : W0.heap.size = w.heap.size + 3 := by rw [hW0]; simp
  have hz := hV.size
  have h0 := (bk hV w.heap.size (by omega)).1
  have h1 := (bk hV (w.heap.size + 1) (by omega)).1
  have h2 := bk hV (w.heap.size + 2) (by omega)
  refine ⟨⟨(h0 _).trans ?_, (h0 _).trans ?_, (h0 _).trans ?_, (h0 _).trans ?_, (h0 _).trans ?_⟩, ⟨(h1 _).trans ?_, (h1 _).trans ?_⟩, ⟨(h2.1 _).trans ?_, (h2.1 _).trans ?_, (h2.1 _).trans ?_, (h2.1 _).trans ?_, (h2.1 _).trans ?_⟩, ⟨(h2.2 _).trans ?_, (h2.2 _).trans ?_, (h2.2 _).trans ?_, (h2.2 _).trans ?_, (h2.2 _).trans ?_⟩, by omega, bW.trans (hV.mono (by omega))⟩ <;> rw [hW0] <;> simp [go_sem]
 have HS := hide hS
 clear hR hS hp hu
 cases h1 : rgB ⟨r, f, lo, tm, ps⟩ use ev with
 | false =>
  have he : wsEr ⟨r, f, lo, tm, ps⟩ use ev at_ = 1 := by unfold wsEr; rw [if_neg (by rw [h1]; simp)]
  have hs : wsS ⟨r, f, lo, tm, ps⟩ use ev at_ = sc0 := by unfold wsS; rw [if_neg (by rw [he]; omega)]
  unfold WorstPost
  rw [he, hs]
  clear he hs
  go_enter Tryz.func15, Tryz.ntmps15
  go_upto_region 1 with fail
  rw [← hW0]
  clear hW0
  have B0 : Below (w.heap.size + 3) W0 W0 := Below.refl _ _
  obtain ⟨⟨y0, y1, y2, y3, y4⟩, ⟨x0, x1⟩, ⟨v0, v1, v2, v3, v4⟩, ⟨f0, f1, f2, f3, f4⟩, z0, b0⟩ := HS.out W0 B0
  go_wp2_with (first | (go_at_call 40; (with_reducible refine (R29Right_any r f lo tm _ ps _ use ev _ (HR.out _ b0).1 (HR.out _ b0).2 hun).mono ?_); rintro e w1 ⟨rfl, k1⟩; rw [h1]; have B1 : Below (w.heap.size + 3) W0 w1 := B0.trans (k1.mono z0); clear y0 y1 y2 y3 y4 x0 x1 v0 v1 v2 v3 v4 f0 f1 f2 f3 f4 z0 b0; obtain ⟨⟨y0, y1, y2, y3, y4⟩, ⟨x0, x1⟩, ⟨v0, v1, v2, v3, v4⟩, ⟨f0, f1, f2, f3, f4⟩, z0, b0⟩ := HS.out w1 B1) | (go_at_call 41; refine (R32time_any _ _).mono ?_; rintro e w' ⟨rfl, rfl⟩))
  have d := stores_at (w.heap.size + 2) [.slice none 0 0, .int .i64 0, .int .i64 0, .slice none 0 0, .int .i64 0] 0 (w1) (ex5 v0 v1 v2 v3 v4); have d0 : (((((w1.setCell ⟨w.heap.size + 2, 0, none⟩ (.slice none 0 0)).setCell ⟨w.heap.size + 2, 1, none⟩ (.int .i64 0)).setCell ⟨w.heap.size + 2, 2, none⟩ (.int .i64 0)).setCell ⟨w.heap.size + 2, 3, none⟩ (.slice none 0 0)).setCell ⟨w.heap.size + 2, 4, none⟩ (.int .i64 0)).cell? ⟨w.heap.size + 2, 0, none⟩ = some (.slice none 0 0) := d 0 _ rfl; have d1 : (((((w1.setCell ⟨w.heap.size + 2, 0, none⟩ (.slice none 0 0)).setCell ⟨w.heap.size + 2, 1, none⟩ (.int .i64 0)).setCell ⟨w.heap.size + 2, 2, none⟩ (.int .i64 0)).setCell ⟨w.heap.size + 2, 3, none⟩ (.slice none 0 0)).setCell ⟨w.heap.size + 2, 4, none⟩ (.int .i64 0)).cell? ⟨w.heap.size + 2, 1, none⟩ = some (.int .i64 0) := d 1 _ rfl; have d2 : (((((w1.setCell ⟨w.heap.size + 2, 0, none⟩ (.slice none 0 0)).setCell ⟨w.heap.size + 2, 1, none⟩ (.int .i64 0)).setCell ⟨w.heap.size + 2, 2, none⟩ (.int .i64 0)).setCell ⟨w.heap.size + 2, 3, none⟩ (.slice none 0 0)).setCell ⟨w.heap.size + 2, 4, none⟩ (.int .i64 0)).cell? ⟨w.heap.size + 2, 2, none⟩ = some (.int .i64 0) := d 2 _ rfl; have d3 : (((((w1.setCell ⟨w.heap.size + 2, 0, none⟩ (.slice none 0 0)).setCell ⟨w.heap.size + 2, 1, none⟩ (.int .i64 0)).setCell ⟨w.heap.size + 2, 2, none⟩ (.int .i64 0)).setCell ⟨w.heap.size + 2, 3, none⟩ (.slice none 0 0)).setCell ⟨w.heap.size + 2, 4, none⟩ (.int .i64 0)).cell? ⟨w.heap.size + 2, 3, none⟩ = some (.slice none 0 0) := d 3 _ rfl; have d4 : (((((w1.setCell ⟨w.heap.size + 2, 0, none⟩ (.slice none 0 0)).setCell ⟨w.heap.size + 2, 1, none⟩ (.int .i64 0)).setCell ⟨w.heap.size + 2, 2, none⟩ (.int .i64 0)).setCell ⟨w.heap.size + 2, 3, none⟩ (.slice none 0 0)).setCell ⟨w.heap.size + 2, 4, none⟩ (.int .i64 0)).cell? ⟨w.heap.size + 2, 4, none⟩ = some (.int .i64 0) := d 4 _ rfl
  exact bodyPost_ret (v := .tuple #[.agg #[.slice none 0 0, .int .i64 0, .int .i64 0, .slice none 0 0, .int .i64 0], .int .i64 1]) (by simp [results, Tryz.results15, go_sem, d0, d1, d2, d3, d4]) rfl ⟨_, _, by rfl, by exact ScRet.none _ _, (by ((with_reducible repeat' first | exact .refl _ _ | exact b0 | refine .alloc ?_ ?_ _ | refine .setCell ?_ ?_ _ | refine .drew ?_ | refine below_drewN ?_ _ | refine Below.trans ?_ (b0.mono ?_)) <;> first | omega | simp <;> omega))⟩
 | true =>
  cases h2 : timeB at_ with
  | false =>
   have he : wsEr ⟨r, f, lo, tm, ps⟩ use ev at_ = 1 := by unfold wsEr; rw [if_neg (by rw [h2]; simp)]
   have hs : wsS ⟨r, f, lo, tm, ps⟩ use ev at_ = sc0 := by unfold wsS; rw [if_neg (by rw [he]; omega)]
   unfold WorstPost
   rw [he, hs]
   clear he hs
   go_enter Tryz.func15, Tryz.ntmps15
   go_upto_region 1 with fail
   rw [← hW0]
   clear hW0
   have B0 : Below (w.heap.size + 3) W0 W0 := Below.refl _ _
   obtain ⟨⟨y0, y1, y2, y3, y4⟩, ⟨x0, x1⟩, ⟨v0, v1, v2, v3, v4⟩, ⟨f0, f1, f2, f3, f4⟩, z0, b0⟩ := HS.out W0 B0
   go_wp2_with (first | (go_at_call 40; (with_reducible refine (R29Right_any r f lo tm _ ps _ use ev _ (HR.out _ b0).1 (HR.out _ b0).2 hun).mono ?_); rintro e w1 ⟨rfl, k1⟩; rw [h1]; have B1 : Below (w.heap.size + 3) W0 w1 := B0.trans (k1.mono z0); clear y0 y1 y2 y3 y4 x0 x1 v0 v1 v2 v3 v4 f0 f1 f2 f3 f4 z0 b0; obtain ⟨⟨y0, y1, y2, y3, y4⟩, ⟨x0, x1⟩, ⟨v0, v1, v2, v3, v4⟩, ⟨f0, f1, f2, f3, f4⟩, z0, b0⟩ := HS.out w1 B1) | (go_at_call 41; refine (R32time_any _ _).mono ?_; rintro e w' ⟨rfl, rfl⟩))
   have d := stores_at (w.heap.size + 2) [.slice none 0 0, .int .i64 0, .int .i64 0, .slice none 0 0, .int .i64 0] 0 (w1) (ex5 v0 v1 v2 v3 v4); have d0 : (((((w1.setCell ⟨w.heap.size + 2, 0, none⟩ (.slice none 0 0)).setCell ⟨w.heap.size + 2, 1, none⟩ (.int .i64 0)).setCell ⟨w.heap.size + 2, 2, none⟩ (.int .i64 0)).setCell ⟨w.heap.size + 2, 3, none⟩ (.slice none 0 0)).setCell ⟨w.heap.size + 2, 4, none⟩ (.int .i64 0)).cell? ⟨w.heap.size + 2, 0, none⟩ = some (.slice none 0 0) := d 0 _ rfl; have d1 : (((((w1.setCell ⟨w.heap.size + 2, 0, none⟩ (.slice none 0 0)).setCell ⟨w.heap.size + 2, 1, none⟩ (.int .i64 0)).setCell ⟨w.heap.size + 2, 2, none⟩ (.int .i64 0)).setCell ⟨w.heap.size + 2, 3, none⟩ (.slice none 0 0)).setCell ⟨w.heap.size + 2, 4, none⟩ (.int .i64 0)).cell? ⟨w.heap.size + 2, 1, none⟩ = some (.int .i64 0) := d 1 _ rfl; have d2 : (((((w1.setCell ⟨w.heap.size + 2, 0, none⟩ (.slice none 0 0)).setCell ⟨w.heap.size + 2, 1, none⟩ (.int .i64 0)).setCell ⟨w.heap.size + 2, 2, none⟩ (.int .i64 0)).setCell ⟨w.heap.size + 2, 3, none⟩ (.slice none 0 0)).setCell ⟨w.heap.size + 2, 4, none⟩ (.int .i64 0)).cell? ⟨w.heap.size + 2, 2, none⟩ = some (.int .i64 0) := d 2 _ rfl; have d3 : (((((w1.setCell ⟨w.heap.size + 2, 0, none⟩ (.slice none 0 0)).setCell ⟨w.heap.size + 2, 1, none⟩ (.int .i64 0)).setCell ⟨w.heap.size + 2, 2, none⟩ (.int .i64 0)).setCell ⟨w.heap.size + 2, 3, none⟩ (.slice none 0 0)).setCell ⟨w.heap.size + 2, 4, none⟩ (.int .i64 0)).cell? ⟨w.heap.size + 2, 3, none⟩ = some (.slice none 0 0) := d 3 _ rfl; have d4 : (((((w1.setCell ⟨w.heap.size + 2, 0, none⟩ (.slice none 0 0)).setCell ⟨w.heap.size + 2, 1, none⟩ (.int .i64 0)).setCell ⟨w.heap.size + 2, 2, none⟩ (.int .i64 0)).setCell ⟨w.heap.size + 2, 3, none⟩ (.slice none 0 0)).setCell ⟨w.heap.size + 2, 4, none⟩ (.int .i64 0)).cell? ⟨w.heap.size + 2, 4, none⟩ = some (.int .i64 0) := d 4 _ rfl
   exact bodyPost_ret (v := .tuple #[.agg #[.slice none 0 0, .int .i64 0, .int .i64 0, .slice none 0 0, .int .i64 0], .int .i64 1]) (by simp [results, Tryz.results15, go_sem, d0, d1, d2, d3, d4]) rfl ⟨_, _, by rfl, by exact ScRet.none _ _, (by ((with_reducible repeat' first | exact .refl _ _ | exact b0 | refine .alloc ?_ ?_ _ | refine .setCell ?_ ?_ _ | refine .drew ?_ | refine below_drewN ?_ _ | refine Below.trans ?_ (b0.mono ?_)) <;> first | omega | simp <;> omega))⟩
  | true =>
   have hrg := (rgB_iff _ _ _).1 h1
   have hsi := (siN_iff _).1 ((siB_iff _).1 hrg.1).1
   have hwd := si_wd hrg.1
   have hsp := rg_spOk h1
   have hse := spEr_ok hsp
   have hwl := wdL_length ps use
   have hul : use.length ≤ 16 := (by have := (spOk_iff _ _ _).1 hsp; rw [wdL_length] at this; omega)
   have hu1 : 1 ≤ use.length := by have := hrg.2.2.2.2; simp only at this hsi; omega
   have hwe : wsEr ⟨r, f, lo, tm, ps⟩ use ev at_ = if placeEr (wdL ps use) f lo at_ = 0 ∧ lateB (wsL ⟨r, f, lo, tm, ps⟩ use at_) use.length = false then 0 else 3 := by unfold wsEr; rw [if_pos ⟨h1, h2⟩]
   simp only at hsp hse
   have hat : 0 ≤ at_ ∧ at_ ≤ 3000000000000000 := (timeB_iff _).1 h2
   have HWd := hide (fun uv2 V q1 q2 => R29Widths_any r f lo tm pv ps uv2 use ev V q1 q2 (by omega) hrg.2.2.1 hwd)
   have Hsi := hide (And.intro hrg (And.intro hsi (And.intro hsp (And.intro hwe (And.intro hwl hat)))))
   clear hrg hsi hsp hwe hwl hat hwd
   go_enter Tryz.func15, Tryz.ntmps15
   go_upto_region 1 with fail
   rw [← hW0]
   clear hW0
   have B0 : Below (w.heap.size + 3) W0 W0 := Below.refl _ _
   obtain ⟨⟨y0, y1, y2, y3, y4⟩, ⟨x0, x1⟩, ⟨v0, v1, v2, v3, v4⟩, ⟨f0, f1, f2, f3, f4⟩, z0, b0⟩ := HS.out W0 B0
   go_upto_region 5 with (first | (go_at_call 40; (with_reducible refine (R29Right_any r f lo tm _ ps _ use ev _ (HR.out _ b0).1 (HR.out _ b0).2 hun).mono ?_); rintro e w1 ⟨rfl, k1⟩; rw [h1]; have B1 : Below (w.heap.size + 3) W0 w1 := B0.trans (k1.mono z0); clear y0 y1 y2 y3 y4 x0 x1 v0 v1 v2 v3 v4 f0 f1 f2 f3 f4 z0 b0; obtain ⟨⟨y0, y1, y2, y3, y4⟩, ⟨x0, x1⟩, ⟨v0, v1, v2, v3, v4⟩, ⟨f0, f1, f2, f3, f4⟩, z0, b0⟩ := HS.out w1 B1) | (go_at_call 41; refine (R32time_any _ _).mono ?_; rintro e w' ⟨rfl, rfl⟩))
   go_upto_region 6 with (go_at_call 42; (with_reducible refine (HWd.out _ _ (HR.out _ b0).1 (HR.out _ b0).2).mono ?_); rintro e w2 ⟨ov, rfl, hov, k2⟩)
   have B2 : Below (w.heap.size + 3) W0 w2 := B1.trans (k2.mono z0)
   clear y0 y1 y2 y3 y4 x0 x1 v0 v1 v2 v3 v4 f0 f1 f2 f3 f4 z0 b0
   obtain ⟨⟨y0, y1, y2, y3, y4⟩, ⟨x0, x1⟩, ⟨v0, v1, v2, v3, v4⟩, ⟨f0, f1, f2, f3, f4⟩, z0, b0⟩ := HS.out w2 B2
   have hrow := hov.row
   obtain ⟨oa, oc, hoe, -, -⟩ := hov.val
   subst hoe
   have HP := hide (fun V h => RPick_any (.slice oa (wdL ps use).length oc) (wdL ps use) f lo V h (by rw [wdL_length]; omega))
   have HPl := hide (fun V h => RPlace_any (.slice oa (wdL ps use).length oc) (wdL ps use) f lo at_ V h (by rw [wdL_length]; omega))
   unfold PickPost at HP
   unfold PlacePost at HPl
   rw [hse] at HP
   have Hov := hide hrow
   clear hov k1 k2 hse hrow
   go_upto_region 7 with (go_at_call 43; (with_reducible refine (HP.out _ Hov.out).mono ?_); rintro e w3 ⟨bv, gv, rfl, hbv, hgv, k3⟩; obtain ⟨ba, bc, hbe, -, -⟩ := hbv.val; obtain ⟨ga, gc, hge, -, -⟩ := hgv.val; subst hbe; subst hge)
   have B3 : Below (w.heap.size + 3) W0 w3 := B2.trans (k3.mono z0)
   have Hbv := hide hbv.row
   have Hgv := hide hgv.row
   have Hov3 := hide (Hov.out.below (Nat.le_refl _) k3)
   clear hbv hgv k3
   clear y0 y1 y2 y3 y4 x0 x1 v0 v1 v2 v3 v4 f0 f1 f2 f3 f4 z0 b0
   obtain ⟨⟨y0, y1, y2, y3, y4⟩, ⟨x0, x1⟩, ⟨v0, v1, v2, v3, v4⟩, ⟨f0, f1, f2, f3, f4⟩, z0, b0⟩ := HS.out w3 B3
   go_upto_region 8 with (go_at_call 44; (with_reducible refine (HPl.out _ Hov3.out).mono ?_); rintro e w4 ⟨plv, rfl, hplv, k4⟩; obtain ⟨pla, plc, hple, -, -⟩ := hplv.val; subst hple)
   have B4 : Below (w.heap.size + 3) W0 w4 := B3.trans (k4.mono z0)
   have Hbv4 := hide (Hbv.out.below (Nat.le_refl _) k4)
   have Hgv4 := hide (Hgv.out.below (Nat.le_refl _) k4)
   have Hpl4 := hide hplv.row
   clear hplv k4 Hbv Hgv Hov3 Hov
   clear y0 y1 y2 y3 y4 x0 x1 v0 v1 v2 v3 v4 f0 f1 f2 f3 f4 z0 b0
   obtain ⟨⟨y0, y1, y2, y3, y4⟩, ⟨x0, x1⟩, ⟨v0, v1, v2, v3, v4⟩, ⟨f0, f1, f2, f3, f4⟩, z0, b0⟩ := HS.out w4 B4
   by_cases h3 : placeEr (wdL ps use) f lo at_ = 0
   ·have dne : (placeEr (wdL ps use) f lo at_ != 0) = false := by rw [h3]; rfl
    have H3 := hide h3
    have hrg := Hsi.out.1
    have hsi := Hsi.out.2.1
    have we : IntKind.i64.wrap (ev + tm) = ev + tm := IntWalk.i64_in _ (by omega)
    have Hur := hide (HR.out _ b0).2
    obtain ⟨i1, hj0, hy0, hy1, hy2⟩ := info_parts infoInt
    obtain ⟨ua, uc, huv, q1, q2, -⟩ := id Hur.out
    subst huv
    clear h3 hrg hsi f0 f1 f2 f3 f4 v0 v1 v2 v3 v4
    go_upto_region 11 with fail
    obtain ⟨W5, hW5⟩ : ∃ W : World, W = w4.alloc (.cells #[.slice none 0 0, .int .i64 0, .int .i64 at_, .slice none 0 0, .int .i64 (ev + tm)] 30) := ⟨_, rfl⟩
    rw [← hW5]
    have b45 : Below w4.heap.size w4 W5 := by rw [hW5]; ((with_reducible repeat' first | exact .refl _ _ | refine .alloc ?_ ?_ _ | refine .setCell ?_ ?_ _ | refine .drew ?_ | refine below_drewN ?_ _) <;> first | omega | simp <;> omega)
    have z5 : w4.heap.size < W5.heap.size := by rw [hW5]; simp
    have hc5 : W5.cell? ⟨w4.heap.size, 0, none⟩ = some (.slice none 0 0) ∧ W5.cell? ⟨w4.heap.size, 1, none⟩ = some (.int .i64 0) ∧ W5.cell? ⟨w4.heap.size, 2, none⟩ = some (.int .i64 at_) ∧ W5.cell? ⟨w4.heap.size, 3, none⟩ = some (.slice none 0 0) ∧ W5.cell? ⟨w4.heap.size, 4, none⟩ = some (.int .i64 (ev + tm)) ∧ W5.frozen? ⟨w4.heap.size, 0, none⟩ = false ∧ W5.frozen? ⟨w4.heap.size, 1, none⟩ = false ∧ W5.frozen? ⟨w4.heap.size, 3, none⟩ = false := by
     rw [hW5]; refine ⟨?_, ?_, ?_, ?_, ?_, ?_, ?_, ?_⟩ <;> simp [go_sem]
    obtain ⟨m0, m1, m2, m3, m4, g0, g1, g3⟩ := hc5
    have x0' := ((bk b45 (w.heap.size + 1) (by omega)).1 0).trans x0
    have x1' := ((bk b45 (w.heap.size + 1) (by omega)).1 1).trans x1
    have hur5 : IsRow W5 (.slice ua use.length uc) use := Hur.out.below (Nat.le_refl _) b45
    obtain ⟨ub, uo, uc', hue, -, -, hub, -⟩ := hur5.at0 (by omega)
    cases hue
    have hz5 : w.heap.size + 1 < W5.heap.size := by omega
    have Hur5 := hide hur5
    have B5 := hide b45
    clear hW5 b45 x0 x1 y0 y1 y2 y3 y4 b0 hur5
    go_cut [70] (fun s70 wx => ∃ ca cc, s70 = .slice ca use.length cc ∧ M4 wx w4.heap.size (.slice ca use.length cc) ev at_ (ev + tm) ∧ wx.cell? ⟨w4.heap.size, 3, none⟩ = some (.slice none 0 0) ∧ wx.frozen? ⟨w4.heap.size, 3, none⟩ = false ∧ OwnIs wx W5.heap.size (.slice ca use.length cc) use ∧ w4.heap.size < wx.heap.size ∧ Below w4.heap.size w4 wx)
    case first =>
     go_region_law (refine step_append_own rfl (.tmp 67) (.tmp 69) 25 rfl W5.heap.size 3 i1 (.int .i64 0) 1 8 Tryz.underlying25 hj0 hy0 hy1 hy2 rfl (by decide) _ 0 [] (by simp [Act.eval]) (owns_newI (base := W5.heap.size) (heap_dq W5 _) (by first | omega | (simp; omega) | (simp; done))) ⟨ub, uo, none⟩ use.length uc (encI use) (by simp [Act.eval]) (by simp [encI_length]) (isrow_cells (Hur5.out.below (Nat.le_refl _) (by ((with_reducible repeat' first | exact .refl _ _ | refine .alloc ?_ ?_ _ | refine .setCell ?_ ?_ _ | refine .drew ?_ | refine below_drewN ?_ _) <;> first | omega | simp <;> omega)))) (encI_one use) (by unfold maxLen; omega) (by omega) (by first | omega | (simp; omega) | (simp; done)) ?_; intro v9 w9 hown9 hg9; obtain ⟨ca, cc, hv9⟩ := ownsRow_val hown9; subst hv9; have hq9 : Below W5.heap.size W5 w9 := Below.grown (by ((with_reducible repeat' first | exact .refl _ _ | refine .alloc ?_ ?_ _ | refine .setCell ?_ ?_ _ | refine .drew ?_ | refine below_drewN ?_ _) <;> first | omega | simp <;> omega)) hg9 (by first | omega | (simp; omega) | (simp; done)) (by intro k hk; simp [Value.ownBlock] at hk; omega); have x19 := ((bk hq9 (w.heap.size + 1) hz5).1 1).trans x1'; have m09 := ((bk hq9 w4.heap.size z5).1 0).trans m0; have m19 := ((bk hq9 w4.heap.size z5).1 1).trans m1; have g09 := ((bk hq9 w4.heap.size z5).2 0).trans g0; have g19 := ((bk hq9 w4.heap.size z5).2 1).trans g1; have Hq9 := hide hq9; have Hown9 := hide hown9; clear hq9 hown9 hg9)
     all_goals go_wp2
     all_goals go_meet
     all_goals
      have hq9 := Hq9.out
      have k4 := bk hq9 w4.heap.size z5
      have ho9 : OwnIs w9 W5.heap.size (.slice ca use.length cc) use := by
       have := Hown9.out
       rw [Nat.zero_add, List.nil_append] at this
       exact this
      have hne9 : ∀ q, (Value.slice ca use.length cc).ownBlock = some q → q ≠ w4.heap.size := fun q hq => by have := (World.ownsRow.lt ho9 q hq).1; omega
      refine ⟨ca, cc, rfl, ⟨?_, ?_, ?_, ?_⟩, ?_, ?_, ?_, ?_, ?_⟩
      ·exact set_other _ (set_same _ m09) (by intro h; simp at h)
      ·exact set_same _ (set_other _ m19 (by intro h; simp at h))
      ·exact set_other _ (set_other _ ((k4.1 2).trans m2) (by intro h; simp at h)) (by intro h; simp at h)
      ·exact set_other _ (set_other _ ((k4.1 4).trans m4) (by intro h; simp at h)) (by intro h; simp at h)
      ·exact set_other _ (set_other _ ((k4.1 3).trans m3) (by intro h; simp at h)) (by intro h; simp at h)
      ·have := (k4.2 3).trans g3
       simp [go_sem, this]
      ·exact stores_owns (n := w4.heap.size) hne9 [.slice ca use.length cc, .int .i64 ev] 0 w9 ho9
      ·have := hq9.size
       simp [World.setCell]; omega
      ·exact ((B5.out.trans (hq9.mono (by omega))).setCell (p := ⟨w4.heap.size, 0, none⟩) (Nat.le_refl _) _).setCell (p := ⟨w4.heap.size, 1, none⟩) (Nat.le_refl _) _
    case rest =>
     obtain ⟨ca, cc, -, hM, m3', g3', hown, hsz, Ba⟩ := hcut
     obtain ⟨wa, hwa⟩ : ∃ W : World, W = wc := ⟨_, rfl⟩
     subst hwa
     obtain ⟨i0, hi0, hz0, hz1, hz2⟩ := info_parts infoAn
     have hne5 : ∀ q, (Value.slice ca use.length cc).ownBlock = some q → q ≠ w4.heap.size := fun q hq => by have := (World.ownsRow.lt hown q hq).1; omega
     have Hxb := hide (And.intro hown hne5)
     have hM4 := hide hM
     have Hpl5 := hide (fun (V : World) (hV : Below w4.heap.size w4 V) => And.intro (Hpl4.out.below (Nat.le_refl _) hV) (And.intro (Hgv4.out.below (Nat.le_refl _) hV) (Hbv4.out.below (Nat.le_refl _) hV)))
     have HBW := hide (fun (V : World) (hV : Below w4.heap.size w4 V) => (B4.trans (hV.mono z0) : Below (w.heap.size + 3) W0 V))
     have hlk := wsT_length ps use (pickL (wdL ps use) f lo) (goneL (wdL ps use) f lo) (placeL (wdL ps use) f lo at_) at_ use.length
     obtain ⟨L, hL⟩ : ∃ L, L = wsT ps use (pickL (wdL ps use) f lo) (goneL (wdL ps use) f lo) (placeL (wdL ps use) f lo at_) at_ use.length := ⟨_, rfl⟩
     have hLd : L = wsL ⟨r, f, lo, tm, ps⟩ use at_ := hL
     have hLat : ∀ k, k < use.length → anAt L k = wsG ps use (pickL (wdL ps use) f lo) (goneL (wdL ps use) f lo) (placeL (wdL ps use) f lo at_) at_ k := fun k hk => by rw [hL]; exact wsT_at _ _ _ _ _ _ _ _ hk
     have HL := hide (And.intro hL (And.intro hLd hLat))
     have Hold := hide (And.intro m0 (And.intro m1 (And.intro m2 (And.intro m3 (And.intro m4 (And.intro g0 (And.intro g1 (And.intro g3 (And.intro x0' x1')))))))))
     clear hL hLd hLat hlk hown hne5 hM m0 m1 m2 m3 m4 g0 g1 g3 x0' x1' hz5 hub
     go_wp2_with fail
     go_loopw [17] (fun s17 wx => ∃ (k : Nat) (av : Option Addr) (ac : Nat), k ≤ use.length ∧ s17 = .int .i64 k ∧ wx.cell? ⟨w4.heap.size, 3, none⟩ = some (.slice av k ac) ∧ wx.frozen? ⟨w4.heap.size, 3, none⟩ = false ∧ Hid (OwnAn wx wa.heap.size (.slice av k ac) (wsT ps use (pickL (wdL ps use) f lo) (goneL (wdL ps use) f lo) (placeL (wdL ps use) f lo at_) at_ k)) ∧ Below w4.heap.size w4 wx ∧ ButX wa.heap.size w4.heap.size wa wx ∧ Hid (M4 wx w4.heap.size (.slice ca use.length cc) ev at_ (ev + tm)) ∧ Hid (lateB L k = false)) (fun s17 _ => use.length - (intOf s17).toNat)
     case atStart => exact ⟨0, none, 0, Nat.zero_le _, rfl, m3', g3', hide (OwnAn.nil _ _), Ba, ButX.refl _ _ _, hM4, hide rfl⟩
     case round =>
      obtain ⟨k, av, ac, hk, rfl, c3, fr, Hown, hB, hX, HM, Hla⟩ := hrel
      obtain ⟨⟨y0, y1, y2, y3, y4⟩, ⟨x0, x1⟩, -, -, zr, b0⟩ := HS.out wr (HBW.out wr hB)
      by_cases hlt : k < use.length
      ·have hkp : k < (placeL (wdL ps use) f lo at_).length := by rw [placeLen H3.out, wdL_length]; exact hlt
       have hin := Hsi.out.1.2.2.1 k hlt
       have hpr := (prB_iff _ _ _).1 (rg_pr h1 hlt)
       have hat := Hsi.out.2.2.2.2.2
       have hpl : (k : Int) ∉ goneL (wdL ps use) f lo → (0 ≤ (ivAt (placeL (wdL ps use) f lo at_) k).1 ∧ (ivAt (placeL (wdL ps use) f lo at_) k).1 ≤ 3000000000000000) ∧ (0 ≤ (ivAt (placeL (wdL ps use) f lo at_) k).2 ∧ (ivAt (placeL (wdL ps use) f lo at_) k).2 ≤ 3000000000000000) := fun hg => by
        have := place_in H3.out k (by rw [wdL_length]; exact hlt) hg
        omega
       have hg1 : wsG ps use (pickL (wdL ps use) f lo) (goneL (wdL ps use) f lo) (placeL (wdL ps use) f lo at_) at_ k = if (k : Int) ∈ goneL (wdL ps use) f lo then ⟨(pu ps use k).au, true, 0, 0, 0, 0⟩
        else ⟨(pu ps use k).au, false, if (k : Int) ∈ pickL (wdL ps use) f lo then (pu ps use k).ol else mx (pu ps use k).ol ((ivAt (placeL (wdL ps use) f lo at_) k).1 + (pu ps use k).oh - at_), (pu ps use k).bl, (ivAt (placeL (wdL ps use) f lo at_) k).1 + (pu ps use k).oh, (ivAt (placeL (wdL ps use) f lo at_) k).2 + (pu ps use k).ol⟩ := rfl
       obtain ⟨A, hA⟩ : ∃ A, A = wsG ps use (pickL (wdL ps use) f lo) (goneL (wdL ps use) f lo) (placeL (wdL ps use) f lo at_) at_ k := ⟨_, rfl⟩
       have hsn := wsT_snoc ps use (pickL (wdL ps use) f lo) (goneL (wdL ps use) f lo) (placeL (wdL ps use) f lo at_) at_ k
       have hlat : lateB L (k + 1) = (lateB L k || decide (3000000000000000 < (anAt L k).hi)) := rfl
       rw [HL.out.2.2 k hlt, ← hA, Hla.out, Bool.false_or] at hlat
       have hltr : 3000000000000000 < A.hi → lateB L use.length = true := fun h => lateB_true L (k := k) (by rw [HL.out.2.2 k hlt, ← hA]; exact h) hlt
       rw [← hA] at hsn hg1
       have hlk := wsT_length ps use (pickL (wdL ps use) f lo) (goneL (wdL ps use) f lo) (placeL (wdL ps use) f lo at_) at_ k
       obtain ⟨Lk, hLk⟩ : ∃ L, L = wsT ps use (pickL (wdL ps use) f lo) (goneL (wdL ps use) f lo) (placeL (wdL ps use) f lo at_) at_ k := ⟨_, rfl⟩
       rw [← hLk] at hsn hlk Hown
       have hown' := Hown.out
       unfold OwnAn Owns at hown'
       rw [hlk] at hown'
       have hlow := World.ownsRow.lt hown'
       obtain ⟨ub1, uo1, uc1, hue, -, -, hub, -, huc⟩ := (HR.out _ b0).2.at0 (by omega)
       cases hue
       have hu0 := huc k hlt
       have hP : pu ps use k = pAt ps (iAt use k).toNat := rfl
       obtain ⟨q, hq⟩ : ∃ q : Nat, iAt use k = q := ⟨(iAt use k).toNat, by omega⟩
       rw [hq] at hu0 hin hP
       rw [Int.toNat_natCast] at hP
       have hql : q < ps.length := by omega
       obtain ⟨pb, po, pc', hpe, -, -, hpb, hpcc⟩ := (HR.out _ b0).1.at0 (by omega)
       subst hpe
       obtain ⟨p0, p1, p2, p3, p4, p5, p6, p7⟩ := hpcc q hql
       rw [hP] at hg1 hpr
       generalize pAt ps q = p at *
       have I1 : (0 : Int) ≤ (q : Int) := by omega
       have I2 : (q : Int) < (ps.length : Int) := by omega
       have I3 : (0 : Int) ≤ (k : Int) := by omega
       have I4 : (k : Int) < (use.length : Int) := by omega
       have I5 : (k : Int) < ((placeL (wdL ps use) f lo at_).length : Int) := by omega
       have sz1 : w.heap.size < wr.heap.size := by omega
       have sz2 : w.heap.size + 1 < wr.heap.size := by omega
       have sxb : w4.heap.size < wr.heap.size := Nat.lt_of_lt_of_le hsz hX.1
       have szw : wa.heap.size ≤ wr.heap.size := hX.1
       have Hnum := hide (And.intro hpr (And.intro hpl hat))
       have Hsn := hide (And.intro hsn (And.intro hlk (And.intro hg1 (And.intro hlat hltr))))
       have Hown2 := hide hown'
       have Hlow := hide hlow
       have HB := hide hB
       have HX := hide hX
       have Hc3 := hide (And.intro c3 fr)
       clear hA hLk hsn hlk hg1 hlat hltr hown' hlow Hown hB hX hpr hpl hat hin hpcc huc hq hP c3 fr y0 y1 y2 y3 b0 x1
       go_upto_region 15 with fail
       go_cut [18] (fun s18 wx => ∃ g, s18 = .pointer (some ⟨g, 0, none⟩) ∧ PrBox wx g p ∧ Below wr.heap.size wr wx ∧ wr.heap.size ≤ g)
       case first =>
        go_region_with fail
        all_goals go_wp2
        all_goals go_meet
        all_goals exact ⟨_, rfl, PrBox.made _ _ _, (by ((with_reducible repeat' first | exact .refl _ _ | refine .alloc ?_ ?_ _ | refine .setCell ?_ ?_ _ | refine .drew ?_ | refine below_drewN ?_ _) <;> first | omega | simp <;> omega)), Nat.le_refl _⟩
       case rest =>
        obtain ⟨g, rfl, hbx, Bc, hg0⟩ := hcut
        obtain ⟨wb, hwb⟩ : ∃ W : World, W = wc := ⟨_, rfl⟩
        subst hwb
        have HBb := hide (HB.out.trans (Bc.mono (by omega)))
        have HXb := hide (HX.out.below Bc szw)
        have HMb := hide (HM.out.of (Bc.block w4.heap.size sxb))
        have Hownb := hide (ownsRow_below Hown2.out Bc)
        have szb := Bc.size
        have sxbb : w4.heap.size < wb.heap.size := by omega
        have cb := ((bk Bc w4.heap.size sxb).1 3).trans Hc3.out.1
        have frb := ((bk Bc w4.heap.size sxb).2 3).trans Hc3.out.2
        obtain ⟨hplb, hgb, hbb⟩ := Hpl5.out wb HBb.out
        have HG := hide (fun x => R32has_any (.slice ga (goneL (wdL ps use) f lo).length gc) (goneL (wdL ps use) f lo) x wb hgb)
        obtain ⟨⟨r0, r1, r2, r3, r4, r5, r6, r7⟩, rz⟩ := id hbx
        have Hbx := hide hbx
        have HBc := hide Bc
        clear p0 p1 p2 p3 p4 p5 p6 p7 hbx Bc hgb x0 hu0
        by_cases hgo : (k : Int) ∈ goneL (wdL ps use) f lo
        ·have hd : decide ((k : Int) ∈ goneL (wdL ps use) f lo) = true := decide_eq_true hgo
         have HA : Hid (A = ⟨p.au, true, 0, 0, 0, 0⟩ ∧ lateB L (k + 1) = false) := hide (by
          have hA := Hsn.out.2.2.1
          rw [if_pos hgo] at hA
          exact ⟨hA, by rw [Hsn.out.2.2.2.1, hA]; simp⟩)
         have HownB := Hownb
         have HMB := HMb
         have HBB := HBb
         have HXB := HXb
         have cB := cb
         have frB := frb
         clear hgo hplb hbb
         go_wp2_with (first | (go_at_call 45; (with_reducible refine (HG.out _).mono ?_); rintro e w7 ⟨rfl, rfl⟩; rw [hd]) | (at_builtin; refine wpList_append_own _ rfl _ _ 28 rfl wa.heap.size 59 i0 (.agg #[.int .i64 0, .bool false, .int .i64 0, .int .i64 0, .int .i64 0, .int .i64 0]) 6 48 Tryz.underlying28 hi0 hz0 hz1 hz2 rfl (by decide) _ k (Lk.flatMap encA) rfl (World.ownsRow.alloc HownB.out _) ⟨wb.heap.size, 0, none⟩ 1 1 (encA (⟨p.au, true, 0, 0, 0, 0⟩ : An)) rfl rfl (cells_new wb (encA (⟨p.au, true, 0, 0, 0, 0⟩ : An)) 59) (encA_one _) (by unfold maxLen; omega) (by omega) (by simp; omega) ?_; intro v9 w9 hown9 hg9 _; obtain ⟨a9, ac9, hv9⟩ := ownsRow_val hown9; subst hv9; have hb9 := hg9.block w4.heap.size (by simp; omega) (fun e => by have := (Hlow.out _ e.symm).1; omega); have c39 : w9.cell? ⟨w4.heap.size, 3, none⟩ = some (.slice av k ac) := (World.cell?_of_block (a := ⟨w4.heap.size, 3, none⟩) hb9).trans (by simp [go_sem, cB, sxbb]); have fr9 : w9.frozen? ⟨w4.heap.size, 3, none⟩ = false := (World.frozen?_of_block (a := ⟨w4.heap.size, 3, none⟩) hb9).trans (by simp [go_sem, frB, sxbb]); have HR9 := hide (And.intro hown9 hg9); have HM9 := hide ((HMB.out.of (Below.heap_alloc _ _ _ sxbb)).of hb9); clear hown9 hg9 hb9))
         obtain ⟨hown9, hg9⟩ := HR9.out
         have hne9 : ∀ q, (Value.slice a9 (k + 1) ac9).ownBlock = some q → q ≠ w4.heap.size := fun q hq => by have := (World.ownsRow.lt hown9 q hq).1; omega
         have hown10 := hide (OwnAn.app (by rw [Hsn.out.2.1]; exact ownsRow_setCell_ne hown9 (p := ⟨w4.heap.size, 3, none⟩) hne9 (.slice a9 (k + 1) ac9)) : OwnAn (w9.setCell ⟨w4.heap.size, 3, none⟩ (.slice a9 (k + 1) ac9)) wa.heap.size (.slice a9 (k + 1) ac9) (Lk ++ [(⟨p.au, true, 0, 0, 0, 0⟩ : An)]))
         have hB9 : Below w4.heap.size w4 (w9.setCell ⟨w4.heap.size, 3, none⟩ (.slice a9 (k + 1) ac9)) := ((((HBB.out).alloc (by omega) _).grown hg9 (by simp; omega) (fun r h => Nat.le_trans (by omega) (Hlow.out r h).1)).setCell (p := ⟨w4.heap.size, 3, none⟩) (Nat.le_refl _) _)
         have hX9 : ButX wa.heap.size w4.heap.size wa (w9.setCell ⟨w4.heap.size, 3, none⟩ (.slice a9 (k + 1) ac9)) := (((HXB.out).below ((Below.refl _ _).alloc (Nat.le_refl _) _) (by omega)).grown hg9 (by simp; omega) (fun r h => (Hlow.out r h).1)).set (p := ⟨w4.heap.size, 3, none⟩) rfl _
         have hc9 : (w9.setCell ⟨w4.heap.size, 3, none⟩ (.slice a9 (k + 1) ac9)).cell? ⟨w4.heap.size, 3, none⟩ = some (.slice a9 (k + 1) ac9) := set_same _ c39
         have hf9 : (w9.setCell ⟨w4.heap.size, 3, none⟩ (.slice a9 (k + 1) ac9)).frozen? ⟨w4.heap.size, 3, none⟩ = false := by simp [go_sem, fr9]
         have HM10 := hide (HM9.out.set (.slice a9 (k + 1) ac9))
         have HQ := hide (And.intro hB9 hX9)
         clear hB9 hX9 hown9 hg9
         go_roundw
         case rel => exact ⟨k + 1, a9, ac9, by omega, by go_num, hc9, hf9, by rw [Hsn.out.1, HA.out.1]; exact hown10, HQ.out.1, HQ.out.2, HM10, hide HA.out.2⟩
         case measure => simp [intOf]; omega
        ·-- not gone
         have hd : decide ((k : Int) ∈ goneL (wdL ps use) f lo) = false := decide_eq_false hgo
         have hA1 := Hsn.out.2.2.1
         rw [if_neg hgo] at hA1
         have hI := Hnum.out.2.1 hgo
         have hpq := Hnum.out.1
         have ht := Hnum.out.2.2
         obtain ⟨vb, vo, vc, hve, -, -, hvb, -, -, hvc⟩ := hplb.at0 (by omega)
         cases hve
         obtain ⟨hv0, hv1⟩ := hvc k hkp
         have e1 : iLo (placeL (wdL ps use) f lo at_) k = (ivAt (placeL (wdL ps use) f lo at_) k).1 := rfl
         have e2 : iHi (placeL (wdL ps use) f lo at_) k = (ivAt (placeL (wdL ps use) f lo at_) k).2 := rfl
         rw [e1] at hv0
         rw [e2] at hv1
         clear e1 e2
         generalize (ivAt (placeL (wdL ps use) f lo at_) k).1 = pl0 at *
         generalize (ivAt (placeL (wdL ps use) f lo at_) k).2 = pl1 at *
         have wr1 : IntKind.i64.wrap (pl0 + p.oh) = pl0 + p.oh := IntWalk.i64_in _ (by omega)
         have wr2 : IntKind.i64.wrap (pl1 + p.ol) = pl1 + p.ol := IntWalk.i64_in _ (by omega)
         have wr3 : IntKind.i64.wrap (pl0 + p.oh - at_) = pl0 + p.oh - at_ := IntWalk.i64_in _ (by omega)
         have Wr3 := hide wr3
         have HA1 := hide hA1
         have Hcf := hide (And.intro cb frb)
         have hBb : ∀ W : World, Below wb.heap.size wb W → Below w4.heap.size w4 W ∧ ButX wa.heap.size w4.heap.size wa W ∧ M4 W w4.heap.size (.slice ca use.length cc) ev at_ (ev + tm) ∧ W.cell? ⟨w4.heap.size, 3, none⟩ = some (.slice av k ac) ∧ W.frozen? ⟨w4.heap.size, 3, none⟩ = false ∧ W.ownsRow wa.heap.size 59 6 (.slice av k ac) k (Lk.flatMap encA) ∧ w4.heap.size < W.heap.size := fun W hW =>
          ⟨HBb.out.trans (hW.mono (by omega)), HXb.out.below hW (by omega), HMb.out.of (hW.block _ sxbb), ((bk hW _ sxbb).1 3).trans Hcf.out.1, ((bk hW _ sxbb).2 3).trans Hcf.out.2, ownsRow_below Hownb.out hW, Nat.lt_of_lt_of_le sxbb hW.size⟩
         have HBb2 := hide hBb
         have hT : ∀ W : World, Below wb.heap.size wb W → W.cell? ⟨vb, vo + k * 2, none⟩ = some (.int .i64 pl0) ∧ W.cell? ⟨vb, vo + k * 2 + 1, none⟩ = some (.int .i64 pl1) ∧ W.cell? ⟨g, 4, none⟩ = some (.int .i64 p.ol) ∧ W.cell? ⟨g, 5, none⟩ = some (.int .i64 p.oh) := by
          intro W hW
          exact ⟨((bk hW vb hvb).1 _).trans hv0, ((bk hW vb hvb).1 _).trans hv1, ((bk hW g rz).1 _).trans r4, ((bk hW g rz).1 _).trans r5⟩
         have HT := hide hT
         clear hgo hI hpq ht hvc hplb wr3 hA1 hBb hT cb frb
         go_upto_region 20 with (go_at_call 45; (with_reducible refine (HG.out _).mono ?_); rintro e w7 ⟨rfl, rfl⟩; rw [hd])
         obtain ⟨W8, hW8⟩ : ∃ W : World, W = wb.alloc (.cells #[.int .i64 p.au, .bool false, .int .i64 p.ol, .int .i64 p.bl, .int .i64 0, .int .i64 0] 59) := ⟨_, rfl⟩
         rw [← hW8]
         have b8 : Below wb.heap.size wb W8 := by rw [hW8]; ((with_reducible repeat' first | exact .refl _ _ | refine .alloc ?_ ?_ _ | refine .setCell ?_ ?_ _ | refine .drew ?_ | refine below_drewN ?_ _) <;> first | omega | simp <;> omega)
         have z8 : wb.heap.size < W8.heap.size := by rw [hW8]; simp
         obtain ⟨a0, a1, a2, a3, a4, a5, f2, f4, f5⟩ : W8.cell? ⟨wb.heap.size, 0, none⟩ = some (.int .i64 p.au) ∧ W8.cell? ⟨wb.heap.size, 1, none⟩ = some (.bool false) ∧ W8.cell? ⟨wb.heap.size, 2, none⟩ = some (.int .i64 p.ol) ∧ W8.cell? ⟨wb.heap.size, 3, none⟩ = some (.int .i64 p.bl) ∧ W8.cell? ⟨wb.heap.size, 4, none⟩ = some (.int .i64 0) ∧ W8.cell? ⟨wb.heap.size, 5, none⟩ = some (.int .i64 0) ∧ W8.frozen? ⟨wb.heap.size, 2, none⟩ = false ∧ W8.frozen? ⟨wb.heap.size, 4, none⟩ = false ∧ W8.frozen? ⟨wb.heap.size, 5, none⟩ = false := by
          rw [hW8]; refine ⟨?_, ?_, ?_, ?_, ?_, ?_, ?_, ?_, ?_⟩ <;> simp [go_sem]
         clear hW8 r0 r1 r2 r3 r4 r5 r6 r7
         go_cut [20] (fun s20 wx => ∃ h, s20 = .pointer (some ⟨h, 0, none⟩) ∧ AnAt wx h 0 ⟨p.au, false, p.ol, p.bl, pl0 + p.oh, pl1 + p.ol⟩ ∧ wx.frozen? ⟨h, 2, none⟩ = false ∧ wb.heap.size ≤ h ∧ h < wx.heap.size ∧ Below wb.heap.size wb wx)
         case first =>
          go_region_held3 (fun W => W.cell? ⟨vb, vo + k * 2, none⟩ = some (.int .i64 pl0) ∧ W.cell? ⟨vb, vo + k * 2 + 1, none⟩ = some (.int .i64 pl1) ∧ W.cell? ⟨g, 4, none⟩ = some (.int .i64 p.ol) ∧ W.cell? ⟨g, 5, none⟩ = some (.int .i64 p.oh)) (exact HT.out _ (by ((with_reducible repeat' first | exact .refl _ _ | exact b8 | refine .alloc ?_ ?_ _ | refine .setCell ?_ ?_ _ | refine .drew ?_ | refine below_drewN ?_ _ | refine Below.trans ?_ (b8.mono ?_)) <;> first | omega | simp <;> omega))) (fail)
          all_goals go_wp2
          all_goals go_meet
          all_goals refine ⟨_, rfl, ⟨?_, ?_, ?_, ?_, ?_, ?_⟩, ?_, Nat.le_refl _, ?_, (by ((with_reducible repeat' first | exact .refl _ _ | exact b8 | refine .alloc ?_ ?_ _ | refine .setCell ?_ ?_ _ | refine .drew ?_ | refine below_drewN ?_ _ | refine Below.trans ?_ (b8.mono ?_)) <;> first | omega | simp <;> omega))⟩
          ·exact set_other _ (set_other _ a0 (by intro h; simp at h)) (by intro h; simp at h)
          ·exact set_other _ (set_other _ a1 (by intro h; simp at h)) (by intro h; simp at h)
          ·exact set_other _ (set_other _ a2 (by intro h; simp at h)) (by intro h; simp at h)
          ·exact set_other _ (set_other _ a3 (by intro h; simp at h)) (by intro h; simp at h)
          ·exact set_other _ (set_same _ a4) (by intro h; simp at h)
          ·exact set_same _ (set_other _ a5 (by intro h; simp at h))
          ·simp [go_sem, f2]
          ·simp [World.setCell]; exact z8
         case rest =>
          obtain ⟨h, rfl, ⟨a0', a1', a2', a3', a4', a5'⟩, f2', hh0, hh, Bd⟩ := hcut
          simp only [Nat.zero_add] at a1' a2' a3' a4' a5'
          clear a0 a1 a2 a3 a4 a5 f2 f4 f5 b8 z8
          obtain ⟨BB, BX, BM, Bcc, Bff, Bow, Bsx⟩ := HBb2.out wc Bd
          have hhi : A.hi = pl1 + p.ol := by rw [HA1.out]
          by_cases hla : 3000000000000000 < pl1 + p.ol
          ·have hd3 : decide (3000000000000000 < pl1 + p.ol) = true := decide_eq_true hla
           have hLt := Hsn.out.2.2.2.2 (by omega)
           have he : wsEr ⟨r, f, lo, tm, ps⟩ use ev at_ = 3 := by rw [Hsi.out.2.2.2.1, if_neg (fun h => by have := h.2; rw [← HL.out.2.1, hLt] at this; cases this)]
           have hs : wsS ⟨r, f, lo, tm, ps⟩ use ev at_ = sc0 := by unfold wsS; rw [if_neg (by rw [he]; omega)]
           have He := hide (And.intro he hs)
           obtain ⟨-, -, ⟨v0, v1, v2, v3, v4⟩, ⟨f0, f1, f2, f3, f4⟩, z0', b0⟩ := HS.out wc (HBW.out wc BB)
           clear he hs hla hLt hhi BB BX BM Bow Bd a0' a1' a2' a3' a4' f2'
           go_wp2_with fail
           have d := stores_at (w.heap.size + 2) [.slice none 0 0, .int .i64 0, .int .i64 0, .slice none 0 0, .int .i64 0] 0 (wc) (ex5 v0 v1 v2 v3 v4); have d0 : (((((wc.setCell ⟨w.heap.size + 2, 0, none⟩ (.slice none 0 0)).setCell ⟨w.heap.size + 2, 1, none⟩ (.int .i64 0)).setCell ⟨w.heap.size + 2, 2, none⟩ (.int .i64 0)).setCell ⟨w.heap.size + 2, 3, none⟩ (.slice none 0 0)).setCell ⟨w.heap.size + 2, 4, none⟩ (.int .i64 0)).cell? ⟨w.heap.size + 2, 0, none⟩ = some (.slice none 0 0) := d 0 _ rfl; have d1 : (((((wc.setCell ⟨w.heap.size + 2, 0, none⟩ (.slice none 0 0)).setCell ⟨w.heap.size + 2, 1, none⟩ (.int .i64 0)).setCell ⟨w.heap.size + 2, 2, none⟩ (.int .i64 0)).setCell ⟨w.heap.size + 2, 3, none⟩ (.slice none 0 0)).setCell ⟨w.heap.size + 2, 4, none⟩ (.int .i64 0)).cell? ⟨w.heap.size + 2, 1, none⟩ = some (.int .i64 0) := d 1 _ rfl; have d2 : (((((wc.setCell ⟨w.heap.size + 2, 0, none⟩ (.slice none 0 0)).setCell ⟨w.heap.size + 2, 1, none⟩ (.int .i64 0)).setCell ⟨w.heap.size + 2, 2, none⟩ (.int .i64 0)).setCell ⟨w.heap.size + 2, 3, none⟩ (.slice none 0 0)).setCell ⟨w.heap.size + 2, 4, none⟩ (.int .i64 0)).cell? ⟨w.heap.size + 2, 2, none⟩ = some (.int .i64 0) := d 2 _ rfl; have d3 : (((((wc.setCell ⟨w.heap.size + 2, 0, none⟩ (.slice none 0 0)).setCell ⟨w.heap.size + 2, 1, none⟩ (.int .i64 0)).setCell ⟨w.heap.size + 2, 2, none⟩ (.int .i64 0)).setCell ⟨w.heap.size + 2, 3, none⟩ (.slice none 0 0)).setCell ⟨w.heap.size + 2, 4, none⟩ (.int .i64 0)).cell? ⟨w.heap.size + 2, 3, none⟩ = some (.slice none 0 0) := d 3 _ rfl; have d4 : (((((wc.setCell ⟨w.heap.size + 2, 0, none⟩ (.slice none 0 0)).setCell ⟨w.heap.size + 2, 1, none⟩ (.int .i64 0)).setCell ⟨w.heap.size + 2, 2, none⟩ (.int .i64 0)).setCell ⟨w.heap.size + 2, 3, none⟩ (.slice none 0 0)).setCell ⟨w.heap.size + 2, 4, none⟩ (.int .i64 0)).cell? ⟨w.heap.size + 2, 4, none⟩ = some (.int .i64 0) := d 4 _ rfl
           exact bodyPost_ret (v := .tuple #[.agg #[.slice none 0 0, .int .i64 0, .int .i64 0, .slice none 0 0, .int .i64 0], .int .i64 3]) (by simp [results, Tryz.results15, go_sem, d0, d1, d2, d3, d4]) rfl ⟨_, _, by rw [He.out.1, He.out.2]; rfl, by rw [He.out.2]; exact ScRet.none _ _, (by ((with_reducible repeat' first | exact .refl _ _ | exact b0 | refine .alloc ?_ ?_ _ | refine .setCell ?_ ?_ _ | refine .drew ?_ | refine below_drewN ?_ _ | refine Below.trans ?_ (b0.mono ?_)) <;> first | omega | simp <;> omega))⟩
          ·have hd3 : decide (3000000000000000 < pl1 + p.ol) = false := decide_eq_false hla
           have hnl : lateB L (k + 1) = false := by rw [Hsn.out.2.2.2.1, hhi]; exact hd3
           have HG2 := hide (fun x => R32has_any (.slice ba (pickL (wdL ps use) f lo).length bc) (pickL (wdL ps use) f lo) x wc (hbb.below (Nat.le_refl _) Bd))
           have wr3 := Wr3.out
           have szcc : wb.heap.size ≤ wc.heap.size := Bd.size
           clear hla hhi Bd
           by_cases hba : (k : Int) ∈ pickL (wdL ps use) f lo
           ·have hd2 : decide ((k : Int) ∈ pickL (wdL ps use) f lo) = true := decide_eq_true hba
            have HA : Hid (A = ⟨p.au, false, p.ol, p.bl, pl0 + p.oh, pl1 + p.ol⟩ ∧ lateB L (k + 1) = false) := hide ⟨by rw [HA1.out, if_pos hba], hnl⟩
            have HownB := hide Bow
            have HMB := hide BM
            have HBB := hide BB
            have HXB := hide BX
            have cB := Bcc
            have frB := Bff
            clear hba hnl Bow BM BB BX
            go_wp2_with (first | (go_at_call 45; (with_reducible refine (HG2.out _).mono ?_); rintro e w7 ⟨rfl, rfl⟩; rw [hd2]) | (at_builtin; refine wpList_append_own _ rfl _ _ 28 rfl wa.heap.size 59 i0 (.agg #[.int .i64 0, .bool false, .int .i64 0, .int .i64 0, .int .i64 0, .int .i64 0]) 6 48 Tryz.underlying28 hi0 hz0 hz1 hz2 rfl (by decide) _ k (Lk.flatMap encA) rfl (World.ownsRow.alloc HownB.out _) ⟨wc.heap.size, 0, none⟩ 1 1 (encA (⟨p.au, false, p.ol, p.bl, pl0 + p.oh, pl1 + p.ol⟩ : An)) rfl rfl (cells_new wc (encA (⟨p.au, false, p.ol, p.bl, pl0 + p.oh, pl1 + p.ol⟩ : An)) 59) (encA_one _) (by unfold maxLen; omega) (by omega) (by simp; omega) ?_; intro v9 w9 hown9 hg9 _; obtain ⟨a9, ac9, hv9⟩ := ownsRow_val hown9; subst hv9; have hb9 := hg9.block w4.heap.size (by simp; omega) (fun e => by have := (Hlow.out _ e.symm).1; omega); have c39 : w9.cell? ⟨w4.heap.size, 3, none⟩ = some (.slice av k ac) := (World.cell?_of_block (a := ⟨w4.heap.size, 3, none⟩) hb9).trans (by simp [go_sem, cB, Bsx]); have fr9 : w9.frozen? ⟨w4.heap.size, 3, none⟩ = false := (World.frozen?_of_block (a := ⟨w4.heap.size, 3, none⟩) hb9).trans (by simp [go_sem, frB, Bsx]); have HR9 := hide (And.intro hown9 hg9); have HM9 := hide ((HMB.out.of (Below.heap_alloc _ _ _ Bsx)).of hb9); clear hown9 hg9 hb9))
            obtain ⟨hown9, hg9⟩ := HR9.out
            have hne9 : ∀ q, (Value.slice a9 (k + 1) ac9).ownBlock = some q → q ≠ w4.heap.size := fun q hq => by have := (World.ownsRow.lt hown9 q hq).1; omega
            have hown10 := hide (OwnAn.app (by rw [Hsn.out.2.1]; exact ownsRow_setCell_ne hown9 (p := ⟨w4.heap.size, 3, none⟩) hne9 (.slice a9 (k + 1) ac9)) : OwnAn (w9.setCell ⟨w4.heap.size, 3, none⟩ (.slice a9 (k + 1) ac9)) wa.heap.size (.slice a9 (k + 1) ac9) (Lk ++ [(⟨p.au, false, p.ol, p.bl, pl0 + p.oh, pl1 + p.ol⟩ : An)]))
            have hB9 : Below w4.heap.size w4 (w9.setCell ⟨w4.heap.size, 3, none⟩ (.slice a9 (k + 1) ac9)) := ((((HBB.out).alloc (by omega) _).grown hg9 (by simp; omega) (fun r h => Nat.le_trans (by omega) (Hlow.out r h).1)).setCell (p := ⟨w4.heap.size, 3, none⟩) (Nat.le_refl _) _)
            have hX9 : ButX wa.heap.size w4.heap.size wa (w9.setCell ⟨w4.heap.size, 3, none⟩ (.slice a9 (k + 1) ac9)) := (((HXB.out).below ((Below.refl _ _).alloc (Nat.le_refl _) _) (by omega)).grown hg9 (by simp; omega) (fun r h => (Hlow.out r h).1)).set (p := ⟨w4.heap.size, 3, none⟩) rfl _
            have hc9 : (w9.setCell ⟨w4.heap.size, 3, none⟩ (.slice a9 (k + 1) ac9)).cell? ⟨w4.heap.size, 3, none⟩ = some (.slice a9 (k + 1) ac9) := set_same _ c39
            have hf9 : (w9.setCell ⟨w4.heap.size, 3, none⟩ (.slice a9 (k + 1) ac9)).frozen? ⟨w4.heap.size, 3, none⟩ = false := by simp [go_sem, fr9]
            have HM10 := hide (HM9.out.set (.slice a9 (k + 1) ac9))
            have HQ := hide (And.intro hB9 hX9)
            clear hB9 hX9 hown9 hg9
            go_roundw
            case rel => exact ⟨k + 1, a9, ac9, by omega, by go_num, hc9, hf9, by rw [Hsn.out.1, HA.out.1]; exact hown10, HQ.out.1, HQ.out.2, HM10, hide HA.out.2⟩
            case measure => simp [intOf]; omega
           ·have hd2 : decide ((k : Int) ∈ pickL (wdL ps use) f lo) = false := decide_eq_false hba
            have HA : Hid (A = ⟨p.au, false, mx p.ol (pl0 + p.oh - at_), p.bl, pl0 + p.oh, pl1 + p.ol⟩ ∧ lateB L (k + 1) = false) := hide ⟨by rw [HA1.out, if_neg hba], hnl⟩
            have HPack := hide (And.intro BB (And.intro BX (And.intro BM Bow)))
            clear hba hnl Bow BM BB BX
            go_upto_region 26 with (go_at_call 45; (with_reducible refine (HG2.out _).mono ?_); rintro e w7 ⟨rfl, rfl⟩; rw [hd2])
            obtain ⟨WB, hWB⟩ : ∃ W : World, W = wc.setCell ⟨h, 2, none⟩ (.int .i64 (mx p.ol (pl0 + p.oh - at_))) := ⟨_, rfl⟩
            rw [← hWB]
            obtain ⟨BB, BX, BM, Bow⟩ := HPack.out
            have hne : h ≠ w4.heap.size := by omega
            have hneo : ∀ q, (Value.slice av k ac).ownBlock = some q → q ≠ h := fun q hq => by have := (Hlow.out q hq).2; omega
            have HownB : Hid (WB.ownsRow wa.heap.size 59 6 (.slice av k ac) k (Lk.flatMap encA)) := hide (by rw [hWB]; exact ownsRow_setCell_ne Bow (p := ⟨h, 2, none⟩) hneo _)
            have HMB : Hid (M4 WB w4.heap.size (.slice ca use.length cc) ev at_ (ev + tm)) := hide (BM.of (by rw [hWB]; exact Below.heap_setCell wc ⟨h, 2, none⟩ _ w4.heap.size (fun e => hne e.symm)))
            have HBB : Hid (Below w4.heap.size w4 WB) := hide (by rw [hWB]; exact BB.setCell (p := ⟨h, 2, none⟩) (by simp only; omega) _)
            have HXB : Hid (ButX wa.heap.size w4.heap.size wa WB) := hide (by rw [hWB]; exact BX.below ((Below.refl wa.heap.size wc).setCell (p := ⟨h, 2, none⟩) (by simp only; omega) _) (Nat.le_refl _))
            have cB : WB.cell? ⟨w4.heap.size, 3, none⟩ = some (.slice av k ac) := by rw [hWB]; exact set_other _ Bcc (by intro e; simp at e <;> omega)
            have frB : WB.frozen? ⟨w4.heap.size, 3, none⟩ = false := by rw [hWB]; simp [go_sem, Bff]
            have sxB : w4.heap.size < WB.heap.size := by rw [hWB]; simpa [World.setCell] using Bsx
            have szB : WB.heap.size = wc.heap.size := by rw [hWB]; simp [World.setCell]
            have szB2 : wb.heap.size ≤ WB.heap.size := by omega
            have szB3 : h < WB.heap.size := by omega
            have b0 : WB.cell? ⟨h, 0, none⟩ = some (.int .i64 p.au) := by rw [hWB]; exact set_other _ a0' (by intro e; simp at e)
            have b1 : WB.cell? ⟨h, 1, none⟩ = some (.bool false) := by rw [hWB]; exact set_other _ a1' (by intro e; simp at e)
            have b2 : WB.cell? ⟨h, 2, none⟩ = some (.int .i64 (mx p.ol (pl0 + p.oh - at_))) := by rw [hWB]; exact set_same _ a2'
            have b3 : WB.cell? ⟨h, 3, none⟩ = some (.int .i64 p.bl) := by rw [hWB]; exact set_other _ a3' (by intro e; simp at e)
            have b4 : WB.cell? ⟨h, 4, none⟩ = some (.int .i64 (pl0 + p.oh)) := by rw [hWB]; exact set_other _ a4' (by intro e; simp at e)
            have b5 : WB.cell? ⟨h, 5, none⟩ = some (.int .i64 (pl1 + p.ol)) := by rw [hWB]; exact set_other _ a5' (by intro e; simp at e)
            clear szB hWB BB BX BM Bow Bcc Bff a0' a1' a2' a3' a4' a5' f2' HPack
            go_wp2_with (first | fail | (at_builtin; refine wpList_append_own _ rfl _ _ 28 rfl wa.heap.size 59 i0 (.agg #[.int .i64 0, .bool false, .int .i64 0, .int .i64 0, .int .i64 0, .int .i64 0]) 6 48 Tryz.underlying28 hi0 hz0 hz1 hz2 rfl (by decide) _ k (Lk.flatMap encA) rfl (World.ownsRow.alloc HownB.out _) ⟨WB.heap.size, 0, none⟩ 1 1 (encA (⟨p.au, false, mx p.ol (pl0 + p.oh - at_), p.bl, pl0 + p.oh, pl1 + p.ol⟩ : An)) rfl rfl (cells_new WB (encA (⟨p.au, false, mx p.ol (pl0 + p.oh - at_), p.bl, pl0 + p.oh, pl1 + p.ol⟩ : An)) 59) (encA_one _) (by unfold maxLen; omega) (by omega) (by simp; omega) ?_; intro v9 w9 hown9 hg9 _; obtain ⟨a9, ac9, hv9⟩ := ownsRow_val hown9; subst hv9; have hb9 := hg9.block w4.heap.size (by simp; omega) (fun e => by have := (Hlow.out _ e.symm).1; omega); have c39 : w9.cell? ⟨w4.heap.size, 3, none⟩ = some (.slice av k ac) := (World.cell?_of_block (a := ⟨w4.heap.size, 3, none⟩) hb9).trans (by simp [go_sem, cB, sxB]); have fr9 : w9.frozen? ⟨w4.heap.size, 3, none⟩ = false := (World.frozen?_of_block (a := ⟨w4.heap.size, 3, none⟩) hb9).trans (by simp [go_sem, frB, sxB]); have HR9 := hide (And.intro hown9 hg9); have HM9 := hide ((HMB.out.of (Below.heap_alloc _ _ _ sxB)).of hb9); clear hown9 hg9 hb9))
            obtain ⟨hown9, hg9⟩ := HR9.out
            have hne9 : ∀ q, (Value.slice a9 (k + 1) ac9).ownBlock = some q → q ≠ w4.heap.size := fun q hq => by have := (World.ownsRow.lt hown9 q hq).1; omega
            have hown10 := hide (OwnAn.app (by rw [Hsn.out.2.1]; exact ownsRow_setCell_ne hown9 (p := ⟨w4.heap.size, 3, none⟩) hne9 (.slice a9 (k + 1) ac9)) : OwnAn (w9.setCell ⟨w4.heap.size, 3, none⟩ (.slice a9 (k + 1) ac9)) wa.heap.size (.slice a9 (k + 1) ac9) (Lk ++ [(⟨p.au, false, mx p.ol (pl0 + p.oh - at_), p.bl, pl0 + p.oh, pl1 + p.ol⟩ : An)]))
            have hB9 : Below w4.heap.size w4 (w9.setCell ⟨w4.heap.size, 3, none⟩ (.slice a9 (k + 1) ac9)) := ((((HBB.out).alloc (by omega) _).grown hg9 (by simp; omega) (fun r h => Nat.le_trans (by omega) (Hlow.out r h).1)).setCell (p := ⟨w4.heap.size, 3, none⟩) (Nat.le_refl _) _)
            have hX9 : ButX wa.heap.size w4.heap.size wa (w9.setCell ⟨w4.heap.size, 3, none⟩ (.slice a9 (k + 1) ac9)) := (((HXB.out).below ((Below.refl _ _).alloc (Nat.le_refl _) _) (by omega)).grown hg9 (by simp; omega) (fun r h => (Hlow.out r h).1)).set (p := ⟨w4.heap.size, 3, none⟩) rfl _
            have hc9 : (w9.setCell ⟨w4.heap.size, 3, none⟩ (.slice a9 (k + 1) ac9)).cell? ⟨w4.heap.size, 3, none⟩ = some (.slice a9 (k + 1) ac9) := set_same _ c39
            have hf9 : (w9.setCell ⟨w4.heap.size, 3, none⟩ (.slice a9 (k + 1) ac9)).frozen? ⟨w4.heap.size, 3, none⟩ = false := by simp [go_sem, fr9]
            have HM10 := hide (HM9.out.set (.slice a9 (k + 1) ac9))
            have HQ := hide (And.intro hB9 hX9)
            clear hB9 hX9 hown9 hg9
            go_roundw
            case rel => exact ⟨k + 1, a9, ac9, by omega, by go_num, hc9, hf9, by rw [Hsn.out.1, HA.out.1]; exact hown10, HQ.out.1, HQ.out.2, HM10, hide HA.out.2⟩
            case measure => simp [intOf]; omega
      ·obtain rfl : k = use.length := by omega
       have hla := Hla.out
       have he : wsEr ⟨r, f, lo, tm, ps⟩ use ev at_ = 0 := by rw [Hsi.out.2.2.2.1, if_pos ⟨H3.out, by rw [← HL.out.2.1]; exact hla⟩]
       have hs := wsS_eq he
       rw [← HL.out.1] at Hown
       have He := hide (And.intro he hs)
       obtain ⟨-, -, ⟨v0, v1, v2, v3, v4⟩, ⟨f0, f1, f2, f3, f4⟩, zr', b0'⟩ := HS.out wr (HBW.out wr hB)
       obtain ⟨m0, m1, m2, m4⟩ := HM.out
       have HB := hide hB
       have HX := hide hX
       clear he hs hla hB hX y0 y1 y2 y3 y4 x1 zr' b0'
       go_wp2_with fail
       have d := stores_at (w.heap.size + 2) [.slice ca use.length cc, .int .i64 ev, .int .i64 at_, .slice av use.length ac, .int .i64 (ev + tm)] 0 (wr) (ex5 v0 v1 v2 v3 v4); have d0 : (((((wr.setCell ⟨w.heap.size + 2, 0, none⟩ (.slice ca use.length cc)).setCell ⟨w.heap.size + 2, 1, none⟩ (.int .i64 ev)).setCell ⟨w.heap.size + 2, 2, none⟩ (.int .i64 at_)).setCell ⟨w.heap.size + 2, 3, none⟩ (.slice av use.length ac)).setCell ⟨w.heap.size + 2, 4, none⟩ (.int .i64 (ev + tm))).cell? ⟨w.heap.size + 2, 0, none⟩ = some (.slice ca use.length cc) := d 0 _ rfl; have d1 : (((((wr.setCell ⟨w.heap.size + 2, 0, none⟩ (.slice ca use.length cc)).setCell ⟨w.heap.size + 2, 1, none⟩ (.int .i64 ev)).setCell ⟨w.heap.size + 2, 2, none⟩ (.int .i64 at_)).setCell ⟨w.heap.size + 2, 3, none⟩ (.slice av use.length ac)).setCell ⟨w.heap.size + 2, 4, none⟩ (.int .i64 (ev + tm))).cell? ⟨w.heap.size + 2, 1, none⟩ = some (.int .i64 ev) := d 1 _ rfl; have d2 : (((((wr.setCell ⟨w.heap.size + 2, 0, none⟩ (.slice ca use.length cc)).setCell ⟨w.heap.size + 2, 1, none⟩ (.int .i64 ev)).setCell ⟨w.heap.size + 2, 2, none⟩ (.int .i64 at_)).setCell ⟨w.heap.size + 2, 3, none⟩ (.slice av use.length ac)).setCell ⟨w.heap.size + 2, 4, none⟩ (.int .i64 (ev + tm))).cell? ⟨w.heap.size + 2, 2, none⟩ = some (.int .i64 at_) := d 2 _ rfl; have d3 : (((((wr.setCell ⟨w.heap.size + 2, 0, none⟩ (.slice ca use.length cc)).setCell ⟨w.heap.size + 2, 1, none⟩ (.int .i64 ev)).setCell ⟨w.heap.size + 2, 2, none⟩ (.int .i64 at_)).setCell ⟨w.heap.size + 2, 3, none⟩ (.slice av use.length ac)).setCell ⟨w.heap.size + 2, 4, none⟩ (.int .i64 (ev + tm))).cell? ⟨w.heap.size + 2, 3, none⟩ = some (.slice av use.length ac) := d 3 _ rfl; have d4 : (((((wr.setCell ⟨w.heap.size + 2, 0, none⟩ (.slice ca use.length cc)).setCell ⟨w.heap.size + 2, 1, none⟩ (.int .i64 ev)).setCell ⟨w.heap.size + 2, 2, none⟩ (.int .i64 at_)).setCell ⟨w.heap.size + 2, 3, none⟩ (.slice av use.length ac)).setCell ⟨w.heap.size + 2, 4, none⟩ (.int .i64 (ev + tm))).cell? ⟨w.heap.size + 2, 4, none⟩ = some (.int .i64 (ev + tm)) := d 4 _ rfl
       have hu9 : OwnIs wr w.heap.size (.slice ca use.length cc) use := by
        refine World.ownsRow.mono (owns_but Hxb.out.1 fun q hq => ?_) (by omega)
        have hlt := (World.ownsRow.lt Hxb.out.1 q hq).2
        exact HX.out.2 q hlt (Hxb.out.2 q hq)
       have ha9 : OwnAn wr w.heap.size (.slice av use.length ac) L := World.ownsRow.mono Hown.out (by have := Ba.size; omega)
       have hnu : ∀ q, (Value.slice ca use.length cc).ownBlock = some q → q ≠ w.heap.size + 2 := fun q hq => by have := (World.ownsRow.lt Hxb.out.1 q hq).1; omega
       have hna : ∀ q, (Value.slice av use.length ac).ownBlock = some q → q ≠ w.heap.size + 2 := fun q hq => by have := (World.ownsRow.lt Hown.out q hq).1; have := Ba.size; omega
       exact bodyPost_ret (v := .tuple #[.agg #[.slice ca use.length cc, .int .i64 ev, .int .i64 at_, .slice av use.length ac, .int .i64 (ev + tm)], .int .i64 0]) (by simp [results, Tryz.results15, go_sem, d0, d1, d2, d3, d4]) rfl ⟨_, _, by rw [He.out.1, He.out.2]; rfl, by rw [He.out.2]; exact ⟨stores_owns (n := w.heap.size + 2) hnu [.slice ca use.length cc, .int .i64 ev, .int .i64 at_, .slice av use.length ac, .int .i64 (ev + tm)] 0 wr hu9, by have hL := HL.out.2.1; simp only; rw [← hL]; exact stores_owns (n := w.heap.size + 2) hna [.slice ca use.length cc, .int .i64 ev, .int .i64 at_, .slice av use.length ac, .int .i64 (ev + tm)] 0 wr ha9⟩, (by ((with_reducible repeat' first | exact .refl _ _ | exact b0 | refine .alloc ?_ ?_ _ | refine .setCell ?_ ?_ _ | refine .drew ?_ | refine below_drewN ?_ _ | refine Below.trans ?_ (b0.mono ?_)) <;> first | omega | simp <;> omega))⟩
   ·have dne : (placeEr (wdL ps use) f lo at_ != 0) = true := by rw [bne_iff_ne]; exact h3
    have he : wsEr ⟨r, f, lo, tm, ps⟩ use ev at_ = 3 := by rw [Hsi.out.2.2.2.1, if_neg (fun h => h3 h.1)]
    have hs : wsS ⟨r, f, lo, tm, ps⟩ use ev at_ = sc0 := by unfold wsS; rw [if_neg (by rw [he]; omega)]
    have He := hide (And.intro he hs)
    clear he hs h3
    go_wp2_with fail
    have d := stores_at (w.heap.size + 2) [.slice none 0 0, .int .i64 0, .int .i64 0, .slice none 0 0, .int .i64 0] 0 (w4) (ex5 v0 v1 v2 v3 v4); have d0 : (((((w4.setCell ⟨w.heap.size + 2, 0, none⟩ (.slice none 0 0)).setCell ⟨w.heap.size + 2, 1, none⟩ (.int .i64 0)).setCell ⟨w.heap.size + 2, 2, none⟩ (.int .i64 0)).setCell ⟨w.heap.size + 2, 3, none⟩ (.slice none 0 0)).setCell ⟨w.heap.size + 2, 4, none⟩ (.int .i64 0)).cell? ⟨w.heap.size + 2, 0, none⟩ = some (.slice none 0 0) := d 0 _ rfl; have d1 : (((((w4.setCell ⟨w.heap.size + 2, 0, none⟩ (.slice none 0 0)).setCell ⟨w.heap.size + 2, 1, none⟩ (.int .i64 0)).setCell ⟨w.heap.size + 2, 2, none⟩ (.int .i64 0)).setCell ⟨w.heap.size + 2, 3, none⟩ (.slice none 0 0)).setCell ⟨w.heap.size + 2, 4, none⟩ (.int .i64 0)).cell? ⟨w.heap.size + 2, 1, none⟩ = some (.int .i64 0) := d 1 _ rfl; have d2 : (((((w4.setCell ⟨w.heap.size + 2, 0, none⟩ (.slice none 0 0)).setCell ⟨w.heap.size + 2, 1, none⟩ (.int .i64 0)).setCell ⟨w.heap.size + 2, 2, none⟩ (.int .i64 0)).setCell ⟨w.heap.size + 2, 3, none⟩ (.slice none 0 0)).setCell ⟨w.heap.size + 2, 4, none⟩ (.int .i64 0)).cell? ⟨w.heap.size + 2, 2, none⟩ = some (.int .i64 0) := d 2 _ rfl; have d3 : (((((w4.setCell ⟨w.heap.size + 2, 0, none⟩ (.slice none 0 0)).setCell ⟨w.heap.size + 2, 1, none⟩ (.int .i64 0)).setCell ⟨w.heap.size + 2, 2, none⟩ (.int .i64 0)).setCell ⟨w.heap.size + 2, 3, none⟩ (.slice none 0 0)).setCell ⟨w.heap.size + 2, 4, none⟩ (.int .i64 0)).cell? ⟨w.heap.size + 2, 3, none⟩ = some (.slice none 0 0) := d 3 _ rfl; have d4 : (((((w4.setCell ⟨w.heap.size + 2, 0, none⟩ (.slice none 0 0)).setCell ⟨w.heap.size + 2, 1, none⟩ (.int .i64 0)).setCell ⟨w.heap.size + 2, 2, none⟩ (.int .i64 0)).setCell ⟨w.heap.size + 2, 3, none⟩ (.slice none 0 0)).setCell ⟨w.heap.size + 2, 4, none⟩ (.int .i64 0)).cell? ⟨w.heap.size + 2, 4, none⟩ = some (.int .i64 0) := d 4 _ rfl
    exact bodyPost_ret (v := .tuple #[.agg #[.slice none 0 0, .int .i64 0, .int .i64 0, .slice none 0 0, .int .i64 0], .int .i64 3]) (by simp [results, Tryz.results15, go_sem, d0, d1, d2, d3, d4]) rfl ⟨_, _, by rw [He.out.1, He.out.2]; rfl, by rw [He.out.2]; exact ScRet.none _ _, (by ((with_reducible repeat' first | exact .refl _ _ | exact b0 | refine .alloc ?_ ?_ _ | refine .setCell ?_ ?_ _ | refine .drew ?_ | refine below_drewN ?_ _ | refine Below.trans ?_ (b0.mono ?_)) <;> first | omega | simp <;> omega))⟩
end Go.Proofs.YtigjljmhpkeahaaGreat
