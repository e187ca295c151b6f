
/- Package scene: Allowed. -/
import Derived.Test.YtigjljmhpkeahaaGreatScH
import Derived.Test.YtigjljmhpkeahaaGreatScG
namespace Go.Proofs.YtigjljmhpkeahaaGreat
open Go.RowKit

theorem sdCnt_T (q : Sd → Bool) (p : Nat → Bool) (ps : List Pr) (use : List Int) (an : List An) (t : Int) (n : Nat) (h : ∀ i, i < n → q ⟨anAt an i, pu ps use i, t⟩ = p i) : sdCnt q (sdT ps use an t n) n = cntTo p n :=
 cnt_congr _ fun i hi => by rw [sdT_at ps use an t n i hi]; exact h i hi
theorem fit_ok {s : Si} {x : Sc} (h : fitB s x = true) : ∀ j, j < x.an.length → SdOk (sdAt (sdT s.ps x.use x.an x.at_ x.an.length) j) := by
 intro j hj
 obtain ⟨hr, ht, hc, hl, hf⟩ := (fitB_iff s x).1 h
 rw [sdT_at _ _ _ _ _ _ hj]
 intro hls
 have h1 := (anFit_no hls).1 (hf j hj)
 have h2 := (prB_iff _ _ _).1 (rg_pr hr (show j < x.use.length by omega))
 simp only at h1 h2 ⊢
 omega
theorem al_cnt (s : Si) (x : Sc) : alB s x = (decide ((sdCnt qLost (sdT s.ps x.use x.an x.at_ x.an.length) x.an.length : Int) ≤ s.lo) && (decide ((sdCnt qBent (sdT s.ps x.use x.an x.at_ x.an.length) x.an.length : Int) ≤ 0) && decide ((sdCnt qLie (sdT s.ps x.use x.an x.at_ x.an.length) x.an.length : Int) ≤ s.f))) := by
 unfold alB
 rw [sdCnt_T qLost (isLost x.an) _ _ _ _ _ (fun i _ => rfl), sdCnt_T qBent (isBent s.ps x.use x.an) _ _ _ _ _ (fun i _ => rfl), sdCnt_T qLie (isLie s.ps x.use x.at_ x.an) _ _ _ _ _ (fun i _ => rfl)]
 congr 2
 rw [Bool.eq_iff_iff, decide_eq_true_eq, decide_eq_true_eq]
 omega
theorem fit_n {s : Si} {x : Sc} (h : fitB s x = true) : fitN s x = true := by
 unfold fitB at h
 rw [Bool.and_eq_true] at h
 exact h.1
theorem fit_len {s : Si} {x : Sc} (h : fitB s x = true) : x.an.length ≤ 16 := by
 obtain ⟨hr, ht, hc, hl, hf⟩ := (fitB_iff s x).1 h
 have := (spOk_iff _ _ _).1 (rg_spOk hr)
 rw [wdL_length] at this
 omega
def AllPost (w : World) (s : Si) (x : Sc) (e : Ending) (w' : World) : Prop := e = .returned (.tuple #[.bool (fitB s x && alB s x), .int .i64 (if fitB s x = true then 0 else 1)]) ∧ Below w.heap.size w w'
set_option maxRecDepth 100000 in
set_option maxHeartbeats 1500000 in
theorem scAllowed_any (r f lo tm : Int) (pv : Value) (ps : List Pr) (uv : Value) (use : List Int) (ev at_ : Int) (av : Value) (an : List An) (ct : Int) (w : World) (hp : PrRow w pv ps) (hu : IsRow w uv use) (ha : AnRow w av an) :
  Calls Tryz.prog 17 #[.agg #[.int .i64 r, .int .i64 f, .int .i64 lo, .int .i64 tm, pv], .agg #[uv, .int .i64 ev, .int .i64 at_, av, .int .i64 ct]] w (AllPost w ⟨r, f, lo, tm, ps⟩ ⟨use, ev, at_, an, ct⟩) := by
 have hR : ∀ W : World, Below w.heap.size w W → PrRow W pv ps ∧ IsRow W uv use ∧ AnRow W av an := fun W hW => ⟨hp.below (Nat.le_refl _) hW, hu.below (Nat.le_refl _) hW, ha.below (Nat.le_refl _) hW⟩
 have HR := hide hR
 obtain ⟨W0, hW0⟩ : ∃ W : World, W = (w.alloc (.cells #[.int .i64 r, .int .i64 f, .int .i64 lo, .int .i64 tm, pv] 24)).alloc (.cells #[uv, .int .i64 ev, .int .i64 at_, av, .int .i64 ct] 30) := ⟨_, rfl⟩
 have hS : ∀ V : World, Below (w.heap.size + 2) W0 V → ScBox V w.heap.size r f lo tm pv uv ev at_ av ct ∧ w.heap.size + 2 ≤ V.heap.size ∧ Below w.heap.size w V := by
  intro V hV
  have bW : Below w.heap.size w W0 := by rw [hW0]; ((with_reducible repeat' first | exact .refl _ _ | refine .alloc ?_ ?_ _ | refine .setCell ?_ ?_ _ | refine .drew ?_ | refine below_drewN ?_ _) <;> first | omega | simp <;> omega)
  have zW : W0.heap.size = w.heap.size + 2 := by rw [hW0]; simp
  have hz := hV.size
  refine ⟨ScBox.of (V := W0) ?_ hV, by omega, bW.trans (hV.mono (by omega))⟩
  rw [hW0]
  exact ScBox.made _ _ _ _ _ _ _ _ _ _ _ _ _
 have HS := hide hS
 clear hR hS hp hu ha
 unfold AllPost
 cases hfit : fitB ⟨r, f, lo, tm, ps⟩ ⟨use, ev, at_, an, ct⟩ with
 | false =>
  rw [Bool.false_and, if_neg (by simp)]
  go_enter Tryz.func17, Tryz.ntmps17
  go_upto_region 1 with fail
  rw [← hW0]
  clear hW0
  have B0 : Below (w.heap.size + 2) W0 W0 := Below.refl _ _
  obtain ⟨⟨⟨y0, y1, y2, y3, y4⟩, x0, x1, x2, x3, x4⟩, z0, b0⟩ := HS.out W0 B0
  go_wp2_with (go_at_call 47; (with_reducible refine (scAll_any r f lo tm _ ps _ use ev at_ _ an ct _ (HR.out _ b0).1 (HR.out _ b0).2.1 (HR.out _ b0).2.2).mono ?_); rintro e w1 ⟨lv, rfl, hl, k1⟩; rw [hfit])
  go_ret2
  exact ⟨rfl, (by ((with_reducible repeat' first | exact .refl _ _ | exact k1 | exact b0 | refine .alloc ?_ ?_ _ | refine .setCell ?_ ?_ _ | refine .drew ?_ | refine below_drewN ?_ _ | refine Below.trans ?_ (k1.mono ?_) | refine Below.trans ?_ (b0.mono ?_)) <;> first | omega | simp <;> omega))⟩
 | true =>
  rw [Bool.true_and, if_pos rfl]
  have hok := fit_ok hfit
  have hn := fit_n hfit
  have hle := fit_len hfit
  have hAL := al_cnt ⟨r, f, lo, tm, ps⟩ ⟨use, ev, at_, an, ct⟩
  have hlk := sdT_length ps use an at_ an.length
  simp only at hok hle hAL
  obtain ⟨L, hL⟩ : ∃ L, L = sdT ps use an at_ an.length := ⟨_, rfl⟩
  rw [← hL] at hok hAL hlk
  have hC1 := fun (a : Option Addr) (c : Nat) V h => count1_any (.slice a an.length c) L V h (by rw [hlk]; omega)
  have hC2 := fun (a : Option Addr) (c : Nat) V h => count2_any (.slice a an.length c) L V h (by rw [hlk]; omega)
  have hC3 := fun (a : Option Addr) (c : Nat) V h => count3_any (.slice a an.length c) L V h (by rw [hlk]; omega) (by rw [hlk]; exact hok)
  rw [← hlk] at hAL
  generalize sdCnt qLost L L.length = c1 at *
  generalize sdCnt qBent L L.length = c2 at *
  generalize sdCnt qLie L L.length = c3 at *
  rw [hAL]
  have HC1 := hide hC1
  have HC2 := hide hC2
  have HC3 := hide hC3
  have Hn := hide hn
  have HL := hide (And.intro hL hlk)
  clear hok hn hAL hlk hL hC1 hC2 hC3
  go_enter Tryz.func17, Tryz.ntmps17
  go_upto_region 1 with fail
  rw [← hW0]
  clear hW0
  have B0 : Below (w.heap.size + 2) W0 W0 := Below.refl _ _
  obtain ⟨⟨⟨y0, y1, y2, y3, y4⟩, x0, x1, x2, x3, x4⟩, z0, b0⟩ := HS.out W0 B0
  go_upto_region 4 with (go_at_call 47; (with_reducible refine (scAll_any r f lo tm _ ps _ use ev at_ _ an ct _ (HR.out _ b0).1 (HR.out _ b0).2.1 (HR.out _ b0).2.2).mono ?_); rintro e w1 ⟨lv, rfl, hl, k1⟩; rw [hfit])
  have hown := hl Hn.out
  rw [← HL.out.1] at hown
  obtain ⟨la, lc, hle2, -, -⟩ := hown.val
  rw [HL.out.2] at hle2
  subst hle2
  have Hrow := hide (show SdRow w1 (.slice la an.length lc) L from hown.row)
  have B1 : Below (w.heap.size + 2) W0 w1 := B0.trans (k1.mono z0)
  clear hl hown Hn y0 y1 y2 y3 y4 x0 x1 x2 x3 x4 z0 b0 k1 B0
  obtain ⟨⟨⟨y0, y1, y2, y3, y4⟩, x0, x1, x2, x3, x4⟩, z0, b0⟩ := HS.out w1 B1
  have zq : w.heap.size < w1.heap.size := by omega
  go_upto_region 5 with fail
  obtain ⟨W2, hW2⟩ : ∃ W : World, W = w1.alloc (.cells #[.func (.func 48) #[] #[], .int .i64 lo, .func (.func 49) #[] #[], .int .i64 0, .func (.func 51) #[] #[], .int .i64 f] 91) := ⟨_, rfl⟩
  rw [← hW2]
  have hT : ∀ V : World, Below W2.heap.size W2 V → (V.cell? ⟨w1.heap.size, 0, none⟩ = some (.func (.func 48) #[] #[]) ∧ V.cell? ⟨w1.heap.size, 1, none⟩ = some (.int .i64 lo) ∧ V.cell? ⟨w1.heap.size, 2, none⟩ = some (.func (.func 49) #[] #[]) ∧ V.cell? ⟨w1.heap.size, 3, none⟩ = some (.int .i64 0) ∧ V.cell? ⟨w1.heap.size, 4, none⟩ = some (.func (.func 51) #[] #[]) ∧ V.cell? ⟨w1.heap.size, 5, none⟩ = some (.int .i64 f)) ∧ w1.heap.size < V.heap.size ∧ SdRow V (.slice la an.length lc) L ∧ Below w.heap.size w V := by
   intro V hV
   have zW : W2.heap.size = w1.heap.size + 1 := by rw [hW2]; simp
   have bW : Below w1.heap.size w1 W2 := by rw [hW2]; ((with_reducible repeat' first | exact .refl _ _ | refine .alloc ?_ ?_ _ | refine .setCell ?_ ?_ _ | refine .drew ?_ | refine below_drewN ?_ _) <;> first | omega | simp <;> omega)
   have h := (bk hV w1.heap.size (by omega)).1
   have hz := hV.size
   refine ⟨⟨(h _).trans ?_, (h _).trans ?_, (h _).trans ?_, (h _).trans ?_, (h _).trans ?_, (h _).trans ?_⟩, by omega, Hrow.out.below (Nat.le_refl _) (bW.trans (hV.mono (by omega))), b0.trans ((bW.mono (by omega)).trans (hV.mono (by omega)))⟩ <;> rw [hW2] <;> simp [go_sem]
  have HT := hide hT
  clear hT hW2 y0 y1 y2 y3 y4 x0 x1 x2 x3 x4 z0 b0 zq
  go_loopw [27] (fun s27 wx => ∃ k : Nat, k ≤ 3 ∧ s27 = .int .i64 k ∧ Hid ((1 ≤ k → (c1 : Int) ≤ lo) ∧ (2 ≤ k → (c2 : Int) ≤ 0) ∧ (3 ≤ k → (c3 : Int) ≤ f)) ∧ Below W2.heap.size W2 wx) (fun s27 _ => 3 - (intOf s27).toNat)
  case atStart => exact ⟨0, by omega, rfl, hide ⟨fun h => by omega, fun h => by omega, fun h => by omega⟩, Below.refl _ _⟩
  case round =>
   obtain ⟨k, hk, rfl, Hk, hB⟩ := hrel
   obtain ⟨⟨l0, l1, l2, l3, l4, l5⟩, zl, hr, bw⟩ := HT.out wr hB
   rcases (show k = 0 ∨ k = 1 ∨ k = 2 ∨ k = 3 by omega) with rfl | rfl | rfl | rfl
   ·by_cases hh : (c1 : Int) ≤ lo
    ·have hd : decide ((lo : Int) < (c1 : Int)) = false := decide_eq_false (by omega)
     have Hh := hide hh
     have hBox : ∀ W : World, Below (wr.heap.size + 1) (wr.alloc (.cells #[.func (.func 48) #[] #[], .int .i64 lo] 91)) W → W.cell? ⟨wr.heap.size, 0, none⟩ = some (.func (.func 48) #[] #[]) ∧ W.cell? ⟨wr.heap.size, 1, none⟩ = some (.int .i64 lo) := by
      intro W hW
      have h := (bk hW wr.heap.size (by omega)).1
      exact ⟨(h _).trans (by simp), (h _).trans (by simp)⟩
     have HBox := hide hBox
     have hrA : ∀ W : World, Below wr.heap.size wr W → SdRow W (.slice la an.length lc) L := fun W hW => hr.below (Nat.le_refl _) hW
     have HrA := hide hrA
     have I1 : (0 : Int) ≤ 0 := by omega
     clear hh hBox hrA hr
     go_upto_region 7 with fail
     have zd : wr.drew.heap.size = wr.heap.size := rfl
     go_region_held3 (fun W => W.cell? ⟨wr.heap.size, 0, none⟩ = some (.func (.func 48) #[] #[]) ∧ W.cell? ⟨wr.heap.size, 1, none⟩ = some (.int .i64 lo)) (exact HBox.out _ (by ((with_reducible repeat' first | exact .refl _ _ | exact k9 | refine .alloc ?_ ?_ _ | refine .setCell ?_ ?_ _ | refine .drew ?_ | refine below_drewN ?_ _ | refine Below.trans ?_ (k9.mono ?_)) <;> first | omega | simp <;> omega)))
      (first | (go_at_call 53; (with_reducible refine (HC1.out _ _ _ (HrA.out _ (by ((with_reducible repeat' first | exact .refl _ _ | refine .alloc ?_ ?_ _ | refine .setCell ?_ ?_ _ | refine .drew ?_ | refine below_drewN ?_ _) <;> first | omega | simp <;> omega)))).mono ?_); rintro e w9 ⟨rfl, k9⟩; have z9 := k9.size; (try simp at z9)))
     have k9' : Below wr.heap.size wr w9 := (by ((with_reducible repeat' first | exact .refl _ _ | exact k9 | refine .alloc ?_ ?_ _ | refine .setCell ?_ ?_ _ | refine .drew ?_ | refine below_drewN ?_ _ | refine Below.trans ?_ (k9.mono ?_)) <;> first | omega | simp <;> omega))
     have K9 := hide k9'
     clear k9 k9'
     go_wp2
     go_roundw
     case rel => exact ⟨1, by omega, by go_num, hide ⟨fun _ => Hh.out, fun h => by omega, fun h => by omega⟩, hB.trans (K9.out.mono hB.size)⟩
     case measure => simp [intOf]
    ·have hd : decide ((lo : Int) < (c1 : Int)) = true := decide_eq_true (by omega)
     have Hh := hide hh
     have hBox : ∀ W : World, Below (wr.heap.size + 1) (wr.alloc (.cells #[.func (.func 48) #[] #[], .int .i64 lo] 91)) W → W.cell? ⟨wr.heap.size, 0, none⟩ = some (.func (.func 48) #[] #[]) ∧ W.cell? ⟨wr.heap.size, 1, none⟩ = some (.int .i64 lo) := by
      intro W hW
      have h := (bk hW wr.heap.size (by omega)).1
      exact ⟨(h _).trans (by simp), (h _).trans (by simp)⟩
     have HBox := hide hBox
     have hrA : ∀ W : World, Below wr.heap.size wr W → SdRow W (.slice la an.length lc) L := fun W hW => hr.below (Nat.le_refl _) hW
     have HrA := hide hrA
     have I1 : (0 : Int) ≤ 0 := by omega
     clear hh hBox hrA hr
     go_upto_region 7 with fail
     have zd : wr.drew.heap.size = wr.heap.size := rfl
     go_region_held3 (fun W => W.cell? ⟨wr.heap.size, 0, none⟩ = some (.func (.func 48) #[] #[]) ∧ W.cell? ⟨wr.heap.size, 1, none⟩ = some (.int .i64 lo)) (exact HBox.out _ (by ((with_reducible repeat' first | exact .refl _ _ | exact k9 | refine .alloc ?_ ?_ _ | refine .setCell ?_ ?_ _ | refine .drew ?_ | refine below_drewN ?_ _ | refine Below.trans ?_ (k9.mono ?_)) <;> first | omega | simp <;> omega)))
      (first | (go_at_call 53; (with_reducible refine (HC1.out _ _ _ (HrA.out _ (by ((with_reducible repeat' first | exact .refl _ _ | refine .alloc ?_ ?_ _ | refine .setCell ?_ ?_ _ | refine .drew ?_ | refine below_drewN ?_ _) <;> first | omega | simp <;> omega)))).mono ?_); rintro e w9 ⟨rfl, k9⟩; have z9 := k9.size; (try simp at z9)))
     have k9' : Below wr.heap.size wr w9 := (by ((with_reducible repeat' first | exact .refl _ _ | exact k9 | refine .alloc ?_ ?_ _ | refine .setCell ?_ ?_ _ | refine .drew ?_ | refine below_drewN ?_ _ | refine Below.trans ?_ (k9.mono ?_)) <;> first | omega | simp <;> omega))
     have K9 := hide k9'
     clear k9 k9'
     go_wp2
     go_ret2
     have hno := Hh.out
     exact ⟨by rw [show decide ((c1 : Int) ≤ lo) = false from decide_eq_false (by omega)]; simp, bw.trans (K9.out.mono bw.size)⟩
   ·by_cases hh : (c2 : Int) ≤ 0
    ·have hd : decide ((0 : Int) < (c2 : Int)) = false := decide_eq_false (by omega)
     have hd2 : decide (0 < c2) = false := by simpa using hh
     have Hh := hide hh
     have hBox : ∀ W : World, Below (wr.heap.size + 1) (wr.alloc (.cells #[.func (.func 49) #[] #[], .int .i64 0] 91)) W → W.cell? ⟨wr.heap.size, 0, none⟩ = some (.func (.func 49) #[] #[]) ∧ W.cell? ⟨wr.heap.size, 1, none⟩ = some (.int .i64 0) := by
      intro W hW
      have h := (bk hW wr.heap.size (by omega)).1
      exact ⟨(h _).trans (by simp), (h _).trans (by simp)⟩
     have HBox := hide hBox
     have hrA : ∀ W : World, Below wr.heap.size wr W → SdRow W (.slice la an.length lc) L := fun W hW => hr.below (Nat.le_refl _) hW
     have HrA := hide hrA
     have I1 : (0 : Int) ≤ 1 := by omega
     clear hh hBox hrA hr
     go_upto_region 7 with fail
     have zd : wr.drew.heap.size = wr.heap.size := rfl
     go_region_held3 (fun W => W.cell? ⟨wr.heap.size, 0, none⟩ = some (.func (.func 49) #[] #[]) ∧ W.cell? ⟨wr.heap.size, 1, none⟩ = some (.int .i64 0)) (exact HBox.out _ (by ((with_reducible repeat' first | exact .refl _ _ | exact k9 | refine .alloc ?_ ?_ _ | refine .setCell ?_ ?_ _ | refine .drew ?_ | refine below_drewN ?_ _ | refine Below.trans ?_ (k9.mono ?_)) <;> first | omega | simp <;> omega)))
      (first | (go_at_call 53; (with_reducible refine (HC2.out _ _ _ (HrA.out _ (by ((with_reducible repeat' first | exact .refl _ _ | refine .alloc ?_ ?_ _ | refine .setCell ?_ ?_ _ | refine .drew ?_ | refine below_drewN ?_ _) <;> first | omega | simp <;> omega)))).mono ?_); rintro e w9 ⟨rfl, k9⟩; have z9 := k9.size; (try simp at z9)))
     have k9' : Below wr.heap.size wr w9 := (by ((with_reducible repeat' first | exact .refl _ _ | exact k9 | refine .alloc ?_ ?_ _ | refine .setCell ?_ ?_ _ | refine .drew ?_ | refine below_drewN ?_ _ | refine Below.trans ?_ (k9.mono ?_)) <;> first | omega | simp <;> omega))
     have K9 := hide k9'
     clear k9 k9'
     go_wp2
     go_roundw
     case rel => exact ⟨2, by omega, by go_num, hide ⟨fun _ => Hk.out.1 (by omega), fun _ => Hh.out, fun h => by omega⟩, hB.trans (K9.out.mono hB.size)⟩
     case measure => simp [intOf]
    ·have hd : decide ((0 : Int) < (c2 : Int)) = true := decide_eq_true (by omega)
     have hd2 : decide (0 < c2) = true := by simp; omega
     have Hh := hide hh
     have hBox : ∀ W : World, Below (wr.heap.size + 1) (wr.alloc (.cells #[.func (.func 49) #[] #[], .int .i64 0] 91)) W → W.cell? ⟨wr.heap.size, 0, none⟩ = some (.func (.func 49) #[] #[]) ∧ W.cell? ⟨wr.heap.size, 1, none⟩ = some (.int .i64 0) := by
      intro W hW
      have h := (bk hW wr.heap.size (by omega)).1
      exact ⟨(h _).trans (by simp), (h _).trans (by simp)⟩
     have HBox := hide hBox
     have hrA : ∀ W : World, Below wr.heap.size wr W → SdRow W (.slice la an.length lc) L := fun W hW => hr.below (Nat.le_refl _) hW
     have HrA := hide hrA
     have I1 : (0 : Int) ≤ 1 := by omega
     clear hh hBox hrA hr
     go_upto_region 7 with fail
     have zd : wr.drew.heap.size = wr.heap.size := rfl
     go_region_held3 (fun W => W.cell? ⟨wr.heap.size, 0, none⟩ = some (.func (.func 49) #[] #[]) ∧ W.cell? ⟨wr.heap.size, 1, none⟩ = some (.int .i64 0)) (exact HBox.out _ (by ((with_reducible repeat' first | exact .refl _ _ | exact k9 | refine .alloc ?_ ?_ _ | refine .setCell ?_ ?_ _ | refine .drew ?_ | refine below_drewN ?_ _ | refine Below.trans ?_ (k9.mono ?_)) <;> first | omega | simp <;> omega)))
      (first | (go_at_call 53; (with_reducible refine (HC2.out _ _ _ (HrA.out _ (by ((with_reducible repeat' first | exact .refl _ _ | refine .alloc ?_ ?_ _ | refine .setCell ?_ ?_ _ | refine .drew ?_ | refine below_drewN ?_ _) <;> first | omega | simp <;> omega)))).mono ?_); rintro e w9 ⟨rfl, k9⟩; have z9 := k9.size; (try simp at z9)))
     have k9' : Below wr.heap.size wr w9 := (by ((with_reducible repeat' first | exact .refl _ _ | exact k9 | refine .alloc ?_ ?_ _ | refine .setCell ?_ ?_ _ | refine .drew ?_ | refine below_drewN ?_ _ | refine Below.trans ?_ (k9.mono ?_)) <;> first | omega | simp <;> omega))
     have K9 := hide k9'
     clear k9 k9'
     go_wp2
     go_ret2
     have hno := Hh.out
     exact ⟨by rw [show decide ((c2 : Int) ≤ 0) = false from decide_eq_false (by omega)]; simp, bw.trans (K9.out.mono bw.size)⟩
   ·by_cases hh : (c3 : Int) ≤ f
    ·have hd : decide ((f : Int) < (c3 : Int)) = false := decide_eq_false (by omega)
     have Hh := hide hh
     have hBox : ∀ W : World, Below (wr.heap.size + 1) (wr.alloc (.cells #[.func (.func 51) #[] #[], .int .i64 f] 91)) W → W.cell? ⟨wr.heap.size, 0, none⟩ = some (.func (.func 51) #[] #[]) ∧ W.cell? ⟨wr.heap.size, 1, none⟩ = some (.int .i64 f) := by
      intro W hW
      have h := (bk hW wr.heap.size (by omega)).1
      exact ⟨(h _).trans (by simp), (h _).trans (by simp)⟩
     have HBox := hide hBox
     have hrA : ∀ W : World, Below wr.heap.size wr W → SdRow W (.slice la an.length lc) L := fun W hW => hr.below (Nat.le_refl _) hW
     have HrA := hide hrA
     have I1 : (0 : Int) ≤ 2 := by omega
     clear hh hBox hrA hr
     go_upto_region 7 with fail
     have zd : wr.drew.heap.size = wr.heap.size := rfl
     go_region_held3 (fun W => W.cell? ⟨wr.heap.size, 0, none⟩ = some (.func (.func 51) #[] #[]) ∧ W.cell? ⟨wr.heap.size, 1, none⟩ = some (.int .i64 f)) (exact HBox.out _ (by ((with_reducible repeat' first | exact .refl _ _ | exact k9 | refine .alloc ?_ ?_ _ | refine .setCell ?_ ?_ _ | refine .drew ?_ | refine below_drewN ?_ _ | refine Below.trans ?_ (k9.mono ?_)) <;> first | omega | simp <;> omega)))
      (first | (go_at_call 53; (with_reducible refine (HC3.out _ _ _ (HrA.out _ (by ((with_reducible repeat' first | exact .refl _ _ | refine .alloc ?_ ?_ _ | refine .setCell ?_ ?_ _ | refine .drew ?_ | refine below_drewN ?_ _) <;> first | omega | simp <;> omega)))).mono ?_); rintro e w9 ⟨rfl, k9⟩; have z9 := k9.size; (try simp at z9)))
     have k9' : Below wr.heap.size wr w9 := (by ((with_reducible repeat' first | exact .refl _ _ | exact k9 | refine .alloc ?_ ?_ _ | refine .setCell ?_ ?_ _ | refine .drew ?_ | refine below_drewN ?_ _ | refine Below.trans ?_ (k9.mono ?_)) <;> first | omega | simp <;> omega))
     have K9 := hide k9'
     clear k9 k9'
     go_wp2
     go_roundw
     case rel => exact ⟨3, by omega, by go_num, hide ⟨fun _ => Hk.out.1 (by omega), fun _ => Hk.out.2.1 (by omega), fun _ => Hh.out⟩, hB.trans (K9.out.mono hB.size)⟩
     case measure => simp [intOf]
    ·have hd : decide ((f : Int) < (c3 : Int)) = true := decide_eq_true (by omega)
     have Hh := hide hh
     have hBox : ∀ W : World, Below (wr.heap.size + 1) (wr.alloc (.cells #[.func (.func 51) #[] #[], .int .i64 f] 91)) W → W.cell? ⟨wr.heap.size, 0, none⟩ = some (.func (.func 51) #[] #[]) ∧ W.cell? ⟨wr.heap.size, 1, none⟩ = some (.int .i64 f) := by
      intro W hW
      have h := (bk hW wr.heap.size (by omega)).1
      exact ⟨(h _).trans (by simp), (h _).trans (by simp)⟩
     have HBox := hide hBox
     have hrA : ∀ W : World, Below wr.heap.size wr W → SdRow W (.slice la an.length lc) L := fun W hW => hr.below (Nat.le_refl _) hW
     have HrA := hide hrA
     have I1 : (0 : Int) ≤ 2 := by omega
     clear hh hBox hrA hr
     go_upto_region 7 with fail
     have zd : wr.drew.heap.size = wr.heap.size := rfl
     go_region_held3 (fun W => W.cell? ⟨wr.heap.size, 0, none⟩ = some (.func (.func 51) #[] #[]) ∧ W.cell? ⟨wr.heap.size, 1, none⟩ = some (.int .i64 f)) (exact HBox.out _ (by ((with_reducible repeat' first | exact .refl _ _ | exact k9 | refine .alloc ?_ ?_ _ | refine .setCell ?_ ?_ _ | refine .drew ?_ | refine below_drewN ?_ _ | refine Below.trans ?_ (k9.mono ?_)) <;> first | omega | simp <;> omega)))
      (first | (go_at_call 53; (with_reducible refine (HC3.out _ _ _ (HrA.out _ (by ((with_reducible repeat' first | exact .refl _ _ | refine .alloc ?_ ?_ _ | refine .setCell ?_ ?_ _ | refine .drew ?_ | refine below_drewN ?_ _) <;> first | omega | simp <;> omega)))).mono ?_); rintro e w9 ⟨rfl, k9⟩; have z9 := k9.size; (try simp at z9)))
     have k9' : Below wr.heap.size wr w9 := (by ((with_reducible repeat' first | exact .refl _ _ | exact k9 | refine .alloc ?_ ?_ _ | refine .setCell ?_ ?_ _ | refine .drew ?_ | refine below_drewN ?_ _ | refine Below.trans ?_ (k9.mono ?_)) <;> first | omega | simp <;> omega))
     have K9 := hide k9'
     clear k9 k9'
     go_wp2
     go_ret2
     have hno := Hh.out
     exact ⟨by rw [show decide ((c3 : Int) ≤ f) = false from decide_eq_false (by omega)]; simp, bw.trans (K9.out.mono bw.size)⟩
   ·go_wp2_with fail
    go_ret2
    exact ⟨by rw [decide_eq_true (Hk.out.1 (by omega)), decide_eq_true (Hk.out.2.1 (by omega)), decide_eq_true (Hk.out.2.2 (by omega))]; rfl, bw⟩
end Go.Proofs.YtigjljmhpkeahaaGreat
