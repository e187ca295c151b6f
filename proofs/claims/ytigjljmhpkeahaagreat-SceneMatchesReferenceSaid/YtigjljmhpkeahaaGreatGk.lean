
/- Parts PlH PlI of the proof, joined. -/
import Derived.Test.YtigjljmhpkeahaaGreatGi
import Derived.Test.YtigjljmhpkeahaaGreatGb
import Derived.OwnWalk
import Derived.Laws.EntriesVeiled
/- The comparison of two lists of integers (slices.Compare). -/
namespace Go.Proofs.YtigjljmhpkeahaaGreat
open Go.RowKit

theorem cmpI_drop {a b : List Int} : ∀ k, k ≤ a.length → k ≤ b.length → (∀ i, i < k → iAt a i = iAt b i) → cmpI a b = cmpI (a.drop k) (b.drop k)
 | 0, _, _, _ => rfl
 | k + 1, ha, hb, h => by
  rw [cmpI_drop k (by omega) (by omega) fun i hi => h i (by omega)]
  rw [List.drop_eq_getElem_cons (show k < a.length by omega), List.drop_eq_getElem_cons (show k < b.length by omega)]
  have := h k (by omega)
  rw [iAt_lt _ _ (by omega), iAt_lt _ _ (by omega)] at this
  simp [cmpI, this]
theorem cmpI_at {a b : List Int} {k : Nat} (ha : k < a.length) (hb : k < b.length) (h : ∀ i, i < k → iAt a i = iAt b i) : cmpI a b = if iAt a k < iAt b k then -1 else if iAt b k < iAt a k then 1 else cmpI (a.drop (k + 1)) (b.drop (k + 1)) := by
 rw [cmpI_drop k (by omega) (by omega) h, List.drop_eq_getElem_cons ha, List.drop_eq_getElem_cons hb, iAt_lt _ _ ha, iAt_lt _ _ hb]
 rfl
theorem cmpI_end {a b : List Int} {k : Nat} (ha : k ≤ a.length) (hb : k ≤ b.length) (hk : k = a.length ∨ k = b.length) (h : ∀ i, i < k → iAt a i = iAt b i) : cmpI a b = if a.length < b.length then -1 else if b.length < a.length then 1 else 0 := by
 rw [cmpI_drop k ha hb h]
 rcases Nat.lt_trichotomy a.length b.length with h1 | h1 | h1
 ·have : k = a.length := by omega
  subst this
  rw [List.drop_length, if_pos h1, List.drop_eq_getElem_cons h1]; rfl
 ·have : k = a.length := by omega
  subst this
  rw [List.drop_length, h1, List.drop_length]; simp [cmpI]
 ·have : k = b.length := by omega
  subst this
  rw [List.drop_length, if_neg (by omega), if_pos h1, List.drop_eq_getElem_cons h1]; rfl
set_option maxRecDepth 100000 in
set_option maxHeartbeats 1000000 in
theorem CompareL_any (v1 v2 : Value) (l1 l2 : List Int) (w : World) (h1 : IsRow w v1 l1) (h2 : IsRow w v2 l2) :
  Calls Tryz.prog 127 #[v1, v2] w fun e w' => e = .returned (.int .i64 (cmpI l1 l2)) ∧ w' = w := by
 obtain ⟨a, cap, rfl, q1, q2, q3⟩ := h1
 obtain ⟨a', cap', rfl, q1', q2', q3'⟩ := h2
 go_enter Tryz.func127, Tryz.ntmps127
 go_wp2
 go_loop [11] (fun i => ∃ k : Nat, k ≤ l1.length ∧ k ≤ l2.length ∧ i = .int .i64 k ∧ Hid (∀ j, j < k → iAt l1 j = iAt l2 j)) (fun i => l1.length - (intOf i).toNat)
 case atStart => exact ⟨0, Nat.zero_le _, Nat.zero_le _, rfl, hide (fun j hj => by omega)⟩
 case round =>
  obtain ⟨k, hk, hk2, rfl, Hall⟩ := hrel
  by_cases hlt : k < l1.length
  ·obtain ⟨b, off, rfl, h4, h5⟩ := q3 k hlt
   clear q3
   by_cases hlt2 : k < l2.length
   ·obtain ⟨b', off', rfl, h4', h5'⟩ := q3' k hlt2
    clear q3'
    have Hat := hide (cmpI_at hlt hlt2 Hall.out)
    have Hk := hide (fun e : iAt l1 k = iAt l2 k => (fun j (hj : j < k + 1) => by
     rcases Nat.lt_or_ge j k with h | h
     ·exact Hall.out j h
     ·obtain rfl : j = k := by omega
      exact e : ∀ j, j < k + 1 → iAt l1 j = iAt l2 j))
    by_cases hc : iAt l1 k = iAt l2 k
    ·have hz : Lib.compareInt (iAt l1 k) (iAt l2 k) = 0 := by unfold Lib.compareInt; rw [if_neg (by omega), if_neg (by omega)]
     have hz' : (Lib.compareInt (iAt l1 k) (iAt l2 k) != 0) = false := by rw [hz]; rfl
     have Hc := hide hc
     clear hc hz
     go_wp2_with (go_at_call 124; refine (Compare_any _ _ _).mono ?_; rintro e w' ⟨rfl, rfl⟩)
     go_round
     case rel => exact ⟨k + 1, by omega, by omega, by go_num, hide (Hk.out Hc.out)⟩
     case measure => simp [intOf]; omega
    ·have hcm : cmpI l1 l2 = Lib.compareInt (iAt l1 k) (iAt l2 k) := by
      rw [Hat.out]; unfold Lib.compareInt
      by_cases e1 : iAt l1 k < iAt l2 k
      ·rw [if_pos e1, if_pos e1]
      ·rw [if_neg e1, if_pos (by omega), if_neg e1, if_pos (by omega)]
     have hz : Lib.compareInt (iAt l1 k) (iAt l2 k) ≠ 0 := by
      unfold Lib.compareInt
      split
      ·omega
      ·split <;> omega
     have hz' : (Lib.compareInt (iAt l1 k) (iAt l2 k) != 0) = true := by rw [bne_iff_ne]; exact hz
     have Hcm := hide hcm
     clear hc hz hcm
     go_wp2_with (go_at_call 124; refine (Compare_any _ _ _).mono ?_; rintro e w' ⟨rfl, rfl⟩)
     go_ret
     exact ⟨ret_int Hcm.out.symm, rfl⟩
   ·have He := hide (cmpI_end hk hk2 (.inr (by omega)) Hall.out)
    clear q3'
    go_wp2_with fail
    go_ret
    exact ⟨ret_int (by rw [He.out, if_neg (by omega), if_pos (by omega)]), rfl⟩
  ·have He := hide (cmpI_end hk hk2 (.inl (by omega)) Hall.out)
   clear q3 q3'
   by_cases hl : l1.length < l2.length
   ·go_wp2_with fail
    go_ret
    exact ⟨ret_int (by rw [He.out, if_pos hl]), rfl⟩
   ·go_wp2_with fail
    go_ret
    exact ⟨ret_int (by rw [He.out, if_neg hl, if_neg (by omega)]), rfl⟩
set_option maxRecDepth 100000 in
set_option maxHeartbeats 400000 in
theorem sign_any (x y : Int) (w : World) : Calls Tryz.prog 189 #[.int .i64 x, .int .i64 y] w fun e w' => e = .returned (.int .i64 (Lib.compareInt x y)) ∧ w' = w := by
 go_enter Tryz.func189, Tryz.ntmps189
 go_wp2
 all_goals go_ret
 all_goals exact ⟨ret_int (by unfold Lib.compareInt; first | (rw [if_pos (by omega)]; done) | (rw [if_neg (by omega), if_pos (by omega)]; done) | (rw [if_neg (by omega), if_neg (by omega)]; done)), rfl⟩
set_option maxRecDepth 100000 in
set_option maxHeartbeats 1000000 in
theorem lists_any (v1 v2 : Value) (l1 l2 : List Int) (w : World) (h1 : IsRow w v1 l1) (h2 : IsRow w v2 l2) (hl : l1.length = l2.length) :
  Calls Tryz.prog 190 #[v1, v2] w fun e w' => e = .returned (.int .i64 (cmpI l1 l2)) ∧ ∃ n, w' = w.drewN n := by
 obtain ⟨a, cap, rfl, q1, q2, q3⟩ := h1
 obtain ⟨a', cap', rfl, q1', q2', q3'⟩ := h2
 have Q3 := hide q3
 have Q3' := hide q3'
 have Hl := hide hl
 clear q3 q3' hl
 go_enter Tryz.func190, Tryz.ntmps190
 go_wp2
 go_loopw [5] (fun i wr => ∃ (k n : Nat), k ≤ l1.length ∧ i = .int .i64 k ∧ Hid (∀ j, j < k → iAt l1 j = iAt l2 j) ∧ Hid (wr = w.drewN n)) (fun i _ => l1.length - (intOf i).toNat)
 case atStart => exact ⟨0, 0, Nat.zero_le _, rfl, hide (fun j hj => by omega), hide rfl⟩
 case round =>
  obtain ⟨k, n, hk, rfl, Hall, Hn⟩ := hrel
  by_cases hlt : k < l1.length
  ·have hlt2 : k < l2.length := by have := Hl.out; omega
   obtain ⟨b, off, rfl, h4, h5⟩ := Q3.out k hlt
   obtain ⟨b', off', rfl, h4', h5'⟩ := Q3'.out k hlt2
   have g5 : wr.cell? ⟨b, off + k, none⟩ = some (.int .i64 (iAt l1 k)) := by rw [Hn.out, World.cell?_drewN]; exact h5
   have g5' : wr.cell? ⟨b', off' + k, none⟩ = some (.int .i64 (iAt l2 k)) := by rw [Hn.out, World.cell?_drewN]; exact h5'
   have Hat := hide (cmpI_at hlt hlt2 Hall.out)
   have I1 : (0 : Int) ≤ (k : Int) := by omega
   have I2 : (k : Int) < (l1.length : Int) := by omega
   have I3 : (k : Int) < (l2.length : Int) := by omega
   clear h5 h5'
   by_cases hc : iAt l1 k = iAt l2 k
   ·have Hk := hide (fun j (hj : j < k + 1) => (by
     rcases Nat.lt_or_ge j k with h | h
     ·exact Hall.out j h
     ·obtain rfl : j = k := by omega
      exact hc : iAt l1 j = iAt l2 j))
    have d1 : (iAt l1 k != iAt l2 k) = false := by rw [hc]; simp
    clear hc
    go_wp2_with fail
    go_quiet (fail)
    go_wp2_with fail
    go_roundw
    case rel => exact ⟨k + 1, n + nq, by omega, by go_num, Hk, hide (by rw [Hn.out, World.drewN_drewN])⟩
    case measure => simp [intOf]; omega
   ·have hcm : cmpI l1 l2 = Lib.compareInt (iAt l1 k) (iAt l2 k) := by
     rw [Hat.out]; unfold Lib.compareInt
     by_cases e1 : iAt l1 k < iAt l2 k
     ·rw [if_pos e1, if_pos e1]
     ·rw [if_neg e1, if_pos (by omega), if_neg e1, if_pos (by omega)]
    have d1 : (iAt l1 k != iAt l2 k) = true := by rw [bne_iff_ne]; exact hc
    have Hcm := hide hcm
    clear hc hcm
    go_wp2_with fail
    go_quiet (fail)
    have Hn2 : Hid (wr.drewN nq = w.drewN (n + nq)) := hide (by rw [Hn.out, World.drewN_drewN])
    have g6 : (wr.drewN nq).cell? ⟨b, off + k, none⟩ = some (.int .i64 (iAt l1 k)) := by rw [World.cell?_drewN]; exact g5
    have g6' : (wr.drewN nq).cell? ⟨b', off' + k, none⟩ = some (.int .i64 (iAt l2 k)) := by rw [World.cell?_drewN]; exact g5'
    clear g5 g5'
    generalize wr.drewN nq = wq at *
    go_wp2_with fail
    go_quiet ((go_at_call 189; exact Calls.quiet_of_same ((sign_any _ _ _).mono (by rintro e w' ⟨rfl, rfl⟩; exact ⟨rfl, rfl⟩))))
    go_wp2_with fail
    go_ret
    exact ⟨ret_int Hcm.out.symm, _, by rw [Hn2.out]; exact World.drewN_drewN _ _ _⟩
  ·have He := hide (cmpI_end (a := l1) (b := l2) hk (by have := Hl.out; omega) (.inl (by omega)) Hall.out)
   go_wp2_with fail
   go_ret
   exact ⟨ret_int (by rw [He.out, if_neg (by have := Hl.out; omega), if_neg (by have := Hl.out; omega)]), _, Hn.out⟩
end Go.Proofs.YtigjljmhpkeahaaGreat
/- Package plan: better, the first rule in which two offers differ. -/
namespace Go.Proofs.YtigjljmhpkeahaaGreat
open Go.RowKit

set_option maxRecDepth 100000 in
set_option maxHeartbeats 1000000 in
theorem rule4_any (ua : Value) (a : Of) (ub : Value) (b : Of) (w : World) (ha : IsRow w ua a.use) (hb : IsRow w ub b.use) :
  Calls Tryz.prog 126 #[.agg #[ua, .int .i64 a.ev, .int .i64 a.wd], .agg #[ub, .int .i64 b.ev, .int .i64 b.wd]] w fun e w' => e = .returned (.int .i64 (c4 a b)) ∧ Below w.heap.size w w' := by
 have hR : ∀ W : World, Below w.heap.size w W → IsRow W ua a.use ∧ IsRow W ub b.use := fun W hW => ⟨ha.below (Nat.le_refl _) hW, hb.below (Nat.le_refl _) hW⟩
 have HR := hide hR
 have hE : cmpI a.use b.use = c4 a b := rfl
 have HE := hide hE
 clear hE hR ha hb
 go_enter Tryz.func126, Tryz.ntmps126
 go_wp2_with (go_at_call 127; (with_reducible refine (CompareL_any _ _ a.use b.use _ (HR.out _ (by ((with_reducible repeat' first | exact .refl _ _ | refine .alloc ?_ ?_ _ | refine .setCell ?_ ?_ _ | refine .drew ?_ | refine below_drewN ?_ _) <;> first | omega | simp <;> omega))).1 (HR.out _ (by ((with_reducible repeat' first | exact .refl _ _ | refine .alloc ?_ ?_ _ | refine .setCell ?_ ?_ _ | refine .drew ?_ | refine below_drewN ?_ _) <;> first | omega | simp <;> omega))).2).mono ?_); rintro e w' ⟨rfl, rfl⟩)
 go_ret
 exact ⟨ret_int HE.out, (by ((with_reducible repeat' first | exact .refl _ _ | refine .alloc ?_ ?_ _ | refine .setCell ?_ ?_ _ | refine .drew ?_ | refine below_drewN ?_ _) <;> first | omega | simp <;> omega))⟩
def rlC (nr : Bool) (sb : Nat) : List Value :=
 if nr then [.func (.func 123) #[] #[], .func (.func 121) #[] #[.pointer (some ⟨sb, 0, none⟩)], .func (.func 125) #[] #[], .func (.func 126) #[] #[], .func (.func 128) #[] #[]]
 else [.func (.func 121) #[] #[.pointer (some ⟨sb, 0, none⟩)], .func (.func 123) #[] #[], .func (.func 125) #[] #[], .func (.func 126) #[] #[], .func (.func 128) #[] #[]]
def RlAt (W : World) (rb : Nat) (nr : Bool) (sb : Nat) : Prop := ∀ k, k < 5 → W.cell? ⟨rb, k, none⟩ = some ((rlC nr sb).getD k undef)
def StAt (W : World) (sb : Nat) (r f lo tm : Int) (pv : Value) : Prop := W.cell? ⟨sb, 0, none⟩ = some (.int .i64 r) ∧ W.cell? ⟨sb, 1, none⟩ = some (.int .i64 f) ∧ W.cell? ⟨sb, 2, none⟩ = some (.int .i64 lo) ∧ W.cell? ⟨sb, 3, none⟩ = some (.int .i64 tm) ∧ W.cell? ⟨sb, 4, none⟩ = some pv
theorem StAt.below {w W : World} {sb : Nat} {r f lo tm : Int} {pv : Value} (h : StAt w sb r f lo tm pv) {B : Nat} (hB : Below B w W) (hs : sb < B) : StAt W sb r f lo tm pv := by
 have h0 := (bk hB sb hs).1
 exact ⟨(h0 _).trans h.1, (h0 _).trans h.2.1, (h0 _).trans h.2.2.1, (h0 _).trans h.2.2.2.1, (h0 _).trans h.2.2.2.2⟩
def cK (nr : Bool) (ps : List Pr) (a b : Of) : Nat → Int
 | 0 => c1 nr ps a b
 | 1 => c2 nr ps a b
 | 2 => c3 a b
 | 3 => c4 a b
 | _ => c5 a b
theorem btr_at {nr : Bool} {ps : List Pr} {a b : Of} {k : Nat} (hk : k < 5) (h : ∀ j, j < k → cK nr ps a b j = 0) (hn : cK nr ps a b k ≠ 0) : btr nr ps a b = decide (cK nr ps a b k < 0) := by
 have e0 := fun h' => h 0 h'
 have e1 := fun h' => h 1 h'
 have e2 := fun h' => h 2 h'
 have e3 := fun h' => h 3 h'
 simp only [cK] at e0 e1 e2 e3
 match k, hk with
 | 0, _ => simp only [cK] at hn ⊢; unfold btr; rw [if_pos hn]
 | 1, _ => simp only [cK] at hn ⊢; unfold btr; rw [if_neg (by simp [e0 (by omega)]), if_pos hn]
 | 2, _ => simp only [cK] at hn ⊢; unfold btr; rw [if_neg (by simp [e0 (by omega)]), if_neg (by simp [e1 (by omega)]), if_pos hn]
 | 3, _ => simp only [cK] at hn ⊢; unfold btr; rw [if_neg (by simp [e0 (by omega)]), if_neg (by simp [e1 (by omega)]), if_neg (by simp [e2 (by omega)]), if_pos hn]
 | 4, _ => simp only [cK] at hn ⊢; unfold btr; rw [if_neg (by simp [e0 (by omega)]), if_neg (by simp [e1 (by omega)]), if_neg (by simp [e2 (by omega)]), if_neg (by simp [e3 (by omega)]), if_pos hn]
theorem btr_none {nr : Bool} {ps : List Pr} {a b : Of} (h : ∀ j, j < 5 → cK nr ps a b j = 0) : btr nr ps a b = false := by
 have e0 := h 0 (by omega)
 have e1 := h 1 (by omega)
 have e2 := h 2 (by omega)
 have e3 := h 3 (by omega)
 have e4 := h 4 (by omega)
 simp only [cK] at e0 e1 e2 e3 e4
 unfold btr
 simp [e0, e1, e2, e3, e4]
set_option maxRecDepth 100000 in
set_option maxHeartbeats 1000000 in
theorem better_any (nr : Bool) (sb rb Bl : Nat) (r f lo tm : Int) (pv : Value) (ps : List Pr) (ua : Value) (a : Of) (ub : Value) (b : Of) (w : World) (hs : StAt w sb r f lo tm pv) (hsb : sb < w.heap.size) (hr : RlAt w rb nr sb) (hrb : rb < w.heap.size) (hl : w.cell? ⟨Bl, 0, none⟩ = some (.slice (some ⟨rb, 0, none⟩) 5 5)) (hBl : Bl < w.heap.size)
  (hp : PrRow w pv ps) (ha : IsRow w ua a.use) (hb : IsRow w ub b.use) (ca : CsOk ps a.use a.ev) (cb : CsOk ps b.use b.ev) :
  Calls Tryz.prog 119 #[.agg #[ua, .int .i64 a.ev, .int .i64 a.wd], .agg #[ub, .int .i64 b.ev, .int .i64 b.wd], .pointer (some ⟨Bl, 0, none⟩)] w fun e w' => e = .returned (.bool (btr nr ps a b)) ∧ Below w.heap.size w w' := by
 obtain ⟨W0, hW0⟩ : ∃ W : World, W = (w.alloc (.cells #[ua, .int .i64 a.ev, .int .i64 a.wd] 114)).alloc (.cells #[ub, .int .i64 b.ev, .int .i64 b.wd] 114) := ⟨_, rfl⟩
 have zW : W0.heap.size = w.heap.size + 2 := by rw [hW0]; simp
 have bW : Below w.heap.size w W0 := by rw [hW0]; ((with_reducible repeat' first | exact .refl _ _ | refine .alloc ?_ ?_ _ | refine .setCell ?_ ?_ _ | refine .drew ?_ | refine below_drewN ?_ _) <;> first | omega | simp <;> omega)
 have hS : ∀ W : World, Below (w.heap.size + 2) W0 W → W.cell? ⟨w.heap.size, 0, none⟩ = some ua ∧ W.cell? ⟨w.heap.size, 1, none⟩ = some (.int .i64 a.ev) ∧ W.cell? ⟨w.heap.size, 2, none⟩ = some (.int .i64 a.wd) ∧ W.cell? ⟨w.heap.size + 1, 0, none⟩ = some ub ∧ W.cell? ⟨w.heap.size + 1, 1, none⟩ = some (.int .i64 b.ev) ∧ W.cell? ⟨w.heap.size + 1, 2, none⟩ = some (.int .i64 b.wd) ∧
   W.cell? ⟨Bl, 0, none⟩ = some (.slice (some ⟨rb, 0, none⟩) 5 5) ∧ Below w.heap.size w W ∧ w.heap.size + 2 ≤ W.heap.size := by
  intro W hW
  have hB : Below w.heap.size w W := bW.trans (hW.mono (by omega))
  obtain ⟨y0, y1, y2, x0, x1, x2⟩ : W0.cell? ⟨w.heap.size, 0, none⟩ = some ua ∧ W0.cell? ⟨w.heap.size, 1, none⟩ = some (.int .i64 a.ev) ∧ W0.cell? ⟨w.heap.size, 2, none⟩ = some (.int .i64 a.wd) ∧ W0.cell? ⟨w.heap.size + 1, 0, none⟩ = some ub ∧ W0.cell? ⟨w.heap.size + 1, 1, none⟩ = some (.int .i64 b.ev) ∧ W0.cell? ⟨w.heap.size + 1, 2, none⟩ = some (.int .i64 b.wd) := by
   rw [hW0]; refine ⟨?_, ?_, ?_, ?_, ?_, ?_⟩ <;> simp
  have h0 := (bk hW w.heap.size (by omega)).1
  have h1 := (bk hW (w.heap.size + 1) (by omega)).1
  exact ⟨(h0 _).trans y0, (h0 _).trans y1, (h0 _).trans y2, (h1 _).trans x0, (h1 _).trans x1, (h1 _).trans x2, ((bk hB Bl hBl).1 _).trans hl, hB, by have := hW.size; omega⟩
 have hR : ∀ W : World, Below w.heap.size w W → PrRow W pv ps ∧ IsRow W ua a.use ∧ IsRow W ub b.use ∧ StAt W sb r f lo tm pv := fun W hW => ⟨hp.below (Nat.le_refl _) hW, ha.below (Nat.le_refl _) hW, hb.below (Nat.le_refl _) hW, hs.below hW hsb⟩
 have hQ : ∀ W : World, Below w.heap.size w W → ∀ k, k < 5 → W.cell? ⟨rb, k, none⟩ = some ((rlC nr sb).getD k undef) := fun W hW k hk => ((bk hW rb hrb).1 k).trans (hr k hk)
 have HS := hide hS
 have HR := hide hR
 have HQ := hide hQ
 have Ca := hide ca
 have Cb := hide cb
 obtain ⟨R, hRe⟩ : ∃ R, R = btr nr ps a b := ⟨_, rfl⟩
 rw [← hRe]
 have hat : ∀ k x, k < 5 → (∀ j, j < k → cK nr ps a b j = 0) → cK nr ps a b k = x → x ≠ 0 → decide (x < 0) = R := fun k x h1 h2 h3 h4 => by subst h3; rw [hRe]; exact (btr_at h1 h2 h4).symm
 have hno : (∀ j, j < 5 → cK nr ps a b j = 0) → R = false := fun h => by rw [hRe]; exact btr_none h
 have Hat := hide hat
 have Hno := hide hno
 clear hS hR hQ hat hno ca cb hs hr hl hp ha hb hRe
 go_enter Tryz.func119, Tryz.ntmps119
 go_upto_region 1 with fail
 rw [← hW0]
 clear hW0
 obtain ⟨y0, y1, y2, x0, x1, x2, l0, b0, z0⟩ := HS.out W0 (Below.refl _ _)
 go_wp2_with fail
 go_loopw [11] (fun s11 wr => ∃ k : Nat, k ≤ 5 ∧ s11 = .int .i64 k ∧ Hid (∀ j, j < k → cK nr ps a b j = 0) ∧ Below (w.heap.size + 2) W0 wr) (fun s11 _ => 5 - (intOf s11).toNat)
 case atStart => exact ⟨0, by omega, rfl, hide (fun j hj => by omega), Below.refl _ _⟩
 case round =>
  obtain ⟨k, hk, rfl, Hz, hB⟩ := hrel
  clear y0 y1 y2 x0 x1 x2 l0 b0 z0
  obtain ⟨y0, y1, y2, x0, x1, x2, l0, b0, z0⟩ := HS.out wr hB
  by_cases hlt : k < 5
  ·have hq := HQ.out _ b0 k hlt
   have hao := fun (u : Value) (bk o : Nat) (hbk : bk < wr.heap.size) => World.cell?_alloc_lt wr (.cells #[u] 154) ⟨bk, o, none⟩ hbk
   cases nr
   ·rcases (by omega : k = 0 ∨ k = 1 ∨ k = 2 ∨ k = 3 ∨ k = 4) with rfl | rfl | rfl | rfl | rfl
    ·have hq' : wr.cell? ⟨rb, 0, none⟩ = some (.func (.func 121) #[] #[.pointer (some ⟨sb, 0, none⟩)]) := hq
     clear hq
     obtain ⟨x, hx⟩ : ∃ x, cmpC ps a b = x := ⟨_, rfl⟩
     have hx2 : cK false ps a b 0 = x := hx
     have Hx2 := hide hx2
     have Hx := hide hx
     clear hx hx2
     have Y0 := (hao (.func (.func 121) #[] #[.pointer (some ⟨sb, 0, none⟩)]) w.heap.size 0 (by omega)).trans y0
     have Y1 := (hao (.func (.func 121) #[] #[.pointer (some ⟨sb, 0, none⟩)]) w.heap.size 1 (by omega)).trans y1
     have Y2 := (hao (.func (.func 121) #[] #[.pointer (some ⟨sb, 0, none⟩)]) w.heap.size 2 (by omega)).trans y2
     have X0 := (hao (.func (.func 121) #[] #[.pointer (some ⟨sb, 0, none⟩)]) (w.heap.size + 1) 0 (by omega)).trans x0
     have X1 := (hao (.func (.func 121) #[] #[.pointer (some ⟨sb, 0, none⟩)]) (w.heap.size + 1) 1 (by omega)).trans x1
     have X2 := (hao (.func (.func 121) #[] #[.pointer (some ⟨sb, 0, none⟩)]) (w.heap.size + 1) 2 (by omega)).trans x2
     clear y0 y1 y2 x0 x1 x2 hao
     go_wp2_with fail
     refine (rule1_any sb r f lo tm _ ps _ a _ b _ (HR.out _ (by ((with_reducible repeat' first | exact .refl _ _ | exact b0 | refine .alloc ?_ ?_ _ | refine .setCell ?_ ?_ _ | refine .drew ?_ | refine below_drewN ?_ _ | refine Below.trans ?_ (b0.mono ?_)) <;> first | omega | simp <;> omega))).2.2.2 (by first | omega | (simp; omega)) (HR.out _ (by ((with_reducible repeat' first | exact .refl _ _ | exact b0 | refine .alloc ?_ ?_ _ | refine .setCell ?_ ?_ _ | refine .drew ?_ | refine below_drewN ?_ _ | refine Below.trans ?_ (b0.mono ?_)) <;> first | omega | simp <;> omega))).1 (HR.out _ (by ((with_reducible repeat' first | exact .refl _ _ | exact b0 | refine .alloc ?_ ?_ _ | refine .setCell ?_ ?_ _ | refine .drew ?_ | refine below_drewN ?_ _ | refine Below.trans ?_ (b0.mono ?_)) <;> first | omega | simp <;> omega))).2.1 (HR.out _ (by ((with_reducible repeat' first | exact .refl _ _ | exact b0 | refine .alloc ?_ ?_ _ | refine .setCell ?_ ?_ _ | refine .drew ?_ | refine below_drewN ?_ _ | refine Below.trans ?_ (b0.mono ?_)) <;> first | omega | simp <;> omega))).2.2.1 Ca.out Cb.out).mono ?_
     rintro e w1 ⟨rfl, b1⟩
     rw [Hx.out]
     have B1 : Below (w.heap.size + 2) W0 w1 := (by ((with_reducible repeat' first | exact .refl _ _ | exact b1 | exact hB | refine .alloc ?_ ?_ _ | refine .setCell ?_ ?_ _ | refine .drew ?_ | refine below_drewN ?_ _ | refine Below.trans ?_ (b1.mono ?_) | refine Below.trans ?_ (hB.mono ?_)) <;> first | omega | simp <;> omega))
     have bb1 : Below w.heap.size w w1 := (by ((with_reducible repeat' first | exact .refl _ _ | exact b1 | exact b0 | refine .alloc ?_ ?_ _ | refine .setCell ?_ ?_ _ | refine .drew ?_ | refine below_drewN ?_ _ | refine Below.trans ?_ (b1.mono ?_) | refine Below.trans ?_ (b0.mono ?_)) <;> first | omega | simp <;> omega))
     by_cases hx0 : x = 0
     ·have d1 : (x != 0) = false := by rw [hx0]; rfl
      have Hn := hide (fun j (hj : j < 0 + 1) => (by
       rcases Nat.lt_or_ge j 0 with h | h
       ·exact Hz.out j h
       ·obtain rfl : j = 0 := by omega
        rw [Hx2.out]; exact hx0 : cK false ps a b j = 0))
      clear hx0
      go_wp2_with fail
      go_roundw
      case rel => exact ⟨0 + 1, by omega, by go_num, Hn, B1⟩
      case measure => simp [intOf]
     ·have d1 : (x != 0) = true := by rw [bne_iff_ne]; exact hx0
      have Hd := hide (Hat.out 0 x (by omega) Hz.out Hx2.out hx0)
      clear hx0
      go_wp2_with fail
      go_ret
      exact ⟨ret_bool Hd.out, bb1⟩
    ·have hq' : wr.cell? ⟨rb, 1, none⟩ = some (.func (.func 123) #[] #[]) := hq
     clear hq
     obtain ⟨x, hx⟩ : ∃ x, cmpW a b = x := ⟨_, rfl⟩
     have hx2 : cK false ps a b 1 = x := hx
     have Hx2 := hide hx2
     have Hx := hide hx
     clear hx hx2
     have Y0 := (hao (.func (.func 123) #[] #[]) w.heap.size 0 (by omega)).trans y0
     have Y1 := (hao (.func (.func 123) #[] #[]) w.heap.size 1 (by omega)).trans y1
     have Y2 := (hao (.func (.func 123) #[] #[]) w.heap.size 2 (by omega)).trans y2
     have X0 := (hao (.func (.func 123) #[] #[]) (w.heap.size + 1) 0 (by omega)).trans x0
     have X1 := (hao (.func (.func 123) #[] #[]) (w.heap.size + 1) 1 (by omega)).trans x1
     have X2 := (hao (.func (.func 123) #[] #[]) (w.heap.size + 1) 2 (by omega)).trans x2
     clear y0 y1 y2 x0 x1 x2 hao
     go_wp2_with fail
     refine (rule2_any _ a _ b _).mono ?_
     rintro e w1 ⟨rfl, b1⟩
     rw [Hx.out]
     have B1 : Below (w.heap.size + 2) W0 w1 := (by ((with_reducible repeat' first | exact .refl _ _ | exact b1 | exact hB | refine .alloc ?_ ?_ _ | refine .setCell ?_ ?_ _ | refine .drew ?_ | refine below_drewN ?_ _ | refine Below.trans ?_ (b1.mono ?_) | refine Below.trans ?_ (hB.mono ?_)) <;> first | omega | simp <;> omega))
     have bb1 : Below w.heap.size w w1 := (by ((with_reducible repeat' first | exact .refl _ _ | exact b1 | exact b0 | refine .alloc ?_ ?_ _ | refine .setCell ?_ ?_ _ | refine .drew ?_ | refine below_drewN ?_ _ | refine Below.trans ?_ (b1.mono ?_) | refine Below.trans ?_ (b0.mono ?_)) <;> first | omega | simp <;> omega))
     by_cases hx0 : x = 0
     ·have d1 : (x != 0) = false := by rw [hx0]; rfl
      have Hn := hide (fun j (hj : j < 1 + 1) => (by
       rcases Nat.lt_or_ge j 1 with h | h
       ·exact Hz.out j h
       ·obtain rfl : j = 1 := by omega
        rw [Hx2.out]; exact hx0 : cK false ps a b j = 0))
      clear hx0
      go_wp2_with fail
      go_roundw
      case rel => exact ⟨1 + 1, by omega, by go_num, Hn, B1⟩
      case measure => simp [intOf]
     ·have d1 : (x != 0) = true := by rw [bne_iff_ne]; exact hx0
      have Hd := hide (Hat.out 1 x (by omega) Hz.out Hx2.out hx0)
      clear hx0
      go_wp2_with fail
      go_ret
      exact ⟨ret_bool Hd.out, bb1⟩
    ·have hq' : wr.cell? ⟨rb, 2, none⟩ = some (.func (.func 125) #[] #[]) := hq
     clear hq
     obtain ⟨x, hx⟩ : ∃ x, c3 a b = x := ⟨_, rfl⟩
     have hx2 : cK false ps a b 2 = x := hx
     have Hx2 := hide hx2
     have Hx := hide hx
     clear hx hx2
     have Y0 := (hao (.func (.func 125) #[] #[]) w.heap.size 0 (by omega)).trans y0
     have Y1 := (hao (.func (.func 125) #[] #[]) w.heap.size 1 (by omega)).trans y1
     have Y2 := (hao (.func (.func 125) #[] #[]) w.heap.size 2 (by omega)).trans y2
     have X0 := (hao (.func (.func 125) #[] #[]) (w.heap.size + 1) 0 (by omega)).trans x0
     have X1 := (hao (.func (.func 125) #[] #[]) (w.heap.size + 1) 1 (by omega)).trans x1
     have X2 := (hao (.func (.func 125) #[] #[]) (w.heap.size + 1) 2 (by omega)).trans x2
     clear y0 y1 y2 x0 x1 x2 hao
     go_wp2_with fail
     refine (rule3_any _ a _ b _ (HR.out _ (by ((with_reducible repeat' first | exact .refl _ _ | exact b0 | refine .alloc ?_ ?_ _ | refine .setCell ?_ ?_ _ | refine .drew ?_ | refine below_drewN ?_ _ | refine Below.trans ?_ (b0.mono ?_)) <;> first | omega | simp <;> omega))).2.1 (HR.out _ (by ((with_reducible repeat' first | exact .refl _ _ | exact b0 | refine .alloc ?_ ?_ _ | refine .setCell ?_ ?_ _ | refine .drew ?_ | refine below_drewN ?_ _ | refine Below.trans ?_ (b0.mono ?_)) <;> first | omega | simp <;> omega))).2.2.1).mono ?_
     rintro e w1 ⟨rfl, b1⟩
     rw [Hx.out]
     have B1 : Below (w.heap.size + 2) W0 w1 := (by ((with_reducible repeat' first | exact .refl _ _ | exact b1 | exact hB | refine .alloc ?_ ?_ _ | refine .setCell ?_ ?_ _ | refine .drew ?_ | refine below_drewN ?_ _ | refine Below.trans ?_ (b1.mono ?_) | refine Below.trans ?_ (hB.mono ?_)) <;> first | omega | simp <;> omega))
     have bb1 : Below w.heap.size w w1 := (by ((with_reducible repeat' first | exact .refl _ _ | exact b1 | exact b0 | refine .alloc ?_ ?_ _ | refine .setCell ?_ ?_ _ | refine .drew ?_ | refine below_drewN ?_ _ | refine Below.trans ?_ (b1.mono ?_) | refine Below.trans ?_ (b0.mono ?_)) <;> first | omega | simp <;> omega))
     by_cases hx0 : x = 0
     ·have d1 : (x != 0) = false := by rw [hx0]; rfl
      have Hn := hide (fun j (hj : j < 2 + 1) => (by
       rcases Nat.lt_or_ge j 2 with h | h
       ·exact Hz.out j h
       ·obtain rfl : j = 2 := by omega
        rw [Hx2.out]; exact hx0 : cK false ps a b j = 0))
      clear hx0
      go_wp2_with fail
      go_roundw
      case rel => exact ⟨2 + 1, by omega, by go_num, Hn, B1⟩
      case measure => simp [intOf]
     ·have d1 : (x != 0) = true := by rw [bne_iff_ne]; exact hx0
      have Hd := hide (Hat.out 2 x (by omega) Hz.out Hx2.out hx0)
      clear hx0
      go_wp2_with fail
      go_ret
      exact ⟨ret_bool Hd.out, bb1⟩
    ·have hq' : wr.cell? ⟨rb, 3, none⟩ = some (.func (.func 126) #[] #[]) := hq
     clear hq
     obtain ⟨x, hx⟩ : ∃ x, c4 a b = x := ⟨_, rfl⟩
     have hx2 : cK false ps a b 3 = x := hx
     have Hx2 := hide hx2
     have Hx := hide hx
     clear hx hx2
     have Y0 := (hao (.func (.func 126) #[] #[]) w.heap.size 0 (by omega)).trans y0
     have Y1 := (hao (.func (.func 126) #[] #[]) w.heap.size 1 (by omega)).trans y1
     have Y2 := (hao (.func (.func 126) #[] #[]) w.heap.size 2 (by omega)).trans y2
     have X0 := (hao (.func (.func 126) #[] #[]) (w.heap.size + 1) 0 (by omega)).trans x0
     have X1 := (hao (.func (.func 126) #[] #[]) (w.heap.size + 1) 1 (by omega)).trans x1
     have X2 := (hao (.func (.func 126) #[] #[]) (w.heap.size + 1) 2 (by omega)).trans x2
     clear y0 y1 y2 x0 x1 x2 hao
     go_wp2_with fail
     refine (rule4_any _ a _ b _ (HR.out _ (by ((with_reducible repeat' first | exact .refl _ _ | exact b0 | refine .alloc ?_ ?_ _ | refine .setCell ?_ ?_ _ | refine .drew ?_ | refine below_drewN ?_ _ | refine Below.trans ?_ (b0.mono ?_)) <;> first | omega | simp <;> omega))).2.1 (HR.out _ (by ((with_reducible repeat' first | exact .refl _ _ | exact b0 | refine .alloc ?_ ?_ _ | refine .setCell ?_ ?_ _ | refine .drew ?_ | refine below_drewN ?_ _ | refine Below.trans ?_ (b0.mono ?_)) <;> first | omega | simp <;> omega))).2.2.1).mono ?_
     rintro e w1 ⟨rfl, b1⟩
     rw [Hx.out]
     have B1 : Below (w.heap.size + 2) W0 w1 := (by ((with_reducible repeat' first | exact .refl _ _ | exact b1 | exact hB | refine .alloc ?_ ?_ _ | refine .setCell ?_ ?_ _ | refine .drew ?_ | refine below_drewN ?_ _ | refine Below.trans ?_ (b1.mono ?_) | refine Below.trans ?_ (hB.mono ?_)) <;> first | omega | simp <;> omega))
     have bb1 : Below w.heap.size w w1 := (by ((with_reducible repeat' first | exact .refl _ _ | exact b1 | exact b0 | refine .alloc ?_ ?_ _ | refine .setCell ?_ ?_ _ | refine .drew ?_ | refine below_drewN ?_ _ | refine Below.trans ?_ (b1.mono ?_) | refine Below.trans ?_ (b0.mono ?_)) <;> first | omega | simp <;> omega))
     by_cases hx0 : x = 0
     ·have d1 : (x != 0) = false := by rw [hx0]; rfl
      have Hn := hide (fun j (hj : j < 3 + 1) => (by
       rcases Nat.lt_or_ge j 3 with h | h
       ·exact Hz.out j h
       ·obtain rfl : j = 3 := by omega
        rw [Hx2.out]; exact hx0 : cK false ps a b j = 0))
      clear hx0
      go_wp2_with fail
      go_roundw
      case rel => exact ⟨3 + 1, by omega, by go_num, Hn, B1⟩
      case measure => simp [intOf]
     ·have d1 : (x != 0) = true := by rw [bne_iff_ne]; exact hx0
      have Hd := hide (Hat.out 3 x (by omega) Hz.out Hx2.out hx0)
      clear hx0
      go_wp2_with fail
      go_ret
      exact ⟨ret_bool Hd.out, bb1⟩
    ·have hq' : wr.cell? ⟨rb, 4, none⟩ = some (.func (.func 128) #[] #[]) := hq
     clear hq
     obtain ⟨x, hx⟩ : ∃ x, c5 a b = x := ⟨_, rfl⟩
     have hx2 : cK false ps a b 4 = x := hx
     have Hx2 := hide hx2
     have Hx := hide hx
     clear hx hx2
     have Y0 := (hao (.func (.func 128) #[] #[]) w.heap.size 0 (by omega)).trans y0
     have Y1 := (hao (.func (.func 128) #[] #[]) w.heap.size 1 (by omega)).trans y1
     have Y2 := (hao (.func (.func 128) #[] #[]) w.heap.size 2 (by omega)).trans y2
     have X0 := (hao (.func (.func 128) #[] #[]) (w.heap.size + 1) 0 (by omega)).trans x0
     have X1 := (hao (.func (.func 128) #[] #[]) (w.heap.size + 1) 1 (by omega)).trans x1
     have X2 := (hao (.func (.func 128) #[] #[]) (w.heap.size + 1) 2 (by omega)).trans x2
     clear y0 y1 y2 x0 x1 x2 hao
     go_wp2_with fail
     refine (rule5_any _ a _ b _).mono ?_
     rintro e w1 ⟨rfl, b1⟩
     rw [Hx.out]
     have B1 : Below (w.heap.size + 2) W0 w1 := (by ((with_reducible repeat' first | exact .refl _ _ | exact b1 | exact hB | refine .alloc ?_ ?_ _ | refine .setCell ?_ ?_ _ | refine .drew ?_ | refine below_drewN ?_ _ | refine Below.trans ?_ (b1.mono ?_) | refine Below.trans ?_ (hB.mono ?_)) <;> first | omega | simp <;> omega))
     have bb1 : Below w.heap.size w w1 := (by ((with_reducible repeat' first | exact .refl _ _ | exact b1 | exact b0 | refine .alloc ?_ ?_ _ | refine .setCell ?_ ?_ _ | refine .drew ?_ | refine below_drewN ?_ _ | refine Below.trans ?_ (b1.mono ?_) | refine Below.trans ?_ (b0.mono ?_)) <;> first | omega | simp <;> omega))
     by_cases hx0 : x = 0
     ·have d1 : (x != 0) = false := by rw [hx0]; rfl
      have Hn := hide (fun j (hj : j < 4 + 1) => (by
       rcases Nat.lt_or_ge j 4 with h | h
       ·exact Hz.out j h
       ·obtain rfl : j = 4 := by omega
        rw [Hx2.out]; exact hx0 : cK false ps a b j = 0))
      clear hx0
      go_wp2_with fail
      go_roundw
      case rel => exact ⟨4 + 1, by omega, by go_num, Hn, B1⟩
      case measure => simp [intOf]
     ·have d1 : (x != 0) = true := by rw [bne_iff_ne]; exact hx0
      have Hd := hide (Hat.out 4 x (by omega) Hz.out Hx2.out hx0)
      clear hx0
      go_wp2_with fail
      go_ret
      exact ⟨ret_bool Hd.out, bb1⟩
   ·rcases (by omega : k = 0 ∨ k = 1 ∨ k = 2 ∨ k = 3 ∨ k = 4) with rfl | rfl | rfl | rfl | rfl
    ·have hq' : wr.cell? ⟨rb, 0, none⟩ = some (.func (.func 123) #[] #[]) := hq
     clear hq
     obtain ⟨x, hx⟩ : ∃ x, cmpW a b = x := ⟨_, rfl⟩
     have hx2 : cK true ps a b 0 = x := hx
     have Hx2 := hide hx2
     have Hx := hide hx
     clear hx hx2
     have Y0 := (hao (.func (.func 123) #[] #[]) w.heap.size 0 (by omega)).trans y0
     have Y1 := (hao (.func (.func 123) #[] #[]) w.heap.size 1 (by omega)).trans y1
     have Y2 := (hao (.func (.func 123) #[] #[]) w.heap.size 2 (by omega)).trans y2
     have X0 := (hao (.func (.func 123) #[] #[]) (w.heap.size + 1) 0 (by omega)).trans x0
     have X1 := (hao (.func (.func 123) #[] #[]) (w.heap.size + 1) 1 (by omega)).trans x1
     have X2 := (hao (.func (.func 123) #[] #[]) (w.heap.size + 1) 2 (by omega)).trans x2
     clear y0 y1 y2 x0 x1 x2 hao
     go_wp2_with fail
     refine (rule2_any _ a _ b _).mono ?_
     rintro e w1 ⟨rfl, b1⟩
     rw [Hx.out]
     have B1 : Below (w.heap.size + 2) W0 w1 := (by ((with_reducible repeat' first | exact .refl _ _ | exact b1 | exact hB | refine .alloc ?_ ?_ _ | refine .setCell ?_ ?_ _ | refine .drew ?_ | refine below_drewN ?_ _ | refine Below.trans ?_ (b1.mono ?_) | refine Below.trans ?_ (hB.mono ?_)) <;> first | omega | simp <;> omega))
     have bb1 : Below w.heap.size w w1 := (by ((with_reducible repeat' first | exact .refl _ _ | exact b1 | exact b0 | refine .alloc ?_ ?_ _ | refine .setCell ?_ ?_ _ | refine .drew ?_ | refine below_drewN ?_ _ | refine Below.trans ?_ (b1.mono ?_) | refine Below.trans ?_ (b0.mono ?_)) <;> first | omega | simp <;> omega))
     by_cases hx0 : x = 0
     ·have d1 : (x != 0) = false := by rw [hx0]; rfl
      have Hn := hide (fun j (hj : j < 0 + 1) => (by
       rcases Nat.lt_or_ge j 0 with h | h
       ·exact Hz.out j h
       ·obtain rfl : j = 0 := by omega
        rw [Hx2.out]; exact hx0 : cK true ps a b j = 0))
      clear hx0
      go_wp2_with fail
      go_roundw
      case rel => exact ⟨0 + 1, by omega, by go_num, Hn, B1⟩
      case measure => simp [intOf]
     ·have d1 : (x != 0) = true := by rw [bne_iff_ne]; exact hx0
      have Hd := hide (Hat.out 0 x (by omega) Hz.out Hx2.out hx0)
      clear hx0
      go_wp2_with fail
      go_ret
      exact ⟨ret_bool Hd.out, bb1⟩
    ·have hq' : wr.cell? ⟨rb, 1, none⟩ = some (.func (.func 121) #[] #[.pointer (some ⟨sb, 0, none⟩)]) := hq
     clear hq
     obtain ⟨x, hx⟩ : ∃ x, cmpC ps a b = x := ⟨_, rfl⟩
     have hx2 : cK true ps a b 1 = x := hx
     have Hx2 := hide hx2
     have Hx := hide hx
     clear hx hx2
     have Y0 := (hao (.func (.func 121) #[] #[.pointer (some ⟨sb, 0, none⟩)]) w.heap.size 0 (by omega)).trans y0
     have Y1 := (hao (.func (.func 121) #[] #[.pointer (some ⟨sb, 0, none⟩)]) w.heap.size 1 (by omega)).trans y1
     have Y2 := (hao (.func (.func 121) #[] #[.pointer (some ⟨sb, 0, none⟩)]) w.heap.size 2 (by omega)).trans y2
     have X0 := (hao (.func (.func 121) #[] #[.pointer (some ⟨sb, 0, none⟩)]) (w.heap.size + 1) 0 (by omega)).trans x0
     have X1 := (hao (.func (.func 121) #[] #[.pointer (some ⟨sb, 0, none⟩)]) (w.heap.size + 1) 1 (by omega)).trans x1
     have X2 := (hao (.func (.func 121) #[] #[.pointer (some ⟨sb, 0, none⟩)]) (w.heap.size + 1) 2 (by omega)).trans x2
     clear y0 y1 y2 x0 x1 x2 hao
     go_wp2_with fail
     refine (rule1_any sb r f lo tm _ ps _ a _ b _ (HR.out _ (by ((with_reducible repeat' first | exact .refl _ _ | exact b0 | refine .alloc ?_ ?_ _ | refine .setCell ?_ ?_ _ | refine .drew ?_ | refine below_drewN ?_ _ | refine Below.trans ?_ (b0.mono ?_)) <;> first | omega | simp <;> omega))).2.2.2 (by first | omega | (simp; omega)) (HR.out _ (by ((with_reducible repeat' first | exact .refl _ _ | exact b0 | refine .alloc ?_ ?_ _ | refine .setCell ?_ ?_ _ | refine .drew ?_ | refine below_drewN ?_ _ | refine Below.trans ?_ (b0.mono ?_)) <;> first | omega | simp <;> omega))).1 (HR.out _ (by ((with_reducible repeat' first | exact .refl _ _ | exact b0 | refine .alloc ?_ ?_ _ | refine .setCell ?_ ?_ _ | refine .drew ?_ | refine below_drewN ?_ _ | refine Below.trans ?_ (b0.mono ?_)) <;> first | omega | simp <;> omega))).2.1 (HR.out _ (by ((with_reducible repeat' first | exact .refl _ _ | exact b0 | refine .alloc ?_ ?_ _ | refine .setCell ?_ ?_ _ | refine .drew ?_ | refine below_drewN ?_ _ | refine Below.trans ?_ (b0.mono ?_)) <;> first | omega | simp <;> omega))).2.2.1 Ca.out Cb.out).mono ?_
     rintro e w1 ⟨rfl, b1⟩
     rw [Hx.out]
     have B1 : Below (w.heap.size + 2) W0 w1 := (by ((with_reducible repeat' first | exact .refl _ _ | exact b1 | exact hB | refine .alloc ?_ ?_ _ | refine .setCell ?_ ?_ _ | refine .drew ?_ | refine below_drewN ?_ _ | refine Below.trans ?_ (b1.mono ?_) | refine Below.trans ?_ (hB.mono ?_)) <;> first | omega | simp <;> omega))
     have bb1 : Below w.heap.size w w1 := (by ((with_reducible repeat' first | exact .refl _ _ | exact b1 | exact b0 | refine .alloc ?_ ?_ _ | refine .setCell ?_ ?_ _ | refine .drew ?_ | refine below_drewN ?_ _ | refine Below.trans ?_ (b1.mono ?_) | refine Below.trans ?_ (b0.mono ?_)) <;> first | omega | simp <;> omega))
     by_cases hx0 : x = 0
     ·have d1 : (x != 0) = false := by rw [hx0]; rfl
      have Hn := hide (fun j (hj : j < 1 + 1) => (by
       rcases Nat.lt_or_ge j 1 with h | h
       ·exact Hz.out j h
       ·obtain rfl : j = 1 := by omega
        rw [Hx2.out]; exact hx0 : cK true ps a b j = 0))
      clear hx0
      go_wp2_with fail
      go_roundw
      case rel => exact ⟨1 + 1, by omega, by go_num, Hn, B1⟩
      case measure => simp [intOf]
     ·have d1 : (x != 0) = true := by rw [bne_iff_ne]; exact hx0
      have Hd := hide (Hat.out 1 x (by omega) Hz.out Hx2.out hx0)
      clear hx0
      go_wp2_with fail
      go_ret
      exact ⟨ret_bool Hd.out, bb1⟩
    ·have hq' : wr.cell? ⟨rb, 2, none⟩ = some (.func (.func 125) #[] #[]) := hq
     clear hq
     obtain ⟨x, hx⟩ : ∃ x, c3 a b = x := ⟨_, rfl⟩
     have hx2 : cK true ps a b 2 = x := hx
     have Hx2 := hide hx2
     have Hx := hide hx
     clear hx hx2
     have Y0 := (hao (.func (.func 125) #[] #[]) w.heap.size 0 (by omega)).trans y0
     have Y1 := (hao (.func (.func 125) #[] #[]) w.heap.size 1 (by omega)).trans y1
     have Y2 := (hao (.func (.func 125) #[] #[]) w.heap.size 2 (by omega)).trans y2
     have X0 := (hao (.func (.func 125) #[] #[]) (w.heap.size + 1) 0 (by omega)).trans x0
     have X1 := (hao (.func (.func 125) #[] #[]) (w.heap.size + 1) 1 (by omega)).trans x1
     have X2 := (hao (.func (.func 125) #[] #[]) (w.heap.size + 1) 2 (by omega)).trans x2
     clear y0 y1 y2 x0 x1 x2 hao
     go_wp2_with fail
     refine (rule3_any _ a _ b _ (HR.out _ (by ((with_reducible repeat' first | exact .refl _ _ | exact b0 | refine .alloc ?_ ?_ _ | refine .setCell ?_ ?_ _ | refine .drew ?_ | refine below_drewN ?_ _ | refine Below.trans ?_ (b0.mono ?_)) <;> first | omega | simp <;> omega))).2.1 (HR.out _ (by ((with_reducible repeat' first | exact .refl _ _ | exact b0 | refine .alloc ?_ ?_ _ | refine .setCell ?_ ?_ _ | refine .drew ?_ | refine below_drewN ?_ _ | refine Below.trans ?_ (b0.mono ?_)) <;> first | omega | simp <;> omega))).2.2.1).mono ?_
     rintro e w1 ⟨rfl, b1⟩
     rw [Hx.out]
     have B1 : Below (w.heap.size + 2) W0 w1 := (by ((with_reducible repeat' first | exact .refl _ _ | exact b1 | exact hB | refine .alloc ?_ ?_ _ | refine .setCell ?_ ?_ _ | refine .drew ?_ | refine below_drewN ?_ _ | refine Below.trans ?_ (b1.mono ?_) | refine Below.trans ?_ (hB.mono ?_)) <;> first | omega | simp <;> omega))
     have bb1 : Below w.heap.size w w1 := (by ((with_reducible repeat' first | exact .refl _ _ | exact b1 | exact b0 | refine .alloc ?_ ?_ _ | refine .setCell ?_ ?_ _ | refine .drew ?_ | refine below_drewN ?_ _ | refine Below.trans ?_ (b1.mono ?_) | refine Below.trans ?_ (b0.mono ?_)) <;> first | omega | simp <;> omega))
     by_cases hx0 : x = 0
     ·have d1 : (x != 0) = false := by rw [hx0]; rfl
      have Hn := hide (fun j (hj : j < 2 + 1) => (by
       rcases Nat.lt_or_ge j 2 with h | h
       ·exact Hz.out j h
       ·obtain rfl : j = 2 := by omega
        rw [Hx2.out]; exact hx0 : cK true ps a b j = 0))
      clear hx0
      go_wp2_with fail
      go_roundw
      case rel => exact ⟨2 + 1, by omega, by go_num, Hn, B1⟩
      case measure => simp [intOf]
     ·have d1 : (x != 0) = true := by rw [bne_iff_ne]; exact hx0
      have Hd := hide (Hat.out 2 x (by omega) Hz.out Hx2.out hx0)
      clear hx0
      go_wp2_with fail
      go_ret
      exact ⟨ret_bool Hd.out, bb1⟩
    ·have hq' : wr.cell? ⟨rb, 3, none⟩ = some (.func (.func 126) #[] #[]) := hq
     clear hq
     obtain ⟨x, hx⟩ : ∃ x, c4 a b = x := ⟨_, rfl⟩
     have hx2 : cK true ps a b 3 = x := hx
     have Hx2 := hide hx2
     have Hx := hide hx
     clear hx hx2
     have Y0 := (hao (.func (.func 126) #[] #[]) w.heap.size 0 (by omega)).trans y0
     have Y1 := (hao (.func (.func 126) #[] #[]) w.heap.size 1 (by omega)).trans y1
     have Y2 := (hao (.func (.func 126) #[] #[]) w.heap.size 2 (by omega)).trans y2
     have X0 := (hao (.func (.func 126) #[] #[]) (w.heap.size + 1) 0 (by omega)).trans x0
     have X1 := (hao (.func (.func 126) #[] #[]) (w.heap.size + 1) 1 (by omega)).trans x1
     have X2 := (hao (.func (.func 126) #[] #[]) (w.heap.size + 1) 2 (by omega)).trans x2
     clear y0 y1 y2 x0 x1 x2 hao
     go_wp2_with fail
     refine (rule4_any _ a _ b _ (HR.out _ (by ((with_reducible repeat' first | exact .refl _ _ | exact b0 | refine .alloc ?_ ?_ _ | refine .setCell ?_ ?_ _ | refine .drew ?_ | refine below_drewN ?_ _ | refine Below.trans ?_ (b0.mono ?_)) <;> first | omega | simp <;> omega))).2.1 (HR.out _ (by ((with_reducible repeat' first | exact .refl _ _ | exact b0 | refine .alloc ?_ ?_ _ | refine .setCell ?_ ?_ _ | refine .drew ?_ | refine below_drewN ?_ _ | refine Below.trans ?_ (b0.mono ?_)) <;> first | omega | simp <;> omega))).2.2.1).mono ?_
     rintro e w1 ⟨rfl, b1⟩
     rw [Hx.out]
     have B1 : Below (w.heap.size + 2) W0 w1 := (by ((with_reducible repeat' first | exact .refl _ _ | exact b1 | exact hB | refine .alloc ?_ ?_ _ | refine .setCell ?_ ?_ _ | refine .drew ?_ | refine below_drewN ?_ _ | refine Below.trans ?_ (b1.mono ?_) | refine Below.trans ?_ (hB.mono ?_)) <;> first | omega | simp <;> omega))
     have bb1 : Below w.heap.size w w1 := (by ((with_reducible repeat' first | exact .refl _ _ | exact b1 | exact b0 | refine .alloc ?_ ?_ _ | refine .setCell ?_ ?_ _ | refine .drew ?_ | refine below_drewN ?_ _ | refine Below.trans ?_ (b1.mono ?_) | refine Below.trans ?_ (b0.mono ?_)) <;> first | omega | simp <;> omega))
     by_cases hx0 : x = 0
     ·have d1 : (x != 0) = false := by rw [hx0]; rfl
      have Hn := hide (fun j (hj : j < 3 + 1) => (by
       rcases Nat.lt_or_ge j 3 with h | h
       ·exact Hz.out j h
       ·obtain rfl : j = 3 := by omega
        rw [Hx2.out]; exact hx0 : cK true ps a b j = 0))
      clear hx0
      go_wp2_with fail
      go_roundw
      case rel => exact ⟨3 + 1, by omega, by go_num, Hn, B1⟩
      case measure => simp [intOf]
     ·have d1 : (x != 0) = true := by rw [bne_iff_ne]; exact hx0
      have Hd := hide (Hat.out 3 x (by omega) Hz.out Hx2.out hx0)
      clear hx0
      go_wp2_with fail
      go_ret
      exact ⟨ret_bool Hd.out, bb1⟩
    ·have hq' : wr.cell? ⟨rb, 4, none⟩ = some (.func (.func 128) #[] #[]) := hq
     clear hq
     obtain ⟨x, hx⟩ : ∃ x, c5 a b = x := ⟨_, rfl⟩
     have hx2 : cK true ps a b 4 = x := hx
     have Hx2 := hide hx2
     have Hx := hide hx
     clear hx hx2
     have Y0 := (hao (.func (.func 128) #[] #[]) w.heap.size 0 (by omega)).trans y0
     have Y1 := (hao (.func (.func 128) #[] #[]) w.heap.size 1 (by omega)).trans y1
     have Y2 := (hao (.func (.func 128) #[] #[]) w.heap.size 2 (by omega)).trans y2
     have X0 := (hao (.func (.func 128) #[] #[]) (w.heap.size + 1) 0 (by omega)).trans x0
     have X1 := (hao (.func (.func 128) #[] #[]) (w.heap.size + 1) 1 (by omega)).trans x1
     have X2 := (hao (.func (.func 128) #[] #[]) (w.heap.size + 1) 2 (by omega)).trans x2
     clear y0 y1 y2 x0 x1 x2 hao
     go_wp2_with fail
     refine (rule5_any _ a _ b _).mono ?_
     rintro e w1 ⟨rfl, b1⟩
     rw [Hx.out]
     have B1 : Below (w.heap.size + 2) W0 w1 := (by ((with_reducible repeat' first | exact .refl _ _ | exact b1 | exact hB | refine .alloc ?_ ?_ _ | refine .setCell ?_ ?_ _ | refine .drew ?_ | refine below_drewN ?_ _ | refine Below.trans ?_ (b1.mono ?_) | refine Below.trans ?_ (hB.mono ?_)) <;> first | omega | simp <;> omega))
     have bb1 : Below w.heap.size w w1 := (by ((with_reducible repeat' first | exact .refl _ _ | exact b1 | exact b0 | refine .alloc ?_ ?_ _ | refine .setCell ?_ ?_ _ | refine .drew ?_ | refine below_drewN ?_ _ | refine Below.trans ?_ (b1.mono ?_) | refine Below.trans ?_ (b0.mono ?_)) <;> first | omega | simp <;> omega))
     by_cases hx0 : x = 0
     ·have d1 : (x != 0) = false := by rw [hx0]; rfl
      have Hn := hide (fun j (hj : j < 4 + 1) => (by
       rcases Nat.lt_or_ge j 4 with h | h
       ·exact Hz.out j h
       ·obtain rfl : j = 4 := by omega
        rw [Hx2.out]; exact hx0 : cK true ps a b j = 0))
      clear hx0
      go_wp2_with fail
      go_roundw
      case rel => exact ⟨4 + 1, by omega, by go_num, Hn, B1⟩
      case measure => simp [intOf]
     ·have d1 : (x != 0) = true := by rw [bne_iff_ne]; exact hx0
      have Hd := hide (Hat.out 4 x (by omega) Hz.out Hx2.out hx0)
      clear hx0
      go_wp2_with fail
      go_ret
      exact ⟨ret_bool Hd.out, bb1⟩
  ·obtain rfl : k = 5 := by omega
   have Hf := hide (Hno.out Hz.out)
   go_wp2_with fail
   go_ret
   exact ⟨ret_bool Hf.out.symm, b0⟩
end Go.Proofs.YtigjljmhpkeahaaGreat
