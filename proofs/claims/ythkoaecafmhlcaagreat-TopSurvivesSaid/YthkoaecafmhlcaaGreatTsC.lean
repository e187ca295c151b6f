/- Package versions: last, Valid, At. -/
import Derived.Test.YthkoaecafmhlcaaGreatTsB
import Derived.Test.YthkoaecafmhlcaaGreatJ05
import Derived.BigQuiet
import Derived.Sort.BigQuietIn
namespace Go.Proofs.YthkoaecafmhlcaaGreat
open Go.RowKit
attribute [local go_sem ↓] run_max_mx run_min_mn

theorem set4 {W : World} {n : Nat} {u0 u1 u2 u3 : Value} (h0 : W.cell? ⟨n, 0, none⟩ = some u0) (h1 : W.cell? ⟨n, 1, none⟩ = some u1) (h2 : W.cell? ⟨n, 2, none⟩ = some u2) (h3 : W.cell? ⟨n, 3, none⟩ = some u3) (v0 v1 v2 v3 : Value) :
  ((((W.setCell ⟨n, 0, none⟩ v0).setCell ⟨n, 1, none⟩ v1).setCell ⟨n, 2, none⟩ v2).setCell ⟨n, 3, none⟩ v3).cell? ⟨n, 0, none⟩ = some v0 ∧ ((((W.setCell ⟨n, 0, none⟩ v0).setCell ⟨n, 1, none⟩ v1).setCell ⟨n, 2, none⟩ v2).setCell ⟨n, 3, none⟩ v3).cell? ⟨n, 1, none⟩ = some v1 ∧
  ((((W.setCell ⟨n, 0, none⟩ v0).setCell ⟨n, 1, none⟩ v1).setCell ⟨n, 2, none⟩ v2).setCell ⟨n, 3, none⟩ v3).cell? ⟨n, 2, none⟩ = some v2 ∧ ((((W.setCell ⟨n, 0, none⟩ v0).setCell ⟨n, 1, none⟩ v1).setCell ⟨n, 2, none⟩ v2).setCell ⟨n, 3, none⟩ v3).cell? ⟨n, 3, none⟩ = some v3 := by
 have d := stores_at n [v0, v1, v2, v3] 0 W (fun j hj => by
  match j, hj with
  | 0, _ => exact ⟨_, h0⟩
  | 1, _ => exact ⟨_, h1⟩
  | 2, _ => exact ⟨_, h2⟩
  | 3, _ => exact ⟨_, h3⟩)
 exact ⟨d 0 _ rfl, d 1 _ rfl, d 2 _ rfl, d 3 _ rfl⟩
set_option maxRecDepth 100000 in
set_option maxHeartbeats 1000000 in
theorem last_any (sv : Value) (S : List Ver) (k t : Int) (w : World) (hv : VRow w sv S) (hS : SoV S) (hl : S.length ≤ 5000) :
  Calls Tryz.prog 46 #[sv, .int .i64 k, .int .i64 t] w fun e w' => e = .returned (valV (lastV S k t)) ∧ Below w.heap.size w w' := by
 have HC := hide (fun (V : World) (hV : Below w.heap.size w V) => upTo_any sv S k t V (hv.below (Nat.le_refl _) hV) hS hl)
 have HV := hide (fun (V : World) (hV : Below w.heap.size w V) => hv.below (Nat.le_refl _) hV)
 obtain ⟨a, cap, rfl, h1, h2, -⟩ := id hv
 have hle := upN_le S k t
 obtain ⟨n, hn⟩ : ∃ n, n = upN S k t := ⟨_, rfl⟩
 have hL : lastV S k t = if 0 < n ∧ (vAt S (n - 1)).key = k then vAt S (n - 1) else ver0 := by rw [hn]; rfl
 rw [hL]
 rw [← hn] at HC hle
 clear hv hS hn hL
 by_cases hp : 0 < n
 ·obtain ⟨m, rfl⟩ : ∃ m, n = m + 1 := ⟨n - 1, by omega⟩
  rw [Nat.add_sub_cancel]
  have I1 : (0 : Int) ≤ ((m + 1 : Nat) : Int) - 1 := by omega
  have I2 : ((m + 1 : Nat) : Int) - 1 < (S.length : Int) := by omega
  have d0 : decide ((0 : Int) < ((m + 1 : Nat) : Int)) = true := decide_eq_true (by omega)
  have wm : IntKind.i64.wrap (((m + 1 : Nat) : Int) - 1) = (m : Int) := by rw [show (((m + 1 : Nat) : Int) - 1) = (m : Int) by omega]; exact IntWalk.i64_in _ (by omega)
  have hW := fun (V : World) (hV : Below w.heap.size w V) => VRow.at_ (HV.out V hV) (i := m) (by omega)
  obtain ⟨⟨ek, et, ex, eg⟩, hev⟩ : ∃ v, v = vAt S m := ⟨_, rfl⟩
  rw [← hev] at hW ⊢
  have HW := hide hW
  clear hW hev
  dsimp only
  by_cases hk : ek = k
  ·subst hk
   rw [if_pos ⟨by omega, rfl⟩]
   go_enter Tryz.func46, Tryz.ntmps46
   go_wp2_with (go_at_call 82; (with_reducible refine (HC.out _ (by ((with_reducible repeat' first | exact .refl _ _ | refine .alloc ?_ ?_ _ | refine .setCell ?_ ?_ _ | refine .drew ?_ | refine below_drewN ?_ _) <;> first | omega | simp <;> omega))).mono ?_); rintro e w1 ⟨rfl, b1⟩; have B1 : Below w.heap.size w w1 := (by ((with_reducible repeat' first | exact .refl _ _ | exact b1 | refine .alloc ?_ ?_ _ | refine .setCell ?_ ?_ _ | refine .drew ?_ | refine below_drewN ?_ _ | refine Below.trans ?_ (b1.mono ?_)) <;> first | omega | simp <;> omega)); obtain ⟨b, off, cap', hb, hlt', x0, x1, x2, x3⟩ := HW.out w1 B1; cases hb; have zz := b1.size; have o6 := bk b1 w.heap.size (by simp))
   obtain ⟨s0, s1, s2, s3⟩ := set4 (u0 := .int .i64 0) (u1 := .int .i64 0) (u2 := .int .i64 0) (u3 := .bool false) ((o6.1 0).trans (by simp)) ((o6.1 1).trans (by simp)) ((o6.1 2).trans (by simp)) ((o6.1 3).trans (by simp)) (.int .i64 ek) (.int .i64 et) (.int .i64 ex) (.bool eg)
   refine bodyPost_ret (v := .agg #[.int .i64 ek, .int .i64 et, .int .i64 ex, .bool eg]) (by simp [results, Tryz.results46, go_sem, s0, s1, s2, s3]) rfl ⟨rfl, (by ((with_reducible repeat' first | exact .refl _ _ | exact b1 | refine .alloc ?_ ?_ _ | refine .setCell ?_ ?_ _ | refine .drew ?_ | refine below_drewN ?_ _ | refine Below.trans ?_ (b1.mono ?_)) <;> first | omega | simp <;> omega))⟩
  ·have dk : (ek == k) = false := by rw [beq_eq_false_iff_ne]; exact hk
   rw [if_neg (fun h => hk h.2)]
   go_enter Tryz.func46, Tryz.ntmps46
   go_wp2_with (go_at_call 82; (with_reducible refine (HC.out _ (by ((with_reducible repeat' first | exact .refl _ _ | refine .alloc ?_ ?_ _ | refine .setCell ?_ ?_ _ | refine .drew ?_ | refine below_drewN ?_ _) <;> first | omega | simp <;> omega))).mono ?_); rintro e w1 ⟨rfl, b1⟩; have B1 : Below w.heap.size w w1 := (by ((with_reducible repeat' first | exact .refl _ _ | exact b1 | refine .alloc ?_ ?_ _ | refine .setCell ?_ ?_ _ | refine .drew ?_ | refine below_drewN ?_ _ | refine Below.trans ?_ (b1.mono ?_)) <;> first | omega | simp <;> omega)); obtain ⟨b, off, cap', hb, hlt', x0, x1, x2, x3⟩ := HW.out w1 B1; cases hb; have zz := b1.size; have o6 := bk b1 w.heap.size (by simp))
   obtain ⟨s0, s1, s2, s3⟩ := set4 (u0 := .int .i64 0) (u1 := .int .i64 0) (u2 := .int .i64 0) (u3 := .bool false) ((o6.1 0).trans (by simp)) ((o6.1 1).trans (by simp)) ((o6.1 2).trans (by simp)) ((o6.1 3).trans (by simp)) (.int .i64 0) (.int .i64 0) (.int .i64 0) (.bool false)
   refine bodyPost_ret (v := .agg #[.int .i64 0, .int .i64 0, .int .i64 0, .bool false]) (by simp [results, Tryz.results46, go_sem, s0, s1, s2, s3]) rfl ⟨rfl, (by ((with_reducible repeat' first | exact .refl _ _ | exact b1 | refine .alloc ?_ ?_ _ | refine .setCell ?_ ?_ _ | refine .drew ?_ | refine below_drewN ?_ _ | refine Below.trans ?_ (b1.mono ?_)) <;> first | omega | simp <;> omega))⟩
 ·obtain rfl : n = 0 := by omega
  rw [if_neg (fun h => hp h.1)]
  go_enter Tryz.func46, Tryz.ntmps46
  go_wp2_with (go_at_call 82; (with_reducible refine (HC.out _ (by ((with_reducible repeat' first | exact .refl _ _ | refine .alloc ?_ ?_ _ | refine .setCell ?_ ?_ _ | refine .drew ?_ | refine below_drewN ?_ _) <;> first | omega | simp <;> omega))).mono ?_); rintro e w1 ⟨rfl, b1⟩; have zz := b1.size; have o6 := bk b1 w.heap.size (by simp))
  obtain ⟨s0, s1, s2, s3⟩ := set4 (u0 := .int .i64 0) (u1 := .int .i64 0) (u2 := .int .i64 0) (u3 := .bool false) ((o6.1 0).trans (by simp)) ((o6.1 1).trans (by simp)) ((o6.1 2).trans (by simp)) ((o6.1 3).trans (by simp)) (.int .i64 0) (.int .i64 0) (.int .i64 0) (.bool false)
  refine bodyPost_ret (v := .agg #[.int .i64 0, .int .i64 0, .int .i64 0, .bool false]) (by simp [results, Tryz.results46, go_sem, s0, s1, s2, s3]) rfl ⟨rfl, (by ((with_reducible repeat' first | exact .refl _ _ | exact b1 | refine .alloc ?_ ?_ _ | refine .setCell ?_ ?_ _ | refine .drew ?_ | refine below_drewN ?_ _ | refine Below.trans ?_ (b1.mono ?_)) <;> first | omega | simp <;> omega))⟩
end Go.Proofs.YthkoaecafmhlcaaGreat
