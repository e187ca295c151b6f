
/- Parts PlK PlM PlN PlO PlQ of the proof, joined. -/
import Derived.Test.YtigjljmhpkeahaaGreatGi
import Derived.Test.YtigjljmhpkeahaaGreatGl
import Derived.Deep.RegionHeld3
import Derived.Test.YtigjljmhpkeahaaGreatGj
import Derived.Test.YtigjljmhpkeahaaGreatGk
import Derived.Test.YtigjljmhpkeahaaGreatGg
import Derived.OwnWalk
import Derived.Deep.DeepCutAuto
import Derived.Test.YtigjljmhpkeahaaGreatGc
import Derived.Test.YtigjljmhpkeahaaGreatGe
/- Package plan: Best. -/
namespace Go.Proofs.YtigjljmhpkeahaaGreat
open Go.RowKit

theorem ckE_zero {s : Si} {pl : List Int} (h : ckE s pl = 0) : siB s = true ∧ prdB s.tm pl = true ∧ s.ps.length ≤ 10 ∧ 1 ≤ pl.length ∧ pl.length ≤ 10 := by
 unfold ckE at h
 split at h
 ·rename_i h1
  split at h
  ·have h2 := h1.2
   unfold prdB at h2
   rw [Bool.and_eq_true, decide_eq_true_eq] at h2
   exact ⟨h1.1, h1.2, by assumption, h2.2.1, h2.2.2⟩
  ·omega
 ·omega
theorem rules_at (w : World) (r f lo tm : Int) (pv : Value) {w' : World} (h : w' = (w.alloc (.cells #[.int .i64 r, .int .i64 f, .int .i64 lo, .int .i64 tm, pv] 24)).alloc (.cells #[.func (.func 121) #[] #[.pointer (some ⟨w.heap.size, 0, none⟩)], .func (.func 123) #[] #[], .func (.func 125) #[] #[], .func (.func 126) #[] #[], .func (.func 128) #[] #[]] 154)) :
  StAt w' w.heap.size r f lo tm pv ∧ RlAt w' (w.heap.size + 1) false w.heap.size ∧ w'.heap.size = w.heap.size + 2 ∧ Below w.heap.size w w' := by
 subst h
 refine ⟨⟨?_, ?_, ?_, ?_, ?_⟩, ?_, by simp, by ((with_reducible repeat' first | exact .refl _ _ | refine .alloc ?_ ?_ _ | refine .setCell ?_ ?_ _ | refine .drew ?_ | refine below_drewN ?_ _) <;> first | omega | simp <;> omega)⟩
 ·simp
 ·simp
 ·simp
 ·simp
 ·simp
 ·intro k hk
  rcases (by omega : k = 0 ∨ k = 1 ∨ k = 2 ∨ k = 3 ∨ k = 4) with rfl | rfl | rfl | rfl | rfl <;> simp [rlC, go_sem]
theorem size_drew (W : World) : W.drew.heap.size = W.heap.size := rfl
theorem isrow_set {W : World} {v : Value} {l : List Int} (h : IsRow W v l) (p : Addr) (u : Value) (hb : 0 < l.length → ∀ q, v.ownBlock = some q → q ≠ p.block) : IsRow (W.setCell p u) v l := by
 obtain ⟨a, cap, rfl, h1, h2, h3⟩ := h
 refine ⟨a, cap, rfl, h1, h2, fun i hi => ?_⟩
 obtain ⟨b, off, rfl, h4, h5⟩ := h3 i hi
 refine ⟨b, off, rfl, by simpa [World.setCell] using h4, set_other _ h5 fun e => hb (by omega) b rfl (by rw [← e])⟩
end Go.Proofs.YtigjljmhpkeahaaGreat
/- The reference's small functions of chapter 30, and those of the laws: Use, lists, Same, in, three. -/
namespace Go.Proofs.YtigjljmhpkeahaaGreat
open Go.RowKit

set_option maxRecDepth 100000 in
set_option maxHeartbeats 1000000 in
theorem Use_any (m n : Nat) (hm : m < 9223372036854775808) (hn : n ≤ 63) (w : World) :
  Calls Tryz.prog 160 #[.int .i64 (m : Int), .int .i64 (n : Int)] w fun e w' => ∃ ov, e = .returned ov ∧ OwnIs w' w.heap.size ov (mkL m n) ∧ Below w.heap.size w w' := by
 obtain ⟨i0, hi, hz0, hz1, hz2⟩ := info_parts infoIs
 go_enter Tryz.func160, Tryz.ntmps160
 go_wp2
 go_loopw [5, 6] (fun out i wr => ∃ k : Nat, k ≤ n ∧ i = .int .i64 k ∧ OwnIs wr w.heap.size out (mkL m k) ∧ Below w.heap.size w wr) (fun _ i _ => n - (intOf i).toNat)
 case atStart => exact ⟨0, Nat.zero_le _, rfl, OwnIs.nil _ _, Below.refl _ _⟩
 case round =>
  obtain ⟨k, hk, rfl, hown, hB⟩ := hrel
  obtain ⟨oa, ocap, hov, hc1, hc2⟩ := hown.val
  have hlen := mkL_len m k
  have hz := hB.size
  have hmk : mkL m (k + 1) = if m / 2 ^ k % 2 = 1 then mkL m k ++ [(k : Int)] else mkL m k := rfl
  have Hmk := hide hmk
  have hown' := hown
  unfold OwnIs at hown'
  have hlow := World.ownsRow.lt hown'
  subst hov
  clear hmk
  by_cases hlt : k < n
  ·have hb := bits_one m k hm
   have hmin : min k 64 = k := by omega
   have I1 : (0 : Int) ≤ (k : Int) := by omega
   by_cases hbit : m / 2 ^ k % 2 = 1
   ·rw [hbit] at hb
    have Hbit := hide hbit
    clear hbit
    go_wp2_with (at_builtin; refine wpList_append_own _ rfl _ _ 25 rfl w.heap.size 3 i0 (.int .i64 0) 1 8 Tryz.underlying25 hi hz0 hz1 hz2 rfl (by decide) _ _ (encI (mkL m k)) rfl (World.ownsRow.alloc hown' _) ⟨wr.heap.size, 0, none⟩ 1 1 [.int .i64 k] rfl rfl (cells_new wr [.int .i64 k] _) (by simp [Value.oneCell']) (by unfold maxLen; omega) (by omega) (by simp; omega) ?_; intro v3 w3 hown3 hg3 _; obtain ⟨a3, cap3, rfl⟩ := ownsRow_val hown3)
    go_roundw
    case rel => exact ⟨k + 1, by omega, by go_num, by rw [Hmk.out, if_pos Hbit.out]; exact OwnIs.app hown3, ((hB.alloc (by omega) _).grown hg3 (by simp; omega) (fun r h => (hlow r h).1))⟩
    case measure => simp [intOf]; omega
   ·have hb0 : m / 2 ^ k % 2 = 0 := by omega
    rw [hb0] at hb
    have Hbit := hide hbit
    clear hbit hb0
    go_wp2_with fail
    go_roundw
    case rel => exact ⟨k + 1, by omega, by go_num, by rw [Hmk.out, if_neg Hbit.out]; exact hown, hB⟩
    case measure => simp [intOf]; omega
  ·obtain rfl : k = n := by omega
   go_wp2
   go_ret
   exact ⟨_, rfl, hown, hB⟩
end Go.Proofs.YtigjljmhpkeahaaGreat
/- The reference's Same and Periods, the laws' usable. -/
namespace Go.Proofs.YtigjljmhpkeahaaGreat
open Go.RowKit

set_option maxRecDepth 100000 in
set_option maxHeartbeats 1000000 in
theorem RPeriods_any (r f lo tm : Int) (pv v : Value) (pl : List Int) (w : World) (hv : IsRow w v pl) :
  Calls Tryz.prog 112 #[.agg #[.int .i64 r, .int .i64 f, .int .i64 lo, .int .i64 tm, pv], v] w fun e w' => e = .returned (.bool (prdB tm pl)) ∧ Below w.heap.size w w' := by
 obtain ⟨a, cap, rfl, q1, q2, q3⟩ := hv
 have Q3 := hide q3
 clear q3
 obtain ⟨R, hR⟩ : ∃ R, R = prdB tm pl := ⟨_, rfl⟩
 rw [← hR]
 have HR := hide hR
 clear hR
 obtain ⟨W0, hW0⟩ : ∃ W : World, W = w.alloc (.cells #[.int .i64 r, .int .i64 f, .int .i64 lo, .int .i64 tm, pv] 24) := ⟨_, rfl⟩
 have bW : Below w.heap.size w W0 := by rw [hW0]; ((with_reducible repeat' first | exact .refl _ _ | refine .alloc ?_ ?_ _ | refine .setCell ?_ ?_ _ | refine .drew ?_ | refine below_drewN ?_ _) <;> first | omega | simp <;> omega)
 have hs : W0.cell? ⟨w.heap.size, 3, none⟩ = some (.int .i64 tm) := by rw [hW0]; simp
 go_enter Tryz.func112, Tryz.ntmps112
 go_upto_region 1 with fail
 rw [← hW0]
 clear hW0
 go_wp2_with fail
 go_loopw [5] (fun s5 wr => ∃ k n : Nat, k ≤ pl.length ∧ s5 = .int .i64 k ∧ Hid (perB tm pl k = true) ∧ Hid (wr = W0.drewN n)) (fun s5 _ => pl.length - (intOf s5).toNat)
 case atStart => exact ⟨0, 0, Nat.zero_le _, rfl, hide rfl, hide rfl⟩
 case round =>
  obtain ⟨k, n, hk, rfl, Hp, Hn⟩ := hrel
  have hbr : Below w.heap.size w wr := by rw [Hn.out]; exact below_drewN bW n
  have Hbr := hide hbr
  clear hbr
  by_cases hlt : k < pl.length
  ·obtain ⟨b, off, rfl, h4, h5⟩ := Q3.out k hlt
   have g5 : wr.cell? ⟨b, off + k, none⟩ = some (.int .i64 (iAt pl k)) := ((bk Hbr.out b h4).1 _).trans h5
   have gs : wr.cell? ⟨w.heap.size, 3, none⟩ = some (.int .i64 tm) := by rw [Hn.out, World.cell?_drewN]; exact hs
   have hnx : perB tm pl (k + 1) = decide ((if k = 0 then tm else iAt pl (k - 1)) < iAt pl k ∧ 1 ≤ iAt pl k ∧ iAt pl k ≤ 1000000000000) := by rw [perB, Hp.out]; rfl
   have hfa : ¬ ((if k = 0 then tm else iAt pl (k - 1)) < iAt pl k ∧ 1 ≤ iAt pl k ∧ iAt pl k ≤ 1000000000000) → R = false := fun h => by
    rw [HR.out]; unfold prdB; rw [perB_false (k := k) h _ hlt]; rfl
   have I1 : (0 : Int) ≤ (k : Int) := by omega
   have I2 : (k : Int) < (pl.length : Int) := by omega
   by_cases k2 : iAt pl k < 1
   ·have Hf := hide (hfa (by omega))
    clear hnx hfa h5
    generalize iAt pl k = y at *
    go_wp2_with fail
    go_quiet (fail)
    go_wp2_with fail
    go_ret
    exact ⟨ret_bool Hf.out.symm, below_drewN Hbr.out _⟩
   ·by_cases k3 : 1000000000000 < iAt pl k
    ·have Hf := hide (hfa (by omega))
     clear hnx hfa h5
     generalize iAt pl k = y at *
     have e1 : decide (y < 1) = false := decide_eq_false k2
     go_wp2_with fail
     go_quiet (fail)
     go_wp2_with fail
     go_ret
     exact ⟨ret_bool Hf.out.symm, below_drewN Hbr.out _⟩
    ·by_cases k4 : iAt pl k ≤ tm
     ·have Hf : Hid (R = false) := by
       by_cases hk0 : k = 0
       ·exact hide (hfa (by rw [if_pos hk0]; omega))
       ·have hperk := (perB_iff tm pl k).1 Hp.out
        refine hide (hfa ?_)
        rw [if_neg hk0]
        have h0 := hperk 0 (by omega)
        rw [if_pos rfl] at h0
        have hmono : ∀ j, j < k → tm < iAt pl j := by
         intro j hj
         induction j with
         | zero => exact h0.1
         | succ j ih =>
          have := (hperk (j + 1) hj).1
          rw [if_neg (by omega), Nat.add_sub_cancel] at this
          have := ih (by omega)
          omega
        have := hmono (k - 1) (by omega)
        omega
      clear hnx hfa h5
      generalize iAt pl k = y at *
      have e1 : decide (y < 1) = false := decide_eq_false k2
      have e2 : decide (1000000000000 < y) = false := decide_eq_false k3
      go_wp2_with fail
      go_quiet (fail)
      go_wp2_with fail
      go_ret
      exact ⟨ret_bool Hf.out.symm, below_drewN Hbr.out _⟩
     ·by_cases hk0 : k = 0
      ·have Hx : Hid (perB tm pl (k + 1) = true) := hide (by rw [hnx, if_pos hk0]; exact decide_eq_true (by omega))
       have e3 : decide ((0 : Int) < (k : Int)) = false := decide_eq_false (by omega)
       have e3n : decide (0 < k) = false := decide_eq_false (by omega)
       have Hk0 := hide hk0
       clear hnx hfa h5 hk0
       generalize iAt pl k = y at *
       have e1 : decide (y < 1) = false := decide_eq_false k2
       have e2 : decide (1000000000000 < y) = false := decide_eq_false k3
       have e4 : decide (y ≤ tm) = false := decide_eq_false k4
       go_wp2_with fail
       go_quiet (fail)
       go_wp2_with fail
       go_roundw
       case rel => exact ⟨k + 1, n + nq, by omega, by go_num, Hx, hide (by rw [Hn.out, World.drewN_drewN])⟩
       case measure => simp [intOf]; omega
      ·obtain ⟨b2, off2, hbo, h6, h7⟩ := Q3.out (k - 1) (by omega)
       cases hbo
       obtain ⟨m, hm⟩ : ∃ m, m = k - 1 := ⟨_, rfl⟩
       have g7 : wr.cell? ⟨b, off + m, none⟩ = some (.int .i64 (iAt pl m)) := by rw [hm]; exact ((bk Hbr.out b h4).1 _).trans h7
       have ww : IntKind.i64.wrap ((k : Int) - 1) = (m : Int) := by rw [IntWalk.i64_in _ (by omega)]; omega
       have e3 : decide ((0 : Int) < (k : Int)) = true := decide_eq_true (by omega)
       have e3n : decide (0 < k) = true := decide_eq_true (by omega)
       have I3 : (0 : Int) ≤ (m : Int) := by omega
       have I4 : (m : Int) < (pl.length : Int) := by omega
       rw [if_neg hk0, ← hm] at hnx hfa
       have Hk0 := hide (And.intro hk0 hm)
       clear h5 h7 hk0 hm
       by_cases k5 : iAt pl k ≤ iAt pl m
       ·have Hf := hide (hfa (by omega))
        clear hnx hfa
        generalize iAt pl k = y at *
        generalize iAt pl m = z at *
        have e1 : decide (y < 1) = false := decide_eq_false k2
        have e2 : decide (1000000000000 < y) = false := decide_eq_false k3
        have e4 : decide (y ≤ tm) = false := decide_eq_false k4
        have e5 : decide (y ≤ z) = true := decide_eq_true k5
        go_wp2_with fail
        go_quiet (fail)
        go_wp2_with fail
        go_ret
        exact ⟨ret_bool Hf.out.symm, below_drewN Hbr.out _⟩
       ·have Hx : Hid (perB tm pl (k + 1) = true) := hide (by rw [hnx]; exact decide_eq_true (by omega))
        clear hnx hfa
        generalize iAt pl k = y at *
        generalize iAt pl m = z at *
        have e1 : decide (y < 1) = false := decide_eq_false k2
        have e2 : decide (1000000000000 < y) = false := decide_eq_false k3
        have e4 : decide (y ≤ tm) = false := decide_eq_false k4
        have e5 : decide (y ≤ z) = false := decide_eq_false k5
        go_wp2_with fail
        go_quiet (fail)
        go_wp2_with fail
        go_roundw
        case rel => exact ⟨k + 1, n + nq, by omega, by go_num, Hx, hide (by rw [Hn.out, World.drewN_drewN])⟩
        case measure => simp [intOf]; omega
  ·obtain rfl : k = pl.length := by omega
   have hR : R = decide (1 ≤ pl.length ∧ pl.length ≤ 10) := by rw [HR.out]; unfold prdB; rw [Hp.out, Bool.true_and]
   have HR2 := hide hR
   clear hR
   by_cases k1 : 1 ≤ pl.length
   ·have d1 : decide ((1 : Int) ≤ (pl.length : Int)) = true := decide_eq_true (by omega)
    by_cases k2 : pl.length ≤ 10
    ·have d2 : decide ((pl.length : Int) ≤ 10) = true := decide_eq_true (by omega)
     have Hr := hide (show R = true by rw [HR2.out]; exact decide_eq_true ⟨k1, k2⟩)
     clear k1 k2
     go_wp2_with fail
     go_ret
     exact ⟨ret_bool Hr.out.symm, Hbr.out⟩
    ·have d2 : decide ((pl.length : Int) ≤ 10) = false := decide_eq_false (by omega)
     have Hr := hide (show R = false by rw [HR2.out]; exact decide_eq_false (by omega))
     clear k1 k2
     go_wp2_with fail
     go_ret
     exact ⟨ret_bool Hr.out.symm, Hbr.out⟩
   ·have d1 : decide ((1 : Int) ≤ (pl.length : Int)) = false := decide_eq_false (by omega)
    have Hr := hide (show R = false by rw [HR2.out]; exact decide_eq_false (by omega))
    clear k1
    go_wp2_with fail
    go_ret
    exact ⟨ret_bool Hr.out.symm, Hbr.out⟩
end Go.Proofs.YtigjljmhpkeahaaGreat
/- Package plan: Narrow. -/
namespace Go.Proofs.YtigjljmhpkeahaaGreat
open Go.RowKit

theorem rules_raw (w : World) (r f lo tm : Int) (pv : Value) {w' : World} (h : w' = (w.alloc (.cells #[.int .i64 r, .int .i64 f, .int .i64 lo, .int .i64 tm, pv] 24)).alloc (.cells #[.func (.func 121) #[] #[.pointer (some ⟨w.heap.size, 0, none⟩)], .func (.func 123) #[] #[], .func (.func 125) #[] #[], .func (.func 126) #[] #[], .func (.func 128) #[] #[]] 154)) :
  w'.cell? ⟨w.heap.size + 1, 0, none⟩ = some (.func (.func 121) #[] #[.pointer (some ⟨w.heap.size, 0, none⟩)]) ∧ w'.cell? ⟨w.heap.size + 1, 1, none⟩ = some (.func (.func 123) #[] #[]) ∧ w'.frozen? ⟨w.heap.size + 1, 0, none⟩ = false ∧ w'.frozen? ⟨w.heap.size + 1, 1, none⟩ = false := by
 subst h
 refine ⟨?_, ?_, ?_, ?_⟩ <;> simp [go_sem]
theorem rl_swap {W : World} {rb sb : Nat} (h : RlAt W rb false sb) : RlAt ((W.setCell ⟨rb, 0, none⟩ (.func (.func 123) #[] #[])).setCell ⟨rb, 1, none⟩ (.func (.func 121) #[] #[.pointer (some ⟨sb, 0, none⟩)])).drew rb true sb := by
 intro k hk
 have h0 := h 0 (by omega)
 have h1 := h 1 (by omega)
 rcases (by omega : k = 0 ∨ k = 1 ∨ k = 2 ∨ k = 3 ∨ k = 4) with rfl | rfl | rfl | rfl | rfl
 ·exact set_other _ (set_same _ h0) (by intro h; simp at h)
 ·exact set_same _ (set_other _ h1 (by intro h; simp at h))
 ·exact set_other _ (set_other _ (h 2 (by omega)) (by intro h; simp at h)) (by intro h; simp at h)
 ·exact set_other _ (set_other _ (h 3 (by omega)) (by intro h; simp at h)) (by intro h; simp at h)
 ·exact set_other _ (set_other _ (h 4 (by omega)) (by intro h; simp at h)) (by intro h; simp at h)
theorem st_swap {W : World} {rb sb : Nat} {r f lo tm : Int} {pv u v : Value} (h : StAt W sb r f lo tm pv) (hn : sb ≠ rb) : StAt ((W.setCell ⟨rb, 0, none⟩ u).setCell ⟨rb, 1, none⟩ v).drew sb r f lo tm pv := by
 have hc : ∀ o x, W.cell? ⟨sb, o, none⟩ = some x → ((W.setCell ⟨rb, 0, none⟩ u).setCell ⟨rb, 1, none⟩ v).drew.cell? ⟨sb, o, none⟩ = some x := fun o x hx => set_other _ (set_other _ hx (by intro h; cases h; exact hn rfl)) (by intro h; cases h; exact hn rfl)
 exact ⟨hc _ _ h.1, hc _ _ h.2.1, hc _ _ h.2.2.1, hc _ _ h.2.2.2.1, hc _ _ h.2.2.2.2⟩
set_option maxRecDepth 100000 in
set_option maxHeartbeats 1600000 in
theorem plN_any (r f lo tm : Int) (pv : Value) (ps : List Pr) (v : Value) (pl : List Int) (w : World) (hp : PrRow w pv ps) (hv : IsRow w v pl) :
  Calls Tryz.prog 61 #[.agg #[.int .i64 r, .int .i64 f, .int .i64 lo, .int .i64 tm, pv], v] w fun e w' => ∃ uv, e = .returned (.tuple #[.agg #[uv, .int .i64 (accO (nwO ⟨r, f, lo, tm, ps⟩ pl)).ev], .int .i64 (accO (nwO ⟨r, f, lo, tm, ps⟩ pl)).wd, .int .i64 (nwE ⟨r, f, lo, tm, ps⟩ pl)]) ∧
   IsRow w' uv (accO (nwO ⟨r, f, lo, tm, ps⟩ pl)).use ∧ (∀ q, uv.ownBlock = some q → w.heap.size ≤ q) ∧ Below w.heap.size w w' := by
 have hR : ∀ W : World, Below w.heap.size w W → PrRow W pv ps ∧ IsRow W v pl := fun W hW => ⟨hp.below (Nat.le_refl _) hW, hv.below (Nat.le_refl _) hW⟩
 have HR := hide hR
 obtain ⟨pa, pc, rfl, pq1, pq2⟩ := hp.len
 obtain ⟨va, vc, rfl, vq1, vq2, -⟩ := id hv
 obtain ⟨W0, hW0⟩ : ∃ W : World, W = (w.alloc (.cells #[.int .i64 r, .int .i64 f, .int .i64 lo, .int .i64 tm, .slice pa ps.length pc] 24)).alloc (.cells #[.slice none 0 0, .int .i64 0] 27) := ⟨_, rfl⟩
 have zW : W0.heap.size = w.heap.size + 2 := by rw [hW0]; simp
 have bW : Below w.heap.size w W0 := by rw [hW0]; ((with_reducible repeat' first | exact .refl _ _ | refine .alloc ?_ ?_ _ | refine .setCell ?_ ?_ _ | refine .drew ?_ | refine below_drewN ?_ _) <;> first | omega | simp <;> omega)
 have hS : ∀ W : World, Below (w.heap.size + 2) W0 W → W.cell? ⟨w.heap.size, 0, none⟩ = some (.int .i64 r) ∧ W.cell? ⟨w.heap.size, 1, none⟩ = some (.int .i64 f) ∧ W.cell? ⟨w.heap.size, 2, none⟩ = some (.int .i64 lo) ∧ W.cell? ⟨w.heap.size, 3, none⟩ = some (.int .i64 tm) ∧ W.cell? ⟨w.heap.size, 4, none⟩ = some (.slice pa ps.length pc) ∧
   W.cell? ⟨w.heap.size + 1, 0, none⟩ = some (.slice none 0 0) ∧ W.cell? ⟨w.heap.size + 1, 1, none⟩ = some (.int .i64 0) ∧ W.frozen? ⟨w.heap.size + 1, 0, none⟩ = false ∧ W.frozen? ⟨w.heap.size + 1, 1, none⟩ = false ∧ Below w.heap.size w W ∧ w.heap.size + 2 ≤ W.heap.size := by
  intro W hW
  obtain ⟨y0, y1, y2, y3, y4, v0, v1, f0, f1⟩ : W0.cell? ⟨w.heap.size, 0, none⟩ = some (.int .i64 r) ∧ W0.cell? ⟨w.heap.size, 1, none⟩ = some (.int .i64 f) ∧ W0.cell? ⟨w.heap.size, 2, none⟩ = some (.int .i64 lo) ∧ W0.cell? ⟨w.heap.size, 3, none⟩ = some (.int .i64 tm) ∧ W0.cell? ⟨w.heap.size, 4, none⟩ = some (.slice pa ps.length pc) ∧ W0.cell? ⟨w.heap.size + 1, 0, none⟩ = some (.slice none 0 0) ∧ W0.cell? ⟨w.heap.size + 1, 1, none⟩ = some (.int .i64 0) ∧ W0.frozen? ⟨w.heap.size + 1, 0, none⟩ = false ∧ W0.frozen? ⟨w.heap.size + 1, 1, none⟩ = false := by
   rw [hW0]; refine ⟨?_, ?_, ?_, ?_, ?_, ?_, ?_, ?_, ?_⟩ <;> simp [go_sem]
  have h0 := (bk hW w.heap.size (by omega)).1
  have h1 := (bk hW (w.heap.size + 1) (by omega)).1
  have h2 := (bk hW (w.heap.size + 1) (by omega)).2
  exact ⟨(h0 _).trans y0, (h0 _).trans y1, (h0 _).trans y2, (h0 _).trans y3, (h0 _).trans y4, (h1 _).trans v0, (h1 _).trans v1, (h2 _).trans f0, (h2 _).trans f1, bW.trans (hW.mono (by omega)), by have := hW.size; omega⟩
 have HS := hide hS
 clear hR hS hp hv
 obtain ⟨E, hE⟩ : ∃ E, E = ckE ⟨r, f, lo, tm, ps⟩ pl := ⟨_, rfl⟩
 by_cases hE0 : E = 0
 ·subst hE0
  obtain ⟨-, -, hl, -, hpl⟩ := ckE_zero hE.symm
  have hbo : nwO ⟨r, f, lo, tm, ps⟩ pl = bstO true ⟨r, f, lo, tm, ps⟩ pl 9223372036854775807 := by unfold nwO; rw [← hE]; rfl
  have hbe : nwE ⟨r, f, lo, tm, ps⟩ pl = if (bstO true ⟨r, f, lo, tm, ps⟩ pl 9223372036854775807).isSome then 0 else 20 := by unfold nwE; rw [← hE, hbo]; rfl
  rw [hbo, hbe]
  simp only at hl
  have hK := fun (W : World) sb rb (h : Below w.heap.size w W) (hs : StAt W sb r f lo tm (.slice pa ps.length pc)) (hr : RlAt W rb true sb) (h1 : sb < W.heap.size) (h2 : rb < W.heap.size) => plBest_any true r f lo tm _ ps _ pl 9223372036854775807 sb rb W (HR.out _ h).1 (HR.out _ h).2 hl hpl hs h1 hr h2
  generalize bstO true ⟨r, f, lo, tm, ps⟩ pl 9223372036854775807 = res at *
  cases hS : res.isSome with
  | false =>
   have hacc : accO res = of0 := by cases res with | none => rfl | some x => simp at hS
   rw [if_neg (by simp)]
   rw [hacc]
   simp only [hS] at hK
   clear hacc
   have HK := hide hK
   have HE := hide hE
   clear hbe hbo hE hK hl hpl
   go_enter Tryz.func61, Tryz.ntmps61
   go_upto_region 1 with fail
   rw [← hW0]
   clear hW0
   obtain ⟨y0, y1, y2, y3, y4, v0, v1, f0, f1, b0, z0⟩ := HS.out W0 (Below.refl _ _)
   go_wp2_with fail
   refine (plCheck_any r f lo tm _ ps _ pl _ (HR.out _ b0).1 (HR.out _ b0).2).mono ?_
   rintro e w1 ⟨rfl, c1⟩
   rw [← HE.out]
   have B1 : Below (w.heap.size + 2) W0 w1 := (by ((with_reducible repeat' first | exact .refl _ _ | exact c1 | refine .alloc ?_ ?_ _ | refine .setCell ?_ ?_ _ | refine .drew ?_ | refine below_drewN ?_ _ | refine Below.trans ?_ (c1.mono ?_)) <;> first | omega | simp <;> omega))
   clear y0 y1 y2 y3 y4 v0 v1 f0 f1 b0 z0
   obtain ⟨y0, y1, y2, y3, y4, v0, v1, f0, f1, b1, z1⟩ := HS.out w1 B1
   go_wp2_with fail
   refine (rules_any r f lo tm _ _).mono ?_
   rintro e w2 ⟨rfl, hw2⟩
   obtain ⟨s1, s2, s3, b2⟩ := rules_at _ r f lo tm _ hw2
   obtain ⟨g0, g1, gf0, gf1⟩ := rules_raw _ r f lo tm _ hw2
   have z1' : w.heap.size + 2 ≤ w1.heap.size := z1
   have B2 : Below (w.heap.size + 2) W0 w2 := (by ((with_reducible repeat' first | exact .refl _ _ | exact b2 | exact B1 | refine .alloc ?_ ?_ _ | refine .setCell ?_ ?_ _ | refine .drew ?_ | refine below_drewN ?_ _ | refine Below.trans ?_ (b2.mono ?_) | refine Below.trans ?_ (B1.mono ?_)) <;> first | omega | simp <;> omega))
   clear hw2 y0 y1 y2 y3 y4 v0 v1 f0 f1 b1
   obtain ⟨sb, hsb⟩ : ∃ sb, sb = w1.heap.size := ⟨_, rfl⟩
   obtain ⟨rb, hrb⟩ : ∃ rb, rb = w1.heap.size + 1 := ⟨_, rfl⟩
   rw [← hrb, ← hsb] at s2
   rw [← hsb] at s1
   rw [← hrb, ← hsb] at g0
   rw [← hrb] at g1 gf0 gf1
   have e1 : w.heap.size + 2 ≤ sb := by omega
   have e2 : sb < rb := by omega
   have e3 : rb < w2.heap.size := by omega
   have S1 := hide s1
   have S2 := hide s2
   rw [← hrb]
   clear s1 s2 s3 hrb hsb z1 z1'
   obtain ⟨y0, y1, y2, y3, y4, v0, v1, f0, f1, b2', z2⟩ := HS.out w2 B2
   go_wp2_with fail
   go_region
   obtain ⟨V, hV⟩ : ∃ V : World, V = ((w2.setCell ⟨rb, 0, none⟩ (.func (.func 123) #[] #[])).setCell ⟨rb, 1, none⟩ (.func (.func 121) #[] #[.pointer (some ⟨sb, 0, none⟩)])).drew := ⟨_, rfl⟩
   have t1 : RlAt V rb true sb := by rw [hV]; exact rl_swap S2.out
   have t2 : StAt V sb r f lo tm (.slice pa ps.length pc) := by rw [hV]; exact st_swap S1.out (by omega)
   have B3 : Below (w.heap.size + 2) W0 V := by rw [hV]; exact ((B2.setCell (p := ⟨rb, 0, none⟩) (by show _ ≤ rb; omega) _).setCell (p := ⟨rb, 1, none⟩) (by show _ ≤ rb; omega) _).drew
   have zV : V.heap.size = w2.heap.size := by rw [hV]; simp [World.setCell, World.drew]
   rw [← hV]
   have zv1 : sb < V.heap.size := by omega
   have zv2 : rb < V.heap.size := by omega
   clear hV g0 g1 gf0 gf1 S1 S2 y0 y1 y2 y3 y4 v0 v1 f0 f1 b2' z2 b2 B2 zV e3
   obtain ⟨y0, y1, y2, y3, y4, v0, v1, f0, f1, b3, z3⟩ := HS.out V B3
   go_wp2_with fail
   refine (HK.out V sb rb b3 t2 t1 zv1 zv2).mono ?_
   rintro e w3 ⟨uv, rfl, hrow, hown, c3⟩
   obtain ⟨ua, uc, huv, -⟩ := id hrow
   subst huv
   have B4 : Below (w.heap.size + 2) W0 w3 := (by ((with_reducible repeat' first | exact .refl _ _ | exact c3 | exact B3 | refine .alloc ?_ ?_ _ | refine .setCell ?_ ?_ _ | refine .drew ?_ | refine below_drewN ?_ _ | refine Below.trans ?_ (c3.mono ?_) | refine Below.trans ?_ (B3.mono ?_)) <;> first | omega | simp <;> omega))
   have hown' : ∀ q, (Value.slice ua (accO res).use.length uc).ownBlock = some q → w.heap.size + 2 ≤ q := fun q hq => by have := hown q hq; omega
   have Hrow := hide hrow
   have Hown := hide hown'
   clear hrow hown hown' y0 y1 y2 y3 y4 v0 v1 f0 f1 t1 t2
   obtain ⟨y0, y1, y2, y3, y4, v0, v1, f0, f1, b4, z4⟩ := HS.out w3 B4
   have za : w.heap.size < w3.heap.size := by omega
   have zb : w.heap.size + 1 < w3.heap.size := by omega
   go_wp2_with fail
   have dz : w.heap.size + 1 < ((w3.setCell ⟨w.heap.size + 1, 0, none⟩ (.slice none 0 0)).setCell ⟨w.heap.size + 1, 1, none⟩ (.int .i64 0)).heap.size := by simpa [World.setCell] using zb
   have d0 : (((w3.setCell ⟨w.heap.size + 1, 0, none⟩ (.slice none 0 0)).setCell ⟨w.heap.size + 1, 1, none⟩ (.int .i64 0)).alloc (.cells #[.slice ua (accO res).use.length uc, .int .i64 (accO res).ev, .int .i64 (accO res).wd] 114)).cell? ⟨w.heap.size + 1, 0, none⟩ = some (.slice none 0 0) := (World.cell?_alloc_lt _ _ _ dz).trans (set_other _ (set_same _ v0) (by intro h; simp at h))
   have d1 : (((w3.setCell ⟨w.heap.size + 1, 0, none⟩ (.slice none 0 0)).setCell ⟨w.heap.size + 1, 1, none⟩ (.int .i64 0)).alloc (.cells #[.slice ua (accO res).use.length uc, .int .i64 (accO res).ev, .int .i64 (accO res).wd] 114)).cell? ⟨w.heap.size + 1, 1, none⟩ = some (.int .i64 0) := (World.cell?_alloc_lt _ _ _ dz).trans (set_same _ (set_other _ v1 (by intro h; simp at h)))
   exact bodyPost_ret (v := .tuple #[.agg #[.slice none 0 0, .int .i64 0], .int .i64 0, .int .i64 20]) (by simp [results, Tryz.results61, go_sem, d0, d1]) rfl ⟨_, rfl, IsRow.nil _, fun q hq => by simp [Value.ownBlock] at hq, (by ((with_reducible repeat' first | exact .refl _ _ | exact b4 | refine .alloc ?_ ?_ _ | refine .setCell ?_ ?_ _ | refine .drew ?_ | refine below_drewN ?_ _ | refine Below.trans ?_ (b4.mono ?_)) <;> first | omega | simp <;> omega))⟩
  | true =>
   rw [if_pos rfl]
   simp only [hS] at hK
   have HK := hide hK
   have HE := hide hE
   clear hbe hbo hE hK hl hpl
   go_enter Tryz.func61, Tryz.ntmps61
   go_upto_region 1 with fail
   rw [← hW0]
   clear hW0
   obtain ⟨y0, y1, y2, y3, y4, v0, v1, f0, f1, b0, z0⟩ := HS.out W0 (Below.refl _ _)
   go_wp2_with fail
   refine (plCheck_any r f lo tm _ ps _ pl _ (HR.out _ b0).1 (HR.out _ b0).2).mono ?_
   rintro e w1 ⟨rfl, c1⟩
   rw [← HE.out]
   have B1 : Below (w.heap.size + 2) W0 w1 := (by ((with_reducible repeat' first | exact .refl _ _ | exact c1 | refine .alloc ?_ ?_ _ | refine .setCell ?_ ?_ _ | refine .drew ?_ | refine below_drewN ?_ _ | refine Below.trans ?_ (c1.mono ?_)) <;> first | omega | simp <;> omega))
   clear y0 y1 y2 y3 y4 v0 v1 f0 f1 b0 z0
   obtain ⟨y0, y1, y2, y3, y4, v0, v1, f0, f1, b1, z1⟩ := HS.out w1 B1
   go_wp2_with fail
   refine (rules_any r f lo tm _ _).mono ?_
   rintro e w2 ⟨rfl, hw2⟩
   obtain ⟨s1, s2, s3, b2⟩ := rules_at _ r f lo tm _ hw2
   obtain ⟨g0, g1, gf0, gf1⟩ := rules_raw _ r f lo tm _ hw2
   have z1' : w.heap.size + 2 ≤ w1.heap.size := z1
   have B2 : Below (w.heap.size + 2) W0 w2 := (by ((with_reducible repeat' first | exact .refl _ _ | exact b2 | exact B1 | refine .alloc ?_ ?_ _ | refine .setCell ?_ ?_ _ | refine .drew ?_ | refine below_drewN ?_ _ | refine Below.trans ?_ (b2.mono ?_) | refine Below.trans ?_ (B1.mono ?_)) <;> first | omega | simp <;> omega))
   clear hw2 y0 y1 y2 y3 y4 v0 v1 f0 f1 b1
   obtain ⟨sb, hsb⟩ : ∃ sb, sb = w1.heap.size := ⟨_, rfl⟩
   obtain ⟨rb, hrb⟩ : ∃ rb, rb = w1.heap.size + 1 := ⟨_, rfl⟩
   rw [← hrb, ← hsb] at s2
   rw [← hsb] at s1
   rw [← hrb, ← hsb] at g0
   rw [← hrb] at g1 gf0 gf1
   have e1 : w.heap.size + 2 ≤ sb := by omega
   have e2 : sb < rb := by omega
   have e3 : rb < w2.heap.size := by omega
   have S1 := hide s1
   have S2 := hide s2
   rw [← hrb]
   clear s1 s2 s3 hrb hsb z1 z1'
   obtain ⟨y0, y1, y2, y3, y4, v0, v1, f0, f1, b2', z2⟩ := HS.out w2 B2
   go_wp2_with fail
   go_region
   obtain ⟨V, hV⟩ : ∃ V : World, V = ((w2.setCell ⟨rb, 0, none⟩ (.func (.func 123) #[] #[])).setCell ⟨rb, 1, none⟩ (.func (.func 121) #[] #[.pointer (some ⟨sb, 0, none⟩)])).drew := ⟨_, rfl⟩
   have t1 : RlAt V rb true sb := by rw [hV]; exact rl_swap S2.out
   have t2 : StAt V sb r f lo tm (.slice pa ps.length pc) := by rw [hV]; exact st_swap S1.out (by omega)
   have B3 : Below (w.heap.size + 2) W0 V := by rw [hV]; exact ((B2.setCell (p := ⟨rb, 0, none⟩) (by show _ ≤ rb; omega) _).setCell (p := ⟨rb, 1, none⟩) (by show _ ≤ rb; omega) _).drew
   have zV : V.heap.size = w2.heap.size := by rw [hV]; simp [World.setCell, World.drew]
   rw [← hV]
   have zv1 : sb < V.heap.size := by omega
   have zv2 : rb < V.heap.size := by omega
   clear hV g0 g1 gf0 gf1 S1 S2 y0 y1 y2 y3 y4 v0 v1 f0 f1 b2' z2 b2 B2 zV e3
   obtain ⟨y0, y1, y2, y3, y4, v0, v1, f0, f1, b3, z3⟩ := HS.out V B3
   go_wp2_with fail
   refine (HK.out V sb rb b3 t2 t1 zv1 zv2).mono ?_
   rintro e w3 ⟨uv, rfl, hrow, hown, c3⟩
   obtain ⟨ua, uc, huv, -⟩ := id hrow
   subst huv
   have B4 : Below (w.heap.size + 2) W0 w3 := (by ((with_reducible repeat' first | exact .refl _ _ | exact c3 | exact B3 | refine .alloc ?_ ?_ _ | refine .setCell ?_ ?_ _ | refine .drew ?_ | refine below_drewN ?_ _ | refine Below.trans ?_ (c3.mono ?_) | refine Below.trans ?_ (B3.mono ?_)) <;> first | omega | simp <;> omega))
   have hown' : ∀ q, (Value.slice ua (accO res).use.length uc).ownBlock = some q → w.heap.size + 2 ≤ q := fun q hq => by have := hown q hq; omega
   have Hrow := hide hrow
   have Hown := hide hown'
   clear hrow hown hown' y0 y1 y2 y3 y4 v0 v1 f0 f1 t1 t2
   obtain ⟨y0, y1, y2, y3, y4, v0, v1, f0, f1, b4, z4⟩ := HS.out w3 B4
   have za : w.heap.size < w3.heap.size := by omega
   have zb : w.heap.size + 1 < w3.heap.size := by omega
   go_wp2_with fail
   go_region
   go_wp2_with fail
   have Hn : ∀ q, (Value.slice ua (accO res).use.length uc).ownBlock = some q → q ≠ w.heap.size + 1 := fun q hq e => by have := Hown.out q hq; omega
   have dz : w.heap.size + 1 < ((w3.setCell ⟨w.heap.size + 1, 0, none⟩ (.slice ua (accO res).use.length uc)).setCell ⟨w.heap.size + 1, 1, none⟩ (.int .i64 (accO res).ev)).heap.size := by simpa [World.setCell] using zb
   have d0 : (((w3.setCell ⟨w.heap.size + 1, 0, none⟩ (.slice ua (accO res).use.length uc)).setCell ⟨w.heap.size + 1, 1, none⟩ (.int .i64 (accO res).ev)).alloc (.cells #[.slice ua (accO res).use.length uc, .int .i64 (accO res).ev, .int .i64 (accO res).wd] 114)).drew.cell? ⟨w.heap.size + 1, 0, none⟩ = some (.slice ua (accO res).use.length uc) := (World.cell?_alloc_lt _ _ _ dz).trans (set_other _ (set_same _ v0) (by intro h; simp at h))
   have d1 : (((w3.setCell ⟨w.heap.size + 1, 0, none⟩ (.slice ua (accO res).use.length uc)).setCell ⟨w.heap.size + 1, 1, none⟩ (.int .i64 (accO res).ev)).alloc (.cells #[.slice ua (accO res).use.length uc, .int .i64 (accO res).ev, .int .i64 (accO res).wd] 114)).drew.cell? ⟨w.heap.size + 1, 1, none⟩ = some (.int .i64 (accO res).ev) := (World.cell?_alloc_lt _ _ _ dz).trans (set_same _ (set_other _ v1 (by intro h; simp at h)))
   exact bodyPost_ret (v := .tuple #[.agg #[.slice ua (accO res).use.length uc, .int .i64 (accO res).ev], .int .i64 (accO res).wd, .int .i64 0]) (by simp [results, Tryz.results61, go_sem, d0, d1]) rfl ⟨_, rfl, IsRow.below (w := (w3.setCell ⟨w.heap.size + 1, 0, none⟩ (.slice ua (accO res).use.length uc)).setCell ⟨w.heap.size + 1, 1, none⟩ (.int .i64 (accO res).ev)) (isrow_set (isrow_set Hrow.out _ _ fun _ => Hn) _ _ fun _ => Hn) (Nat.le_refl _) (by ((with_reducible repeat' first | exact .refl _ _ | refine .alloc ?_ ?_ _ | refine .setCell ?_ ?_ _ | refine .drew ?_ | refine below_drewN ?_ _) <;> first | omega | simp <;> omega)), fun q hq => by have := Hown.out q hq; omega, (by ((with_reducible repeat' first | exact .refl _ _ | exact b4 | refine .alloc ?_ ?_ _ | refine .setCell ?_ ?_ _ | refine .drew ?_ | refine below_drewN ?_ _ | refine Below.trans ?_ (b4.mono ?_)) <;> first | omega | simp <;> omega))⟩
 ·have hbo : nwO ⟨r, f, lo, tm, ps⟩ pl = none := by unfold nwO; rw [← hE, if_neg hE0]
  have hbe : nwE ⟨r, f, lo, tm, ps⟩ pl = E := by unfold nwE; rw [← hE, if_neg hE0]
  rw [hbo, hbe]
  have HE := hide hE
  have hEn : (E != 0) = true := by rw [bne_iff_ne]; exact hE0
  clear hbe hbo hE hE0
  go_enter Tryz.func61, Tryz.ntmps61
  go_upto_region 1 with fail
  rw [← hW0]
  clear hW0
  obtain ⟨y0, y1, y2, y3, y4, v0, v1, f0, f1, b0, z0⟩ := HS.out W0 (Below.refl _ _)
  go_wp2_with fail
  refine (plCheck_any r f lo tm _ ps _ pl _ (HR.out _ b0).1 (HR.out _ b0).2).mono ?_
  rintro e w1 ⟨rfl, c1⟩
  rw [← HE.out]
  have B1 : Below (w.heap.size + 2) W0 w1 := (by ((with_reducible repeat' first | exact .refl _ _ | exact c1 | refine .alloc ?_ ?_ _ | refine .setCell ?_ ?_ _ | refine .drew ?_ | refine below_drewN ?_ _ | refine Below.trans ?_ (c1.mono ?_)) <;> first | omega | simp <;> omega))
  clear y0 y1 y2 y3 y4 v0 v1 f0 f1 b0 z0
  obtain ⟨y0, y1, y2, y3, y4, v0, v1, f0, f1, b1, z1⟩ := HS.out w1 B1
  go_wp2_with fail
  have d0 : ((w1.setCell ⟨w.heap.size + 1, 0, none⟩ (.slice none 0 0)).setCell ⟨w.heap.size + 1, 1, none⟩ (.int .i64 0)).cell? ⟨w.heap.size + 1, 0, none⟩ = some (.slice none 0 0) := set_other _ (set_same _ v0) (by intro h; simp at h)
  have d1 : ((w1.setCell ⟨w.heap.size + 1, 0, none⟩ (.slice none 0 0)).setCell ⟨w.heap.size + 1, 1, none⟩ (.int .i64 0)).cell? ⟨w.heap.size + 1, 1, none⟩ = some (.int .i64 0) := set_same _ (set_other _ v1 (by intro h; simp at h))
  exact bodyPost_ret (v := .tuple #[.agg #[.slice none 0 0, .int .i64 0], .int .i64 0, .int .i64 E]) (by simp [results, Tryz.results61, go_sem, d0, d1]) rfl ⟨_, rfl, IsRow.nil _, fun q hq => by simp [Value.ownBlock] at hq, (by ((with_reducible repeat' first | exact .refl _ _ | exact b1 | refine .alloc ?_ ?_ _ | refine .setCell ?_ ?_ _ | refine .drew ?_ | refine below_drewN ?_ _ | refine Below.trans ?_ (b1.mono ?_)) <;> first | omega | simp <;> omega))⟩
end Go.Proofs.YtigjljmhpkeahaaGreat
/- Plain laws of plans: the best one of the offers. -/
namespace Go.Proofs.YtigjljmhpkeahaaGreat
open Lib (compareInt)

theorem cmpInt_lt (x y : Int) : compareInt x y < 0 ↔ x < y := by unfold compareInt; split <;> (try split) <;> constructor <;> intro _ <;> omega
theorem cmpInt_eq (x y : Int) : compareInt x y = 0 ↔ x = y := by unfold compareInt; split <;> (try split) <;> constructor <;> intro _ <;> omega
theorem cmpInt_le (x y : Int) : compareInt x y ≤ 0 ↔ x ≤ y := by unfold compareInt; split <;> (try split) <;> constructor <;> intro _ <;> omega
theorem cmpInt_gt (x y : Int) : 0 < compareInt x y ↔ y < x := by unfold compareInt; split <;> (try split) <;> constructor <;> intro _ <;> omega
theorem cross_trans {a b c x y z : Int} (hx : 0 < x) (hy : 0 < y) (hz : 0 < z) (h1 : a * y ≤ b * x) (h2 : b * z ≤ c * y) : a * z ≤ c * x := by
 have e1 : a * y * z ≤ b * x * z := Int.mul_le_mul_of_nonneg_right h1 (by omega)
 have e2 : b * z * x ≤ c * y * x := Int.mul_le_mul_of_nonneg_right h2 (by omega)
 have e3 : a * z * y = a * y * z := by rw [Int.mul_assoc, Int.mul_comm z y, ← Int.mul_assoc]
 have e4 : c * x * y = c * y * x := by rw [Int.mul_assoc, Int.mul_comm x y, ← Int.mul_assoc]
 have e5 : b * x * z = b * z * x := by rw [Int.mul_assoc, Int.mul_comm x z, ← Int.mul_assoc]
 exact Int.le_of_mul_le_mul_right (by omega : a * z * y ≤ c * x * y) hy
def OfV (o : Of) : Prop := 0 < o.ev
def LeX (nr : Bool) (ps : List Pr) (a b : Of) : Prop := c1 nr ps a b < 0 ∨ (c1 nr ps a b = 0 ∧ c2 nr ps a b ≤ 0)
theorem cmpC_trans {ps : List Pr} {a b c : Of} (ha : OfV a) (hb : OfV b) (hc : OfV c) (h1 : cmpC ps a b ≤ 0) (h2 : cmpC ps b c ≤ 0) : cmpC ps a c ≤ 0 := by
 unfold cmpC cmpS at *
 rw [cmpInt_le] at *
 exact cross_trans ha hb hc h1 h2
theorem cmpC_flip (ps : List Pr) (a b : Of) : (cmpC ps b a < 0 ↔ 0 < cmpC ps a b) ∧ (cmpC ps b a = 0 ↔ cmpC ps a b = 0) ∧ (cmpC ps b a ≤ 0 ↔ 0 ≤ cmpC ps a b) := by
 have h1 : cmpC ps b a < 0 ↔ 0 < cmpC ps a b := by unfold cmpC cmpS; rw [cmpInt_lt, cmpInt_gt]
 have h2 : cmpC ps b a = 0 ↔ cmpC ps a b = 0 := by unfold cmpC cmpS; rw [cmpInt_eq, cmpInt_eq]; exact eq_comm
 exact ⟨h1, h2, by omega⟩
theorem cmpW_trans {a b c : Of} (h1 : cmpW a b ≤ 0) (h2 : cmpW b c ≤ 0) : cmpW a c ≤ 0 := by
 unfold cmpW at *
 rw [cmpInt_le] at *
 omega
theorem cmpW_flip (a b : Of) : (cmpW b a < 0 ↔ 0 < cmpW a b) ∧ (cmpW b a = 0 ↔ cmpW a b = 0) ∧ (cmpW b a ≤ 0 ↔ 0 ≤ cmpW a b) := by
 have h1 : cmpW b a < 0 ↔ 0 < cmpW a b := by unfold cmpW; rw [cmpInt_lt, cmpInt_gt]
 have h2 : cmpW b a = 0 ↔ cmpW a b = 0 := by unfold cmpW; rw [cmpInt_eq, cmpInt_eq]; exact eq_comm
 exact ⟨h1, h2, by omega⟩
theorem c1_trans {nr : Bool} {ps : List Pr} {a b c : Of} (ha : OfV a) (hb : OfV b) (hc : OfV c) (h1 : c1 nr ps a b ≤ 0) (h2 : c1 nr ps b c ≤ 0) : c1 nr ps a c ≤ 0 := by
 cases nr
 ·exact cmpC_trans ha hb hc h1 h2
 ·exact cmpW_trans h1 h2
theorem c2_trans {nr : Bool} {ps : List Pr} {a b c : Of} (ha : OfV a) (hb : OfV b) (hc : OfV c) (h1 : c2 nr ps a b ≤ 0) (h2 : c2 nr ps b c ≤ 0) : c2 nr ps a c ≤ 0 := by
 cases nr
 ·exact cmpW_trans h1 h2
 ·exact cmpC_trans ha hb hc h1 h2
theorem c1_flip (nr : Bool) (ps : List Pr) (a b : Of) : (c1 nr ps b a < 0 ↔ 0 < c1 nr ps a b) ∧ (c1 nr ps b a = 0 ↔ c1 nr ps a b = 0) ∧ (c1 nr ps b a ≤ 0 ↔ 0 ≤ c1 nr ps a b) := by
 cases nr
 ·exact cmpC_flip ps a b
 ·exact cmpW_flip a b
theorem c2_flip (nr : Bool) (ps : List Pr) (a b : Of) : (c2 nr ps b a < 0 ↔ 0 < c2 nr ps a b) ∧ (c2 nr ps b a = 0 ↔ c2 nr ps a b = 0) ∧ (c2 nr ps b a ≤ 0 ↔ 0 ≤ c2 nr ps a b) := by
 cases nr
 ·exact cmpW_flip a b
 ·exact cmpC_flip ps a b
theorem LeX.refl (nr : Bool) (ps : List Pr) (a : Of) : LeX nr ps a a := by
 have h1 := c1_flip nr ps a a
 have h2 := c2_flip nr ps a a
 exact .inr ⟨by omega, by omega⟩
theorem LeX.trans {nr : Bool} {ps : List Pr} {a b c : Of} (ha : OfV a) (hb : OfV b) (hc : OfV c) (h1 : LeX nr ps a b) (h2 : LeX nr ps b c) : LeX nr ps a c := by
 have l1 : c1 nr ps a b ≤ 0 := by rcases h1 with h | h <;> omega
 have l2 : c1 nr ps b c ≤ 0 := by rcases h2 with h | h <;> omega
 have l3 := c1_trans ha hb hc l1 l2
 by_cases h0 : c1 nr ps a c < 0
 ·exact .inl h0
 ·have e0 : c1 nr ps a c = 0 := by omega
  have f1 := c1_flip nr ps a c
  have f2 := c1_flip nr ps a b
  have f3 := c1_flip nr ps b c
  have t1 := c1_trans (nr := nr) (ps := ps) hc ha hb (by omega) l1
  have t2 := c1_trans (nr := nr) (ps := ps) hb hc ha l2 (by omega)
  have e1 : c1 nr ps a b = 0 := by omega
  have e2 : c1 nr ps b c = 0 := by omega
  refine .inr ⟨e0, c2_trans ha hb hc ?_ ?_⟩
  ·rcases h1 with h | h
   ·omega
   ·exact h.2
  ·rcases h2 with h | h
   ·omega
   ·exact h.2
theorem btr_true {nr : Bool} {ps : List Pr} {a b : Of} (h : btr nr ps a b = true) : LeX nr ps a b := by
 unfold btr at h
 by_cases h1 : c1 nr ps a b ≠ 0
 ·rw [if_pos h1] at h
  exact .inl (of_decide_eq_true h)
 ·rw [if_neg h1] at h
  by_cases h2 : c2 nr ps a b ≠ 0
  ·rw [if_pos h2] at h
   have := of_decide_eq_true h
   exact .inr ⟨by omega, by omega⟩
  ·exact .inr ⟨by omega, by omega⟩
theorem btr_false {nr : Bool} {ps : List Pr} {a b : Of} (h : btr nr ps a b = false) : LeX nr ps b a := by
 have f1 := c1_flip nr ps a b
 have f2 := c2_flip nr ps a b
 unfold btr at h
 by_cases h1 : c1 nr ps a b ≠ 0
 ·rw [if_pos h1] at h
  have := of_decide_eq_false h
  exact .inl (by omega)
 ·rw [if_neg h1] at h
  by_cases h2 : c2 nr ps a b ≠ 0
  ·rw [if_pos h2] at h
   have := of_decide_eq_false h
   exact .inr ⟨by omega, by omega⟩
  ·exact .inr ⟨by omega, by omega⟩
def BsSpec (nr : Bool) (ps : List Pr) (most : Int) (l : List Of) : Option Of → Prop
 | none => ∀ o, o ∈ l → most < o.wd
 | some b => b ∈ l ∧ b.wd ≤ most ∧ ∀ o, o ∈ l → o.wd ≤ most → LeX nr ps b o
theorem bs_step {nr : Bool} {ps : List Pr} {most : Int} {d : List Of} {acc : Option Of} {x : Of} (hv : ∀ o, o ∈ d ++ [x] → OfV o) (h : BsSpec nr ps most d acc) : BsSpec nr ps most (d ++ [x]) (bstS nr ps most acc x) := by
 cases acc with
 | none =>
  simp only [bstS]
  split
  ·rename_i hx
   refine ⟨by simp, hx, fun o ho hle => ?_⟩
   rcases List.mem_append.1 ho with h1 | h1
   ·have := h o h1; omega
   ·rw [List.mem_singleton] at h1; subst h1; exact LeX.refl _ _ _
  ·rename_i hx
   intro o ho
   rcases List.mem_append.1 ho with h1 | h1
   ·exact h o h1
   ·rw [List.mem_singleton] at h1; subst h1; omega
 | some b =>
  obtain ⟨h1, h2, h3⟩ := h
  have hb : OfV b := hv b (by simp [h1])
  have hx : OfV x := hv x (by simp)
  simp only [bstS]
  split
  ·rename_i hc
   refine ⟨by simp, hc.1, fun o ho hle => ?_⟩
   rcases List.mem_append.1 ho with h4 | h4
   ·exact LeX.trans hx hb (hv o ho) (btr_true hc.2) (h3 o h4 hle)
   ·rw [List.mem_singleton] at h4; subst h4; exact LeX.refl _ _ _
  ·rename_i hc
   refine ⟨by simp [h1], h2, fun o ho hle => ?_⟩
   rcases List.mem_append.1 ho with h4 | h4
   ·exact h3 o h4 hle
   ·rw [List.mem_singleton] at h4
    subst h4
    exact btr_false (by cases hq : btr nr ps o b with | false => rfl | true => exact absurd ⟨hle, hq⟩ hc)
theorem bs_fold {nr : Bool} {ps : List Pr} {most : Int} : ∀ (l d : List Of) (acc : Option Of), (∀ o, o ∈ d ++ l → OfV o) → BsSpec nr ps most d acc → BsSpec nr ps most (d ++ l) (l.foldl (bstS nr ps most) acc)
 | [], d, acc, _, h => by simpa using h
 | x :: l, d, acc, hv, h => by
  have h2 := bs_fold l (d ++ [x]) (bstS nr ps most acc x) (by simpa using hv) (bs_step (fun o ho => hv o (by simp at ho ⊢; rcases ho with h | h <;> simp [h])) h)
  simpa using h2
theorem bst_spec {nr : Bool} {s : Si} {pl : List Int} {most : Int} (hv : ∀ o, o ∈ ofL s pl → OfV o) : BsSpec nr s.ps most (ofL s pl) (bstO nr s pl most) := by
 have := bs_fold (nr := nr) (ps := s.ps) (most := most) (ofL s pl) [] none (by simpa using hv) (fun o ho => by simp at ho)
 rw [List.nil_append] at this
 exact this
theorem ofL_mem (s : Si) (pl : List Int) (o : Of) : o ∈ ofL s pl ↔ ∃ m j, m < 2 ^ s.ps.length ∧ j < pl.length ∧ rgB s (mkL m s.ps.length) (iAt pl j) = true ∧ o = ⟨mkL m s.ps.length, iAt pl j, wdt s (mkL m s.ps.length) (iAt pl j)⟩ := ofTo_mem s pl _ o
theorem rg_ev {s : Si} {use : List Int} {ev : Int} (h : rgB s use ev = true) : 0 < ev := by
 obtain ⟨h2, h3, -⟩ := (rgB_iff _ _ _).1 h
 have := (siN_iff _).1 ((siB_iff _).1 h2).1
 omega
theorem ofL_v {s : Si} {pl : List Int} {o : Of} (h : o ∈ ofL s pl) : OfV o ∧ rgB s o.use o.ev = true ∧ o.wd = wdt s o.use o.ev ∧ o.ev ∈ pl := by
 obtain ⟨m, j, h1, h2, h3, rfl⟩ := (ofL_mem s pl o).1 h
 exact ⟨rg_ev h3, h3, rfl, iAt_mem h2⟩
theorem mkL_mod (m n : Nat) : ∀ k, k ≤ n → mkL (m % 2 ^ n) k = mkL m k
 | 0, _ => rfl
 | k + 1, hk => by
  have ih := mkL_mod m n k (by omega)
  have hb : m % 2 ^ n / 2 ^ k % 2 = m / 2 ^ k % 2 := by
   obtain ⟨d, rfl⟩ : ∃ d, n = k + (d + 1) := ⟨n - k - 1, by omega⟩
   rw [Nat.pow_add, Nat.mod_mul_right_div_self, Nat.pow_succ, Nat.mul_comm (2 ^ d) 2, Nat.mod_mul_right_mod]
  rw [mkL, mkL, ih, hb]
theorem ofL_of {s : Si} {pl : List Int} (m : Nat) {j : Nat} (hj : j < pl.length) (h : rgB s (mkL m s.ps.length) (iAt pl j) = true) : (⟨mkL m s.ps.length, iAt pl j, wdt s (mkL m s.ps.length) (iAt pl j)⟩ : Of) ∈ ofL s pl := by
 refine (ofL_mem s pl _).2 ⟨m % 2 ^ s.ps.length, j, Nat.mod_lt _ (Nat.two_pow_pos _), hj, ?_, ?_⟩ <;> rw [mkL_mod m _ _ (Nat.le_refl _)]
 exact h
theorem bst_some {nr : Bool} {s : Si} {pl : List Int} {x : Int} {b : Of} (h : bstO nr s pl x = some b) : b ∈ ofL s pl ∧ b.wd ≤ x ∧ ∀ o, o ∈ ofL s pl → o.wd ≤ x → LeX nr s.ps b o := by
 have := bst_spec (nr := nr) (s := s) (pl := pl) (most := x) (fun o ho => (ofL_v ho).1)
 rw [h] at this
 exact this
theorem bst_no {nr : Bool} {s : Si} {pl : List Int} {x : Int} (h : bstO nr s pl x = none) : ∀ o, o ∈ ofL s pl → x < o.wd := by
 have := bst_spec (nr := nr) (s := s) (pl := pl) (most := x) (fun o ho => (ofL_v ho).1)
 rw [h] at this
 exact this
theorem wdt_bd {s : Si} {use : List Int} {ev : Int} (h : rgB s use ev = true) : 0 ≤ wdt s use ev ∧ wdt s use ev ≤ 1004000000000010 := by
 have e1 : wdt s use ev = worst (wdL s.ps use) s.f s.lo + grw s.r (ev + s.tm) := by unfold wdt; rw [h]; rfl
 have h1 := worst_bd29 (rg_spOk h)
 have h2 := grw_bd (rg_elOk h)
 omega
end Go.Proofs.YtigjljmhpkeahaaGreat
