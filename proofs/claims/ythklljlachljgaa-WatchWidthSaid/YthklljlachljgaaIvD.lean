/- The reference's Cover: a list that rises, is apart, and has just the times of so great a depth. -/
import Derived.Test.YthklljlachljgaaIvO
namespace Go.Proofs.Ythklljlachljgaa
open Go.RowKit
attribute [local go_sem ↓] run_max_mx run_min_mn run_eql_iv run_neq_iv

set_option maxRecDepth 100000 in
set_option maxHeartbeats 400000 in
theorem Rafter_any (v : Value) (l : List Iv) (x : Int) (w : World) (hv : IvRow w v l) (hl : listB l = true) (_hx : -1 ≤ x) (_hx' : x ≤ 3000000000000000) :
    Calls Try.prog 53 #[v, .int .i64 x] w fun e w' => e = .returned (.int .i64 (aft l x l.length)) ∧ Below w.heap.size w w' := by
  obtain ⟨a, cap, rfl, h1, h2, h3⟩ := hv
  have hb := hide ((listB_iff l).1 hl).2
  clear hl
  go_enter Try.func53, Try.ntmps53
  go_wp2
  go_loopw [5, 6] (fun n i wr => ∃ k : Nat, k ≤ l.length ∧ i = .int .i64 k ∧ n = .int .i64 (aft l x k) ∧ Below w.heap.size w wr) (fun _ i _ => l.length - (intOf i).toNat)
  case atStart => exact ⟨0, Nat.zero_le _, rfl, rfl, Below.refl _ _⟩
  case round =>
    obtain ⟨k, hk, rfl, rfl, hB⟩ := hrel
    by_cases hlt : k < l.length
    · obtain ⟨b, off, rfl, h4, h5, h6⟩ := h3 k hlt
      have h5' := (hB.cell (p := ⟨b, off + k * 2, none⟩) h4).trans h5
      have h6' := (hB.cell (p := ⟨b, off + k * 2 + 1, none⟩) h4).trans h6
      obtain ⟨b1, b2, b3⟩ := hb.out k hlt
      clear h5 h6 h3
      by_cases q1 : iLo l k > x <;> by_cases q2 : iHi l k + 1 > x
      all_goals try (exfalso; omega)
      all_goals
        go_wp2
        go_roundw
        case rel => exact ⟨k + 1, by omega, by go_num, by simp only [aft, q1, q2, if_true, if_false], hB⟩
        case measure => simp [intOf]; omega
    · go_wp2
      go_ret
      exact ⟨ret_int (by rw [show k = l.length by omega]), hB⟩

theorem infoIv : (Try.prog.info? 23).map (fun i => (i.zero, i.size, i.bytes)) = some (some (.agg #[.int .i64 0, .int .i64 0]), 2, 16) := by kernel_rfl
def coverOk (l : List Iv) (need : Int) : Bool := listB l && decide (1 ≤ need ∧ need ≤ 64)
def coverEr (l : List Iv) (need : Int) : Int := if coverOk l need = true then 0 else 1
def CovOut (l : List Iv) (need : Int) (c : List Iv) : Prop := if coverOk l need = true then CovSpec l need c else c = []
theorem CovOut.unique {l : List Iv} {need : Int} {c d : List Iv} (hc : CovOut l need c) (hd : CovOut l need d) : c = d := by
  unfold CovOut at hc hd
  by_cases h : coverOk l need = true
  · rw [if_pos h] at hc hd; exact hc.unique hd
  · rw [if_neg h] at hc hd; rw [hc, hd]
/-- What both Covers return. -/
def CovPost (B : Nat) (w : World) (l : List Iv) (need : Int) (e : Ending) (w' : World) : Prop :=
  ∃ v c, e = .returned (.tuple #[v, .int .i64 (coverEr l need)]) ∧ OwnIv w' w.heap.size v c ∧ CovOut l need c ∧ Below B w w'

set_option maxRecDepth 100000 in
set_option maxHeartbeats 1000000 in
theorem RCover_any (v : Value) (l : List Iv) (need : Int) (w : World) (hv : IvRow w v l) :
    Calls Try.prog 49 #[v, .int .i64 need] w (CovPost w.heap.size w l need) := by
  have hv' := hv
  obtain ⟨a, cap, rfl, h1, h2, h3⟩ := hv
  clear h3
  by_cases hok : coverOk l need = true
  · have hfin : coverEr l need = 0 := by simp [coverEr, hok]
    have hfin2 : ∀ c, CovSpec l need c → CovOut l need c := fun c h => by unfold CovOut; rw [if_pos hok]; exact h
    simp only [coverOk, Bool.and_eq_true, decide_eq_true_eq] at hok
    obtain ⟨hl, hn1, hn2⟩ := hok
    have hl64 := ((listB_iff l).1 hl).1
    obtain ⟨i0, hi, hz0, hz1, hz2⟩ := info_parts infoIv
    have Hf := hide hfin; clear hfin
    have Hf2 := hide hfin2; clear hfin2
    go_enter Try.func49, Try.ntmps49
    go_wp2_with (go_at_call 52; refine (RList_any _ l _ hv').mono ?_; rintro e w0 ⟨rfl, hb0⟩)
    have Hl := hide hl; clear hl
    go_loopw [7, 8] (fun out x wr => ∃ (c : List Iv) (t : Int), x = .int .i64 t ∧ OwnIv wr w.heap.size out c ∧ 0 ≤ t ∧ t ≤ 3000000000000001 ∧ Hid (CovTo l need t c) ∧ Below w.heap.size w wr) (fun _ x _ => (3000000000000001 - intOf x).toNat)
    case atStart => exact ⟨[], 0, rfl, OwnP.nil _ _, by omega, by omega, hide (CovTo.start Hl.out hn1), hb0⟩
    case round =>
      obtain ⟨c, t, rfl, hown, ht0, ht1, hc, hB⟩ := hrel
      by_cases hlt : t ≤ 3000000000000000
      · have hlen := hc.out.length_le
        have haft := aft_bd l t hlt l.length
        have hrow := hv'.below (Nat.le_refl _) hB
        have hz := hB.size
        go_wp2_with fail
        refine (Rafter_any _ l t _ hrow Hl.out (by omega) hlt).mono ?_
        rintro e w1 ⟨rfl, hb1⟩
        go_wp2_with fail
        have hz1' := hb1.size
        refine (Rdepth_any _ l t _ (hrow.below (Nat.le_refl _) hb1)).mono ?_
        rintro e w2 ⟨rfl, hb2⟩
        have hz2' := hb2.size
        have hdb := dep_bd l t l.length
        have hown2 : OwnIv w2 w.heap.size _ c := (hown.below (Nat.le_refl _) hb1).below (Nat.le_refl _) hb2
        have hB2 : Below w.heap.size w w2 := (by ((repeat' (first | exact Below.refl _ _ | exact hB | exact hb1 | exact hb2 | refine Below.alloc ?_ ?_ _ | refine Below.setCell ?_ ?_ _ | refine Below.drew ?_ | refine below_drewN ?_ _ | refine Below.trans ?_ (hB.mono ?_) | refine Below.trans ?_ (hb1.mono ?_) | refine Below.trans ?_ (hb2.mono ?_))) <;> (first | omega | (simp; done) | (simp; omega))))
        by_cases hd : need ≤ dep l t l.length
        · have hc64 : c.length ≤ 64 := by omega
          rcases List.eq_nil_or_concat c with hc0 | ⟨d, p, hcp⟩
          · obtain ⟨a1, cap1, rfl, hc1, hc2⟩ := hown.val
            have hl0 : (c.length : Int) ≤ 0 := by rw [hc0]; simp
            have Hc0 := hide hc0; clear hc0
            go_wp2_with (at_builtin; refine wpList_append_own _ rfl _ _ 25 rfl w.heap.size 23 i0 (.agg #[.int .i64 0, .int .i64 0]) 2 16 Try.underlying25 hi hz0 hz1 hz2 rfl (by decide) _ c.length (encL c) rfl (World.ownsRow.alloc hown2 _) ⟨w2.heap.size, 0, none⟩ 1 1 [.int .i64 t, .int .i64 (aft l t l.length - 1)] rfl rfl (cell_two_new _ _ _ _) (by simp [Value.oneCell']) (by unfold maxLen; omega) (by omega) (by simp; omega) ?_; intro v3 w3 hown3 hg3 _)
            go_roundw
            case rel => exact ⟨_, _, rfl, OwnP.app hown3, by omega, by omega, hide (hc.out.more ht0 hlt hd (fun d p h => by rw [Hc0.out] at h; simp at h)), ((hB2.alloc (by omega) _).grown hg3 (by simp; omega) (fun k h => (hown2.lt k h).1))⟩
            case measure => simp [intOf]; omega
          · have hcd : c = d ++ [p] := by rw [hcp]; simp
            clear hcp
            subst hcd
            have hdl : (d ++ [p]).length = d.length + 1 := by simp
            obtain ⟨g, cap1, rfl, hg1, hg2, hg3, hg4, hcl1, hcl2, hfz, hst⟩ := hown2.form
            have Hdl := hide hdl
            have hd64 : d.length + 1 ≤ 64 := by omega
            rw [hdl] at hlen
            have Hst := hide hst
            have hown2' : w2.ownsRow w.heap.size 23 2 (.slice (some ⟨g, 0, none⟩) (d.length + 1) cap1) (d.length + 1) (encL (d ++ [p])) := by
              have := hown2; unfold OwnIv OwnP at this; rwa [hdl] at this
            clear hdl hc64 hst
            by_cases hj : p.2 = t - 1
            · have hj' : (p.2 == t - 1) = true := by rw [beq_iff_eq]; exact hj
              have Hj := hide hj; clear hj
              go_wp2_with fail
              go_roundw
              case rel => exact ⟨_, _, rfl, Hst.out _, by omega, by omega, hide (hc.out.join ht0 hlt hd Hj.out), (by ((repeat' (first | exact Below.refl _ _ | exact hB2 | refine Below.alloc ?_ ?_ _ | refine Below.setCell ?_ ?_ _ | refine Below.drew ?_ | refine below_drewN ?_ _ | refine Below.trans ?_ (hB2.mono ?_))) <;> (first | omega | (simp; done) | (simp; omega))))⟩
              case measure => simp [intOf]; omega
            · have hj' : (p.2 == t - 1) = false := by rw [beq_eq_false_iff_ne]; exact hj
              have Hj := hide hj; clear hj
              go_wp2_with (at_builtin; refine wpList_append_own _ rfl _ _ 25 rfl w.heap.size 23 i0 (.agg #[.int .i64 0, .int .i64 0]) 2 16 Try.underlying25 hi hz0 hz1 hz2 rfl (by decide) _ (d.length + 1) (encL (d ++ [p])) rfl (World.ownsRow.alloc hown2' _) ⟨w2.heap.size, 0, none⟩ 1 1 [.int .i64 t, .int .i64 (aft l t l.length - 1)] rfl rfl (cell_two_new _ _ _ _) (by simp [Value.oneCell']) (by unfold maxLen; omega) (by omega) (by simp; omega) ?_; intro v3 w3 hown3 hg3' _)
              go_roundw
              case rel =>
                refine ⟨_, _, rfl, OwnP.app (c := d ++ [p]) (by rw [Hdl.out]; exact hown3), by omega, by omega, hide (hc.out.more ht0 hlt hd (fun d' p' h => ?_)), ((hB2.alloc (by omega) _).grown hg3' (by simp; omega) (fun k h => (hown2.lt k h).1))⟩
                have h9 := List.append_inj' h rfl
                have h10 := h9.2
                simp only [List.cons.injEq, and_true] at h10
                rw [← h10]; exact Hj.out
              case measure => simp [intOf]; omega
        · go_wp2_with fail
          go_roundw
          case rel => exact ⟨c, _, rfl, hown2, by omega, by omega, hide (hc.out.skip hlt (by omega)), hB2⟩
          case measure => simp [intOf]; omega
      · go_wp2_with fail
        go_ret2
        exact ⟨_, c, by rw [Hf.out]; rfl, hown, Hf2.out _ (hc.out.done Hl.out hn1 (by omega)), hB⟩
  · have hfin : coverEr l need = 1 := by simp [coverEr, hok]
    have hfin2 : CovOut l need [] := by unfold CovOut; rw [if_neg hok]
    have Hf := hide hfin; clear hfin
    by_cases hl : listB l = true
    · have hn : ¬ (1 ≤ need ∧ need ≤ 64) := by
        intro h; apply hok; simp [coverOk, hl, h]
      by_cases hn1 : need < 1
      · clear hok hn
        go_enter Try.func49, Try.ntmps49
        go_wp2_with (go_at_call 52; refine (RList_any _ l _ hv').mono ?_; rintro e w0 ⟨rfl, hb0⟩)
        go_ret2
        exact ⟨_, [], by rw [Hf.out]; rfl, OwnP.nil _ _, hfin2, hb0⟩
      · have hn2 : 64 < need := by omega
        clear hok hn
        go_enter Try.func49, Try.ntmps49
        go_wp2_with (go_at_call 52; refine (RList_any _ l _ hv').mono ?_; rintro e w0 ⟨rfl, hb0⟩)
        go_ret2
        exact ⟨_, [], by rw [Hf.out]; rfl, OwnP.nil _ _, hfin2, hb0⟩
    · clear hok
      go_enter Try.func49, Try.ntmps49
      go_wp2_with (go_at_call 52; refine (RList_any _ l _ hv').mono ?_; rintro e w0 ⟨rfl, hb0⟩)
      go_ret2
      exact ⟨_, [], by rw [Hf.out]; rfl, OwnP.nil _ _, hfin2, hb0⟩
end Go.Proofs.Ythklljlachljgaa
