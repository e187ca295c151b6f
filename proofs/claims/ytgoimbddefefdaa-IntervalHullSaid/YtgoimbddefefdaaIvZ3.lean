/- IntervalHull: for every list the statement answers true and leaves its argument as it was. No condition. -/
import Derived.Test.YtgoimbddefefdaaIvL
import Derived.Test.YtgoimbddefefdaaFr
namespace Go.Proofs.Ytgoimbddefefdaa
open Go.RowKit
attribute [local go_sem ↓] run_max_mx run_min_mn run_eql_iv run_neq_iv
theorem hLo_le (l : List Iv) : ∀ k j, j ≤ k → hLo l k ≤ iLo l j
  | 0, j, h => by obtain rfl : j = 0 := by omega
                  simp [hLo]
  | k + 1, j, h => by
    have h1 := mn_spec (hLo l k) (iLo l (k + 1))
    simp only [hLo]
    rcases Nat.lt_or_ge j (k + 1) with h2 | h2
    · have := hLo_le l k j (by omega); omega
    · obtain rfl : j = k + 1 := by omega
      omega
theorem hHi_le (l : List Iv) : ∀ k j, j ≤ k → iHi l j ≤ hHi l k
  | 0, j, h => by obtain rfl : j = 0 := by omega
                  simp [hHi]
  | k + 1, j, h => by
    have h1 := mx_spec (hHi l k) (iHi l (k + 1))
    simp only [hHi]
    rcases Nat.lt_or_ge j (k + 1) with h2 | h2
    · have := hHi_le l k j (by omega); omega
    · obtain rfl : j = k + 1 := by omega
      omega
theorem hLo_at (l : List Iv) : ∀ k, ∃ j, j ≤ k ∧ hLo l k = iLo l j
  | 0 => ⟨0, Nat.le_refl _, rfl⟩
  | k + 1 => by
    obtain ⟨j, hj, e⟩ := hLo_at l k
    have h1 := mn_spec (hLo l k) (iLo l (k + 1))
    simp only [hLo]
    rcases h1.2.2 with h | h
    · exact ⟨j, by omega, by omega⟩
    · exact ⟨k + 1, Nat.le_refl _, h⟩
theorem hHi_at (l : List Iv) : ∀ k, ∃ j, j ≤ k ∧ hHi l k = iHi l j
  | 0 => ⟨0, Nat.le_refl _, rfl⟩
  | k + 1 => by
    obtain ⟨j, hj, e⟩ := hHi_at l k
    have h1 := mx_spec (hHi l k) (iHi l (k + 1))
    simp only [hHi]
    rcases h1.2.2 with h | h
    · exact ⟨j, by omega, by omega⟩
    · exact ⟨k + 1, Nat.le_refl _, h⟩
def anyEq (f : Nat → Int) (h : Int) : Nat → Bool
  | 0 => false
  | k + 1 => anyEq f h k || (h == f k)
theorem anyEq_true (f : Nat → Int) (h : Int) (j : Nat) (hj : h = f j) : ∀ n, j < n → anyEq f h n = true
  | 0, h' => by omega
  | n + 1, h' => by
    simp only [anyEq, Bool.or_eq_true, beq_iff_eq]
    rcases Nat.lt_or_ge j n with h1 | h1
    · exact .inl (anyEq_true f h j hj n h1)
    · obtain rfl : j = n := by omega
      exact .inr hj
set_option maxHeartbeats 1000000 in
theorem HullLaw_any (w : World) (v : Value) (l : List Iv) (hv : IvRow w v l) :
    Calls Try.prog 5 #[v] w fun e w' => e = .returned (.bool true) ∧ Below w.heap.size w w' := by
  have hv' := hv
  by_cases hl : listB l = true
  case neg =>
    have hl' : listB l = false := by simpa using hl
    clear hl
    obtain ⟨a, cap, rfl, h1, h2, h3⟩ := hv
    clear h3
    go_enter Try.func5, Try.ntmps5
    go_wp2_with fail
    refine (head_any _).mono ?_
    rintro e w1 ⟨rfl, hb1⟩
    go_wp2_with (go_at_call 26; refine (RList_any _ l _ (hv'.below (Nat.le_refl _) hb1)).mono ?_; rintro e w2 ⟨rfl, hb2⟩)
    go_ret
    have hz := hb1.size
    exact ⟨rfl, (by ((repeat' (first | exact Below.refl _ _ | exact hb1 | exact hb2 | refine Below.alloc ?_ ?_ _ | refine Below.setCell ?_ ?_ _ | refine Below.drew ?_ | refine below_drewN ?_ _ | refine Below.trans ?_ (hb1.mono ?_) | refine Below.trans ?_ (hb2.mono ?_))) <;> (first | omega | (simp; done) | (simp; omega))))⟩
  by_cases h0 : l.length = 0
  case pos =>
    have h0' : ((l.length : Int) == 0) = true := by rw [beq_iff_eq]; omega
    clear h0
    obtain ⟨a, cap, rfl, h1, h2, h3⟩ := hv
    clear h3
    go_enter Try.func5, Try.ntmps5
    go_wp2_with fail
    refine (head_any _).mono ?_
    rintro e w1 ⟨rfl, hb1⟩
    go_wp2_with (go_at_call 26; refine (RList_any _ l _ (hv'.below (Nat.le_refl _) hb1)).mono ?_; rintro e w2 ⟨rfl, hb2⟩)
    go_ret
    have hz := hb1.size
    exact ⟨rfl, (by ((repeat' (first | exact Below.refl _ _ | exact hb1 | exact hb2 | refine Below.alloc ?_ ?_ _ | refine Below.setCell ?_ ?_ _ | refine Below.drew ?_ | refine below_drewN ?_ _ | refine Below.trans ?_ (hb1.mono ?_) | refine Below.trans ?_ (hb2.mono ?_))) <;> (first | omega | (simp; done) | (simp; omega))))⟩
  have h0' : ((l.length : Int) == 0) = false := by rw [beq_eq_false_iff_ne]; omega
  have hpos : 0 < l.length := by omega
  have hok : hullOk l = true := by simp [hullOk, hl, h0]
  have hlo : ∀ k, k < l.length → hullLo l ≤ iLo l k := fun k hk => by unfold hullLo; rw [if_pos hok]; exact hLo_le l _ _ (by omega)
  have hhi : ∀ k, k < l.length → iHi l k ≤ hullHi l := fun k hk => by unfold hullHi; rw [if_pos hok]; exact hHi_le l _ _ (by omega)
  have hb : anyEq (iLo l) (hullLo l) l.length = true := by
    obtain ⟨j, hj, e⟩ := hLo_at l (l.length - 1)
    exact anyEq_true _ _ j (by unfold hullLo; rw [if_pos hok]; exact e) _ (by omega)
  have he : anyEq (iHi l) (hullHi l) l.length = true := by
    obtain ⟨j, hj, e⟩ := hHi_at l (l.length - 1)
    exact anyEq_true _ _ j (by unfold hullHi; rw [if_pos hok]; exact e) _ (by omega)
  have her : hullEr l = 0 := by unfold hullEr; rw [if_pos hok]
  have Hlo := hide hlo
  have Hhi := hide hhi
  have Hb := hide hb
  have He := hide he
  clear h0 hok hlo hhi hb he
  obtain ⟨b, off, cap, rfl, h1, h2, h4, _, _, h7⟩ := hv'.at0 hpos
  have H7 := hide h7
  clear h7
  go_enter Try.func5, Try.ntmps5
  go_wp2_with fail
  refine (head_any _).mono ?_
  rintro e w1 ⟨rfl, hb1⟩
  go_wp2_with (go_at_call 26; refine (RList_any _ l _ (hv.below (Nat.le_refl _) hb1)).mono ?_; rintro e w2 ⟨rfl, hb2⟩)
  have hz1 := hb1.size
  have hz2 := hb2.size
  have hB2 : Below w.heap.size w w2 := (by ((repeat' (first | exact Below.refl _ _ | exact hb1 | exact hb2 | refine Below.alloc ?_ ?_ _ | refine Below.setCell ?_ ?_ _ | refine Below.drew ?_ | refine below_drewN ?_ _ | refine Below.trans ?_ (hb1.mono ?_) | refine Below.trans ?_ (hb2.mono ?_))) <;> (first | omega | (simp; done) | (simp; omega))))
  refine (Hull_any _ l _ (hv.below (Nat.le_refl _) hB2)).mono ?_
  rintro e w3 ⟨rfl, hb3⟩
  rw [her]
  have hz3 := hb3.size
  have hB3 : Below w.heap.size w w3 := (by ((repeat' (first | exact Below.refl _ _ | exact hB2 | exact hb3 | refine Below.alloc ?_ ?_ _ | refine Below.setCell ?_ ?_ _ | refine Below.drew ?_ | refine below_drewN ?_ _ | refine Below.trans ?_ (hB2.mono ?_) | refine Below.trans ?_ (hb3.mono ?_))) <;> (first | omega | (simp; done) | (simp; omega))))
  clear her hl
  go_wp2_with fail
  go_loopw [6, 7, 8] (fun s6 s7 i wr => ∃ k : Nat, k ≤ l.length ∧ i = .int .i64 k ∧ s6 = .bool (anyEq (iLo l) (hullLo l) k) ∧ s7 = .bool (anyEq (iHi l) (hullHi l) k) ∧ Below w.heap.size w wr ∧
      wr.cell? ⟨w3.heap.size, 0, none⟩ = some (.int .i64 (hullLo l)) ∧ wr.cell? ⟨w3.heap.size, 1, none⟩ = some (.int .i64 (hullHi l))) (fun _ _ i _ => l.length - (intOf i).toNat)
  case atStart => exact ⟨0, Nat.zero_le _, rfl, rfl, rfl, (by ((repeat' (first | exact Below.refl _ _ | exact hB3 | refine Below.alloc ?_ ?_ _ | refine Below.setCell ?_ ?_ _ | refine Below.drew ?_ | refine below_drewN ?_ _ | refine Below.trans ?_ (hB3.mono ?_))) <;> (first | omega | (simp; done) | (simp; omega)))), by simp, by simp⟩
  case round =>
    obtain ⟨k, hk, rfl, rfl, rfl, hB, g1, g2⟩ := hrel
    by_cases hlt : k < l.length
    · have h5' := (hB.cell (p := ⟨b, off + k * 2, none⟩) h4).trans (H7.out k hlt).1
      have h6' := (hB.cell (p := ⟨b, off + k * 2 + 1, none⟩) h4).trans (H7.out k hlt).2
      have d1 : decide (iLo l k < hullLo l) = false := by have := Hlo.out k hlt; simp; omega
      have d2 : decide (hullHi l < iHi l k) = false := by have := Hhi.out k hlt; simp; omega
      cases hq1 : anyEq (iLo l) (hullLo l) k <;> cases hq2 : anyEq (iHi l) (hullHi l) k
      all_goals
        have Hq1 := hide hq1
        have Hq2 := hide hq2
        clear hq1 hq2
        go_wp2_with fail
        go_quiet (fail)
        go_wp2
        go_quiet (fail)
        go_wp2
        go_quiet (fail)
        go_wp2
        go_roundw
        case rel => exact ⟨k + 1, by omega, by go_num, by simp [anyEq, Hq1.out], by simp [anyEq, Hq2.out], (by ((repeat' (first | exact Below.refl _ _ | exact hB | refine Below.alloc ?_ ?_ _ | refine Below.setCell ?_ ?_ _ | refine Below.drew ?_ | refine below_drewN ?_ _ | refine Below.trans ?_ (hB.mono ?_))) <;> (first | omega | (simp; done) | (simp; omega)))), g1, g2⟩
        case measure => simp [intOf]; omega
    · obtain rfl : k = l.length := by omega
      have hb := Hb.out
      have he := He.out
      go_wp2
      go_ret
      exact ⟨rfl, hB⟩
set_option maxRecDepth 100000 in
theorem intervalHull_holds : Rows.IntervalHullSaid :=
  OpenClaim.holds_of_wide 5 Try.f5 rfl rfl rfl rfl rfl rfl rfl ⟨rfl, rfl, rfl, rfl, rfl⟩ rfl rfl rfl rfl rfl (by kernel_rfl) Try.func5 (by kernel_rfl)
    (of_decide_eq_true (by kernel_rfl)) (by unfold Func.isWrapper; rw [if_neg (of_decide_eq_false (by kernel_rfl))]; exact ⟨rfl, rfl⟩)
    (fun os started H enc _ => law_lifted started 5 Try.f5 Try.func5 (by kernel_rfl) Rows.intervalHullSpec rfl rfl
      (fun ds h => by match ds, h with | [_], _ => exact ⟨rfl, rfl, rfl⟩)
      (fun t h => by
        rw [Try.params5] at h
        simp only [List.mem_cons, List.not_mem_nil, or_false] at h
        subst h; exact ⟨by kernel_rfl, of_decide_eq_true (by kernel_rfl)⟩)
      (ChangeSpec.witness6 (enc := enc) (C := Try.checked) false ⟨#[], #[.slice none 0 0], []⟩ 8 (by kernel_rfl) (by kernel_rfl) (by kernel_rfl) (by kernel_rfl))
      (fun W base args ds p hA hok => by
        rw [Try.params5] at hA hok
        obtain ⟨v0, vs0, d0, ds0, p0, q0, hargs, rfl, rfl, h0, r0⟩ := ChangeShapes.trodAll_cons hA
        obtain ⟨rfl, rfl, rfl⟩ := ChangeShapes.trodAll_nil r0
        obtain rfl : args = #[v0] := by rw [← Array.toArray_toList (xs := args), hargs]
        obtain ⟨l0, hl0, wl0⟩ := open_ivs (hok 0 _ v0 rfl rfl) h0
        exact HullLaw_any W v0 l0 hl0))
end Go.Proofs.Ytgoimbddefefdaa
