/- The comparison of two lists of integers (slices.Compare). -/
import Derived.Test.YtiaahfccebmkdaaPlP
import Derived.Test.YtiaahfccebmkdaaSpA
namespace Go.Proofs.Ytiaahfccebmkdaa
open Go.RowKit

theorem cmpI_drop {a b : List Int} : ∀ k, k ≤ a.length → k ≤ b.length → (∀ i, i < k → iAt a i = iAt b i) → cmpI a b = cmpI (a.drop k) (b.drop k)
  | 0, _, _, _ => rfl
  | k + 1, ha, hb, h => by
    rw [cmpI_drop k (by omega) (by omega) fun i hi => h i (by omega)]
    rw [List.drop_eq_getElem_cons (show k < a.length by omega), List.drop_eq_getElem_cons (show k < b.length by omega)]
    have := h k (by omega)
    rw [iAt_lt _ _ (by omega), iAt_lt _ _ (by omega)] at this
    simp [cmpI, this]
theorem cmpI_at {a b : List Int} {k : Nat} (ha : k < a.length) (hb : k < b.length) (h : ∀ i, i < k → iAt a i = iAt b i) : cmpI a b = if iAt a k < iAt b k then -1 else if iAt b k < iAt a k then 1 else cmpI (a.drop (k + 1)) (b.drop (k + 1)) := by
  rw [cmpI_drop k (by omega) (by omega) h, List.drop_eq_getElem_cons ha, List.drop_eq_getElem_cons hb, iAt_lt _ _ ha, iAt_lt _ _ hb]
  rfl
theorem cmpI_end {a b : List Int} {k : Nat} (ha : k ≤ a.length) (hb : k ≤ b.length) (hk : k = a.length ∨ k = b.length) (h : ∀ i, i < k → iAt a i = iAt b i) : cmpI a b = if a.length < b.length then -1 else if b.length < a.length then 1 else 0 := by
  rw [cmpI_drop k ha hb h]
  rcases Nat.lt_trichotomy a.length b.length with h1 | h1 | h1
  · have : k = a.length := by omega
    subst this
    rw [List.drop_length, if_pos h1, List.drop_eq_getElem_cons h1]; rfl
  · have : k = a.length := by omega
    subst this
    rw [List.drop_length, h1, List.drop_length]; simp [cmpI]
  · have : k = b.length := by omega
    subst this
    rw [List.drop_length, if_neg (by omega), if_pos h1, List.drop_eq_getElem_cons h1]; rfl
set_option maxRecDepth 100000 in
set_option maxHeartbeats 1000000 in
theorem CompareL_any (v1 v2 : Value) (l1 l2 : List Int) (w : World) (h1 : IsRow w v1 l1) (h2 : IsRow w v2 l2) :
    Calls Try.prog 48 #[v1, v2] w fun e w' => e = .returned (.int .i64 (cmpI l1 l2)) ∧ w' = w := by
  obtain ⟨a, cap, rfl, q1, q2, q3⟩ := h1
  obtain ⟨a', cap', rfl, q1', q2', q3'⟩ := h2
  go_enter Try.func48, Try.ntmps48
  go_wp2
  go_loop [11] (fun i => ∃ k : Nat, k ≤ l1.length ∧ k ≤ l2.length ∧ i = .int .i64 k ∧ Hid (∀ j, j < k → iAt l1 j = iAt l2 j)) (fun i => l1.length - (intOf i).toNat)
  case atStart => exact ⟨0, Nat.zero_le _, Nat.zero_le _, rfl, hide (fun j hj => by omega)⟩
  case round =>
    obtain ⟨k, hk, hk2, rfl, Hall⟩ := hrel
    by_cases hlt : k < l1.length
    · obtain ⟨b, off, rfl, h4, h5⟩ := q3 k hlt
      clear q3
      by_cases hlt2 : k < l2.length
      · obtain ⟨b', off', rfl, h4', h5'⟩ := q3' k hlt2
        clear q3'
        have Hat := hide (cmpI_at hlt hlt2 Hall.out)
        have Hk := hide (fun e : iAt l1 k = iAt l2 k => (fun j (hj : j < k + 1) => by
          rcases Nat.lt_or_ge j k with h | h
          · exact Hall.out j h
          · obtain rfl : j = k := by omega
            exact e : ∀ j, j < k + 1 → iAt l1 j = iAt l2 j))
        by_cases hc : iAt l1 k = iAt l2 k
        · have hz : Lib.compareInt (iAt l1 k) (iAt l2 k) = 0 := by unfold Lib.compareInt; rw [if_neg (by omega), if_neg (by omega)]
          have hz' : (Lib.compareInt (iAt l1 k) (iAt l2 k) != 0) = false := by rw [hz]; rfl
          have Hc := hide hc
          clear hc hz
          go_wp2_with (go_at_call 45; refine (Compare_any _ _ _).mono ?_; rintro e w' ⟨rfl, rfl⟩)
          go_round
          case rel => exact ⟨k + 1, by omega, by omega, by go_num, hide (Hk.out Hc.out)⟩
          case measure => simp [intOf]; omega
        · have hcm : cmpI l1 l2 = Lib.compareInt (iAt l1 k) (iAt l2 k) := by
            rw [Hat.out]; unfold Lib.compareInt
            by_cases e1 : iAt l1 k < iAt l2 k
            · rw [if_pos e1, if_pos e1]
            · rw [if_neg e1, if_pos (by omega), if_neg e1, if_pos (by omega)]
          have hz : Lib.compareInt (iAt l1 k) (iAt l2 k) ≠ 0 := by
            unfold Lib.compareInt
            split
            · omega
            · split <;> omega
          have hz' : (Lib.compareInt (iAt l1 k) (iAt l2 k) != 0) = true := by rw [bne_iff_ne]; exact hz
          have Hcm := hide hcm
          clear hc hz hcm
          go_wp2_with (go_at_call 45; refine (Compare_any _ _ _).mono ?_; rintro e w' ⟨rfl, rfl⟩)
          go_ret
          exact ⟨ret_int Hcm.out.symm, rfl⟩
      · have He := hide (cmpI_end hk hk2 (.inr (by omega)) Hall.out)
        clear q3'
        go_wp2_with fail
        go_ret
        exact ⟨ret_int (by rw [He.out, if_neg (by omega), if_pos (by omega)]), rfl⟩
    · have He := hide (cmpI_end hk hk2 (.inl (by omega)) Hall.out)
      clear q3 q3'
      by_cases hl : l1.length < l2.length
      · go_wp2_with fail
        go_ret
        exact ⟨ret_int (by rw [He.out, if_pos hl]), rfl⟩
      · go_wp2_with fail
        go_ret
        exact ⟨ret_int (by rw [He.out, if_neg hl, if_neg (by omega)]), rfl⟩
end Go.Proofs.Ytiaahfccebmkdaa
