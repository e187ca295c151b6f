/- The reference's Hull, Same and after: what each call returns. -/
import Derived.Test.YtbocjiepobccpaaIvB
namespace Go.Proofs.Ytbocjiepobccpaa
open Go.RowKit
theorem run_eql_iv (w : World) (a b c d : Int) : (binOp .eql 29 (.agg #[.int .i64 a, .int .i64 b]) (.agg #[.int .i64 c, .int .i64 d])).run Try.prog w = .ok (.bool (ivEq a b c d)) w := by
  simp [go_sem, Try.underlying29]
  by_cases h1 : a = c <;> by_cases h2 : b = d <;> simp [ivEq, h1, h2]
theorem run_neq_iv (w : World) (a b c d : Int) : (binOp .neq 29 (.agg #[.int .i64 a, .int .i64 b]) (.agg #[.int .i64 c, .int .i64 d])).run Try.prog w = .ok (.bool (!ivEq a b c d)) w := by
  simp [go_sem, Try.underlying29]
  by_cases h1 : a = c <;> by_cases h2 : b = d <;> simp [ivEq, h1, h2]
attribute [local go_sem ↓] run_max_mx run_min_mn run_eql_iv run_neq_iv
theorem list_ext {l1 l2 : List Iv} (hl : l1.length = l2.length) (h : ∀ j, j < l1.length → iLo l1 j = iLo l2 j ∧ iHi l1 j = iHi l2 j) : l1 = l2 := by
  apply List.ext_getElem hl
  intro i h1 h2
  have := h i h1
  simp only [iLo, iHi, List.getD_eq_getElem?_getD, List.getElem?_eq_getElem h1, List.getElem?_eq_getElem h2, Option.getD_some] at this
  exact Prod.ext this.1 this.2

set_option maxRecDepth 100000 in
set_option maxHeartbeats 400000 in
theorem RSame_any (v1 v2 : Value) (l1 l2 : List Iv) (w : World) (hv1 : IvRow w v1 l1) (hv2 : IvRow w v2 l2) :
    Calls Try.prog 13 #[v1, v2] w fun e w' => e = .returned (.bool (decide (l1 = l2))) ∧ Below w.heap.size w w' := by
  obtain ⟨a, cap, rfl, h1, h2, h3⟩ := hv1
  obtain ⟨a', cap', rfl, h1', h2', h3'⟩ := hv2
  by_cases hlen : l1.length = l2.length
  · have hne : ((l1.length : Int) != (l2.length : Int)) = false := by simp [hlen]
    have hlen' := hide hlen; clear hlen
    go_enter Try.func13, Try.ntmps13
    go_wp2
    go_loopw [5] (fun i wr => ∃ k : Nat, k ≤ l1.length ∧ i = .int .i64 k ∧ (∀ j, j < k → iLo l1 j = iLo l2 j ∧ iHi l1 j = iHi l2 j) ∧ Below w.heap.size w wr) (fun i _ => l1.length - (intOf i).toNat)
    case atStart => exact ⟨0, Nat.zero_le _, rfl, fun j hj => by omega, Below.refl _ _⟩
    case round =>
      obtain ⟨k, hk, rfl, hall, hB⟩ := hrel
      have Hall := hide hall; clear hall
      by_cases hlt : k < l1.length
      · obtain ⟨b, off, rfl, h4, h5, h6⟩ := h3 k hlt
        obtain ⟨b', off', rfl, h4', h5', h6'⟩ := h3' k (by have := hlen'.out; omega)
        have g5 := (hB.cell (p := ⟨b, off + k * 2, none⟩) h4).trans h5
        have g6 := (hB.cell (p := ⟨b, off + k * 2 + 1, none⟩) h4).trans h6
        have g5' := (hB.cell (p := ⟨b', off' + k * 2, none⟩) h4').trans h5'
        have g6' := (hB.cell (p := ⟨b', off' + k * 2 + 1, none⟩) h4').trans h6'
        have hlt' : k < l2.length := by have := hlen'.out; omega
        clear h5 h6 h3 h5' h6' h3'
        by_cases heq : ivEq (iLo l1 k) (iHi l1 k) (iLo l2 k) (iHi l2 k) = true
        · go_wp2_with fail
          go_quiet (fail)
          go_wp2
          go_roundw
          case rel =>
            refine ⟨k + 1, by omega, by go_num, ?_, (by ((repeat' (first | exact Below.refl _ _ | exact hB | refine Below.alloc ?_ ?_ _ | refine Below.setCell ?_ ?_ _ | refine Below.drew ?_ | refine below_drewN ?_ _ | refine Below.trans ?_ (hB.mono ?_))) <;> (first | omega | (simp; done) | (simp; omega))))⟩
            intro j hj
            rcases Nat.lt_or_ge j k with h | h
            · exact Hall.out j h
            · obtain rfl : j = k := by omega
              simpa [ivEq] using heq
          case measure => simp [intOf]; omega
        · have heq' : ivEq (iLo l1 k) (iHi l1 k) (iLo l2 k) (iHi l2 k) = false := by simpa using heq
          clear heq
          go_wp2_with fail
          go_quiet (fail)
          go_wp2
          go_ret
          refine ⟨ret_bool ?_, (by ((repeat' (first | exact Below.refl _ _ | exact hB | refine Below.alloc ?_ ?_ _ | refine Below.setCell ?_ ?_ _ | refine Below.drew ?_ | refine below_drewN ?_ _ | refine Below.trans ?_ (hB.mono ?_))) <;> (first | omega | (simp; done) | (simp; omega))))⟩
          symm; rw [decide_eq_false_iff_not]
          rintro rfl
          simp [ivEq] at heq'
      · go_wp2
        go_ret
        refine ⟨ret_bool ?_, hB⟩
        symm; rw [decide_eq_true_iff]
        exact list_ext hlen'.out fun j hj => Hall.out j (by omega)
  · have hne : ((l1.length : Int) != (l2.length : Int)) = true := by rw [bne_iff_ne]; omega
    have hlen' := hide hlen; clear hlen
    go_enter Try.func13, Try.ntmps13
    go_wp2
    go_ret
    refine ⟨ret_bool ?_, Below.refl _ _⟩
    symm; rw [decide_eq_false_iff_not]
    rintro rfl
    exact hlen'.out rfl

end Go.Proofs.Ytbocjiepobccpaa
