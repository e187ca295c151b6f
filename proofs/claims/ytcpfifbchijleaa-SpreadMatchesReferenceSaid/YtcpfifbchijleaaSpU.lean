/- The reference of layer 15: Pick and Place at whatever arguments. -/
import Derived.Test.YtcpfifbchijleaaSpS
import Derived.Test.YtcpfifbchijleaaSpT
import Derived.Test.YtcpfifbchijleaaSpO
namespace Go.Proofs.Ytcpfifbchijleaa
open Go.RowKit
attribute [local go_sem ↓] run_max_mx run_min_mn
set_option maxRecDepth 100000 in
set_option maxHeartbeats 400000 in
theorem RPick_any (v : Value) (l : List Int) (f lost : Int) (w : World) (hv : IsRow w v l) (hl : l.length ≤ 1000000) :
    Calls Try.prog 14 #[v, .int .i64 f, .int .i64 lost] w (PickPost w l f lost) := by
  cases hok : spOk l f lost with
  | true =>
    have hf := ((spOk_iff l f lost).1 hok).2.1
    obtain ⟨n, rfl⟩ : ∃ n : Nat, f = n := ⟨f.toNat, by omega⟩
    exact (RPick_ok v l n lost w hv hok).mono fun e w' ⟨v1, v2, he, h1, h2, h3⟩ => ⟨v1, v2, by rw [spEr_ok hok]; exact he, h1, h2, h3⟩
  | false =>
    have hne : (spEr l f lost == 0) = false := by rw [beq_eq_false_iff_ne]; rcases spEr_no hok with h | h <;> omega
    have hne2 : (spEr l f lost != 0) = true := by rw [bne_iff_ne]; rcases spEr_no hok with h | h <;> omega
    have Hok := hide hok
    clear hok
    go_enter Try.func14, Try.ntmps14
    go_wp2_with fail
    refine (Rcheck_any _ l f lost _ hv hl).mono ?_
    rintro e w1 ⟨rfl, b1⟩
    go_wp2_with fail
    go_ret3
    exact PickPost.no Hok.out rfl b1
set_option maxRecDepth 100000 in
set_option maxHeartbeats 400000 in
theorem RPlace_any (v : Value) (l : List Int) (f lost x : Int) (w : World) (hv : IsRow w v l) (hl : l.length ≤ 1000000) :
    Calls Try.prog 17 #[v, .int .i64 f, .int .i64 lost, .int .i64 x] w (PlacePost w l f lost x) := by
  cases hok : spOk l f lost with
  | true =>
    by_cases hx : 0 ≤ x ∧ x ≤ 3000000000000000
    · have hf := ((spOk_iff l f lost).1 hok).2.1
      obtain ⟨n, rfl⟩ : ∃ n : Nat, f = n := ⟨f.toNat, by omega⟩
      exact (RPlace_ok v l n lost x w hv hok hx).mono fun e w' h => h
    · have hin : inB x 0 3000000000000000 = false := by simp [inB]; omega
      have HP := hide (show placeEr l f lost x = 1 by unfold placeEr; rw [if_pos hok, if_neg (by simp [hin])])
      have He := hide (spEr_ok hok)
      clear hok hin
      by_cases h0 : x < 0
      · have d0 : decide (x < 0) = true := decide_eq_true h0
        go_enter Try.func17, Try.ntmps17
        go_wp2_with fail
        refine (Rcheck_any _ l f lost _ hv hl).mono ?_
        rintro e w1 ⟨rfl, b1⟩
        rw [He.out]
        go_wp2_with fail
        go_ret2
        exact PlacePost.no HP.out (by omega) b1
      · have d0 : decide (x < 0) = false := decide_eq_false h0
        have d1 : decide (3000000000000000 < x) = true := decide_eq_true (by omega)
        clear hx
        go_enter Try.func17, Try.ntmps17
        go_wp2_with fail
        refine (Rcheck_any _ l f lost _ hv hl).mono ?_
        rintro e w1 ⟨rfl, b1⟩
        rw [He.out]
        go_wp2_with fail
        go_ret2
        exact PlacePost.no HP.out (by omega) b1
  | false =>
    have hne : (spEr l f lost == 0) = false := by rw [beq_eq_false_iff_ne]; rcases spEr_no hok with h | h <;> omega
    have hne2 : (spEr l f lost != 0) = true := by rw [bne_iff_ne]; rcases spEr_no hok with h | h <;> omega
    have hne3 := hide (show spEr l f lost ≠ 0 by rcases spEr_no hok with h | h <;> omega)
    have HP := hide (placeEr_no (x := x) hok)
    clear hok
    go_enter Try.func17, Try.ntmps17
    go_wp2_with fail
    refine (Rcheck_any _ l f lost _ hv hl).mono ?_
    rintro e w1 ⟨rfl, b1⟩
    go_wp2_with fail
    go_ret2
    exact PlacePost.no HP.out hne3.out b1
end Go.Proofs.Ytcpfifbchijleaa
