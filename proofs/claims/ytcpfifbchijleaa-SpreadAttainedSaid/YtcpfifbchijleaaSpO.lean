/- Package spread: Place at whatever arguments; the reference's Same and SameInts. -/
import Derived.Test.YtcpfifbchijleaaSpN
namespace Go.Proofs.Ytcpfifbchijleaa
open Go.RowKit
attribute [local go_sem ↓] run_max_mx run_min_mn run_eql_iv run_neq_iv
def PlacePost (w : World) (l : List Int) (f lost x : Int) (e : Ending) (w' : World) : Prop :=
  ∃ ov, e = .returned (.tuple #[ov, .int .i64 (placeEr l f lost x)]) ∧ OwnIv w' w.heap.size ov (placeL l f lost x) ∧ Below w.heap.size w w'
theorem PlacePost.no {w w' : World} {l : List Int} {f lost x y : Int} (h : placeEr l f lost x = y) (hy : y ≠ 0) (hb : Below w.heap.size w w') : PlacePost w l f lost x (.returned (.tuple #[.slice none 0 0, .int .i64 y])) w' :=
  ⟨_, by rw [h], by unfold placeL; rw [if_neg (by rw [h]; exact hy)]; exact OwnP.nil _ _, hb⟩
theorem placeEr_no {l : List Int} {f lost x : Int} (h : spOk l f lost = false) : placeEr l f lost x = spEr l f lost := by unfold placeEr; rw [if_neg (by simp [h])]
set_option maxRecDepth 100000 in
set_option maxHeartbeats 400000 in
theorem Place_any (v : Value) (l : List Int) (f lost x : Int) (w : World) (hv : IsRow w v l) :
    Calls Try.prog 16 #[v, .int .i64 f, .int .i64 lost, .int .i64 x] w (PlacePost w l f lost x) := by
  rcases sp_ways l f lost with ⟨q1, q2⟩ | ⟨q1, q2, q3⟩ | ⟨q1, q2, q3, q4⟩
  · have hf := ((spOk_iff l f lost).1 q1).2.1
    obtain ⟨n, rfl⟩ : ∃ n : Nat, f = n := ⟨f.toNat, by omega⟩
    by_cases hx : 0 ≤ x ∧ x ≤ 3000000000000000
    · exact (Place_ok v l n lost x w hv q1 hx).mono fun e w' h => h
    · have hin : inB x 0 3000000000000000 = false := by simp [inB]; omega
      have hp : placeEr l n lost x = 1 := by unfold placeEr; rw [if_pos q1, if_neg (by simp [hin])]
      have Q1 := hide q1
      have HP := hide hp
      clear q1 hp q2 hx
      go_enter Try.func16, Try.ntmps16
      go_wp2_with fail
      refine (newGame_ok v l n lost _ hv Q1.out).mono ?_
      rintro e w1 ⟨gb, rfl, hgb, hG, b1⟩
      clear hG
      go_wp2_with (go_at_call 30; refine (within_any _ _ _ _).mono ?_; rintro e w' ⟨rfl, rfl⟩)
      go_ret2
      exact PlacePost.no HP.out (by omega) b1
  · have HP := hide ((placeEr_no (x := x) q2).trans q3)
    clear q2 q3
    go_enter Try.func16, Try.ntmps16
    go_wp2_with fail
    refine (newGame_bad v l f lost _ hv q1).mono ?_
    rintro e w1 ⟨rfl, b1⟩
    go_wp2_with fail
    go_ret2
    exact PlacePost.no HP.out (by omega) b1
  · have HP := hide ((placeEr_no (x := x) q3).trans q4)
    have Q2 := hide q2
    clear q2 q3 q4
    go_enter Try.func16, Try.ntmps16
    go_wp2_with fail
    refine (newGame_few v l f lost _ hv q1 (by have := Q2.out; omega)).mono ?_
    rintro e w1 ⟨rfl, b1⟩
    go_wp2_with fail
    go_ret2
    exact PlacePost.no HP.out (by omega) b1
set_option maxRecDepth 100000 in
set_option maxHeartbeats 400000 in
theorem RSame15_any (v1 v2 : Value) (l1 l2 : List Iv) (w : World) (hv1 : IvRow w v1 l1) (hv2 : IvRow w v2 l2) :
    Calls Try.prog 18 #[v1, v2] w fun e w' => e = .returned (.bool (decide (l1 = l2))) ∧ Below w.heap.size w w' := by
  obtain ⟨a, cap, rfl, h1, h2, h3⟩ := hv1
  obtain ⟨a', cap', rfl, h1', h2', h3'⟩ := hv2
  by_cases hlen : l1.length = l2.length
  · have hne : ((l1.length : Int) != (l2.length : Int)) = false := by simp [hlen]
    have hlen' := hide hlen; clear hlen
    go_enter Try.func18, Try.ntmps18
    go_wp2
    go_loopw [5] (fun i wr => ∃ k : Nat, k ≤ l1.length ∧ i = .int .i64 k ∧ (∀ j, j < k → iLo l1 j = iLo l2 j ∧ iHi l1 j = iHi l2 j) ∧ Below w.heap.size w wr) (fun i _ => l1.length - (intOf i).toNat)
    case atStart => exact ⟨0, Nat.zero_le _, rfl, fun j hj => by omega, Below.refl _ _⟩
    case round =>
      obtain ⟨k, hk, rfl, hall, hB⟩ := hrel
      have Hall := hide hall; clear hall
      by_cases hlt : k < l1.length
      · obtain ⟨b, off, rfl, h4, h5, h6⟩ := h3 k hlt
        obtain ⟨b', off', rfl, h4', h5', h6'⟩ := h3' k (by have := hlen'.out; omega)
        have g5 := (hB.cell (p := ⟨b, off + k * 2, none⟩) h4).trans h5
        have g6 := (hB.cell (p := ⟨b, off + k * 2 + 1, none⟩) h4).trans h6
        have g5' := (hB.cell (p := ⟨b', off' + k * 2, none⟩) h4').trans h5'
        have g6' := (hB.cell (p := ⟨b', off' + k * 2 + 1, none⟩) h4').trans h6'
        have hlt' : k < l2.length := by have := hlen'.out; omega
        clear h5 h6 h3 h5' h6' h3'
        by_cases heq : ivEq (iLo l1 k) (iHi l1 k) (iLo l2 k) (iHi l2 k) = true
        · go_wp2_with fail
          go_quiet (fail)
          go_wp2
          go_roundw
          case rel =>
            refine ⟨k + 1, by omega, by go_num, ?_, (by ((repeat' (first | exact Below.refl _ _ | exact hB | refine Below.alloc ?_ ?_ _ | refine Below.setCell ?_ ?_ _ | refine Below.drew ?_ | refine below_drewN ?_ _ | refine Below.trans ?_ (hB.mono ?_))) <;> (first | omega | (simp; done) | (simp; omega))))⟩
            intro j hj
            rcases Nat.lt_or_ge j k with h | h
            · exact Hall.out j h
            · obtain rfl : j = k := by omega
              simpa [ivEq] using heq
          case measure => simp [intOf]; omega
        · have heq' : ivEq (iLo l1 k) (iHi l1 k) (iLo l2 k) (iHi l2 k) = false := by simpa using heq
          clear heq
          go_wp2_with fail
          go_quiet (fail)
          go_wp2
          go_ret
          refine ⟨ret_bool ?_, (by ((repeat' (first | exact Below.refl _ _ | exact hB | refine Below.alloc ?_ ?_ _ | refine Below.setCell ?_ ?_ _ | refine Below.drew ?_ | refine below_drewN ?_ _ | refine Below.trans ?_ (hB.mono ?_))) <;> (first | omega | (simp; done) | (simp; omega))))⟩
          symm; rw [decide_eq_false_iff_not]
          rintro rfl
          simp [ivEq] at heq'
      · go_wp2
        go_ret
        refine ⟨ret_bool ?_, hB⟩
        symm; rw [decide_eq_true_iff]
        exact list_ext hlen'.out fun j hj => Hall.out j (by omega)
  · have hne : ((l1.length : Int) != (l2.length : Int)) = true := by rw [bne_iff_ne]; omega
    have hlen' := hide hlen; clear hlen
    go_enter Try.func18, Try.ntmps18
    go_wp2
    go_ret
    refine ⟨ret_bool ?_, Below.refl _ _⟩
    symm; rw [decide_eq_false_iff_not]
    rintro rfl
    exact hlen'.out rfl
set_option maxRecDepth 100000 in
set_option maxHeartbeats 400000 in
theorem RSameInts15_any (v1 v2 : Value) (l1 l2 : List Int) (w : World) (hv1 : IsRow w v1 l1) (hv2 : IsRow w v2 l2) :
    Calls Try.prog 15 #[v1, v2] w fun e w' => e = .returned (.bool (decide (l1 = l2))) ∧ Below w.heap.size w w' := by
  obtain ⟨a, cap, rfl, h1, h2, h3⟩ := hv1
  obtain ⟨a', cap', rfl, h1', h2', h3'⟩ := hv2
  by_cases hlen : l1.length = l2.length
  · have hne : ((l1.length : Int) != (l2.length : Int)) = false := by simp [hlen]
    have hlen' := hide hlen; clear hlen
    go_enter Try.func15, Try.ntmps15
    go_wp2
    go_loopw [5] (fun i wr => ∃ k : Nat, k ≤ l1.length ∧ i = .int .i64 k ∧ (∀ j, j < k → iAt l1 j = iAt l2 j) ∧ Below w.heap.size w wr) (fun i _ => l1.length - (intOf i).toNat)
    case atStart => exact ⟨0, Nat.zero_le _, rfl, fun j hj => by omega, Below.refl _ _⟩
    case round =>
      obtain ⟨k, hk, rfl, hall, hB⟩ := hrel
      have Hall := hide hall; clear hall
      by_cases hlt : k < l1.length
      · obtain ⟨b, off, rfl, h4, h5⟩ := h3 k hlt
        obtain ⟨b', off', rfl, h4', h5'⟩ := h3' k (by have := hlen'.out; omega)
        have g5 := (hB.cell (p := ⟨b, off + k, none⟩) h4).trans h5
        have g5' := (hB.cell (p := ⟨b', off' + k, none⟩) h4').trans h5'
        have hlt' : k < l2.length := by have := hlen'.out; omega
        clear h5 h3 h5' h3'
        by_cases heq : iAt l1 k = iAt l2 k
        · have heq' : (iAt l1 k != iAt l2 k) = false := by simp [heq]
          have Heq := hide heq
          clear heq
          go_wp2_with fail
          go_quiet (fail)
          go_wp2
          go_roundw
          case rel =>
            refine ⟨k + 1, by omega, by go_num, ?_, (by ((repeat' (first | exact Below.refl _ _ | exact hB | refine Below.alloc ?_ ?_ _ | refine Below.setCell ?_ ?_ _ | refine Below.drew ?_ | refine below_drewN ?_ _ | refine Below.trans ?_ (hB.mono ?_))) <;> (first | omega | (simp; done) | (simp; omega))))⟩
            intro j hj
            rcases Nat.lt_or_ge j k with h | h
            · exact Hall.out j h
            · obtain rfl : j = k := by omega
              exact Heq.out
          case measure => simp [intOf]; omega
        · have heq' : (iAt l1 k != iAt l2 k) = true := by rw [bne_iff_ne]; exact heq
          have Heq := hide heq
          clear heq
          go_wp2_with fail
          go_quiet (fail)
          go_wp2
          go_ret
          refine ⟨ret_bool ?_, (by ((repeat' (first | exact Below.refl _ _ | exact hB | refine Below.alloc ?_ ?_ _ | refine Below.setCell ?_ ?_ _ | refine Below.drew ?_ | refine below_drewN ?_ _ | refine Below.trans ?_ (hB.mono ?_))) <;> (first | omega | (simp; done) | (simp; omega))))⟩
          symm; rw [decide_eq_false_iff_not]
          rintro rfl
          exact Heq.out rfl
      · go_wp2
        go_ret
        refine ⟨ret_bool ?_, hB⟩
        symm; rw [decide_eq_true_iff]
        exact ints_ext hlen'.out fun j hj => Hall.out j (by omega)
  · have hne : ((l1.length : Int) != (l2.length : Int)) = true := by rw [bne_iff_ne]; omega
    have hlen' := hide hlen; clear hlen
    go_enter Try.func15, Try.ntmps15
    go_wp2
    go_ret
    refine ⟨ret_bool ?_, Below.refl _ _⟩
    symm; rw [decide_eq_false_iff_not]
    rintro rfl
    exact hlen'.out rfl
end Go.Proofs.Ytcpfifbchijleaa
