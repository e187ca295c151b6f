/- Package watch and its reference: a closed round, a missed one, lists of alarms. -/
import Derived.Test.YthklljlachljgaaWtP
import Derived.Test.YthklljlachljgaaCbD
import Derived.Lib.Small
import Derived.IntWalk
namespace Go.Proofs.Ythklljlachljgaa
open Go.RowKit
theorem run_eql_al (w : World) (a b c d : Int) : (binOp .eql 39 (.agg #[.int .i64 a, .int .i64 b]) (.agg #[.int .i64 c, .int .i64 d])).run Try.prog w = .ok (.bool (ivEq a b c d)) w := by
  simp [go_sem, Try.underlying39]
  by_cases h1 : a = c <;> by_cases h2 : b = d <;> simp [ivEq, h1, h2]
theorem run_neq_al (w : World) (a b c d : Int) : (binOp .neq 39 (.agg #[.int .i64 a, .int .i64 b]) (.agg #[.int .i64 c, .int .i64 d])).run Try.prog w = .ok (.bool (!ivEq a b c d)) w := by
  simp [go_sem, Try.underlying39]
  by_cases h1 : a = c <;> by_cases h2 : b = d <;> simp [ivEq, h1, h2]
attribute [local go_sem ↓] run_max_mx run_min_mn run_eql_iv run_neq_iv run_eql_al run_neq_al
set_option maxRecDepth 100000 in
set_option maxHeartbeats 400000 in
theorem within_any (n lo hi : Int) (w : World) : Calls Try.prog 27 #[.int .i64 n, .int .i64 lo, .int .i64 hi] w fun e w' => e = .returned (.bool (inB n lo hi)) ∧ w = w' := by
  go_enter Try.func27, Try.ntmps27
  go_wp2
  all_goals go_ret
  all_goals exact ⟨ret_bool (by unfold inB; rw [Bool.eq_iff_iff]; simp only [decide_eq_true_eq, Bool.false_eq_true, false_iff]; omega), rfl⟩
set_option maxRecDepth 100000 in
set_option maxHeartbeats 400000 in
theorem Rwithin_any (n lo hi : Int) (w : World) : Calls Try.prog 28 #[.int .i64 n, .int .i64 lo, .int .i64 hi] w fun e w' => e = .returned (.bool (inB n lo hi)) ∧ w = w' := by
  go_enter Try.func28, Try.ntmps28
  go_wp2
  all_goals go_ret
  all_goals exact ⟨ret_bool (by unfold inB; rw [Bool.eq_iff_iff]; simp only [decide_eq_true_eq, Bool.false_eq_true, false_iff]; omega), rfl⟩
set_option maxRecDepth 100000 in
set_option maxHeartbeats 400000 in
theorem outside_any (x : Int) (w : World) : Calls Try.prog 37 #[.int .i64 x] w fun e w' => e = .returned (.bool (!inB x 0 16)) ∧ w = w' := by
  go_enter Try.func37, Try.ntmps37
  go_wp2_with (go_at_call 27; refine (within_any _ _ _ _).mono ?_; rintro e w' ⟨rfl, rfl⟩)
  go_ret
  exact ⟨rfl, rfl⟩
set_option maxRecDepth 100000 in
set_option maxHeartbeats 400000 in
theorem wrongIv_any (lo hi : Int) (w : World) :
    Calls Try.prog 35 #[.agg #[.int .i64 lo, .int .i64 hi]] w fun e w' => e = .returned (.bool (!validB lo hi)) ∧ Below w.heap.size w w' := by
  go_enter Try.func35, Try.ntmps35
  go_wp2_with (go_at_call 36; refine (Valid_any _ _ _).mono ?_; rintro e w' ⟨rfl, rfl⟩)
  go_ret
  exact ⟨rfl, (by ((repeat' (first | exact Below.refl _ _ | refine Below.alloc ?_ ?_ _ | refine Below.setCell ?_ ?_ _ | refine Below.drew ?_ | refine below_drewN ?_ _)) <;> (first | omega | (simp; done) | (simp; omega))))⟩
set_option maxRecDepth 100000 in
set_option maxHeartbeats 400000 in
theorem IndexR_any (v : Value) (l : List Iv) (w : World) (hv : IvRow w v l) :
    Calls Try.prog 45 #[v, .func (.func 35) #[] #[]] w fun e w' => (∃ r : Int, e = .returned (.int .i64 r) ∧ (r < 0 ∧ allV l l.length = true ∨ 0 ≤ r ∧ allV l l.length = false)) ∧ Below w.heap.size w w' := by
  obtain ⟨a, cap, rfl, h1, h2, h3⟩ := hv
  go_enter Try.func45, Try.ntmps45
  go_wp2
  go_loopw [8] (fun i wr => ∃ k : Nat, k ≤ l.length ∧ i = .int .i64 k ∧ allV l k = true ∧ Below w.heap.size w wr) (fun i _ => l.length - (intOf i).toNat)
  case atStart => exact ⟨0, Nat.zero_le _, rfl, rfl, Below.refl _ _⟩
  case round =>
    obtain ⟨k, hk, rfl, hall, hB⟩ := hrel
    have Hall := hide hall; clear hall
    by_cases hlt : k < l.length
    · obtain ⟨b, off, rfl, h4, h5, h6⟩ := h3 k hlt
      have h5' := (hB.cell (p := ⟨b, off + k * 2, none⟩) h4).trans h5
      have h6' := (hB.cell (p := ⟨b, off + k * 2 + 1, none⟩) h4).trans h6
      clear h5 h6 h3
      have hz := hB.size
      by_cases hval : validB (iLo l k) (iHi l k) = true
      · go_wp2_with (go_at_call 35; refine (wrongIv_any _ _ _).mono ?_; rintro e w' ⟨rfl, hb⟩)
        go_roundw
        case rel => exact ⟨k + 1, by omega, by go_num, by simp [allV, Hall.out, hval], (by ((repeat' (first | exact Below.refl _ _ | exact hB | exact hb | refine Below.alloc ?_ ?_ _ | refine Below.setCell ?_ ?_ _ | refine Below.drew ?_ | refine below_drewN ?_ _ | refine Below.trans ?_ (hB.mono ?_) | refine Below.trans ?_ (hb.mono ?_))) <;> (first | omega | (simp; done) | (simp; omega))))⟩
        case measure => simp [intOf]; omega
      · have hval' : validB (iLo l k) (iHi l k) = false := by simpa using hval
        clear hval
        go_wp2_with (go_at_call 35; refine (wrongIv_any _ _ _).mono ?_; rintro e w' ⟨rfl, hb⟩)
        go_ret
        exact ⟨⟨_, rfl, .inr ⟨by omega, allV_false l k hval' _ hlt⟩⟩, (by ((repeat' (first | exact Below.refl _ _ | exact hB | exact hb | refine Below.alloc ?_ ?_ _ | refine Below.setCell ?_ ?_ _ | refine Below.drew ?_ | refine below_drewN ?_ _ | refine Below.trans ?_ (hB.mono ?_) | refine Below.trans ?_ (hb.mono ?_))) <;> (first | omega | (simp; done) | (simp; omega))))⟩
    · go_wp2
      go_ret
      exact ⟨⟨_, rfl, .inl ⟨by omega, by rw [← Hall.out, show k = l.length by omega]⟩⟩, hB⟩

set_option maxRecDepth 100000 in
set_option maxHeartbeats 400000 in
theorem ContainsR_any (v : Value) (l : List Iv) (w : World) (hv : IvRow w v l) :
    Calls Try.prog 38 #[v, .func (.func 35) #[] #[]] w fun e w' => e = .returned (.bool (!allV l l.length)) ∧ Below w.heap.size w w' := by
  go_enter Try.func38, Try.ntmps38
  go_wp2_with (go_at_call 45; refine (IndexR_any _ l _ hv).mono ?_; rintro e w' ⟨⟨r, rfl, hr⟩, hb⟩)
  go_ret
  refine ⟨ret_bool ?_, hb⟩
  rcases hr with ⟨h1, h2⟩ | ⟨h1, h2⟩ <;> simp [h2] <;> omega

set_option maxRecDepth 100000 in
set_option maxHeartbeats 400000 in
theorem IndexO_any (v : Value) (l : List Int) (w : World) (hv : IsRow w v l) :
    Calls Try.prog 46 #[v, .func (.func 37) #[] #[]] w fun e w' => (∃ r : Int, e = .returned (.int .i64 r) ∧ (r < 0 ∧ allO l l.length = true ∨ 0 ≤ r ∧ allO l l.length = false)) ∧ Below w.heap.size w w' := by
  obtain ⟨a, cap, rfl, h1, h2, h3⟩ := hv
  go_enter Try.func46, Try.ntmps46
  go_wp2
  go_loopw [8] (fun i wr => ∃ k : Nat, k ≤ l.length ∧ i = .int .i64 k ∧ allO l k = true ∧ Below w.heap.size w wr) (fun i _ => l.length - (intOf i).toNat)
  case atStart => exact ⟨0, Nat.zero_le _, rfl, rfl, Below.refl _ _⟩
  case round =>
    obtain ⟨k, hk, rfl, hall, hB⟩ := hrel
    have Hall := hide hall; clear hall
    by_cases hlt : k < l.length
    · obtain ⟨b, off, rfl, h4, h5⟩ := h3 k hlt
      have h5' := (hB.cell (p := ⟨b, off + k, none⟩) h4).trans h5
      clear h5 h3
      have hz := hB.size
      by_cases hval : inB (iAt l k) 0 16 = true
      · go_wp2_with (go_at_call 37; refine (outside_any _ _).mono ?_; rintro e w' ⟨rfl, rfl⟩)
        go_roundw
        case rel => exact ⟨k + 1, by omega, by go_num, by simp [allO, Hall.out, hval], hB⟩
        case measure => simp [intOf]; omega
      · have hval' : inB (iAt l k) 0 16 = false := by simpa using hval
        clear hval
        go_wp2_with (go_at_call 37; refine (outside_any _ _).mono ?_; rintro e w' ⟨rfl, rfl⟩)
        go_ret
        exact ⟨⟨_, rfl, .inr ⟨by omega, allO_false l k hval' _ hlt⟩⟩, hB⟩
    · go_wp2
      go_ret
      exact ⟨⟨_, rfl, .inl ⟨by omega, by rw [← Hall.out, show k = l.length by omega]⟩⟩, hB⟩
set_option maxRecDepth 100000 in
set_option maxHeartbeats 400000 in
theorem ContainsO_any (v : Value) (l : List Int) (w : World) (hv : IsRow w v l) :
    Calls Try.prog 39 #[v, .func (.func 37) #[] #[]] w fun e w' => e = .returned (.bool (!allO l l.length)) ∧ Below w.heap.size w w' := by
  go_enter Try.func39, Try.ntmps39
  go_wp2_with (go_at_call 46; refine (IndexO_any _ l _ hv).mono ?_; rintro e w' ⟨⟨r, rfl, hr⟩, hb⟩)
  go_ret
  refine ⟨ret_bool ?_, hb⟩
  rcases hr with ⟨h1, h2⟩ | ⟨h1, h2⟩ <;> simp [h2] <;> omega

set_option maxRecDepth 100000 in
set_option maxHeartbeats 400000 in
theorem RSame40_any (v1 v2 : Value) (l1 l2 : List Iv) (w : World) (hv1 : IvRow w v1 l1) (hv2 : IvRow w v2 l2) :
    Calls Try.prog 13 #[v1, v2] w fun e w' => e = .returned (.bool (decide (l1 = l2))) ∧ Below w.heap.size w w' := by
  obtain ⟨a, cap, rfl, h1, h2, h3⟩ := hv1
  obtain ⟨a', cap', rfl, h1', h2', h3'⟩ := hv2
  by_cases hlen : l1.length = l2.length
  · have hne : ((l1.length : Int) != (l2.length : Int)) = false := by simp [hlen]
    have hlen' := hide hlen; clear hlen
    go_enter Try.func13, Try.ntmps13
    go_wp2
    go_loopw [5] (fun i wr => ∃ k : Nat, k ≤ l1.length ∧ i = .int .i64 k ∧ (∀ j, j < k → iLo l1 j = iLo l2 j ∧ iHi l1 j = iHi l2 j) ∧ Below w.heap.size w wr) (fun i _ => l1.length - (intOf i).toNat)
    case atStart => exact ⟨0, Nat.zero_le _, rfl, fun j hj => by omega, Below.refl _ _⟩
    case round =>
      obtain ⟨k, hk, rfl, hall, hB⟩ := hrel
      have Hall := hide hall; clear hall
      by_cases hlt : k < l1.length
      · obtain ⟨b, off, rfl, h4, h5, h6⟩ := h3 k hlt
        obtain ⟨b', off', rfl, h4', h5', h6'⟩ := h3' k (by have := hlen'.out; omega)
        have g5 := (hB.cell (p := ⟨b, off + k * 2, none⟩) h4).trans h5
        have g6 := (hB.cell (p := ⟨b, off + k * 2 + 1, none⟩) h4).trans h6
        have g5' := (hB.cell (p := ⟨b', off' + k * 2, none⟩) h4').trans h5'
        have g6' := (hB.cell (p := ⟨b', off' + k * 2 + 1, none⟩) h4').trans h6'
        have hlt' : k < l2.length := by have := hlen'.out; omega
        clear h5 h6 h3 h5' h6' h3'
        by_cases heq : ivEq (iLo l1 k) (iHi l1 k) (iLo l2 k) (iHi l2 k) = true
        · go_wp2_with fail
          go_quiet (fail)
          go_wp2
          go_roundw
          case rel =>
            refine ⟨k + 1, by omega, by go_num, ?_, (by ((repeat' (first | exact Below.refl _ _ | exact hB | refine Below.alloc ?_ ?_ _ | refine Below.setCell ?_ ?_ _ | refine Below.drew ?_ | refine below_drewN ?_ _ | refine Below.trans ?_ (hB.mono ?_))) <;> (first | omega | (simp; done) | (simp; omega))))⟩
            intro j hj
            rcases Nat.lt_or_ge j k with h | h
            · exact Hall.out j h
            · obtain rfl : j = k := by omega
              simpa [ivEq] using heq
          case measure => simp [intOf]; omega
        · have heq' : ivEq (iLo l1 k) (iHi l1 k) (iLo l2 k) (iHi l2 k) = false := by simpa using heq
          clear heq
          go_wp2_with fail
          go_quiet (fail)
          go_wp2
          go_ret
          refine ⟨ret_bool ?_, (by ((repeat' (first | exact Below.refl _ _ | exact hB | refine Below.alloc ?_ ?_ _ | refine Below.setCell ?_ ?_ _ | refine Below.drew ?_ | refine below_drewN ?_ _ | refine Below.trans ?_ (hB.mono ?_))) <;> (first | omega | (simp; done) | (simp; omega))))⟩
          symm; rw [decide_eq_false_iff_not]
          rintro rfl
          simp [ivEq] at heq'
      · go_wp2
        go_ret
        refine ⟨ret_bool ?_, hB⟩
        symm; rw [decide_eq_true_iff]
        exact list_ext hlen'.out fun j hj => Hall.out j (by omega)
  · have hne : ((l1.length : Int) != (l2.length : Int)) = true := by rw [bne_iff_ne]; omega
    have hlen' := hide hlen; clear hlen
    go_enter Try.func13, Try.ntmps13
    go_wp2
    go_ret
    refine ⟨ret_bool ?_, Below.refl _ _⟩
    symm; rw [decide_eq_false_iff_not]
    rintro rfl
    exact hlen'.out rfl
set_option maxRecDepth 100000 in
set_option maxHeartbeats 400000 in
theorem RAuths_any (v : Value) (l : List Int) (w : World) (hv : IsRow w v l) :
    Calls Try.prog 30 #[v] w fun e w' => e = .returned (.bool (auB l l.length)) ∧ Below w.heap.size w w' := by
  obtain ⟨a, cap, rfl, h1, h2, h3⟩ := hv
  go_enter Try.func30, Try.ntmps30
  go_wp2
  go_loopw [3] (fun i wr => ∃ k : Nat, k ≤ l.length ∧ i = .int .i64 k ∧ Hid (auB l k = true) ∧ Below w.heap.size w wr) (fun i _ => l.length - (intOf i).toNat)
  case atStart => exact ⟨0, Nat.zero_le _, rfl, hide rfl, Below.refl _ _⟩
  case round =>
    obtain ⟨k, hk, rfl, Hall, hB⟩ := hrel
    by_cases hlt : k < l.length
    · obtain ⟨b, off, rfl, h4, h5⟩ := h3 k hlt
      have h5' := (hB.cell (p := ⟨b, off + k, none⟩) h4).trans h5
      have hl0 := lastA_bd l k Hall.out
      clear h5
      cases hval : inB (iAt l k) 1 16 with
      | false =>
        have hf : auB l l.length = false := auB_false l k (by simp only [inB, decide_eq_false_iff_not] at hval ⊢; omega) _ hlt
        have HF := hide hf
        clear hf h3
        go_wp2
        go_quiet ((go_at_call 28; exact Calls.quiet_of_same ((Rwithin_any _ _ _ _).mono (by rintro e w' ⟨rfl, rfl⟩; exact ⟨by rw [hval], rfl⟩))))
        go_wp2
        go_ret
        exact ⟨ret_bool HF.out.symm, (by ((repeat' (first | exact Below.refl _ _ | exact hB | refine Below.alloc ?_ ?_ _ | refine Below.setCell ?_ ?_ _ | refine Below.drew ?_ | refine below_drewN ?_ _ | refine Below.trans ?_ (hB.mono ?_))) <;> (first | omega | (simp; done) | (simp; omega))))⟩
      | true =>
        cases k with
        | zero =>
          have hn : Hid (auB l (0 + 1) = true) := by
            show _ = _
            rw [auB, Hall.out, show lastA l 0 + 1 = 1 from rfl, hval]; rfl
          clear h3
          rw [Nat.add_zero] at h5'
          have hlt' : (0 : Int) < (l.length : Int) := by omega
          go_wp2
          go_quiet ((go_at_call 28; exact Calls.quiet_of_same ((Rwithin_any _ _ _ _).mono (by rintro e w' ⟨rfl, rfl⟩; exact ⟨by rw [hval], rfl⟩))))
          go_wp2
          go_roundw
          case rel => exact ⟨0 + 1, by omega, by go_num, hn, (by ((repeat' (first | exact Below.refl _ _ | exact hB | refine Below.alloc ?_ ?_ _ | refine Below.setCell ?_ ?_ _ | refine Below.drew ?_ | refine below_drewN ?_ _ | refine Below.trans ?_ (hB.mono ?_))) <;> (first | omega | (simp; done) | (simp; omega))))⟩
          case measure => simp [intOf]; omega
        | succ j =>
          obtain ⟨b', off', hb, h4', h6⟩ := h3 j (by omega)
          cases hb
          have h6' := (hB.cell (p := ⟨b, off + j, none⟩) h4).trans h6
          have ww : IntKind.i64.wrap (((j + 1 : Nat) : Int) - 1) = j := by rw [IntWalk.i64_in _ (by omega)]; omega
          have ww1 : IntKind.i64.wrap ((j : Int) + 1 - 1) = j := by rw [IntWalk.i64_in _ (by omega)]; omega
          have hjl : j < l.length := by omega
          have hle : lastA l (j + 1) = iAt l j := rfl
          rw [hle] at hl0
          clear h3 h6
          by_cases hc : iAt l (j + 1) ≤ iAt l j
          · have hf : auB l l.length = false := auB_false l (j + 1) (by rw [hle]; simp only [inB, decide_eq_false_iff_not]; omega) _ hlt
            have HF := hide hf
            have hc2 : decide (iAt l (j + 1) ≤ iAt l j) = true := decide_eq_true hc
            clear hf hle
            go_wp2
            go_quiet ((go_at_call 28; exact Calls.quiet_of_same ((Rwithin_any _ _ _ _).mono (by rintro e w' ⟨rfl, rfl⟩; exact ⟨by rw [hval], rfl⟩))))
            go_wp2
            go_ret
            exact ⟨ret_bool HF.out.symm, (by ((repeat' (first | exact Below.refl _ _ | exact hB | refine Below.alloc ?_ ?_ _ | refine Below.setCell ?_ ?_ _ | refine Below.drew ?_ | refine below_drewN ?_ _ | refine Below.trans ?_ (hB.mono ?_))) <;> (first | omega | (simp; done) | (simp; omega))))⟩
          · have hn : Hid (auB l (j + 1 + 1) = true) := by
              show _ = _
              rw [auB, Hall.out, hle]
              simp only [inB, decide_eq_true_eq] at hval
              simp [inB]; omega
            have hc2 : decide (iAt l (j + 1) ≤ iAt l j) = false := decide_eq_false hc
            clear hle
            go_wp2
            go_quiet ((go_at_call 28; exact Calls.quiet_of_same ((Rwithin_any _ _ _ _).mono (by rintro e w' ⟨rfl, rfl⟩; exact ⟨by rw [hval], rfl⟩))))
            go_wp2
            go_roundw
            case rel => exact ⟨j + 1 + 1, by omega, by go_num, hn, (by ((repeat' (first | exact Below.refl _ _ | exact hB | refine Below.alloc ?_ ?_ _ | refine Below.setCell ?_ ?_ _ | refine Below.drew ?_ | refine below_drewN ?_ _ | refine Below.trans ?_ (hB.mono ?_))) <;> (first | omega | (simp; done) | (simp; omega))))⟩
            case measure => simp [intOf]; omega
    · obtain rfl : k = l.length := by omega
      go_wp2
      go_ret
      exact ⟨ret_bool Hall.out.symm, hB⟩
set_option maxRecDepth 100000 in
set_option maxHeartbeats 1000000 in
theorem RRound_any (a b : Int) (va v : Value) (au : List Int) (l : List Iv) (f lost asked promise : Int) (w : World) (hva : IsRow w va au) (hv : IvRow w v l) :
    Calls Try.prog 16 #[.agg #[.int .i64 a, .int .i64 b], va, v, .int .i64 f, .int .i64 lost, .int .i64 asked, .int .i64 promise] w fun e w' => e = .returned (.bool (rndB a b au l f lost asked promise)) ∧ Below w.heap.size w w' := by
  obtain ⟨a1, cap1, rfl, g1, g2, g3⟩ := id hva
  obtain ⟨a2, cap2, rfl, h1, h2, h3⟩ := hv
  clear g3
  cases p1 : validB a b with
  | false =>
    have HF := hide (show rndB a b au l f lost asked promise = false by simp [rndB, p1])
    go_enter Try.func16, Try.ntmps16
    go_wp2_with (go_at_call 29; refine (RValid_any _ _ _).mono ?_; rintro e w' ⟨rfl, rfl⟩; rw [p1])
    go_ret
    exact ⟨ret_bool HF.out.symm, (by ((repeat' (first | exact Below.refl _ _ | refine Below.alloc ?_ ?_ _ | refine Below.setCell ?_ ?_ _ | refine Below.drew ?_ | refine below_drewN ?_ _)) <;> (first | omega | (simp; done) | (simp; omega))))⟩
  | true =>
  cases p2 : auB au au.length with
  | false =>
    have HF := hide (show rndB a b au l f lost asked promise = false by simp [rndB, p2])
    go_enter Try.func16, Try.ntmps16
    go_wp2_with (first | (go_at_call 29; refine (RValid_any _ _ _).mono ?_; rintro e w' ⟨rfl, rfl⟩; rw [p1]) | (go_at_call 30; refine (RAuths_any _ au _ (hva.below (Nat.le_refl _) (by ((repeat' (first | exact Below.refl _ _ | refine Below.alloc ?_ ?_ _ | refine Below.setCell ?_ ?_ _ | refine Below.drew ?_ | refine below_drewN ?_ _)) <;> (first | omega | (simp; done) | (simp; omega)))))).mono ?_; rintro e w1 ⟨rfl, b1⟩; rw [p2]))
    go_ret
    exact ⟨ret_bool HF.out.symm, (by ((repeat' (first | exact Below.refl _ _ | exact b1 | refine Below.alloc ?_ ?_ _ | refine Below.setCell ?_ ?_ _ | refine Below.drew ?_ | refine below_drewN ?_ _ | refine Below.trans ?_ (b1.mono ?_))) <;> (first | omega | (simp; done) | (simp; omega))))⟩
  | true =>
  by_cases h3' : au.length = l.length
  case neg =>
    have HF := hide (show rndB a b au l f lost asked promise = false by simp [rndB, h3'])
    have p3 : ((au.length : Int) != (l.length : Int)) = true := by rw [bne_iff_ne]; omega
    clear h3'
    go_enter Try.func16, Try.ntmps16
    go_wp2_with (first | (go_at_call 29; refine (RValid_any _ _ _).mono ?_; rintro e w' ⟨rfl, rfl⟩; rw [p1]) | (go_at_call 30; refine (RAuths_any _ au _ (hva.below (Nat.le_refl _) (by ((repeat' (first | exact Below.refl _ _ | refine Below.alloc ?_ ?_ _ | refine Below.setCell ?_ ?_ _ | refine Below.drew ?_ | refine below_drewN ?_ _)) <;> (first | omega | (simp; done) | (simp; omega)))))).mono ?_; rintro e w1 ⟨rfl, b1⟩; rw [p2]))
    go_ret
    exact ⟨ret_bool HF.out.symm, (by ((repeat' (first | exact Below.refl _ _ | exact b1 | refine Below.alloc ?_ ?_ _ | refine Below.setCell ?_ ?_ _ | refine Below.drew ?_ | refine below_drewN ?_ _ | refine Below.trans ?_ (b1.mono ?_))) <;> (first | omega | (simp; done) | (simp; omega))))⟩
  have p3 : ((au.length : Int) != (l.length : Int)) = false := by simp [h3']
  have Hlen := hide h3'
  clear h3'
  cases p4 : inB promise 0 3000000000000000 with
  | false =>
    have HF := hide (show rndB a b au l f lost asked promise = false by simp [rndB, p4])
    go_enter Try.func16, Try.ntmps16
    go_wp2_with (first | (go_at_call 29; refine (RValid_any _ _ _).mono ?_; rintro e w' ⟨rfl, rfl⟩; rw [p1]) | (go_at_call 30; refine (RAuths_any _ au _ (hva.below (Nat.le_refl _) (by ((repeat' (first | exact Below.refl _ _ | refine Below.alloc ?_ ?_ _ | refine Below.setCell ?_ ?_ _ | refine Below.drew ?_ | refine below_drewN ?_ _)) <;> (first | omega | (simp; done) | (simp; omega)))))).mono ?_; rintro e w1 ⟨rfl, b1⟩; rw [p2]) | (go_at_call 28; refine (Rwithin_any _ _ _ _).mono ?_; rintro e w' ⟨rfl, rfl⟩; rw [p4]))
    go_ret
    exact ⟨ret_bool HF.out.symm, (by ((repeat' (first | exact Below.refl _ _ | exact b1 | refine Below.alloc ?_ ?_ _ | refine Below.setCell ?_ ?_ _ | refine Below.drew ?_ | refine below_drewN ?_ _ | refine Below.trans ?_ (b1.mono ?_))) <;> (first | omega | (simp; done) | (simp; omega))))⟩
  | true =>
  have HR := hide (show rndB a b au l f lost asked promise = (allV l l.length && (inB f 0 16 && inB lost 0 16 && inB asked 0 16)) by unfold rndB; rw [p1, p2, p4, decide_eq_true Hlen.out]; simp)
  go_enter Try.func16, Try.ntmps16
  go_wp2_with (first | (go_at_call 29; refine (RValid_any _ _ _).mono ?_; rintro e w' ⟨rfl, rfl⟩; rw [p1]) | (go_at_call 30; refine (RAuths_any _ au _ (hva.below (Nat.le_refl _) (by ((repeat' (first | exact Below.refl _ _ | refine Below.alloc ?_ ?_ _ | refine Below.setCell ?_ ?_ _ | refine Below.drew ?_ | refine below_drewN ?_ _)) <;> (first | omega | (simp; done) | (simp; omega)))))).mono ?_; rintro e w1 ⟨rfl, b1⟩; rw [p2]) | (go_at_call 28; refine (Rwithin_any _ _ _ _).mono ?_; rintro e w' ⟨rfl, rfl⟩; rw [p4]))
  go_loopw [15] (fun i wr => ∃ k : Nat, k ≤ l.length ∧ i = .int .i64 k ∧ Hid (allV l k = true) ∧ Below w.heap.size w wr) (fun i _ => l.length - (intOf i).toNat)
  case atStart => exact ⟨0, Nat.zero_le _, rfl, hide rfl, (by ((repeat' (first | exact Below.refl _ _ | exact b1 | refine Below.alloc ?_ ?_ _ | refine Below.setCell ?_ ?_ _ | refine Below.drew ?_ | refine below_drewN ?_ _ | refine Below.trans ?_ (b1.mono ?_))) <;> (first | omega | (simp; done) | (simp; omega))))⟩
  case round =>
    obtain ⟨k, hk, rfl, Hall, hB⟩ := hrel
    by_cases hlt : k < l.length
    · obtain ⟨b', off, rfl, h4, h5, h6⟩ := h3 k hlt
      have h5' := (hB.cell (p := ⟨b', off + k * 2, none⟩) h4).trans h5
      have h6' := (hB.cell (p := ⟨b', off + k * 2 + 1, none⟩) h4).trans h6
      have hz := hB.size
      clear h5 h6 h3
      cases q1 : validB (iLo l k) (iHi l k) with
      | false =>
        have HF := hide (HR.out.trans (by rw [allV_false l k q1 _ hlt, Bool.false_and]))
        go_wp2_with (go_at_call 29; refine (RValid_any _ _ _).mono ?_; rintro e w' ⟨rfl, rfl⟩; rw [q1])
        go_ret
        exact ⟨ret_bool HF.out.symm, (by ((repeat' (first | exact Below.refl _ _ | exact hB | refine Below.alloc ?_ ?_ _ | refine Below.setCell ?_ ?_ _ | refine Below.drew ?_ | refine below_drewN ?_ _ | refine Below.trans ?_ (hB.mono ?_))) <;> (first | omega | (simp; done) | (simp; omega))))⟩
      | true =>
        go_wp2_with (go_at_call 29; refine (RValid_any _ _ _).mono ?_; rintro e w' ⟨rfl, rfl⟩; rw [q1])
        go_roundw
        case rel => exact ⟨k + 1, by omega, by go_num, hide (by rw [allV, Hall.out, q1]; rfl), (by ((repeat' (first | exact Below.refl _ _ | exact hB | refine Below.alloc ?_ ?_ _ | refine Below.setCell ?_ ?_ _ | refine Below.drew ?_ | refine below_drewN ?_ _ | refine Below.trans ?_ (hB.mono ?_))) <;> (first | omega | (simp; done) | (simp; omega))))⟩
        case measure => simp [intOf]; omega
    · obtain rfl : k = l.length := by omega
      have HR2 := hide (HR.out.trans (by rw [Hall.out, Bool.true_and]))
      clear h3
      cases p5 : inB f 0 16 with
      | false =>
        go_wp2_with (go_at_call 28; refine (Rwithin_any _ _ _ _).mono ?_; rintro e w' ⟨rfl, rfl⟩; rw [p5])
        go_ret
        exact ⟨ret_bool (by rw [HR2.out, p5]; rfl), (by ((repeat' (first | exact Below.refl _ _ | exact hB | refine Below.alloc ?_ ?_ _ | refine Below.setCell ?_ ?_ _ | refine Below.drew ?_ | refine below_drewN ?_ _ | refine Below.trans ?_ (hB.mono ?_))) <;> (first | omega | (simp; done) | (simp; omega))))⟩
      | true =>
        cases p6 : inB lost 0 16 with
        | false =>
          go_wp2_with (go_at_call 28; refine (Rwithin_any _ _ _ _).mono ?_; rintro e w' ⟨rfl, rfl⟩; first | rw [p5] | rw [p6])
          go_ret
          exact ⟨ret_bool (by rw [HR2.out, p5, p6]; rfl), (by ((repeat' (first | exact Below.refl _ _ | exact hB | refine Below.alloc ?_ ?_ _ | refine Below.setCell ?_ ?_ _ | refine Below.drew ?_ | refine below_drewN ?_ _ | refine Below.trans ?_ (hB.mono ?_))) <;> (first | omega | (simp; done) | (simp; omega))))⟩
        | true =>
          go_wp2_with (go_at_call 28; refine (Rwithin_any _ _ _ _).mono ?_; rintro e w' ⟨rfl, rfl⟩; try first | rw [p5] | rw [p6])
          go_ret
          exact ⟨ret_bool (by rw [HR2.out, p5, p6]; simp), (by ((repeat' (first | exact Below.refl _ _ | exact hB | refine Below.alloc ?_ ?_ _ | refine Below.setCell ?_ ?_ _ | refine Below.drew ?_ | refine below_drewN ?_ _ | refine Below.trans ?_ (hB.mono ?_))) <;> (first | omega | (simp; done) | (simp; omega))))⟩
end Go.Proofs.Ythklljlachljgaa
