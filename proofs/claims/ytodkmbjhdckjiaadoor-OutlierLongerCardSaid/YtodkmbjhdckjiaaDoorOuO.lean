/- The helpers of the statements on outliers: right, agree, rising, chosen. -/
import Derived.Test.YtodkmbjhdckjiaaDoorOuN
namespace Go.Proofs.YtodkmbjhdckjiaaDoor
open Go.RowKit Go.Shelf
attribute [local go_sem ↓] run_max_mx run_min_mn
set_option maxRecDepth 100000 in
set_option maxHeartbeats 400000 in
theorem right16_any (v : Value) (l : List Iv) (w : World) (hv : IvRow w v l) : Calls Tryd.prog 18 #[v] w fun e w' => e = .returned (.bool (ouOk l)) ∧ Below w.heap.size w w' := by
  obtain ⟨a, cap, rfl, h1, h2, h3⟩ := hv
  have He := hide (show ouOk l = (decide (1 ≤ l.length ∧ l.length ≤ 16) && allV l l.length) from rfl)
  go_enter Tryd.func18, Tryd.ntmps18
  go_wp2
  go_loopw [7] (fun i wr => ∃ k : Nat, k ≤ l.length ∧ i = .int .i64 k ∧ Hid (allV l k = true) ∧ Below w.heap.size w wr) (fun i _ => l.length - (intOf i).toNat)
  case atStart => exact ⟨0, Nat.zero_le _, rfl, hide rfl, Below.refl _ _⟩
  case round =>
    obtain ⟨k, hk, rfl, Hall, hB⟩ := hrel
    by_cases hlt : k < l.length
    · obtain ⟨b, off, rfl, h4, h5, h6⟩ := h3 k hlt
      have h5' := (hB.cell (p := ⟨b, off + k * 2, none⟩) h4).trans h5
      have h6' := (hB.cell (p := ⟨b, off + k * 2 + 1, none⟩) h4).trans h6
      clear h5 h6 h3
      have hz := hB.size
      cases hval : validB (iLo l k) (iHi l k) with
      | true =>
        have Hn := hide (show allV l (k + 1) = true by simp [allV, Hall.out, hval])
        go_wp2_with (go_at_call 24; refine (RValid_any _ _ _).mono ?_; rintro e w' ⟨rfl, rfl⟩; rw [hval])
        go_roundw
        case rel => exact ⟨k + 1, by omega, by go_num, Hn, (by ((repeat' (first | exact Below.refl _ _ | exact hB | refine Below.alloc ?_ ?_ _ | refine Below.setCell ?_ ?_ _ | refine Below.drew ?_ | refine below_drewN ?_ _ | refine Below.trans ?_ (hB.mono ?_))) <;> (first | omega | (simp; done) | (simp; omega))))⟩
        case measure => simp [intOf]; omega
      | false =>
        go_wp2_with (go_at_call 24; refine (RValid_any _ _ _).mono ?_; rintro e w' ⟨rfl, rfl⟩; rw [hval])
        go_ret
        exact ⟨ret_bool (by rw [He.out, allV_false l k hval _ hlt]; simp), (by ((repeat' (first | exact Below.refl _ _ | exact hB | refine Below.alloc ?_ ?_ _ | refine Below.setCell ?_ ?_ _ | refine Below.drew ?_ | refine below_drewN ?_ _ | refine Below.trans ?_ (hB.mono ?_))) <;> (first | omega | (simp; done) | (simp; omega))))⟩
    · obtain rfl : k = l.length := by omega
      clear h3
      by_cases q1 : 1 ≤ l.length
      · by_cases q2 : l.length ≤ 16
        · have p1 : ((l.length : Int) ≥ 1) := by omega
          have p2 : ((l.length : Int) ≤ 16) := by omega
          go_wp2
          go_ret
          exact ⟨ret_bool (by rw [He.out, Hall.out]; simp; omega), hB⟩
        · have p1 : ((l.length : Int) ≥ 1) := by omega
          have p2 : ¬ ((l.length : Int) ≤ 16) := by omega
          go_wp2
          go_ret
          exact ⟨ret_bool (by rw [He.out, Hall.out]; simp; omega), hB⟩
      · have p1 : ¬ ((l.length : Int) ≥ 1) := by omega
        go_wp2
        go_ret
        exact ⟨ret_bool (by rw [He.out, Hall.out]; simp; omega), hB⟩
def agLo (l : List Iv) (x : List Int) : Nat → Int
  | 0 => 0
  | k + 1 => if (k : Int) ∈ x then agLo l x k else mx (agLo l x k) (iLo l k)
def agHi (l : List Iv) (x : List Int) : Nat → Int
  | 0 => 3000000000000000
  | k + 1 => if (k : Int) ∈ x then agHi l x k else mn (agHi l x k) (iHi l k)
def agN (x : List Int) : Nat → Int
  | 0 => 0
  | k + 1 => if (k : Int) ∈ x then agN x k else agN x k + 1
def agB (l : List Iv) (x : List Int) : Bool := decide (0 < agN x l.length) && decide (agLo l x l.length ≤ agHi l x l.length)
theorem agN_spec (x : List Int) : ∀ k, (0 ≤ agN x k ∧ agN x k ≤ k) ∧ (0 < agN x k ↔ ∃ i : Nat, i < k ∧ (i : Int) ∉ x)
  | 0 => by simp [agN]
  | k + 1 => by
    obtain ⟨h1, h2⟩ := agN_spec x k
    unfold agN
    split
    · rename_i h
      refine ⟨by omega, h2.trans ⟨fun ⟨i, q1, q2⟩ => ⟨i, by omega, q2⟩, fun ⟨i, q1, q2⟩ => ⟨i, ?_, q2⟩⟩⟩
      rcases Nat.lt_or_ge i k with q3 | q3
      · exact q3
      · obtain rfl : i = k := by omega
        exact absurd h q2
    · rename_i h
      exact ⟨by omega, fun _ => ⟨k, by omega, h⟩, fun _ => by omega⟩
theorem agLo_spec (l : List Iv) (x : List Int) : ∀ k, 0 ≤ agLo l x k ∧ (∀ i : Nat, i < k → (i : Int) ∉ x → iLo l i ≤ agLo l x k) ∧ (agLo l x k = 0 ∨ ∃ i : Nat, i < k ∧ (i : Int) ∉ x ∧ agLo l x k = iLo l i)
  | 0 => ⟨Int.le_refl _, fun i h => by omega, .inl rfl⟩
  | k + 1 => by
    obtain ⟨h1, h2, h3⟩ := agLo_spec l x k
    have hm := mx_spec (agLo l x k) (iLo l k)
    unfold agLo
    split
    · rename_i h
      refine ⟨h1, fun i hi hx => ?_, ?_⟩
      · rcases Nat.lt_or_ge i k with q3 | q3
        · exact h2 i q3 hx
        · obtain rfl : i = k := by omega
          exact absurd h hx
      · rcases h3 with h3 | ⟨i, q1, q2⟩
        · exact .inl h3
        · exact .inr ⟨i, by omega, q2⟩
    · rename_i h
      refine ⟨by omega, fun i hi hx => ?_, ?_⟩
      · rcases Nat.lt_or_ge i k with q3 | q3
        · have := h2 i q3 hx; omega
        · obtain rfl : i = k := by omega
          omega
      · rcases hm.2.2 with q | q
        · rw [q]
          rcases h3 with h3 | ⟨i, q1, q2⟩
          · exact .inl h3
          · exact .inr ⟨i, by omega, q2⟩
        · exact .inr ⟨k, by omega, h, q⟩
theorem agHi_spec (l : List Iv) (x : List Int) : ∀ k, agHi l x k ≤ 3000000000000000 ∧ (∀ i : Nat, i < k → (i : Int) ∉ x → agHi l x k ≤ iHi l i) ∧ (agHi l x k = 3000000000000000 ∨ ∃ i : Nat, i < k ∧ (i : Int) ∉ x ∧ agHi l x k = iHi l i)
  | 0 => ⟨Int.le_refl _, fun i h => by omega, .inl rfl⟩
  | k + 1 => by
    obtain ⟨h1, h2, h3⟩ := agHi_spec l x k
    have hm := mn_spec (agHi l x k) (iHi l k)
    unfold agHi
    split
    · rename_i h
      refine ⟨h1, fun i hi hx => ?_, ?_⟩
      · rcases Nat.lt_or_ge i k with q3 | q3
        · exact h2 i q3 hx
        · obtain rfl : i = k := by omega
          exact absurd h hx
      · rcases h3 with h3 | ⟨i, q1, q2⟩
        · exact .inl h3
        · exact .inr ⟨i, by omega, q2⟩
    · rename_i h
      refine ⟨by omega, fun i hi hx => ?_, ?_⟩
      · rcases Nat.lt_or_ge i k with q3 | q3
        · have := h2 i q3 hx; omega
        · obtain rfl : i = k := by omega
          omega
      · rcases hm.2.2 with q | q
        · rw [q]
          rcases h3 with h3 | ⟨i, q1, q2⟩
          · exact .inl h3
          · exact .inr ⟨i, by omega, q2⟩
        · exact .inr ⟨k, by omega, h, q⟩
/-- Intervals agree exactly if a time is in all that are not left out, and one is not. -/
theorem agB_iff {l : List Iv} (hl : ouOk l = true) (x : List Int) : agB l x = true ↔ (∃ i : Nat, i < l.length ∧ (i : Int) ∉ x) ∧ ∃ t, ∀ i : Nat, i < l.length → (i : Int) ∉ x → hasB (iLo l i) (iHi l i) t = true := by
  have hv := ((ouOk_iff l).1 hl).2
  obtain ⟨a1, a2, a3⟩ := agLo_spec l x l.length
  obtain ⟨b1, b2, b3⟩ := agHi_spec l x l.length
  unfold agB
  rw [Bool.and_eq_true, decide_eq_true_eq, decide_eq_true_eq, (agN_spec x l.length).2]
  refine and_congr_right fun hex => ⟨fun h => ⟨agLo l x l.length, fun i hi hx => ?_⟩, fun ⟨t, ht⟩ => ?_⟩
  · rw [hasB_iff]
    have := a2 i hi hx
    have := b2 i hi hx
    omega
  · obtain ⟨i0, q1, q2⟩ := hex
    have h0 := (hasB_iff _ _ _).1 (ht i0 q1 q2)
    have hv0 := hv i0 q1
    have c1 : agLo l x l.length ≤ t := by
      rcases a3 with e | ⟨i, r1, r2, e⟩
      · omega
      · have := (hasB_iff _ _ _).1 (ht i r1 r2); omega
    have c2 : t ≤ agHi l x l.length := by
      rcases b3 with e | ⟨i, r1, r2, e⟩
      · omega
      · have := (hasB_iff _ _ _).1 (ht i r1 r2); omega
    omega
set_option maxRecDepth 100000 in
set_option maxHeartbeats 1000000 in
theorem agree_any (v vx : Value) (l : List Iv) (x : List Int) (w : World) (hv : IvRow w v l) (hx : IsRow w vx x) (_hl : l.length ≤ 1000) :
    Calls Tryd.prog 19 #[v, vx] w fun e w' => e = .returned (.bool (agB l x)) ∧ Below w.heap.size w w' := by
  obtain ⟨a, cap, rfl, h1, h2, h3⟩ := hv
  have He := hide (show agB l x = (decide (0 < agN x l.length) && decide (agLo l x l.length ≤ agHi l x l.length)) from rfl)
  go_enter Tryd.func19, Tryd.ntmps19
  go_wp2
  go_loopw [5, 6, 7, 12] (fun lo hi n i wr => ∃ k : Nat, k ≤ l.length ∧ i = .int .i64 k ∧ lo = .int .i64 (agLo l x k) ∧ hi = .int .i64 (agHi l x k) ∧ n = .int .i64 (agN x k) ∧ Below w.heap.size w wr) (fun _ _ _ i _ => l.length - (intOf i).toNat)
  case atStart => exact ⟨0, Nat.zero_le _, rfl, rfl, rfl, rfl, Below.refl _ _⟩
  case round =>
    obtain ⟨k, hk, rfl, rfl, rfl, rfl, hB⟩ := hrel
    have hn := (agN_spec x k).1
    by_cases hlt : k < l.length
    · obtain ⟨b, off, rfl, h4, h5, h6⟩ := h3 k hlt
      have h5' := (hB.cell (p := ⟨b, off + k * 2, none⟩) h4).trans h5
      have h6' := (hB.cell (p := ⟨b, off + k * 2 + 1, none⟩) h4).trans h6
      clear h5 h6 h3
      have hz := hB.size
      have hx2 := hx.below (Nat.le_refl _) (hB.alloc hz (.cells #[.int .i64 (iLo l k), .int .i64 (iHi l k)] 42))
      have hca := RHas16_any _ _ (k : Int) _ hx2
      by_cases hm : (k : Int) ∈ x
      · have e1 := hide (show agLo l x (k + 1) = agLo l x k by simp [agLo, hm])
        have e2 := hide (show agHi l x (k + 1) = agHi l x k by simp [agHi, hm])
        have e3 := hide (show agN x (k + 1) = agN x k by simp [agN, hm])
        have hd : decide ((k : Int) ∈ x) = true := decide_eq_true hm
        rw [hd] at hca
        clear hm hd
        go_wp2_with (go_at_call 23; refine hca.mono ?_; rintro e w' ⟨rfl, rfl⟩)
        go_roundw
        case rel => exact ⟨k + 1, by omega, by go_num, by rw [e1.out], by rw [e2.out], by rw [e3.out], (by ((repeat' (first | exact Below.refl _ _ | exact hB | refine Below.alloc ?_ ?_ _ | refine Below.setCell ?_ ?_ _ | refine Below.drew ?_ | refine below_drewN ?_ _ | refine Below.trans ?_ (hB.mono ?_))) <;> (first | omega | (simp; done) | (simp; omega))))⟩
        case measure => simp [intOf]; omega
      · have e1 := hide (show agLo l x (k + 1) = mx (agLo l x k) (iLo l k) by simp [agLo, hm])
        have e2 := hide (show agHi l x (k + 1) = mn (agHi l x k) (iHi l k) by simp [agHi, hm])
        have e3 := hide (show agN x (k + 1) = agN x k + 1 by simp [agN, hm])
        have hd : decide ((k : Int) ∈ x) = false := decide_eq_false hm
        rw [hd] at hca
        have hw : IntKind.i64.wrap (agN x k + 1) = agN x k + 1 := IntWalk.i64_in _ (by omega)
        clear hm hd
        go_wp2_with (go_at_call 23; refine hca.mono ?_; rintro e w' ⟨rfl, rfl⟩)
        go_region
        go_wp2_with fail
        go_roundw
        case rel => exact ⟨k + 1, by omega, by go_num, by rw [e1.out], by rw [e2.out], by rw [e3.out], (by ((repeat' (first | exact Below.refl _ _ | exact hB | refine Below.alloc ?_ ?_ _ | refine Below.setCell ?_ ?_ _ | refine Below.drew ?_ | refine below_drewN ?_ _ | refine Below.trans ?_ (hB.mono ?_))) <;> (first | omega | (simp; done) | (simp; omega))))⟩
        case measure => simp [intOf]; omega
    · obtain rfl : k = l.length := by omega
      clear h3
      by_cases q1 : 0 < agN x l.length
      · have q1' : agN x l.length > 0 := q1
        go_wp2
        go_ret
        exact ⟨ret_bool (by rw [He.out]; simp [q1]), hB⟩
      · have q1' : ¬ agN x l.length > 0 := q1
        go_wp2
        go_ret
        exact ⟨ret_bool (by rw [He.out]; simp; omega), hB⟩
/-- Rise strictly, from 0 to less than n: the first k. -/
def riTo (x : List Int) (n : Int) : Nat → Bool
  | 0 => true
  | k + 1 => riTo x n k && decide (0 ≤ iAt x k ∧ iAt x k < n ∧ (0 < k → iAt x (k - 1) < iAt x k))
theorem riTo_false {x : List Int} {n : Int} {k : Nat} (h : ¬ (0 ≤ iAt x k ∧ iAt x k < n ∧ (0 < k → iAt x (k - 1) < iAt x k))) : ∀ m, k < m → riTo x n m = false
  | 0, hm => by omega
  | m + 1, hm => by
    rcases Nat.lt_or_ge k m with h1 | h1
    · simp [riTo, riTo_false h m h1]
    · obtain rfl : k = m := by omega
      rw [riTo, decide_eq_false h]; simp
theorem riTo_true {x : List Int} {n : Int} (hp : x.Pairwise (· < ·)) (hb : ∀ z ∈ x, 0 ≤ z ∧ z < n) : ∀ m, m ≤ x.length → riTo x n m = true
  | 0, _ => rfl
  | m + 1, hm => by
    have h1 := hb _ (iAt_mem (l := x) (k := m) (by omega))
    rw [riTo, riTo_true hp hb m (by omega), Bool.true_and, decide_eq_true_iff]
    refine ⟨h1.1, h1.2, fun h0 => ?_⟩
    have := List.pairwise_iff_getElem.1 hp (m - 1) m (by omega) (by omega) (by omega)
    rw [iAt_lt _ _ (by omega), iAt_lt _ _ (by omega)]
    exact this
set_option maxRecDepth 100000 in
set_option maxHeartbeats 1000000 in
theorem rising_any (v : Value) (x : List Int) (n : Int) (w : World) (hv : IsRow w v x) :
    Calls Tryd.prog 20 #[v, .int .i64 n] w fun e w' => e = .returned (.bool (riTo x n x.length)) ∧ w' = w := by
  obtain ⟨a, cap, rfl, q1, q2, q3⟩ := hv
  go_enter Tryd.func20, Tryd.ntmps20
  go_wp2
  go_loop [9] (fun i => ∃ k : Nat, k ≤ x.length ∧ i = .int .i64 k ∧ Hid (riTo x n k = true)) (fun i => x.length - (intOf i).toNat)
  case atStart => exact ⟨0, Nat.zero_le _, rfl, hide rfl⟩
  case round =>
    obtain ⟨k, hk, rfl, Hall⟩ := hrel
    by_cases hlt : k < x.length
    · obtain ⟨b, off, rfl, h4, h5⟩ := q3 k hlt
      have g5 := fun (hk0 : 0 < k) => (by
        obtain ⟨b', off', e, _, h⟩ := q3 (k - 1) (by omega)
        cases e
        rw [show off + (k - 1) = off + (k - 1) from rfl] at h
        exact h : w.cell? ⟨b, off + (k - 1), none⟩ = some (.int .i64 (iAt x (k - 1))))
      have Hf := hide (fun h => riTo_false (x := x) (n := n) (k := k) h x.length hlt)
      have Hn := hide (show riTo x n (k + 1) = (riTo x n k && decide (0 ≤ iAt x k ∧ iAt x k < n ∧ (0 < k → iAt x (k - 1) < iAt x k))) from rfl)
      by_cases c1 : iAt x k < 0
      · clear q3 g5
        go_wp2_with fail
        go_ret
        exact ⟨ret_bool (by rw [Hf.out (by omega)]), rfl⟩
      · by_cases c2 : iAt x k ≥ n
        · clear q3 g5
          go_wp2_with fail
          go_ret
          exact ⟨ret_bool (by rw [Hf.out (by omega)]), rfl⟩
        · by_cases hk0 : 0 < k
          · have h6 := g5 hk0
            have hk0' : decide ((k : Int) > 0) = true := by rw [decide_eq_true_iff]; omega
            have hw : IntKind.i64.wrap ((k : Int) - 1) = ((k - 1 : Nat) : Int) := by rw [IntWalk.i64_in _ (by omega)]; omega
            have hkl : k - 1 < x.length := by omega
            obtain ⟨km, hkm⟩ : ∃ km, km = k - 1 := ⟨_, rfl⟩
            rw [← hkm] at h6 hw hkl
            have Hkm := hide hkm
            clear q3 g5 hkm
            by_cases c3 : iAt x k ≤ iAt x km
            · go_wp2_with fail
              go_ret
              exact ⟨ret_bool (by rw [Hf.out (by rw [← Hkm.out]; omega)]), rfl⟩
            · go_wp2_with fail
              go_round
              case rel => exact ⟨k + 1, by omega, by go_num, hide (by rw [Hn.out, Hall.out, Bool.true_and, decide_eq_true_iff, ← Hkm.out]; omega)⟩
              case measure => simp [intOf]; omega
          · have hk0' : decide ((k : Int) > 0) = false := by rw [decide_eq_false_iff_not]; omega
            clear q3 g5
            go_wp2_with fail
            go_round
            case rel => exact ⟨k + 1, by omega, by go_num, hide (by rw [Hn.out, Hall.out, Bool.true_and, decide_eq_true_iff]; exact ⟨by omega, by omega, fun h => absurd h hk0⟩)⟩
            case measure => simp [intOf]; omega
    · obtain rfl : k = x.length := by omega
      clear q3
      go_wp2_with fail
      go_ret
      exact ⟨ret_bool Hall.out.symm, rfl⟩
set_option maxRecDepth 100000 in
set_option maxHeartbeats 1000000 in
theorem chosen_any (m n : Nat) (hm : m < 65536) (hn : n ≤ 16) (w : World) :
    Calls Tryd.prog 21 #[.int .u16 (m : Int), .int .i64 (n : Int)] w fun e w' => ∃ ov, e = .returned ov ∧ OwnIs w' w.heap.size ov (bitsTo m n) ∧ Below w.heap.size w w' := by
  obtain ⟨i0, hi, hz0, hz1, hz2⟩ := info_parts infoInt
  go_enter Tryd.func21, Tryd.ntmps21
  go_wp2
  go_loopw [5, 6] (fun out i wr => ∃ k : Nat, k ≤ n ∧ i = .int .i64 k ∧ OwnIs wr w.heap.size out (bitsTo m k) ∧ Below w.heap.size w wr) (fun _ i _ => n - (intOf i).toNat)
  case atStart => exact ⟨0, Nat.zero_le _, rfl, OwnIs.nil _ _, Below.refl _ _⟩
  case round =>
    obtain ⟨k, hk, rfl, hown, hB⟩ := hrel
    obtain ⟨oa, ocap, rfl, hc1, hc2⟩ := hown.val
    have hlen := bitsTo_length m k
    have hz := hB.size
    by_cases hlt : k < n
    · have hdv : m / 2 ^ k < 65536 := Nat.lt_of_le_of_lt (Nat.div_le_self _ _) hm
      have e1 : (m : Int) / 2 ^ k = ((m / 2 ^ k : Nat) : Int) := by push_cast; rfl
      have hand := u16_and_nat (m / 2 ^ k) 1 hdv (by omega)
      rw [Nat.and_one_is_mod, ← e1] at hand
      have ht := Nat.testBit_eq_decide_div_mod_eq (x := m) (i := k)
      have hand' : bits BinOp.and IntKind.u16 ((m : Int) / 2 ^ k) 1 = ((m / 2 ^ k % 2 : Nat) : Int) := hand
      clear hand e1 hdv
      cases hb : m.testBit k with
      | true =>
        have hq : m / 2 ^ k % 2 = 1 := by rw [hb] at ht; simpa using ht.symm
        have Hn := hide (show bitsTo m (k + 1) = bitsTo m k ++ [(k : Int)] by rw [bitsTo, if_pos hb])
        rw [hq] at hand'
        have hown' := hown
        unfold OwnIs at hown'
        have hlow := World.ownsRow.lt hown'
        clear ht hb hq
        go_wp2_with (at_builtin; refine wpList_append_own _ rfl _ _ 31 rfl w.heap.size 3 i0 (.int .i64 0) 1 8 Tryd.underlying31 hi hz0 hz1 hz2 rfl (by decide) _ _ (encI (bitsTo m k)) rfl (World.ownsRow.alloc hown' _) ⟨wr.heap.size, 0, none⟩ 1 1 [.int .i64 k] rfl rfl (cells_new wr [.int .i64 k] _) (by simp [Value.oneCell']) (by unfold maxLen; omega) (by omega) (by simp; omega) ?_; intro v3 w3 hown3 hg3 _)
        go_roundw
        case rel => exact ⟨k + 1, by omega, by go_num, by rw [Hn.out]; exact OwnIs.app hown3, ((hB.alloc (by omega) _).grown hg3 (by simp; omega) (fun r h => (hlow r h).1))⟩
        case measure => simp [intOf]; omega
      | false =>
        have hq : m / 2 ^ k % 2 = 0 := by
          have := Nat.mod_two_eq_zero_or_one (m / 2 ^ k)
          rw [hb] at ht
          have : ¬ (m / 2 ^ k % 2 = 1) := by simpa using ht.symm
          omega
        have Hn := hide (show bitsTo m (k + 1) = bitsTo m k by rw [bitsTo, if_neg (by simp [hb])])
        rw [hq] at hand'
        clear ht hb hq
        go_wp2_with fail
        go_roundw
        case rel => exact ⟨k + 1, by omega, by go_num, by rw [Hn.out]; exact hown, hB⟩
        case measure => simp [intOf]; omega
    · obtain rfl : k = n := by omega
      go_wp2
      go_ret
      exact ⟨_, rfl, hown, hB⟩
end Go.Proofs.YtodkmbjhdckjiaaDoor
