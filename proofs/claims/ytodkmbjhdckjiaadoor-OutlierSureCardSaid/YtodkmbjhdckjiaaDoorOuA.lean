/- Package outlier's small functions: the check, the number of set bits, the place of the lowest one. -/
import Derived.Test.YtodkmbjhdckjiaaDoorOuP
import Derived.Shelf.Spec.TrailingZeros
import Derived.Shelf.Lays7
import Derived.Laws.BitsAllLaws
namespace Go.Proofs.YtodkmbjhdckjiaaDoor
open Go.RowKit
attribute [local go_sem ↓] run_max_mx run_min_mn
set_option maxRecDepth 100000 in
set_option maxHeartbeats 400000 in
theorem check1_any (a b : Int) (w : World) : Calls Tryd.prog 35 #[.agg #[.int .i64 a, .int .i64 b]] w fun e w' => e = .returned (.bool (!validB a b)) ∧ Below w.heap.size w w' := by
  go_enter Tryd.func35, Tryd.ntmps35
  go_wp2_with (go_at_call 36; refine (Valid_any _ _ _).mono ?_; rintro e w' ⟨rfl, rfl⟩)
  go_ret
  exact ⟨rfl, (by ((repeat' (first | exact Below.refl _ _ | refine Below.alloc ?_ ?_ _ | refine Below.setCell ?_ ?_ _ | refine Below.drew ?_ | refine below_drewN ?_ _)) <;> (first | omega | (simp; done) | (simp; omega))))⟩
set_option maxRecDepth 100000 in
set_option maxHeartbeats 400000 in
theorem IndexO_any (v : Value) (l : List Iv) (w : World) (hv : IvRow w v l) :
    Calls Tryd.prog 43 #[v, .func (.func 35) #[] #[]] w fun e w' => (∃ r : Int, e = .returned (.int .i64 r) ∧ ((r = -1 ∧ allV l l.length = true) ∨ (0 ≤ r ∧ allV l l.length = false))) ∧ Below w.heap.size w w' := by
  obtain ⟨a, cap, rfl, h1, h2, h3⟩ := hv
  go_enter Tryd.func43, Tryd.ntmps43
  go_wp2
  go_loopw [8] (fun i wr => ∃ k : Nat, k ≤ l.length ∧ i = .int .i64 k ∧ Hid (allV l k = true) ∧ Below w.heap.size w wr) (fun i _ => l.length - (intOf i).toNat)
  case atStart => exact ⟨0, Nat.zero_le _, rfl, hide rfl, Below.refl _ _⟩
  case round =>
    obtain ⟨k, hk, rfl, Hall, hB⟩ := hrel
    by_cases hlt : k < l.length
    · obtain ⟨b, off, rfl, h4, h5, h6⟩ := h3 k hlt
      have h5' := (hB.cell (p := ⟨b, off + k * 2, none⟩) h4).trans h5
      have h6' := (hB.cell (p := ⟨b, off + k * 2 + 1, none⟩) h4).trans h6
      clear h5 h6 h3
      have hz := hB.size
      cases hval : validB (iLo l k) (iHi l k) with
      | true =>
        have Hn := hide (show allV l (k + 1) = true by simp [allV, Hall.out, hval])
        go_wp2_with (go_at_call 35; refine (check1_any _ _ _).mono ?_; rintro e w' ⟨rfl, hb⟩; rw [hval])
        go_roundw
        case rel => exact ⟨k + 1, by omega, by go_num, Hn, (by ((repeat' (first | exact Below.refl _ _ | exact hB | exact hb | refine Below.alloc ?_ ?_ _ | refine Below.setCell ?_ ?_ _ | refine Below.drew ?_ | refine below_drewN ?_ _ | refine Below.trans ?_ (hB.mono ?_) | refine Below.trans ?_ (hb.mono ?_))) <;> (first | omega | (simp; done) | (simp; omega))))⟩
        case measure => simp [intOf]; omega
      | false =>
        go_wp2_with (go_at_call 35; refine (check1_any _ _ _).mono ?_; rintro e w' ⟨rfl, hb⟩; rw [hval])
        go_ret
        exact ⟨⟨_, rfl, .inr ⟨by omega, allV_false l k hval _ hlt⟩⟩, (by ((repeat' (first | exact Below.refl _ _ | exact hB | exact hb | refine Below.alloc ?_ ?_ _ | refine Below.setCell ?_ ?_ _ | refine Below.drew ?_ | refine below_drewN ?_ _ | refine Below.trans ?_ (hB.mono ?_) | refine Below.trans ?_ (hb.mono ?_))) <;> (first | omega | (simp; done) | (simp; omega))))⟩
    · obtain rfl : k = l.length := by omega
      go_wp2
      go_ret
      exact ⟨⟨_, rfl, .inl ⟨rfl, Hall.out⟩⟩, hB⟩
set_option maxRecDepth 100000 in
set_option maxHeartbeats 400000 in
theorem ContainsO_any (v : Value) (l : List Iv) (w : World) (hv : IvRow w v l) :
    Calls Tryd.prog 34 #[v, .func (.func 35) #[] #[]] w fun e w' => e = .returned (.bool (!allV l l.length)) ∧ Below w.heap.size w w' := by
  go_enter Tryd.func34, Tryd.ntmps34
  go_wp2_with fail
  refine (IndexO_any _ l _ hv).mono ?_
  rintro e w1 ⟨⟨r, rfl, hr⟩, b1⟩
  rcases hr with ⟨rfl, ha⟩ | ⟨h0, ha⟩
  · go_wp2_with fail
    go_ret
    exact ⟨by simp [ha], b1⟩
  · have h0' : decide (r ≥ 0) = true := by simpa using h0
    go_wp2_with fail
    go_ret
    exact ⟨by simp [ha], b1⟩
set_option maxRecDepth 100000 in
set_option maxHeartbeats 400000 in
theorem Ocheck_any (v : Value) (l : List Iv) (w : World) (hv : IvRow w v l) :
    Calls Tryd.prog 25 #[v] w fun e w' => e = .returned (.int .i64 (ouEr l)) ∧ Below w.heap.size w w' := by
  have hv' := hv
  obtain ⟨a, cap, rfl, h1, h2, h3⟩ := hv'
  clear h3
  by_cases hbig : 16 < l.length
  · have he : ouEr l = 2 := by simp [ouEr, hbig]
    rw [he]
    go_enter Tryd.func25, Tryd.ntmps25
    go_wp2_with fail
    go_ret
    exact ⟨rfl, Below.refl _ _⟩
  · by_cases h0 : l.length = 0
    · have he : ouEr l = 1 := by simp [ouEr, ouOk, h0]
      rw [he]
      have h0' : ((l.length : Int) == 0) = true := by rw [beq_iff_eq]; omega
      clear h0 he
      go_enter Tryd.func25, Tryd.ntmps25
      go_wp2_with fail
      go_ret
      exact ⟨rfl, Below.refl _ _⟩
    · have h0' : ((l.length : Int) == 0) = false := by rw [beq_eq_false_iff_ne]; omega
      have he : ouEr l = if allV l l.length = true then 0 else 1 := by simp [ouEr, ouOk, hbig, show 1 ≤ l.length ∧ l.length ≤ 16 by omega]
      rw [he]
      clear he
      cases ha : allV l l.length with
      | true =>
        go_enter Tryd.func25, Tryd.ntmps25
        go_wp2_with (go_at_call 34; refine (ContainsO_any _ l _ hv).mono ?_; rintro e w1 ⟨rfl, b1⟩; rw [ha])
        go_ret
        exact ⟨by simp, b1⟩
      | false =>
        go_enter Tryd.func25, Tryd.ntmps25
        go_wp2_with (go_at_call 34; refine (ContainsO_any _ l _ hv).mono ?_; rintro e w1 ⟨rfl, b1⟩; rw [ha])
        go_ret
        exact ⟨by simp, b1⟩
end Go.Proofs.YtodkmbjhdckjiaaDoor
