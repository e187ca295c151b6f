/- The functions of package interval and of its reference that go through a list: what each call returns. -/
import Derived.Test.YtbgfgpjgehkdjaaGreatIvA
namespace Go.Proofs.YtbgfgpjgehkdjaaGreat
open Go.RowKit
attribute [local go_sem ↓] run_max_mx run_min_mn

set_option maxRecDepth 100000 in
set_option maxHeartbeats 400000 in
theorem bad_any (lo hi : Int) (w : World) :
    Calls Tryz.prog 88 #[.agg #[.int .i64 lo, .int .i64 hi]] w fun e w' => e = .returned (.bool (!validB lo hi)) ∧ Below w.heap.size w w' := by
  go_enter Tryz.func88, Tryz.ntmps88
  go_wp2_with (go_at_call 46; refine (Valid_any _ _ _).mono ?_; rintro e w' ⟨rfl, rfl⟩)
  go_ret
  exact ⟨rfl, (by ((repeat' (first | exact Below.refl _ _ | refine Below.alloc ?_ ?_ _ | refine Below.setCell ?_ ?_ _ | refine Below.drew ?_ | refine below_drewN ?_ _)) <;> (first | omega | (simp; done) | (simp; omega))))⟩

set_option maxRecDepth 100000 in
set_option maxHeartbeats 400000 in
theorem IndexFunc_any (v : Value) (l : List Iv) (w : World) (hv : IvRow w v l) :
    Calls Tryz.prog 98 #[v, .func (.func 88) #[] #[]] w fun e w' => (∃ r : Int, e = .returned (.int .i64 r) ∧ (r < 0 ∧ allV l l.length = true ∨ 0 ≤ r ∧ allV l l.length = false)) ∧ Below w.heap.size w w' := by
  obtain ⟨a, cap, rfl, h1, h2, h3⟩ := hv
  go_enter Tryz.func98, Tryz.ntmps98
  go_wp2
  go_loopw [8] (fun i wr => ∃ k : Nat, k ≤ l.length ∧ i = .int .i64 k ∧ allV l k = true ∧ Below w.heap.size w wr) (fun i _ => l.length - (intOf i).toNat)
  case atStart => exact ⟨0, Nat.zero_le _, rfl, rfl, Below.refl _ _⟩
  case round =>
    obtain ⟨k, hk, rfl, hall, hB⟩ := hrel
    have Hall := hide hall; clear hall
    by_cases hlt : k < l.length
    · obtain ⟨b, off, rfl, h4, h5, h6⟩ := h3 k hlt
      have h5' := (hB.cell (p := ⟨b, off + k * 2, none⟩) h4).trans h5
      have h6' := (hB.cell (p := ⟨b, off + k * 2 + 1, none⟩) h4).trans h6
      clear h5 h6 h3
      have hz := hB.size
      by_cases hval : validB (iLo l k) (iHi l k) = true
      · go_wp2_with (go_at_call 88; refine (bad_any _ _ _).mono ?_; rintro e w' ⟨rfl, hb⟩)
        go_roundw
        case rel => exact ⟨k + 1, by omega, by go_num, by simp [allV, Hall.out, hval], (by ((repeat' (first | exact Below.refl _ _ | exact hB | exact hb | refine Below.alloc ?_ ?_ _ | refine Below.setCell ?_ ?_ _ | refine Below.drew ?_ | refine below_drewN ?_ _ | refine Below.trans ?_ (hB.mono ?_) | refine Below.trans ?_ (hb.mono ?_))) <;> (first | omega | (simp; done) | (simp; omega))))⟩
        case measure => simp [intOf]; omega
      · have hval' : validB (iLo l k) (iHi l k) = false := by simpa using hval
        clear hval
        go_wp2_with (go_at_call 88; refine (bad_any _ _ _).mono ?_; rintro e w' ⟨rfl, hb⟩)
        go_ret
        exact ⟨⟨_, rfl, .inr ⟨by omega, allV_false l k hval' _ hlt⟩⟩, (by ((repeat' (first | exact Below.refl _ _ | exact hB | exact hb | refine Below.alloc ?_ ?_ _ | refine Below.setCell ?_ ?_ _ | refine Below.drew ?_ | refine below_drewN ?_ _ | refine Below.trans ?_ (hB.mono ?_) | refine Below.trans ?_ (hb.mono ?_))) <;> (first | omega | (simp; done) | (simp; omega))))⟩
    · go_wp2
      go_ret
      exact ⟨⟨_, rfl, .inl ⟨by omega, by rw [← Hall.out, show k = l.length by omega]⟩⟩, hB⟩

set_option maxRecDepth 100000 in
set_option maxHeartbeats 400000 in
theorem ContainsFunc_any (v : Value) (l : List Iv) (w : World) (hv : IvRow w v l) :
    Calls Tryz.prog 89 #[v, .func (.func 88) #[] #[]] w fun e w' => e = .returned (.bool (!allV l l.length)) ∧ Below w.heap.size w w' := by
  go_enter Tryz.func89, Tryz.ntmps89
  go_wp2_with (go_at_call 98; refine (IndexFunc_any _ l _ hv).mono ?_; rintro e w' ⟨⟨r, rfl, hr⟩, hb⟩)
  go_ret
  refine ⟨ret_bool ?_, hb⟩
  rcases hr with ⟨h1, h2⟩ | ⟨h1, h2⟩ <;> simp [h2] <;> omega

set_option maxRecDepth 100000 in
set_option maxHeartbeats 400000 in
theorem listed_any (v : Value) (l : List Iv) (w : World) (hv : IvRow w v l) :
    Calls Tryz.prog 76 #[v] w fun e w' => e = .returned (.bool (listB l)) ∧ Below w.heap.size w w' := by
  have hv' := hv
  obtain ⟨a, cap, rfl, h1, h2, h3⟩ := hv
  clear h3
  by_cases h : l.length ≤ 64
  · go_enter Tryz.func76, Tryz.ntmps76
    go_wp2_with (go_at_call 89; refine (ContainsFunc_any _ l _ hv').mono ?_; rintro e w' ⟨rfl, hb⟩)
    go_ret
    exact ⟨ret_bool (by simp [listB, h]), hb⟩
  · go_enter Tryz.func76, Tryz.ntmps76
    go_wp2_with fail
    go_ret
    exact ⟨ret_bool (by simp [listB]; omega), Below.refl _ _⟩

set_option maxRecDepth 100000 in
set_option maxHeartbeats 400000 in
theorem Depth_any (v : Value) (l : List Iv) (x : Int) (w : World) (hv : IvRow w v l) :
    Calls Tryz.prog 61 #[v, .int .i64 x] w fun e w' => e = .returned (.tuple #[.int .i64 (depthV l x), .int .i64 (listEr l)]) ∧ Below w.heap.size w w' := by
  have hv' := hv
  obtain ⟨a, cap, rfl, h1, h2, h3⟩ := hv
  by_cases hl : listB l = true
  · have hfin : depthV l x = dep l x l.length ∧ listEr l = 0 := by simp [depthV, listEr, hl]
    rw [hfin.1, hfin.2]
    clear hfin
    go_enter Tryz.func61, Tryz.ntmps61
    go_wp2_with (go_at_call 76; refine (listed_any _ l _ hv').mono ?_; rintro e w0 ⟨rfl, hb0⟩)
    go_loopw [6, 14] (fun n i wr => ∃ k : Nat, k ≤ l.length ∧ i = .int .i64 k ∧ n = .int .i64 (dep l x k) ∧ Below w.heap.size w wr) (fun _ i _ => l.length - (intOf i).toNat)
    case atStart => exact ⟨0, Nat.zero_le _, rfl, rfl, hb0⟩
    case round =>
      obtain ⟨k, hk, rfl, rfl, hB⟩ := hrel
      have hd := dep_bd l x k
      by_cases hlt : k < l.length
      · obtain ⟨b, off, rfl, h4, h5, h6⟩ := h3 k hlt
        have h5' := (hB.cell (p := ⟨b, off + k * 2, none⟩) h4).trans h5
        have h6' := (hB.cell (p := ⟨b, off + k * 2 + 1, none⟩) h4).trans h6
        clear h5 h6 h3 hb0 hl
        have hz := hB.size
        by_cases hx : iLo l k ≤ x ∧ x ≤ iHi l k
        · obtain ⟨hx1, hx2⟩ := hx
          go_wp2
          go_roundw
          case rel => exact ⟨k + 1, by omega, by go_num, by simp [dep, hasB, *], (by ((repeat' (first | exact Below.refl _ _ | exact hB | refine Below.alloc ?_ ?_ _ | refine Below.setCell ?_ ?_ _ | refine Below.drew ?_ | refine below_drewN ?_ _ | refine Below.trans ?_ (hB.mono ?_))) <;> (first | omega | (simp; done) | (simp; omega))))⟩
          case measure => simp [intOf]; omega
        · have hxx := hide hx
          clear hx
          by_cases hx1 : iLo l k ≤ x
          all_goals
            go_wp2
            all_goals first | (exfalso; apply hxx.out; constructor <;> assumption) | skip
            all_goals go_roundw
            case rel => exact ⟨k + 1, by omega, by go_num, by have := hxx.out; simp [dep, hasB, this], (by ((repeat' (first | exact Below.refl _ _ | exact hB | refine Below.alloc ?_ ?_ _ | refine Below.setCell ?_ ?_ _ | refine Below.drew ?_ | refine below_drewN ?_ _ | refine Below.trans ?_ (hB.mono ?_))) <;> (first | omega | (simp; done) | (simp; omega))))⟩
            case measure => simp [intOf]; omega
      · go_wp2
        go_ret2
        obtain rfl : k = l.length := by omega
        exact ⟨rfl, hB⟩
  · have hfin : depthV l x = 0 ∧ listEr l = 1 := by simp [depthV, listEr, hl]
    rw [hfin.1, hfin.2]
    clear hfin
    go_enter Tryz.func61, Tryz.ntmps61
    go_wp2_with (go_at_call 76; refine (listed_any _ l _ hv').mono ?_; rintro e w0 ⟨rfl, hb0⟩)
    go_ret2
    exact ⟨rfl, hb0⟩

end Go.Proofs.YtbgfgpjgehkdjaaGreat
