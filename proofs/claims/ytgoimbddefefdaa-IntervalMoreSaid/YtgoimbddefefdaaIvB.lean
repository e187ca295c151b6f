/- The functions of package interval and of its reference that go through a list: what each call returns. -/
import Derived.Test.YtgoimbddefefdaaIvA
namespace Go.Proofs.Ytgoimbddefefdaa
open Go.RowKit
attribute [local go_sem ↓] run_max_mx run_min_mn

set_option maxRecDepth 100000 in
set_option maxHeartbeats 400000 in
theorem bad_any (lo hi : Int) (w : World) :
    Calls Try.prog 34 #[.agg #[.int .i64 lo, .int .i64 hi]] w fun e w' => e = .returned (.bool (!validB lo hi)) ∧ Below w.heap.size w w' := by
  go_enter Try.func34, Try.ntmps34
  go_wp2_with (go_at_call 14; refine (Valid_any _ _ _).mono ?_; rintro e w' ⟨rfl, rfl⟩)
  go_ret
  exact ⟨rfl, (by ((repeat' (first | exact Below.refl _ _ | refine Below.alloc ?_ ?_ _ | refine Below.setCell ?_ ?_ _ | refine Below.drew ?_ | refine below_drewN ?_ _)) <;> (first | omega | (simp; done) | (simp; omega))))⟩

set_option maxRecDepth 100000 in
set_option maxHeartbeats 400000 in
theorem IndexFunc_any (v : Value) (l : List Iv) (w : World) (hv : IvRow w v l) :
    Calls Try.prog 40 #[v, .func (.func 34) #[] #[]] w fun e w' => (∃ r : Int, e = .returned (.int .i64 r) ∧ (r < 0 ∧ allV l l.length = true ∨ 0 ≤ r ∧ allV l l.length = false)) ∧ Below w.heap.size w w' := by
  obtain ⟨a, cap, rfl, h1, h2, h3⟩ := hv
  go_enter Try.func40, Try.ntmps40
  go_wp2
  go_loopw [8] (fun i wr => ∃ k : Nat, k ≤ l.length ∧ i = .int .i64 k ∧ allV l k = true ∧ Below w.heap.size w wr) (fun i _ => l.length - (intOf i).toNat)
  case atStart => exact ⟨0, Nat.zero_le _, rfl, rfl, Below.refl _ _⟩
  case round =>
    obtain ⟨k, hk, rfl, hall, hB⟩ := hrel
    have Hall := hide hall; clear hall
    by_cases hlt : k < l.length
    · obtain ⟨b, off, rfl, h4, h5, h6⟩ := h3 k hlt
      have h5' := (hB.cell (p := ⟨b, off + k * 2, none⟩) h4).trans h5
      have h6' := (hB.cell (p := ⟨b, off + k * 2 + 1, none⟩) h4).trans h6
      clear h5 h6 h3
      have hz := hB.size
      by_cases hval : validB (iLo l k) (iHi l k) = true
      · go_wp2_with (go_at_call 34; refine (bad_any _ _ _).mono ?_; rintro e w' ⟨rfl, hb⟩)
        go_roundw
        case rel => exact ⟨k + 1, by omega, by go_num, by simp [allV, Hall.out, hval], (by ((repeat' (first | exact Below.refl _ _ | exact hB | exact hb | refine Below.alloc ?_ ?_ _ | refine Below.setCell ?_ ?_ _ | refine Below.drew ?_ | refine below_drewN ?_ _ | refine Below.trans ?_ (hB.mono ?_) | refine Below.trans ?_ (hb.mono ?_))) <;> (first | omega | (simp; done) | (simp; omega))))⟩
        case measure => simp [intOf]; omega
      · have hval' : validB (iLo l k) (iHi l k) = false := by simpa using hval
        clear hval
        go_wp2_with (go_at_call 34; refine (bad_any _ _ _).mono ?_; rintro e w' ⟨rfl, hb⟩)
        go_ret
        exact ⟨⟨_, rfl, .inr ⟨by omega, allV_false l k hval' _ hlt⟩⟩, (by ((repeat' (first | exact Below.refl _ _ | exact hB | exact hb | refine Below.alloc ?_ ?_ _ | refine Below.setCell ?_ ?_ _ | refine Below.drew ?_ | refine below_drewN ?_ _ | refine Below.trans ?_ (hB.mono ?_) | refine Below.trans ?_ (hb.mono ?_))) <;> (first | omega | (simp; done) | (simp; omega))))⟩
    · go_wp2
      go_ret
      exact ⟨⟨_, rfl, .inl ⟨by omega, by rw [← Hall.out, show k = l.length by omega]⟩⟩, hB⟩

set_option maxRecDepth 100000 in
set_option maxHeartbeats 400000 in
theorem ContainsFunc_any (v : Value) (l : List Iv) (w : World) (hv : IvRow w v l) :
    Calls Try.prog 35 #[v, .func (.func 34) #[] #[]] w fun e w' => e = .returned (.bool (!allV l l.length)) ∧ Below w.heap.size w w' := by
  go_enter Try.func35, Try.ntmps35
  go_wp2_with (go_at_call 40; refine (IndexFunc_any _ l _ hv).mono ?_; rintro e w' ⟨⟨r, rfl, hr⟩, hb⟩)
  go_ret
  refine ⟨ret_bool ?_, hb⟩
  rcases hr with ⟨h1, h2⟩ | ⟨h1, h2⟩ <;> simp [h2] <;> omega

set_option maxRecDepth 100000 in
set_option maxHeartbeats 400000 in
theorem listed_any (v : Value) (l : List Iv) (w : World) (hv : IvRow w v l) :
    Calls Try.prog 28 #[v] w fun e w' => e = .returned (.bool (listB l)) ∧ Below w.heap.size w w' := by
  have hv' := hv
  obtain ⟨a, cap, rfl, h1, h2, h3⟩ := hv
  clear h3
  by_cases h : l.length ≤ 64
  · go_enter Try.func28, Try.ntmps28
    go_wp2_with (go_at_call 35; refine (ContainsFunc_any _ l _ hv').mono ?_; rintro e w' ⟨rfl, hb⟩)
    go_ret
    exact ⟨ret_bool (by simp [listB, h]), hb⟩
  · go_enter Try.func28, Try.ntmps28
    go_wp2_with fail
    go_ret
    exact ⟨ret_bool (by simp [listB]; omega), Below.refl _ _⟩

set_option maxRecDepth 100000 in
set_option maxHeartbeats 400000 in
theorem RList_any (v : Value) (l : List Iv) (w : World) (hv : IvRow w v l) :
    Calls Try.prog 26 #[v] w fun e w' => e = .returned (.bool (listB l)) ∧ Below w.heap.size w w' := by
  obtain ⟨a, cap, rfl, h1, h2, h3⟩ := hv
  go_enter Try.func26, Try.ntmps26
  go_wp2
  go_loopw [3] (fun i wr => ∃ k : Nat, k ≤ l.length ∧ i = .int .i64 k ∧ allV l k = true ∧ Below w.heap.size w wr) (fun i _ => l.length - (intOf i).toNat)
  case atStart => exact ⟨0, Nat.zero_le _, rfl, rfl, Below.refl _ _⟩
  case round =>
    obtain ⟨k, hk, rfl, hall, hB⟩ := hrel
    have Hall := hide hall; clear hall
    by_cases hlt : k < l.length
    · obtain ⟨b, off, rfl, h4, h5, h6⟩ := h3 k hlt
      have h5' := (hB.cell (p := ⟨b, off + k * 2, none⟩) h4).trans h5
      have h6' := (hB.cell (p := ⟨b, off + k * 2 + 1, none⟩) h4).trans h6
      clear h5 h6 h3
      have hz := hB.size
      by_cases hval : validB (iLo l k) (iHi l k) = true
      · go_wp2_with (go_at_call 15; refine (RValid_any _ _ _).mono ?_; rintro e w' ⟨rfl, rfl⟩)
        go_roundw
        case rel => exact ⟨k + 1, by omega, by go_num, by simp [allV, Hall.out, hval], (by ((repeat' (first | exact Below.refl _ _ | exact hB | refine Below.alloc ?_ ?_ _ | refine Below.setCell ?_ ?_ _ | refine Below.drew ?_ | refine below_drewN ?_ _ | refine Below.trans ?_ (hB.mono ?_))) <;> (first | omega | (simp; done) | (simp; omega))))⟩
        case measure => simp [intOf]; omega
      · have hval' : validB (iLo l k) (iHi l k) = false := by simpa using hval
        clear hval
        go_wp2_with (go_at_call 15; refine (RValid_any _ _ _).mono ?_; rintro e w' ⟨rfl, rfl⟩)
        go_ret
        exact ⟨ret_bool (by simp [listB, allV_false l k hval' _ hlt]), (by ((repeat' (first | exact Below.refl _ _ | exact hB | refine Below.alloc ?_ ?_ _ | refine Below.setCell ?_ ?_ _ | refine Below.drew ?_ | refine below_drewN ?_ _ | refine Below.trans ?_ (hB.mono ?_))) <;> (first | omega | (simp; done) | (simp; omega))))⟩
    · go_wp2
      go_ret
      exact ⟨ret_bool (by have := Hall.out; rw [show k = l.length by omega] at this; simp [listB, this]; omega), hB⟩

set_option maxRecDepth 100000 in
set_option maxHeartbeats 400000 in
theorem Rdepth_any (v : Value) (l : List Iv) (x : Int) (w : World) (hv : IvRow w v l) :
    Calls Try.prog 30 #[v, .int .i64 x] w fun e w' => e = .returned (.int .i64 (dep l x l.length)) ∧ Below w.heap.size w w' := by
  obtain ⟨a, cap, rfl, h1, h2, h3⟩ := hv
  go_enter Try.func30, Try.ntmps30
  go_wp2
  go_loopw [5, 6] (fun n i wr => ∃ k : Nat, k ≤ l.length ∧ i = .int .i64 k ∧ n = .int .i64 (dep l x k) ∧ Below w.heap.size w wr) (fun _ i _ => l.length - (intOf i).toNat)
  case atStart => exact ⟨0, Nat.zero_le _, rfl, rfl, Below.refl _ _⟩
  case round =>
    obtain ⟨k, hk, rfl, rfl, hB⟩ := hrel
    have hd := dep_bd l x k
    by_cases hlt : k < l.length
    · obtain ⟨b, off, rfl, h4, h5, h6⟩ := h3 k hlt
      have h5' := (hB.cell (p := ⟨b, off + k * 2, none⟩) h4).trans h5
      have h6' := (hB.cell (p := ⟨b, off + k * 2 + 1, none⟩) h4).trans h6
      clear h5 h6 h3
      have hz := hB.size
      go_wp2_with (go_at_call 25; refine (RHas_any _ _ _ _).mono ?_; rintro e w' ⟨rfl, rfl⟩)
      all_goals
        go_roundw
        case rel => exact ⟨k + 1, by omega, by go_num, by simp [dep, *], (by ((repeat' (first | exact Below.refl _ _ | exact hB | refine Below.alloc ?_ ?_ _ | refine Below.setCell ?_ ?_ _ | refine Below.drew ?_ | refine below_drewN ?_ _ | refine Below.trans ?_ (hB.mono ?_))) <;> (first | omega | (simp; done) | (simp; omega))))⟩
        case measure => simp [intOf]; omega
    · go_wp2
      go_ret
      exact ⟨ret_int (by rw [show k = l.length by omega]), hB⟩

set_option maxRecDepth 100000 in
set_option maxHeartbeats 400000 in
theorem Depth_any (v : Value) (l : List Iv) (x : Int) (w : World) (hv : IvRow w v l) :
    Calls Try.prog 20 #[v, .int .i64 x] w fun e w' => e = .returned (.tuple #[.int .i64 (depthV l x), .int .i64 (listEr l)]) ∧ Below w.heap.size w w' := by
  have hv' := hv
  obtain ⟨a, cap, rfl, h1, h2, h3⟩ := hv
  by_cases hl : listB l = true
  · have hfin : depthV l x = dep l x l.length ∧ listEr l = 0 := by simp [depthV, listEr, hl]
    rw [hfin.1, hfin.2]
    clear hfin
    go_enter Try.func20, Try.ntmps20
    go_wp2_with (go_at_call 28; refine (listed_any _ l _ hv').mono ?_; rintro e w0 ⟨rfl, hb0⟩)
    go_loopw [6, 14] (fun n i wr => ∃ k : Nat, k ≤ l.length ∧ i = .int .i64 k ∧ n = .int .i64 (dep l x k) ∧ Below w.heap.size w wr) (fun _ i _ => l.length - (intOf i).toNat)
    case atStart => exact ⟨0, Nat.zero_le _, rfl, rfl, hb0⟩
    case round =>
      obtain ⟨k, hk, rfl, rfl, hB⟩ := hrel
      have hd := dep_bd l x k
      by_cases hlt : k < l.length
      · obtain ⟨b, off, rfl, h4, h5, h6⟩ := h3 k hlt
        have h5' := (hB.cell (p := ⟨b, off + k * 2, none⟩) h4).trans h5
        have h6' := (hB.cell (p := ⟨b, off + k * 2 + 1, none⟩) h4).trans h6
        clear h5 h6 h3 hb0 hl
        have hz := hB.size
        by_cases hx : iLo l k ≤ x ∧ x ≤ iHi l k
        · obtain ⟨hx1, hx2⟩ := hx
          go_wp2
          go_roundw
          case rel => exact ⟨k + 1, by omega, by go_num, by simp [dep, hasB, *], (by ((repeat' (first | exact Below.refl _ _ | exact hB | refine Below.alloc ?_ ?_ _ | refine Below.setCell ?_ ?_ _ | refine Below.drew ?_ | refine below_drewN ?_ _ | refine Below.trans ?_ (hB.mono ?_))) <;> (first | omega | (simp; done) | (simp; omega))))⟩
          case measure => simp [intOf]; omega
        · have hxx := hide hx
          clear hx
          by_cases hx1 : iLo l k ≤ x
          all_goals
            go_wp2
            all_goals first | (exfalso; apply hxx.out; constructor <;> assumption) | skip
            all_goals go_roundw
            case rel => exact ⟨k + 1, by omega, by go_num, by have := hxx.out; simp [dep, hasB, this], (by ((repeat' (first | exact Below.refl _ _ | exact hB | refine Below.alloc ?_ ?_ _ | refine Below.setCell ?_ ?_ _ | refine Below.drew ?_ | refine below_drewN ?_ _ | refine Below.trans ?_ (hB.mono ?_))) <;> (first | omega | (simp; done) | (simp; omega))))⟩
            case measure => simp [intOf]; omega
      · go_wp2
        go_ret2
        obtain rfl : k = l.length := by omega
        exact ⟨rfl, hB⟩
  · have hfin : depthV l x = 0 ∧ listEr l = 1 := by simp [depthV, listEr, hl]
    rw [hfin.1, hfin.2]
    clear hfin
    go_enter Try.func20, Try.ntmps20
    go_wp2_with (go_at_call 28; refine (listed_any _ l _ hv').mono ?_; rintro e w0 ⟨rfl, hb0⟩)
    go_ret2
    exact ⟨rfl, hb0⟩

set_option maxRecDepth 100000 in
set_option maxHeartbeats 400000 in
theorem RDepth_any (v : Value) (l : List Iv) (x : Int) (w : World) (hv : IvRow w v l) :
    Calls Try.prog 21 #[v, .int .i64 x] w fun e w' => e = .returned (.tuple #[.int .i64 (depthV l x), .int .i64 (listEr l)]) ∧ Below w.heap.size w w' := by
  by_cases hl : listB l = true
  · have hfin : depthV l x = dep l x l.length ∧ listEr l = 0 := by simp [depthV, listEr, hl]
    rw [hfin.1, hfin.2]
    clear hfin
    go_enter Try.func21, Try.ntmps21
    go_wp2_with (first | (go_at_call 26; refine (RList_any _ l _ hv).mono ?_; rintro e w0 ⟨rfl, hb0⟩) | (go_at_call 30; refine (Rdepth_any _ l _ _ (hv.below (Nat.le_refl _) hb0)).mono ?_; rintro e w1 ⟨rfl, hb1⟩))
    go_ret2
    have hz := hb0.size
    exact ⟨rfl, (by ((repeat' (first | exact Below.refl _ _ | exact hb0 | exact hb1 | refine Below.alloc ?_ ?_ _ | refine Below.setCell ?_ ?_ _ | refine Below.drew ?_ | refine below_drewN ?_ _ | refine Below.trans ?_ (hb0.mono ?_) | refine Below.trans ?_ (hb1.mono ?_))) <;> (first | omega | (simp; done) | (simp; omega))))⟩
  · have hfin : depthV l x = 0 ∧ listEr l = 1 := by simp [depthV, listEr, hl]
    rw [hfin.1, hfin.2]
    clear hfin
    go_enter Try.func21, Try.ntmps21
    go_wp2_with (go_at_call 26; refine (RList_any _ l _ hv).mono ?_; rintro e w0 ⟨rfl, hb0⟩)
    go_ret2
    exact ⟨rfl, hb0⟩

set_option maxRecDepth 100000 in
set_option maxHeartbeats 400000 in
theorem RIn_any (v : Value) (l : List Iv) (x : Int) (w : World) (hv : IvRow w v l) :
    Calls Try.prog 27 #[v, .int .i64 x] w fun e w' => e = .returned (.bool (decide (0 < dep l x l.length))) ∧ Below w.heap.size w w' := by
  go_enter Try.func27, Try.ntmps27
  go_wp2_with (go_at_call 30; refine (Rdepth_any _ l _ _ hv).mono ?_; rintro e w1 ⟨rfl, hb1⟩)
  go_ret
  exact ⟨rfl, hb1⟩

set_option maxRecDepth 100000 in
set_option maxHeartbeats 400000 in
theorem few_any (v : Value) (l : List Iv) (w : World) (hv : IvRow w v l) :
    Calls Try.prog 11 #[v] w fun e w' => e = .returned (.bool (decide (l.length ≤ 70))) ∧ w' = w := by
  obtain ⟨a, cap, rfl, h1, h2, h3⟩ := hv
  clear h3
  go_enter Try.func11, Try.ntmps11
  go_wp2
  go_ret
  exact ⟨ret_bool (by rw [Bool.eq_iff_iff]; simp; omega), rfl⟩

set_option maxRecDepth 100000 in
set_option maxHeartbeats 1000000 in
theorem Hull_any (v : Value) (l : List Iv) (w : World) (hv : IvRow w v l) :
    Calls Try.prog 16 #[v] w fun e w' => e = .returned (.tuple #[.agg #[.int .i64 (hullLo l), .int .i64 (hullHi l)], .int .i64 (hullEr l)]) ∧ Below w.heap.size w w' := by
  have hv' := hv
  obtain ⟨a, cap, rfl, h1, h2, h3⟩ := hv
  by_cases hl : hullOk l = true
  · have hfin : hullLo l = hLo l (l.length - 1) ∧ hullHi l = hHi l (l.length - 1) ∧ hullEr l = 0 := by simp [hullLo, hullHi, hullEr, hl]
    rw [hfin.1, hfin.2.1, hfin.2.2]
    clear hfin
    simp only [hullOk, Bool.and_eq_true, decide_eq_true_eq] at hl
    obtain ⟨hl, hne⟩ := hl
    obtain ⟨b, off, cap', hv1, _, _, h4, h5, h6, h7⟩ := hv'.at0 (by omega)
    simp only [Value.slice.injEq] at hv1
    obtain ⟨rfl, -, rfl⟩ := hv1
    have hne' : ((l.length : Int) == 0) = false := by rw [beq_eq_false_iff_ne]; omega
    have hne2 : 0 < l.length := by omega
    clear hne h3
    by_cases hcap : cap = 1
    · have hl1 : l.length ≤ 1 := by omega
      have hcl := hide hcap
      have hcap' : cap ≤ 1 := by omega
      clear hcap
      go_enter Try.func16, Try.ntmps16
      go_wp2_with fail
      refine (listed_any _ l _ (hv'.below (Nat.le_refl _) ((Below.refl _ _).alloc (Nat.le_refl _) _))).mono ?_
      rintro e w0 ⟨rfl, hb0⟩
      have hB0 : Below w.heap.size w w0 := (by ((repeat' (first | exact Below.refl _ _ | exact hb0 | refine Below.alloc ?_ ?_ _ | refine Below.setCell ?_ ?_ _ | refine Below.drew ?_ | refine below_drewN ?_ _ | refine Below.trans ?_ (hb0.mono ?_))) <;> (first | omega | (simp; done) | (simp; omega))))
      have h5' := (hB0.cell (p := ⟨b, off, none⟩) h4).trans h5
      have h6' := (hB0.cell (p := ⟨b, off + 1, none⟩) h4).trans h6
      obtain ⟨c0, f0⟩ := bk hb0 w.heap.size (by simp)
      have hz0 := hb0.size
      simp only [World.size_alloc] at hz0
      go_wp2_with fail
      clear h5' h6'
      go_loopw [22] (fun i wr => ∃ k : Nat, k + 1 ≤ l.length ∧ i = .int .i64 k ∧ Below w0.heap.size w0 wr ∧ w0.heap.size < wr.heap.size ∧
          wr.cell? ⟨w0.heap.size, 0, none⟩ = some (.int .i64 (hLo l k)) ∧ wr.cell? ⟨w0.heap.size, 1, none⟩ = some (.int .i64 (hHi l k)) ∧ ∀ o, wr.frozen? ⟨w0.heap.size, o, none⟩ = false) (fun i _ => l.length - 1 - (intOf i).toNat)
      case atStart => exact ⟨0, by omega, rfl, (by ((repeat' (first | exact Below.refl _ _ | refine Below.alloc ?_ ?_ _ | refine Below.setCell ?_ ?_ _ | refine Below.drew ?_ | refine below_drewN ?_ _)) <;> (first | omega | (simp; done) | (simp; omega)))), by simp, by simp [hLo], by simp [hHi], by simp⟩
      case round =>
        obtain ⟨k, hk, rfl, hB, hz, g1, g2, g3⟩ := hrel
        have hlt : ¬ k + 1 < l.length := by omega
        · obtain ⟨c1, f1⟩ := bk hB w.heap.size (by omega)
          go_wp2
          obtain rfl : k = l.length - 1 := by omega
          refine bodyPost_ret (v := .tuple #[.agg #[.int .i64 (hLo l (l.length - 1)), .int .i64 (hHi l (l.length - 1))], .int .i64 0]) (by simp_all [results, Try.results16, go_sem]) rfl ⟨rfl, ?_⟩
          all_goals ((repeat' (first | exact Below.refl _ _ | exact hB | exact hB0 | refine Below.alloc ?_ ?_ _ | refine Below.setCell ?_ ?_ _ | refine Below.drew ?_ | refine below_drewN ?_ _ | refine Below.trans ?_ (hB.mono ?_) | refine Below.trans ?_ (hB0.mono ?_))) <;> (first | omega | (simp; done) | (simp; omega)))
    · go_enter Try.func16, Try.ntmps16
      go_wp2_with fail
      refine (listed_any _ l _ (hv'.below (Nat.le_refl _) ((Below.refl _ _).alloc (Nat.le_refl _) _))).mono ?_
      rintro e w0 ⟨rfl, hb0⟩
      have hB0 : Below w.heap.size w w0 := (by ((repeat' (first | exact Below.refl _ _ | exact hb0 | refine Below.alloc ?_ ?_ _ | refine Below.setCell ?_ ?_ _ | refine Below.drew ?_ | refine below_drewN ?_ _ | refine Below.trans ?_ (hb0.mono ?_))) <;> (first | omega | (simp; done) | (simp; omega))))
      have h5' := (hB0.cell (p := ⟨b, off, none⟩) h4).trans h5
      have h6' := (hB0.cell (p := ⟨b, off + 1, none⟩) h4).trans h6
      obtain ⟨c0, f0⟩ := bk hb0 w.heap.size (by simp)
      have hz0 := hb0.size
      simp only [World.size_alloc] at hz0
      go_wp2_with fail
      clear h5' h6'
      go_loopw [22] (fun i wr => ∃ k : Nat, k + 1 ≤ l.length ∧ i = .int .i64 k ∧ Below w0.heap.size w0 wr ∧ w0.heap.size < wr.heap.size ∧
          wr.cell? ⟨w0.heap.size, 0, none⟩ = some (.int .i64 (hLo l k)) ∧ wr.cell? ⟨w0.heap.size, 1, none⟩ = some (.int .i64 (hHi l k)) ∧ ∀ o, wr.frozen? ⟨w0.heap.size, o, none⟩ = false) (fun i _ => l.length - 1 - (intOf i).toNat)
      case atStart => exact ⟨0, by omega, rfl, (by ((repeat' (first | exact Below.refl _ _ | refine Below.alloc ?_ ?_ _ | refine Below.setCell ?_ ?_ _ | refine Below.drew ?_ | refine below_drewN ?_ _)) <;> (first | omega | (simp; done) | (simp; omega)))), by simp, by simp [hLo], by simp [hHi], by simp⟩
      case round =>
        obtain ⟨k, hk, rfl, hB, hz, g1, g2, g3⟩ := hrel
        by_cases hlt : k + 1 < l.length
        · obtain ⟨h8, h9⟩ := h7 (k + 1) hlt
          have e1 : off + (k + 1) * 2 = off + 2 + k * 2 := by omega
          rw [e1] at h8 h9
          have h8' := ((hB0.trans (hB.mono (by omega))).cell (p := ⟨b, off + 2 + k * 2, none⟩) h4).trans h8
          have h9' := ((hB0.trans (hB.mono (by omega))).cell (p := ⟨b, off + 2 + k * 2 + 1, none⟩) h4).trans h9
          clear h8 h9 h7 e1
          go_wp2
          go_roundw
          case rel => exact ⟨k + 1, by omega, by go_num, (by ((repeat' (first | exact Below.refl _ _ | exact hB | refine Below.alloc ?_ ?_ _ | refine Below.setCell ?_ ?_ _ | refine Below.drew ?_ | refine below_drewN ?_ _ | refine Below.trans ?_ (hB.mono ?_))) <;> (first | omega | (simp; done) | (simp; omega)))), by simp; omega, by simp [go_sem, hLo, *], by simp [go_sem, hHi, *], by simp [go_sem, *]⟩
          case measure => simp [intOf]; omega
        · obtain ⟨c1, f1⟩ := bk hB w.heap.size (by omega)
          go_wp2
          obtain rfl : k = l.length - 1 := by omega
          refine bodyPost_ret (v := .tuple #[.agg #[.int .i64 (hLo l (l.length - 1)), .int .i64 (hHi l (l.length - 1))], .int .i64 0]) (by simp_all [results, Try.results16, go_sem]) rfl ⟨rfl, ?_⟩
          all_goals ((repeat' (first | exact Below.refl _ _ | exact hB | exact hB0 | refine Below.alloc ?_ ?_ _ | refine Below.setCell ?_ ?_ _ | refine Below.drew ?_ | refine below_drewN ?_ _ | refine Below.trans ?_ (hB.mono ?_) | refine Below.trans ?_ (hB0.mono ?_))) <;> (first | omega | (simp; done) | (simp; omega)))
  · have hfin : hullLo l = 0 ∧ hullHi l = 0 ∧ hullEr l = 1 := by simp [hullLo, hullHi, hullEr, hl]
    rw [hfin.1, hfin.2.1, hfin.2.2]
    clear hfin h3
    by_cases h0 : l.length = 0
    · have h0' : ((l.length : Int) == 0) = true := by rw [beq_iff_eq]; omega
      clear h0 hl
      go_enter Try.func16, Try.ntmps16
      go_wp2_with fail
      refine bodyPost_ret (v := .tuple #[.agg #[.int .i64 0, .int .i64 0], .int .i64 1]) (by simp_all [results, Try.results16, go_sem]) rfl ⟨rfl, ?_⟩
      all_goals ((repeat' (first | exact Below.refl _ _ | refine Below.alloc ?_ ?_ _ | refine Below.setCell ?_ ?_ _ | refine Below.drew ?_ | refine below_drewN ?_ _)) <;> (first | omega | (simp; done) | (simp; omega)))
    · have hl' : listB l = false := by simpa [hullOk, h0] using hl
      have h0' : ((l.length : Int) == 0) = false := by rw [beq_eq_false_iff_ne]; omega
      clear h0 hl
      go_enter Try.func16, Try.ntmps16
      go_wp2_with fail
      refine (listed_any _ l _ (hv'.below (Nat.le_refl _) ((Below.refl _ _).alloc (Nat.le_refl _) _))).mono ?_
      rintro e w0 ⟨rfl, hb0⟩
      obtain ⟨c0, f0⟩ := bk hb0 w.heap.size (by simp)
      have hz0 := hb0.size
      simp only [World.size_alloc] at hz0
      go_wp2_with fail
      refine bodyPost_ret (v := .tuple #[.agg #[.int .i64 0, .int .i64 0], .int .i64 1]) (by simp_all [results, Try.results16, go_sem]) rfl ⟨rfl, ?_⟩
      all_goals ((repeat' (first | exact Below.refl _ _ | exact hb0 | refine Below.alloc ?_ ?_ _ | refine Below.setCell ?_ ?_ _ | refine Below.drew ?_ | refine below_drewN ?_ _ | refine Below.trans ?_ (hb0.mono ?_))) <;> (first | omega | (simp; done) | (simp; omega)))
end Go.Proofs.Ytgoimbddefefdaa
