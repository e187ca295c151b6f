/- Package width: Right, Growth, Peer, Width. -/
import Derived.Test.YtiaahfccebmkdaaWdE
namespace Go.Proofs.Ytiaahfccebmkdaa
open Go.RowKit

set_option maxRecDepth 100000 in
set_option maxHeartbeats 400000 in
theorem Right1_any (i : Int) (sb : Nat) (a : Option Addr) (n cap : Nat) (w : World) (hc : w.cell? ⟨sb, 4, none⟩ = some (.slice a n cap)) : Calls Try.prog 31 #[.int .i64 i, .pointer (some ⟨sb, 0, none⟩)] w fun e w' => e = .returned (.bool (!decide (0 ≤ i ∧ i < n))) ∧ w = w' := by
  by_cases h1 : i < 0
  · go_enter Try.func31, Try.ntmps31
    go_wp2
    go_ret
    exact ⟨ret_bool (by rw [decide_eq_false (by omega)]; rfl), rfl⟩
  · go_enter Try.func31, Try.ntmps31
    go_wp2
    all_goals go_ret
    all_goals exact ⟨ret_bool (by rw [Bool.eq_iff_iff]; first | (simp; done) | (simp; omega)), rfl⟩
set_option maxRecDepth 100000 in
set_option maxHeartbeats 400000 in
theorem IndexO_any (v : Value) (l : List Int) (sb : Nat) (a0 : Option Addr) (n cap0 : Nat) (w : World) (hv : IsRow w v l) (hc : w.cell? ⟨sb, 4, none⟩ = some (.slice a0 n cap0)) :
    Calls Try.prog 58 #[v, .func (.func 31) #[] #[.pointer (some ⟨sb, 0, none⟩)]] w fun e w' => (∃ r : Int, e = .returned (.int .i64 r) ∧ (r < 0 ∧ inAll n l l.length = true ∨ 0 ≤ r ∧ inAll n l l.length = false)) ∧ w = w' := by
  obtain ⟨a, cap, rfl, h1, h2, h3⟩ := hv
  go_enter Try.func58, Try.ntmps58
  go_wp2
  go_loop [5, 8] (fun _ i => ∃ k : Nat, k ≤ l.length ∧ i = .int .i64 k ∧ Hid (inAll n l k = true)) (fun _ i => l.length - (intOf i).toNat)
  case atStart => exact ⟨0, Nat.zero_le _, rfl, hide rfl⟩
  case round =>
    obtain ⟨k, hk, rfl, Hall⟩ := hrel
    by_cases hlt : k < l.length
    · obtain ⟨b, off, rfl, h4, h5⟩ := h3 k hlt
      clear h3
      by_cases hval : 0 ≤ iAt l k ∧ iAt l k < n
      · have hv2 : decide (0 ≤ iAt l k ∧ iAt l k < n) = true := decide_eq_true hval
        go_wp2_with (go_at_call 31; refine (Right1_any _ sb a0 n cap0 _ hc).mono ?_; rintro e w' ⟨rfl, rfl⟩; rw [hv2])
        go_round
        case rel => exact ⟨k + 1, by omega, by go_num, hide (by rw [inAll, Hall.out, hv2]; rfl)⟩
        case measure => simp [intOf]; omega
      · have hv2 : decide (0 ≤ iAt l k ∧ iAt l k < n) = false := decide_eq_false hval
        have Hv := hide hval
        clear hval
        go_wp2_with (go_at_call 31; refine (Right1_any _ sb a0 n cap0 _ hc).mono ?_; rintro e w' ⟨rfl, rfl⟩; rw [hv2])
        go_ret
        exact ⟨⟨_, rfl, .inr ⟨by omega, inAll_false Hv.out _ hlt⟩⟩, rfl⟩
    · clear h3
      go_wp2
      go_ret
      exact ⟨⟨_, rfl, .inl ⟨by omega, by rw [← Hall.out, show k = l.length by omega]⟩⟩, rfl⟩
set_option maxRecDepth 100000 in
set_option maxHeartbeats 400000 in
theorem ContainsO_any (v : Value) (l : List Int) (sb : Nat) (a0 : Option Addr) (n cap0 : Nat) (w : World) (hv : IsRow w v l) (hc : w.cell? ⟨sb, 4, none⟩ = some (.slice a0 n cap0)) :
    Calls Try.prog 34 #[v, .func (.func 31) #[] #[.pointer (some ⟨sb, 0, none⟩)]] w fun e w' => e = .returned (.bool (!inAll n l l.length)) ∧ w = w' := by
  go_enter Try.func34, Try.ntmps34
  go_wp2_with (go_at_call 58; refine (IndexO_any v l sb a0 n cap0 _ hv hc).mono ?_; rintro e w' ⟨⟨r, rfl, hr⟩, rfl⟩; have Hr := hide hr; clear hr)
  go_ret
  refine ⟨ret_bool ?_, rfl⟩
  rcases Hr.out with ⟨h1, h2⟩ | ⟨h1, h2⟩ <;> simp [h2] <;> omega
theorem rg_ways (s : Si) (use : List Int) (ev : Int) : (rgB s use ev = true ∧ siB s = true ∧ inB ev (s.tm + 1) 1000000000000 = true ∧ inAll s.ps.length use use.length = true ∧ risB use = true ∧ decide (2 * s.f + s.lo < use.length) = true) ∨
    rgB s use ev = false ∧ (siB s = false ∨ (siB s = true ∧ inB ev (s.tm + 1) 1000000000000 = false) ∨ (siB s = true ∧ inB ev (s.tm + 1) 1000000000000 = true ∧ inAll s.ps.length use use.length = false) ∨
      (siB s = true ∧ inB ev (s.tm + 1) 1000000000000 = true ∧ inAll s.ps.length use use.length = true ∧ risB use = false) ∨ (siB s = true ∧ inB ev (s.tm + 1) 1000000000000 = true ∧ inAll s.ps.length use use.length = true ∧ risB use = true ∧ decide (2 * s.f + s.lo < use.length) = false)) := by
  unfold rgB
  cases siB s <;> cases inB ev (s.tm + 1) 1000000000000 <;> cases inAll s.ps.length use use.length <;> cases risB use <;> cases decide (2 * s.f + s.lo < use.length) <;> simp
set_option maxRecDepth 100000 in
set_option maxHeartbeats 1000000 in
theorem wdRight_any (r f lo tm : Int) (pv : Value) (ps : List Pr) (uv : Value) (use : List Int) (ev : Int) (w : World) (hp : PrRow w pv ps) (hu : IsRow w uv use) :
    Calls Try.prog 13 #[.agg #[.int .i64 r, .int .i64 f, .int .i64 lo, .int .i64 tm, pv], .agg #[uv, .int .i64 ev]] w fun e w' => e = .returned (.bool (rgB ⟨r, f, lo, tm, ps⟩ use ev)) ∧ Below w.heap.size w w' := by
  obtain ⟨pa, pc, rfl, q1, q2⟩ := hp.len
  obtain ⟨ua, uc, rfl, u1, u2, u3⟩ := id hu
  clear u3
  have hP : ∀ W : World, Below w.heap.size w W → PrRow W (.slice pa ps.length pc) ps ∧ IsRow W (.slice ua use.length uc) use := fun W hW => ⟨hp.below (Nat.le_refl _) hW, hu.below (Nat.le_refl _) hW⟩
  have HP := hide hP
  clear hP
  rcases rg_ways ⟨r, f, lo, tm, ps⟩ use ev with ⟨h, h1, h2, h3, h4, h5⟩ | ⟨h, h1 | ⟨h1, h2⟩ | ⟨h1, h2, h3⟩ | ⟨h1, h2, h3, h4⟩ | ⟨h1, h2, h3, h4, h5⟩⟩
  case inr.inl =>
    rw [h]
    clear h
    go_enter Try.func13, Try.ntmps13
    go_wp2_with (go_at_call 32; (with_reducible refine (wdValid_any r f lo tm _ ps _ (HP.out _ (by ((repeat' (first | with_reducible exact Below.refl _ _ | with_reducible refine Below.alloc ?_ ?_ _ | with_reducible refine Below.setCell ?_ ?_ _ | with_reducible refine Below.drew ?_ | with_reducible refine below_drewN ?_ _)) <;> (first | omega | (simp; done) | (simp; omega))))).1).mono ?_); rintro e w1 ⟨rfl, b1⟩; rw [h1])
    go_ret
    exact ⟨rfl, (by ((repeat' (first | with_reducible exact Below.refl _ _ | with_reducible exact b1 | with_reducible refine Below.alloc ?_ ?_ _ | with_reducible refine Below.setCell ?_ ?_ _ | with_reducible refine Below.drew ?_ | with_reducible refine below_drewN ?_ _ | with_reducible refine Below.trans ?_ (b1.mono ?_))) <;> (first | omega | (simp; done) | (simp; omega))))⟩
  case inr.inr.inl =>
    rw [h]
    clear h
    have hs := (siN_iff _).1 ((siB_iff _).1 h1).1
    simp only at hs h2
    go_enter Try.func13, Try.ntmps13
    go_wp2_with (first | (go_at_call 32; (with_reducible refine (wdValid_any r f lo tm _ ps _ (HP.out _ (by ((repeat' (first | with_reducible exact Below.refl _ _ | with_reducible refine Below.alloc ?_ ?_ _ | with_reducible refine Below.setCell ?_ ?_ _ | with_reducible refine Below.drew ?_ | with_reducible refine below_drewN ?_ _)) <;> (first | omega | (simp; done) | (simp; omega))))).1).mono ?_); rintro e w1 ⟨rfl, b1⟩; have z1 := b1.size; obtain ⟨kb1_0, fb1_0, zb1_0, zab1_0, zbb1_0, zcb1_0, zdb1_0, zeb1_0⟩ := bk3 b1 (w.heap.size) (by first | omega | (simp; done) | (simp; omega)); obtain ⟨kb1_1, fb1_1, zb1_1, zab1_1, zbb1_1, zcb1_1, zdb1_1, zeb1_1⟩ := bk3 b1 (w.heap.size + 1) (by first | omega | (simp; done) | (simp; omega)); rw [h1]) | (go_at_call 33; (with_reducible refine (wdWithin_any _ _ _ _).mono ?_); rintro e w' ⟨rfl, rfl⟩; rw [h2]))
    go_ret
    exact ⟨rfl, (by ((repeat' (first | with_reducible exact Below.refl _ _ | with_reducible exact b1 | with_reducible refine Below.alloc ?_ ?_ _ | with_reducible refine Below.setCell ?_ ?_ _ | with_reducible refine Below.drew ?_ | with_reducible refine below_drewN ?_ _ | with_reducible refine Below.trans ?_ (b1.mono ?_))) <;> (first | omega | (simp; done) | (simp; omega))))⟩
  case inr.inr.inr.inl =>
    rw [h]
    clear h
    have hs := (siN_iff _).1 ((siB_iff _).1 h1).1
    simp only at hs h2
    simp only at h3
    go_enter Try.func13, Try.ntmps13
    go_wp2_with (first | (go_at_call 32; (with_reducible refine (wdValid_any r f lo tm _ ps _ (HP.out _ (by ((repeat' (first | with_reducible exact Below.refl _ _ | with_reducible refine Below.alloc ?_ ?_ _ | with_reducible refine Below.setCell ?_ ?_ _ | with_reducible refine Below.drew ?_ | with_reducible refine below_drewN ?_ _)) <;> (first | omega | (simp; done) | (simp; omega))))).1).mono ?_); rintro e w1 ⟨rfl, b1⟩; have z1 := b1.size; obtain ⟨kb1_0, fb1_0, zb1_0, zab1_0, zbb1_0, zcb1_0, zdb1_0, zeb1_0⟩ := bk3 b1 (w.heap.size) (by first | omega | (simp; done) | (simp; omega)); obtain ⟨kb1_1, fb1_1, zb1_1, zab1_1, zbb1_1, zcb1_1, zdb1_1, zeb1_1⟩ := bk3 b1 (w.heap.size + 1) (by first | omega | (simp; done) | (simp; omega)); rw [h1]) | (go_at_call 33; (with_reducible refine (wdWithin_any _ _ _ _).mono ?_); rintro e w' ⟨rfl, rfl⟩; rw [h2]) | (go_at_call 34; (with_reducible refine (ContainsO_any _ use w.heap.size pa ps.length pc _ (HP.out _ (by ((repeat' (first | with_reducible exact Below.refl _ _ | with_reducible exact b1 | with_reducible refine Below.alloc ?_ ?_ _ | with_reducible refine Below.setCell ?_ ?_ _ | with_reducible refine Below.drew ?_ | with_reducible refine below_drewN ?_ _ | with_reducible refine Below.trans ?_ (b1.mono ?_))) <;> (first | omega | (simp; done) | (simp; omega))))).2 (by simp [kb1_0])).mono ?_); rintro e w' ⟨rfl, rfl⟩; rw [h3]))
    go_ret
    exact ⟨rfl, (by ((repeat' (first | with_reducible exact Below.refl _ _ | with_reducible exact b1 | with_reducible refine Below.alloc ?_ ?_ _ | with_reducible refine Below.setCell ?_ ?_ _ | with_reducible refine Below.drew ?_ | with_reducible refine below_drewN ?_ _ | with_reducible refine Below.trans ?_ (b1.mono ?_))) <;> (first | omega | (simp; done) | (simp; omega))))⟩
  case inr.inr.inr.inr.inl =>
    rw [h]
    clear h
    have hs := (siN_iff _).1 ((siB_iff _).1 h1).1
    simp only at hs h2
    simp only at h3
    go_enter Try.func13, Try.ntmps13
    go_wp2_with (first | (go_at_call 32; (with_reducible refine (wdValid_any r f lo tm _ ps _ (HP.out _ (by ((repeat' (first | with_reducible exact Below.refl _ _ | with_reducible refine Below.alloc ?_ ?_ _ | with_reducible refine Below.setCell ?_ ?_ _ | with_reducible refine Below.drew ?_ | with_reducible refine below_drewN ?_ _)) <;> (first | omega | (simp; done) | (simp; omega))))).1).mono ?_); rintro e w1 ⟨rfl, b1⟩; have z1 := b1.size; obtain ⟨kb1_0, fb1_0, zb1_0, zab1_0, zbb1_0, zcb1_0, zdb1_0, zeb1_0⟩ := bk3 b1 (w.heap.size) (by first | omega | (simp; done) | (simp; omega)); obtain ⟨kb1_1, fb1_1, zb1_1, zab1_1, zbb1_1, zcb1_1, zdb1_1, zeb1_1⟩ := bk3 b1 (w.heap.size + 1) (by first | omega | (simp; done) | (simp; omega)); rw [h1]) | (go_at_call 33; (with_reducible refine (wdWithin_any _ _ _ _).mono ?_); rintro e w' ⟨rfl, rfl⟩; rw [h2]) | (go_at_call 34; (with_reducible refine (ContainsO_any _ use w.heap.size pa ps.length pc _ (HP.out _ (by ((repeat' (first | with_reducible exact Below.refl _ _ | with_reducible exact b1 | with_reducible refine Below.alloc ?_ ?_ _ | with_reducible refine Below.setCell ?_ ?_ _ | with_reducible refine Below.drew ?_ | with_reducible refine below_drewN ?_ _ | with_reducible refine Below.trans ?_ (b1.mono ?_))) <;> (first | omega | (simp; done) | (simp; omega))))).2 (by simp [kb1_0])).mono ?_); rintro e w' ⟨rfl, rfl⟩; rw [h3]) | (go_at_call 35; (with_reducible refine (wdRising_any _ use _ (HP.out _ (by ((repeat' (first | with_reducible exact Below.refl _ _ | with_reducible exact b1 | with_reducible refine Below.alloc ?_ ?_ _ | with_reducible refine Below.setCell ?_ ?_ _ | with_reducible refine Below.drew ?_ | with_reducible refine below_drewN ?_ _ | with_reducible refine Below.trans ?_ (b1.mono ?_))) <;> (first | omega | (simp; done) | (simp; omega))))).2).mono ?_); rintro e w2 ⟨rfl, b2⟩; have z2 := b2.size; obtain ⟨kb2_0, fb2_0, zb2_0, zab2_0, zbb2_0, zcb2_0, zdb2_0, zeb2_0⟩ := bk3 b2 (w.heap.size) (by first | omega | (simp; done) | (simp; omega)); obtain ⟨kb2_1, fb2_1, zb2_1, zab2_1, zbb2_1, zcb2_1, zdb2_1, zeb2_1⟩ := bk3 b2 (w.heap.size + 1) (by first | omega | (simp; done) | (simp; omega)); rw [h4]))
    go_ret
    exact ⟨by first | rfl | exact ret_bool (decide_eq_false (by omega)) | exact ret_bool (decide_eq_true (by omega)), (by ((repeat' (first | with_reducible exact Below.refl _ _ | with_reducible exact b2 | with_reducible exact b1 | with_reducible refine Below.alloc ?_ ?_ _ | with_reducible refine Below.setCell ?_ ?_ _ | with_reducible refine Below.drew ?_ | with_reducible refine below_drewN ?_ _ | with_reducible refine Below.trans ?_ (b2.mono ?_) | with_reducible refine Below.trans ?_ (b1.mono ?_))) <;> (first | omega | (simp; done) | (simp; omega))))⟩
  case inr.inr.inr.inr.inr =>
    rw [h]
    clear h
    have hs := (siN_iff _).1 ((siB_iff _).1 h1).1
    simp only at hs h2
    simp only at h3 h5
    have h6 : (use.length : Int) ≤ 2 * f + lo := by simpa using h5
    clear h5
    go_enter Try.func13, Try.ntmps13
    go_wp2_with (first | (go_at_call 32; (with_reducible refine (wdValid_any r f lo tm _ ps _ (HP.out _ (by ((repeat' (first | with_reducible exact Below.refl _ _ | with_reducible refine Below.alloc ?_ ?_ _ | with_reducible refine Below.setCell ?_ ?_ _ | with_reducible refine Below.drew ?_ | with_reducible refine below_drewN ?_ _)) <;> (first | omega | (simp; done) | (simp; omega))))).1).mono ?_); rintro e w1 ⟨rfl, b1⟩; have z1 := b1.size; obtain ⟨kb1_0, fb1_0, zb1_0, zab1_0, zbb1_0, zcb1_0, zdb1_0, zeb1_0⟩ := bk3 b1 (w.heap.size) (by first | omega | (simp; done) | (simp; omega)); obtain ⟨kb1_1, fb1_1, zb1_1, zab1_1, zbb1_1, zcb1_1, zdb1_1, zeb1_1⟩ := bk3 b1 (w.heap.size + 1) (by first | omega | (simp; done) | (simp; omega)); rw [h1]) | (go_at_call 33; (with_reducible refine (wdWithin_any _ _ _ _).mono ?_); rintro e w' ⟨rfl, rfl⟩; rw [h2]) | (go_at_call 34; (with_reducible refine (ContainsO_any _ use w.heap.size pa ps.length pc _ (HP.out _ (by ((repeat' (first | with_reducible exact Below.refl _ _ | with_reducible exact b1 | with_reducible refine Below.alloc ?_ ?_ _ | with_reducible refine Below.setCell ?_ ?_ _ | with_reducible refine Below.drew ?_ | with_reducible refine below_drewN ?_ _ | with_reducible refine Below.trans ?_ (b1.mono ?_))) <;> (first | omega | (simp; done) | (simp; omega))))).2 (by simp [kb1_0])).mono ?_); rintro e w' ⟨rfl, rfl⟩; rw [h3]) | (go_at_call 35; (with_reducible refine (wdRising_any _ use _ (HP.out _ (by ((repeat' (first | with_reducible exact Below.refl _ _ | with_reducible exact b1 | with_reducible refine Below.alloc ?_ ?_ _ | with_reducible refine Below.setCell ?_ ?_ _ | with_reducible refine Below.drew ?_ | with_reducible refine below_drewN ?_ _ | with_reducible refine Below.trans ?_ (b1.mono ?_))) <;> (first | omega | (simp; done) | (simp; omega))))).2).mono ?_); rintro e w2 ⟨rfl, b2⟩; have z2 := b2.size; obtain ⟨kb2_0, fb2_0, zb2_0, zab2_0, zbb2_0, zcb2_0, zdb2_0, zeb2_0⟩ := bk3 b2 (w.heap.size) (by first | omega | (simp; done) | (simp; omega)); obtain ⟨kb2_1, fb2_1, zb2_1, zab2_1, zbb2_1, zcb2_1, zdb2_1, zeb2_1⟩ := bk3 b2 (w.heap.size + 1) (by first | omega | (simp; done) | (simp; omega)); rw [h4]))
    go_ret
    exact ⟨by first | rfl | exact ret_bool (decide_eq_false (by omega)) | exact ret_bool (decide_eq_true (by omega)), (by ((repeat' (first | with_reducible exact Below.refl _ _ | with_reducible exact b2 | with_reducible exact b1 | with_reducible refine Below.alloc ?_ ?_ _ | with_reducible refine Below.setCell ?_ ?_ _ | with_reducible refine Below.drew ?_ | with_reducible refine below_drewN ?_ _ | with_reducible refine Below.trans ?_ (b2.mono ?_) | with_reducible refine Below.trans ?_ (b1.mono ?_))) <;> (first | omega | (simp; done) | (simp; omega))))⟩
  case inl =>
    rw [h]
    clear h
    have hs := (siN_iff _).1 ((siB_iff _).1 h1).1
    simp only at hs h2
    simp only at h3 h5
    have h6 : 2 * f + lo < (use.length : Int) := by simpa using h5
    clear h5
    go_enter Try.func13, Try.ntmps13
    go_wp2_with (first | (go_at_call 32; (with_reducible refine (wdValid_any r f lo tm _ ps _ (HP.out _ (by ((repeat' (first | with_reducible exact Below.refl _ _ | with_reducible refine Below.alloc ?_ ?_ _ | with_reducible refine Below.setCell ?_ ?_ _ | with_reducible refine Below.drew ?_ | with_reducible refine below_drewN ?_ _)) <;> (first | omega | (simp; done) | (simp; omega))))).1).mono ?_); rintro e w1 ⟨rfl, b1⟩; have z1 := b1.size; obtain ⟨kb1_0, fb1_0, zb1_0, zab1_0, zbb1_0, zcb1_0, zdb1_0, zeb1_0⟩ := bk3 b1 (w.heap.size) (by first | omega | (simp; done) | (simp; omega)); obtain ⟨kb1_1, fb1_1, zb1_1, zab1_1, zbb1_1, zcb1_1, zdb1_1, zeb1_1⟩ := bk3 b1 (w.heap.size + 1) (by first | omega | (simp; done) | (simp; omega)); rw [h1]) | (go_at_call 33; (with_reducible refine (wdWithin_any _ _ _ _).mono ?_); rintro e w' ⟨rfl, rfl⟩; rw [h2]) | (go_at_call 34; (with_reducible refine (ContainsO_any _ use w.heap.size pa ps.length pc _ (HP.out _ (by ((repeat' (first | with_reducible exact Below.refl _ _ | with_reducible exact b1 | with_reducible refine Below.alloc ?_ ?_ _ | with_reducible refine Below.setCell ?_ ?_ _ | with_reducible refine Below.drew ?_ | with_reducible refine below_drewN ?_ _ | with_reducible refine Below.trans ?_ (b1.mono ?_))) <;> (first | omega | (simp; done) | (simp; omega))))).2 (by simp [kb1_0])).mono ?_); rintro e w' ⟨rfl, rfl⟩; rw [h3]) | (go_at_call 35; (with_reducible refine (wdRising_any _ use _ (HP.out _ (by ((repeat' (first | with_reducible exact Below.refl _ _ | with_reducible exact b1 | with_reducible refine Below.alloc ?_ ?_ _ | with_reducible refine Below.setCell ?_ ?_ _ | with_reducible refine Below.drew ?_ | with_reducible refine below_drewN ?_ _ | with_reducible refine Below.trans ?_ (b1.mono ?_))) <;> (first | omega | (simp; done) | (simp; omega))))).2).mono ?_); rintro e w2 ⟨rfl, b2⟩; have z2 := b2.size; obtain ⟨kb2_0, fb2_0, zb2_0, zab2_0, zbb2_0, zcb2_0, zdb2_0, zeb2_0⟩ := bk3 b2 (w.heap.size) (by first | omega | (simp; done) | (simp; omega)); obtain ⟨kb2_1, fb2_1, zb2_1, zab2_1, zbb2_1, zcb2_1, zdb2_1, zeb2_1⟩ := bk3 b2 (w.heap.size + 1) (by first | omega | (simp; done) | (simp; omega)); rw [h4]))
    go_ret
    exact ⟨by first | rfl | exact ret_bool (decide_eq_false (by omega)) | exact ret_bool (decide_eq_true (by omega)), (by ((repeat' (first | with_reducible exact Below.refl _ _ | with_reducible exact b2 | with_reducible exact b1 | with_reducible refine Below.alloc ?_ ?_ _ | with_reducible refine Below.setCell ?_ ?_ _ | with_reducible refine Below.drew ?_ | with_reducible refine below_drewN ?_ _ | with_reducible refine Below.trans ?_ (b2.mono ?_) | with_reducible refine Below.trans ?_ (b1.mono ?_))) <;> (first | omega | (simp; done) | (simp; omega))))⟩
set_option maxRecDepth 100000 in
set_option maxHeartbeats 400000 in
theorem wdGrowth_any (r c : Int) (w : World) : Calls Try.prog 30 #[.int .i64 r, .int .i64 c] w fun e w' => e = .returned (.tuple #[.int .i64 (grw r c), .int .i64 (elEr r c)]) ∧ Below w.heap.size w w' := by
  have hb : (0 ≤ elLo r c ∧ elLo r c ≤ 1000000000000000) ∧ 0 ≤ elHi r c ∧ elHi r c ≤ 1002000000000010 := by
    cases h : elOk r c with
    | true => have := el_bd h; have := (elOk_iff r c).1 h; omega
    | false => have := elOk_no h; omega
  obtain ⟨hb1, hb2⟩ := hb
  go_enter Try.func30, Try.ntmps30
  go_wp2_with (go_at_call 52; refine (Elapsed_any _ _ _).mono ?_; rintro e w1 ⟨rfl, b1⟩)
  go_ret2
  have z1 := b1.size
  exact ⟨rfl, (by ((repeat' (first | with_reducible exact Below.refl _ _ | with_reducible exact b1 | with_reducible refine Below.alloc ?_ ?_ _ | with_reducible refine Below.setCell ?_ ?_ _ | with_reducible refine Below.drew ?_ | with_reducible refine below_drewN ?_ _ | with_reducible refine Below.trans ?_ (b1.mono ?_))) <;> (first | omega | (simp; done) | (simp; omega))))⟩
def pkB (s : Si) (i : Int) : Bool := siB s && decide (0 ≤ i ∧ i < s.ps.length)
def pkW (s : Si) (i : Int) : Int := if pkB s i = true then pWd (pAt s.ps i.toNat) else 0
def pkE (s : Si) (i : Int) : Int := if pkB s i = true then 0 else 1
theorem si_wd {s : Si} (h : siB s = true) : ∀ j, j < s.ps.length → (0 ≤ (pAt s.ps j).er ∧ (pAt s.ps j).er ≤ 1000000) ∧ (0 ≤ (pAt s.ps j).ol ∧ (pAt s.ps j).ol ≤ 1000000) ∧ (0 ≤ (pAt s.ps j).oh ∧ (pAt s.ps j).oh ≤ 1000000) := fun j hj => by
  have := (prB_iff _ _ _).1 (((siB_iff s).1 h).2.1 j hj)
  omega
end Go.Proofs.Ytiaahfccebmkdaa
