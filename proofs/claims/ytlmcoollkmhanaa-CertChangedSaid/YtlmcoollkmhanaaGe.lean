
/- Parts WdE WdF WdG of the proof, joined. -/
import Derived.Test.YtlmcoollkmhanaaGd
import Derived.Test.YtlmcoollkmhanaaGb
/- Package width: Valid. -/
namespace Go.Proofs.Ytlmcoollkmhanaa
open Go.RowKit

theorem si_ways (r f lo tm : Int) (ps : List Pr) : (siN ⟨r, f, lo, tm, ps⟩ = true ∧ inB r 0 1000000 = true ∧ inB f 0 5 = true ∧ inB lo 0 16 = true ∧ inB tm 1 1000000000 = true ∧ ps.length ≤ 16) ∨
  siN ⟨r, f, lo, tm, ps⟩ = false ∧ (inB r 0 1000000 = false ∨ (inB r 0 1000000 = true ∧ inB f 0 5 = false) ∨ (inB r 0 1000000 = true ∧ inB f 0 5 = true ∧ inB lo 0 16 = false) ∨
   (inB r 0 1000000 = true ∧ inB f 0 5 = true ∧ inB lo 0 16 = true ∧ inB tm 1 1000000000 = false) ∨ (inB r 0 1000000 = true ∧ inB f 0 5 = true ∧ inB lo 0 16 = true ∧ inB tm 1 1000000000 = true ∧ 16 < ps.length)) := by
 unfold siN
 simp only
 cases inB r 0 1000000 <;> cases inB f 0 5 <;> cases inB lo 0 16 <;> cases inB tm 1 1000000000 <;> simp <;> omega
theorem bAt_map (ps : List Pr) (g : Pr → Bool) (j : Nat) (h : j < ps.length) : bAt ((upTo ps.length).map fun i => g (pAt ps i.toNat)) j = g (pAt ps j) := by
 have hl : j < ((upTo ps.length).map fun i => g (pAt ps i.toNat)).length := by rw [List.length_map, upTo_length]; exact h
 have e := upTo_at ps.length j h
 rw [iAt_lt _ _ (by rw [upTo_length]; exact h)] at e
 simp only [bAt, List.getD_eq_getElem?_getD, List.getElem?_eq_getElem hl, Option.getD_some, List.getElem_map, e, Int.toNat_natCast]
theorem wrong_any_iff (r tm : Int) (ps : List Pr) : (!allP r tm ps ps.length) = true ↔ ∃ j, j < ((upTo ps.length).map fun i => (!prB r tm (pAt ps i.toNat))).length ∧ bAt ((upTo ps.length).map fun i => (!prB r tm (pAt ps i.toNat))) j = true := by
 have hl : ((upTo ps.length).map fun i => (!prB r tm (pAt ps i.toNat))).length = ps.length := by rw [List.length_map, upTo_length]
 rw [hl]
 constructor
 ·intro h
  apply Classical.byContradiction
  intro hn
  have : allP r tm ps ps.length = true := (allP_iff r tm ps ps.length).2 fun j hj => by
   cases hb : prB r tm (pAt ps j) with
   | true => rfl
   | false => exact absurd ⟨j, hj, by rw [bAt_map ps (fun p => !prB r tm p) j hj, hb]; rfl⟩ hn
  rw [this] at h; cases h
 ·rintro ⟨j, hj, h⟩
  rw [bAt_map ps (fun p => !prB r tm p) j hj] at h
  rw [allP_false (k := j) (by simpa using h) _ hj]; rfl
theorem auL_map (ps : List Pr) : ((upTo ps.length).map fun i => Pr.au (pAt ps i.toNat)) = auL ps := by
 apply ints_ext
 ·rw [List.length_map, upTo_length, auL_length]
 ·intro j hj
  rw [List.length_map, upTo_length] at hj
  rw [auL_at ps j hj, iAt_lt _ _ (by rw [List.length_map, upTo_length]; exact hj), List.getElem_map]
  have e := upTo_at ps.length j hj
  rw [iAt_lt _ _ (by rw [upTo_length]; exact hj)] at e
  rw [e, Int.toNat_natCast]
theorem upTo_in (n : Nat) (j : Nat) (hj : j < (upTo n).length) : 0 ≤ iAt (upTo n) j ∧ iAt (upTo n) j < n := by
 rw [upTo_length] at hj
 rw [upTo_at n j hj]
 omega
set_option maxRecDepth 100000 in
set_option maxHeartbeats 1000000 in
theorem wdValid_any (r f lo tm : Int) (pv : Value) (ps : List Pr) (w : World) (hp : PrRow w pv ps) :
  Calls Try.prog 32 #[.agg #[.int .i64 r, .int .i64 f, .int .i64 lo, .int .i64 tm, pv]] w fun e w' => e = .returned (.bool (siB ⟨r, f, lo, tm, ps⟩)) ∧ Below w.heap.size w w' := by
 have hp0 := hp
 obtain ⟨pa, pc, rfl, q1, q2⟩ := hp.len
 rcases si_ways r f lo tm ps with ⟨h, h1, h2, h3, h4, h5⟩ | ⟨h, h1⟩
 case inr =>
  have e : siB ⟨r, f, lo, tm, ps⟩ = false := by unfold siB; rw [h]; rfl
  rw [e]
  clear e h
  rcases h1 with h1 | ⟨h1, h2⟩ | ⟨h1, h2, h3⟩ | ⟨h1, h2, h3, h4⟩ | ⟨h1, h2, h3, h4, h5⟩
  all_goals
   go_enter Try.func32, Try.ntmps32
   go_wp2_with (go_at_call 33; refine (wdWithin_any _ _ _ _).mono ?_; rintro e w' ⟨rfl, rfl⟩)
   go_ret
   exact ⟨rfl, (by ((with_reducible repeat' first | exact .refl _ _ | refine .alloc ?_ ?_ _ | refine .setCell ?_ ?_ _ | refine .drew ?_ | refine below_drewN ?_ _) <;> first | omega | simp <;> omega))⟩
 case inl =>
  have hr : 0 ≤ r ∧ r ≤ 1000000 := by simpa [inB] using h1
  have hP : ∀ W : World, Below w.heap.size w W → PrRow W (.slice pa ps.length pc) ps := fun W hW => hp0.below (Nat.le_refl _) hW
  have HP := hide hP
  cases hA : allP r tm ps ps.length with
  | true =>
   have e : siB ⟨r, f, lo, tm, ps⟩ = risB (auL ps) := by unfold siB; rw [h, hA]; rfl
   rw [e]
   clear e h hp0 hP
   have hAe := wrong_any_iff r tm ps
   rw [hA] at hAe
   have HA := hide hAe
   have hn : ps.length ≤ 1000 := by omega
   have tok1 : True := trivial
   have tok2 : True := trivial
   clear hA hAe
   go_enter Try.func32, Try.ntmps32
   go_wp2_with (go_at_call 33; refine (wdWithin_any _ _ _ _).mono ?_; rintro e w' ⟨rfl, rfl⟩)
   have hz0 : (w.alloc (.cells #[.int .i64 r, .int .i64 f, .int .i64 lo, .int .i64 tm, .slice pa ps.length pc] 24)).heap.size = w.heap.size + 1 := World.size_alloc _ _
   have hS : ∀ W : World, Below (w.heap.size + 1) (w.alloc (.cells #[.int .i64 r, .int .i64 f, .int .i64 lo, .int .i64 tm, .slice pa ps.length pc] 24)) W → W.cell? ⟨w.heap.size, 0, none⟩ = some (.int .i64 r) ∧ W.cell? ⟨w.heap.size, 1, none⟩ = some (.int .i64 f) ∧ W.cell? ⟨w.heap.size, 2, none⟩ = some (.int .i64 lo) ∧ W.cell? ⟨w.heap.size, 3, none⟩ = some (.int .i64 tm) ∧ W.cell? ⟨w.heap.size, 4, none⟩ = some (.slice pa ps.length pc) := by
    intro W hW
    have hc := (bk hW w.heap.size (by omega)).1
    exact ⟨(hc 0).trans (by simp), (hc 1).trans (by simp), (hc 2).trans (by simp), (hc 3).trans (by simp), (hc 4).trans (by simp)⟩
   have zd : (w.alloc (.cells #[.int .i64 r, .int .i64 f, .int .i64 lo, .int .i64 tm, .slice pa ps.length pc] 24)).drew.heap.size = w.heap.size + 1 := World.size_alloc _ _
   have HS := hide hS
   clear hS
   go_region_held3 (fun W => W.cell? ⟨w.heap.size, 0, none⟩ = some (.int .i64 r) ∧ W.cell? ⟨w.heap.size, 1, none⟩ = some (.int .i64 f) ∧ W.cell? ⟨w.heap.size, 2, none⟩ = some (.int .i64 lo) ∧ W.cell? ⟨w.heap.size, 3, none⟩ = some (.int .i64 tm) ∧ W.cell? ⟨w.heap.size, 4, none⟩ = some (.slice pa ps.length pc)) (exact HS.out _ (by ((with_reducible repeat' first | exact .refl _ _ | exact b5 | exact b4 | exact b3 | exact b2 | exact b1 | refine .alloc ?_ ?_ _ | refine .setCell ?_ ?_ _ | refine .drew ?_ | refine below_drewN ?_ _ | refine Below.trans ?_ (b5.mono ?_) | refine Below.trans ?_ (b4.mono ?_) | refine Below.trans ?_ (b3.mono ?_) | refine Below.trans ?_ (b2.mono ?_) | refine Below.trans ?_ (b1.mono ?_)) <;> first | omega | simp <;> omega)))
    (first | (go_at_call 47; have _t := tok1; (with_reducible refine (wdAll_any r f lo tm _ ps hn _ (HP.out _ (by ((with_reducible repeat' first | exact .refl _ _ | refine .alloc ?_ ?_ _ | refine .setCell ?_ ?_ _ | refine .drew ?_ | refine below_drewN ?_ _) <;> first | omega | simp <;> omega)))).mono ?_); rintro e w1 ⟨ov1, rfl, o1, b1⟩; have z1 := b1.size; clear tok1) | (go_at_call 46; (with_reducible refine (wdPeersWrong_any r f lo tm _ ps _ _ _ (HP.out _ (by ((with_reducible repeat' first | exact .refl _ _ | exact b1 | refine .alloc ?_ ?_ _ | refine .setCell ?_ ?_ _ | refine .drew ?_ | refine below_drewN ?_ _ | refine Below.trans ?_ (b1.mono ?_)) <;> first | omega | simp <;> omega))) o1.row (by rw [upTo_length]; omega) (upTo_in _) hr).mono ?_); rintro e w2 ⟨ov2, rfl, o2, b2⟩; have z2 := b2.size) | (go_at_call 45; (with_reducible refine (wdContainsB_any ov2 _ _ _ _ o2 HA.out).mono ?_); rintro e w' ⟨rfl, rfl⟩) | (go_at_call 47; have _t := tok2; (with_reducible refine (wdAll_any r f lo tm _ ps hn _ (HP.out _ (by ((with_reducible repeat' first | exact .refl _ _ | exact b2 | exact b1 | refine .alloc ?_ ?_ _ | refine .setCell ?_ ?_ _ | refine .drew ?_ | refine below_drewN ?_ _ | refine Below.trans ?_ (b2.mono ?_) | refine Below.trans ?_ (b1.mono ?_)) <;> first | omega | simp <;> omega)))).mono ?_); rintro e w3 ⟨ov3, rfl, o3, b3⟩; have z3 := b3.size; clear tok2) | (go_at_call 18; (with_reducible refine (wdPeersAuth_any r f lo tm _ ps _ _ _ (HP.out _ (by ((with_reducible repeat' first | exact .refl _ _ | exact b3 | exact b2 | exact b1 | refine .alloc ?_ ?_ _ | refine .setCell ?_ ?_ _ | refine .drew ?_ | refine below_drewN ?_ _ | refine Below.trans ?_ (b3.mono ?_) | refine Below.trans ?_ (b2.mono ?_) | refine Below.trans ?_ (b1.mono ?_)) <;> first | omega | simp <;> omega))) o3.row (by rw [upTo_length]; omega) (upTo_in _)).mono ?_); rintro e w4 ⟨ov4, rfl, o4, b4⟩; have z4 := b4.size) | (go_at_call 35; (with_reducible refine (wdRising_any ov4 _ _ o4.row).mono ?_); rintro e w5 ⟨rfl, b5⟩))
   go_wp2
   go_ret
   exact ⟨ret_bool (by rw [auL_map]), (by ((with_reducible repeat' first | exact .refl _ _ | exact b5 | exact b4 | exact b3 | exact b2 | exact b1 | refine .alloc ?_ ?_ _ | refine .setCell ?_ ?_ _ | refine .drew ?_ | refine below_drewN ?_ _ | refine Below.trans ?_ (b5.mono ?_) | refine Below.trans ?_ (b4.mono ?_) | refine Below.trans ?_ (b3.mono ?_) | refine Below.trans ?_ (b2.mono ?_) | refine Below.trans ?_ (b1.mono ?_)) <;> first | omega | simp <;> omega))⟩
  | false =>
   have e : siB ⟨r, f, lo, tm, ps⟩ = false := by unfold siB; rw [h, hA]; rfl
   rw [e]
   clear e h hp0 hP
   have hAe := wrong_any_iff r tm ps
   rw [hA] at hAe
   have HA := hide hAe
   have hn : ps.length ≤ 1000 := by omega
   have tok1 : True := trivial
   clear hA hAe
   go_enter Try.func32, Try.ntmps32
   go_wp2_with (go_at_call 33; refine (wdWithin_any _ _ _ _).mono ?_; rintro e w' ⟨rfl, rfl⟩)
   have hz0 : (w.alloc (.cells #[.int .i64 r, .int .i64 f, .int .i64 lo, .int .i64 tm, .slice pa ps.length pc] 24)).heap.size = w.heap.size + 1 := World.size_alloc _ _
   have hS : ∀ W : World, Below (w.heap.size + 1) (w.alloc (.cells #[.int .i64 r, .int .i64 f, .int .i64 lo, .int .i64 tm, .slice pa ps.length pc] 24)) W → W.cell? ⟨w.heap.size, 0, none⟩ = some (.int .i64 r) ∧ W.cell? ⟨w.heap.size, 1, none⟩ = some (.int .i64 f) ∧ W.cell? ⟨w.heap.size, 2, none⟩ = some (.int .i64 lo) ∧ W.cell? ⟨w.heap.size, 3, none⟩ = some (.int .i64 tm) ∧ W.cell? ⟨w.heap.size, 4, none⟩ = some (.slice pa ps.length pc) := by
    intro W hW
    have hc := (bk hW w.heap.size (by omega)).1
    exact ⟨(hc 0).trans (by simp), (hc 1).trans (by simp), (hc 2).trans (by simp), (hc 3).trans (by simp), (hc 4).trans (by simp)⟩
   have zd : (w.alloc (.cells #[.int .i64 r, .int .i64 f, .int .i64 lo, .int .i64 tm, .slice pa ps.length pc] 24)).drew.heap.size = w.heap.size + 1 := World.size_alloc _ _
   have HS := hide hS
   clear hS
   go_region_with
    (first | (go_at_call 47; have _t := tok1; (with_reducible refine (wdAll_any r f lo tm _ ps hn _ (HP.out _ (by ((with_reducible repeat' first | exact .refl _ _ | refine .alloc ?_ ?_ _ | refine .setCell ?_ ?_ _ | refine .drew ?_ | refine below_drewN ?_ _) <;> first | omega | simp <;> omega)))).mono ?_); rintro e w1 ⟨ov1, rfl, o1, b1⟩; have z1 := b1.size; obtain ⟨kb1_0, fb1_0, zb1_0, zab1_0, zbb1_0, zcb1_0, zdb1_0, zeb1_0⟩ := bk3 b1 (w.heap.size) (by first | omega | simp <;> omega); clear tok1) | (go_at_call 46; (with_reducible refine (wdPeersWrong_any r f lo tm _ ps _ _ _ (HP.out _ (by ((with_reducible repeat' first | exact .refl _ _ | exact b1 | refine .alloc ?_ ?_ _ | refine .setCell ?_ ?_ _ | refine .drew ?_ | refine below_drewN ?_ _ | refine Below.trans ?_ (b1.mono ?_)) <;> first | omega | simp <;> omega))) o1.row (by rw [upTo_length]; omega) (upTo_in _) hr).mono ?_); rintro e w2 ⟨ov2, rfl, o2, b2⟩; have z2 := b2.size; obtain ⟨kb2_0, fb2_0, zb2_0, zab2_0, zbb2_0, zcb2_0, zdb2_0, zeb2_0⟩ := bk3 b2 (w.heap.size) (by first | omega | simp <;> omega)) | (go_at_call 45; (with_reducible refine (wdContainsB_any ov2 _ _ _ _ o2 HA.out).mono ?_); rintro e w' ⟨rfl, rfl⟩))
   all_goals go_wp2
   all_goals go_ret
   all_goals exact ⟨rfl, (by ((with_reducible repeat' first | exact .refl _ _ | exact b2 | exact b1 | refine .alloc ?_ ?_ _ | refine .setCell ?_ ?_ _ | refine .drew ?_ | refine below_drewN ?_ _ | refine Below.trans ?_ (b2.mono ?_) | refine Below.trans ?_ (b1.mono ?_)) <;> first | omega | simp <;> omega))⟩
end Go.Proofs.Ytlmcoollkmhanaa
/- Package width: Right, Growth, Peer, Width. -/
namespace Go.Proofs.Ytlmcoollkmhanaa
open Go.RowKit

set_option maxRecDepth 100000 in
set_option maxHeartbeats 400000 in
theorem Right1_any (i : Int) (sb : Nat) (a : Option Addr) (n cap : Nat) (w : World) (hc : w.cell? ⟨sb, 4, none⟩ = some (.slice a n cap)) : Calls Try.prog 31 #[.int .i64 i, .pointer (some ⟨sb, 0, none⟩)] w fun e w' => e = .returned (.bool (!decide (0 ≤ i ∧ i < n))) ∧ w = w' := by
 by_cases h1 : i < 0
 ·go_enter Try.func31, Try.ntmps31
  go_wp2
  go_ret
  exact ⟨ret_bool (by rw [decide_eq_false (by omega)]; rfl), rfl⟩
 ·go_enter Try.func31, Try.ntmps31
  go_wp2
  all_goals go_ret
  all_goals exact ⟨ret_bool (by rw [Bool.eq_iff_iff]; first | (simp; done) | (simp; omega)), rfl⟩
set_option maxRecDepth 100000 in
set_option maxHeartbeats 400000 in
theorem IndexO_any (v : Value) (l : List Int) (sb : Nat) (a0 : Option Addr) (n cap0 : Nat) (w : World) (hv : IsRow w v l) (hc : w.cell? ⟨sb, 4, none⟩ = some (.slice a0 n cap0)) :
  Calls Try.prog 50 #[v, .func (.func 31) #[] #[.pointer (some ⟨sb, 0, none⟩)]] w fun e w' => (∃ r : Int, e = .returned (.int .i64 r) ∧ (r < 0 ∧ inAll n l l.length = true ∨ 0 ≤ r ∧ inAll n l l.length = false)) ∧ w = w' := by
 obtain ⟨a, cap, rfl, h1, h2, h3⟩ := hv
 go_enter Try.func50, Try.ntmps50
 go_wp2
 go_loop [5, 8] (fun _ i => ∃ k : Nat, k ≤ l.length ∧ i = .int .i64 k ∧ Hid (inAll n l k = true)) (fun _ i => l.length - (intOf i).toNat)
 case atStart => exact ⟨0, Nat.zero_le _, rfl, hide rfl⟩
 case round =>
  obtain ⟨k, hk, rfl, Hall⟩ := hrel
  by_cases hlt : k < l.length
  ·obtain ⟨b, off, rfl, h4, h5⟩ := h3 k hlt
   clear h3
   by_cases hval : 0 ≤ iAt l k ∧ iAt l k < n
   ·have hv2 : decide (0 ≤ iAt l k ∧ iAt l k < n) = true := decide_eq_true hval
    go_wp2_with (go_at_call 31; refine (Right1_any _ sb a0 n cap0 _ hc).mono ?_; rintro e w' ⟨rfl, rfl⟩; rw [hv2])
    go_round
    case rel => exact ⟨k + 1, by omega, by go_num, hide (by rw [inAll, Hall.out, hv2]; rfl)⟩
    case measure => simp [intOf]; omega
   ·have hv2 : decide (0 ≤ iAt l k ∧ iAt l k < n) = false := decide_eq_false hval
    have Hv := hide hval
    clear hval
    go_wp2_with (go_at_call 31; refine (Right1_any _ sb a0 n cap0 _ hc).mono ?_; rintro e w' ⟨rfl, rfl⟩; rw [hv2])
    go_ret
    exact ⟨⟨_, rfl, .inr ⟨by omega, inAll_false Hv.out _ hlt⟩⟩, rfl⟩
  ·clear h3
   go_wp2
   go_ret
   exact ⟨⟨_, rfl, .inl ⟨by omega, by rw [← Hall.out, show k = l.length by omega]⟩⟩, rfl⟩
set_option maxRecDepth 100000 in
set_option maxHeartbeats 400000 in
theorem ContainsO_any (v : Value) (l : List Int) (sb : Nat) (a0 : Option Addr) (n cap0 : Nat) (w : World) (hv : IsRow w v l) (hc : w.cell? ⟨sb, 4, none⟩ = some (.slice a0 n cap0)) :
  Calls Try.prog 34 #[v, .func (.func 31) #[] #[.pointer (some ⟨sb, 0, none⟩)]] w fun e w' => e = .returned (.bool (!inAll n l l.length)) ∧ w = w' := by
 go_enter Try.func34, Try.ntmps34
 go_wp2_with (go_at_call 50; refine (IndexO_any v l sb a0 n cap0 _ hv hc).mono ?_; rintro e w' ⟨⟨r, rfl, hr⟩, rfl⟩; have Hr := hide hr; clear hr)
 go_ret
 refine ⟨ret_bool ?_, rfl⟩
 rcases Hr.out with ⟨h1, h2⟩ | ⟨h1, h2⟩ <;> simp [h2] <;> omega
theorem rg_ways (s : Si) (use : List Int) (ev : Int) : (rgB s use ev = true ∧ siB s = true ∧ inB ev (s.tm + 1) 1000000000000 = true ∧ inAll s.ps.length use use.length = true ∧ risB use = true ∧ decide (2 * s.f + s.lo < use.length) = true) ∨
  rgB s use ev = false ∧ (siB s = false ∨ (siB s = true ∧ inB ev (s.tm + 1) 1000000000000 = false) ∨ (siB s = true ∧ inB ev (s.tm + 1) 1000000000000 = true ∧ inAll s.ps.length use use.length = false) ∨
   (siB s = true ∧ inB ev (s.tm + 1) 1000000000000 = true ∧ inAll s.ps.length use use.length = true ∧ risB use = false) ∨ (siB s = true ∧ inB ev (s.tm + 1) 1000000000000 = true ∧ inAll s.ps.length use use.length = true ∧ risB use = true ∧ decide (2 * s.f + s.lo < use.length) = false)) := by
 unfold rgB
 cases siB s <;> cases inB ev (s.tm + 1) 1000000000000 <;> cases inAll s.ps.length use use.length <;> cases risB use <;> cases decide (2 * s.f + s.lo < use.length) <;> simp
set_option maxRecDepth 100000 in
set_option maxHeartbeats 1000000 in
theorem wdRight_any (r f lo tm : Int) (pv : Value) (ps : List Pr) (uv : Value) (use : List Int) (ev : Int) (w : World) (hp : PrRow w pv ps) (hu : IsRow w uv use) :
  Calls Try.prog 16 #[.agg #[.int .i64 r, .int .i64 f, .int .i64 lo, .int .i64 tm, pv], .agg #[uv, .int .i64 ev]] w fun e w' => e = .returned (.bool (rgB ⟨r, f, lo, tm, ps⟩ use ev)) ∧ Below w.heap.size w w' := by
 obtain ⟨pa, pc, rfl, q1, q2⟩ := hp.len
 obtain ⟨ua, uc, rfl, u1, u2, u3⟩ := id hu
 clear u3
 have hP : ∀ W : World, Below w.heap.size w W → PrRow W (.slice pa ps.length pc) ps ∧ IsRow W (.slice ua use.length uc) use := fun W hW => ⟨hp.below (Nat.le_refl _) hW, hu.below (Nat.le_refl _) hW⟩
 have HP := hide hP
 clear hP
 rcases rg_ways ⟨r, f, lo, tm, ps⟩ use ev with ⟨h, h1, h2, h3, h4, h5⟩ | ⟨h, h1 | ⟨h1, h2⟩ | ⟨h1, h2, h3⟩ | ⟨h1, h2, h3, h4⟩ | ⟨h1, h2, h3, h4, h5⟩⟩
 case inr.inl =>
  rw [h]
  clear h
  go_enter Try.func16, Try.ntmps16
  go_wp2_with (go_at_call 32; (with_reducible refine (wdValid_any r f lo tm _ ps _ (HP.out _ (by ((with_reducible repeat' first | exact .refl _ _ | refine .alloc ?_ ?_ _ | refine .setCell ?_ ?_ _ | refine .drew ?_ | refine below_drewN ?_ _) <;> first | omega | simp <;> omega))).1).mono ?_); rintro e w1 ⟨rfl, b1⟩; rw [h1])
  go_ret
  exact ⟨rfl, (by ((with_reducible repeat' first | exact .refl _ _ | exact b1 | refine .alloc ?_ ?_ _ | refine .setCell ?_ ?_ _ | refine .drew ?_ | refine below_drewN ?_ _ | refine Below.trans ?_ (b1.mono ?_)) <;> first | omega | simp <;> omega))⟩
 case inr.inr.inl =>
  rw [h]
  clear h
  have hs := (siN_iff _).1 ((siB_iff _).1 h1).1
  simp only at hs h2
  go_enter Try.func16, Try.ntmps16
  go_wp2_with (first | (go_at_call 32; (with_reducible refine (wdValid_any r f lo tm _ ps _ (HP.out _ (by ((with_reducible repeat' first | exact .refl _ _ | refine .alloc ?_ ?_ _ | refine .setCell ?_ ?_ _ | refine .drew ?_ | refine below_drewN ?_ _) <;> first | omega | simp <;> omega))).1).mono ?_); rintro e w1 ⟨rfl, b1⟩; have z1 := b1.size; obtain ⟨kb1_0, fb1_0, zb1_0, zab1_0, zbb1_0, zcb1_0, zdb1_0, zeb1_0⟩ := bk3 b1 (w.heap.size) (by first | omega | simp <;> omega); obtain ⟨kb1_1, fb1_1, zb1_1, zab1_1, zbb1_1, zcb1_1, zdb1_1, zeb1_1⟩ := bk3 b1 (w.heap.size + 1) (by first | omega | simp <;> omega); rw [h1]) | (go_at_call 33; (with_reducible refine (wdWithin_any _ _ _ _).mono ?_); rintro e w' ⟨rfl, rfl⟩; rw [h2]))
  go_ret
  exact ⟨rfl, (by ((with_reducible repeat' first | exact .refl _ _ | exact b1 | refine .alloc ?_ ?_ _ | refine .setCell ?_ ?_ _ | refine .drew ?_ | refine below_drewN ?_ _ | refine Below.trans ?_ (b1.mono ?_)) <;> first | omega | simp <;> omega))⟩
 case inr.inr.inr.inl =>
  rw [h]
  clear h
  have hs := (siN_iff _).1 ((siB_iff _).1 h1).1
  simp only at hs h2
  simp only at h3
  go_enter Try.func16, Try.ntmps16
  go_wp2_with (first | (go_at_call 32; (with_reducible refine (wdValid_any r f lo tm _ ps _ (HP.out _ (by ((with_reducible repeat' first | exact .refl _ _ | refine .alloc ?_ ?_ _ | refine .setCell ?_ ?_ _ | refine .drew ?_ | refine below_drewN ?_ _) <;> first | omega | simp <;> omega))).1).mono ?_); rintro e w1 ⟨rfl, b1⟩; have z1 := b1.size; obtain ⟨kb1_0, fb1_0, zb1_0, zab1_0, zbb1_0, zcb1_0, zdb1_0, zeb1_0⟩ := bk3 b1 (w.heap.size) (by first | omega | simp <;> omega); obtain ⟨kb1_1, fb1_1, zb1_1, zab1_1, zbb1_1, zcb1_1, zdb1_1, zeb1_1⟩ := bk3 b1 (w.heap.size + 1) (by first | omega | simp <;> omega); rw [h1]) | (go_at_call 33; (with_reducible refine (wdWithin_any _ _ _ _).mono ?_); rintro e w' ⟨rfl, rfl⟩; rw [h2]) | (go_at_call 34; (with_reducible refine (ContainsO_any _ use w.heap.size pa ps.length pc _ (HP.out _ (by ((with_reducible repeat' first | exact .refl _ _ | exact b1 | refine .alloc ?_ ?_ _ | refine .setCell ?_ ?_ _ | refine .drew ?_ | refine below_drewN ?_ _ | refine Below.trans ?_ (b1.mono ?_)) <;> first | omega | simp <;> omega))).2 (by simp [kb1_0])).mono ?_); rintro e w' ⟨rfl, rfl⟩; rw [h3]))
  go_ret
  exact ⟨rfl, (by ((with_reducible repeat' first | exact .refl _ _ | exact b1 | refine .alloc ?_ ?_ _ | refine .setCell ?_ ?_ _ | refine .drew ?_ | refine below_drewN ?_ _ | refine Below.trans ?_ (b1.mono ?_)) <;> first | omega | simp <;> omega))⟩
 case inr.inr.inr.inr.inl =>
  rw [h]
  clear h
  have hs := (siN_iff _).1 ((siB_iff _).1 h1).1
  simp only at hs h2
  simp only at h3
  go_enter Try.func16, Try.ntmps16
  go_wp2_with (first | (go_at_call 32; (with_reducible refine (wdValid_any r f lo tm _ ps _ (HP.out _ (by ((with_reducible repeat' first | exact .refl _ _ | refine .alloc ?_ ?_ _ | refine .setCell ?_ ?_ _ | refine .drew ?_ | refine below_drewN ?_ _) <;> first | omega | simp <;> omega))).1).mono ?_); rintro e w1 ⟨rfl, b1⟩; have z1 := b1.size; obtain ⟨kb1_0, fb1_0, zb1_0, zab1_0, zbb1_0, zcb1_0, zdb1_0, zeb1_0⟩ := bk3 b1 (w.heap.size) (by first | omega | simp <;> omega); obtain ⟨kb1_1, fb1_1, zb1_1, zab1_1, zbb1_1, zcb1_1, zdb1_1, zeb1_1⟩ := bk3 b1 (w.heap.size + 1) (by first | omega | simp <;> omega); rw [h1]) | (go_at_call 33; (with_reducible refine (wdWithin_any _ _ _ _).mono ?_); rintro e w' ⟨rfl, rfl⟩; rw [h2]) | (go_at_call 34; (with_reducible refine (ContainsO_any _ use w.heap.size pa ps.length pc _ (HP.out _ (by ((with_reducible repeat' first | exact .refl _ _ | exact b1 | refine .alloc ?_ ?_ _ | refine .setCell ?_ ?_ _ | refine .drew ?_ | refine below_drewN ?_ _ | refine Below.trans ?_ (b1.mono ?_)) <;> first | omega | simp <;> omega))).2 (by simp [kb1_0])).mono ?_); rintro e w' ⟨rfl, rfl⟩; rw [h3]) | (go_at_call 35; (with_reducible refine (wdRising_any _ use _ (HP.out _ (by ((with_reducible repeat' first | exact .refl _ _ | exact b1 | refine .alloc ?_ ?_ _ | refine .setCell ?_ ?_ _ | refine .drew ?_ | refine below_drewN ?_ _ | refine Below.trans ?_ (b1.mono ?_)) <;> first | omega | simp <;> omega))).2).mono ?_); rintro e w2 ⟨rfl, b2⟩; have z2 := b2.size; obtain ⟨kb2_0, fb2_0, zb2_0, zab2_0, zbb2_0, zcb2_0, zdb2_0, zeb2_0⟩ := bk3 b2 (w.heap.size) (by first | omega | simp <;> omega); obtain ⟨kb2_1, fb2_1, zb2_1, zab2_1, zbb2_1, zcb2_1, zdb2_1, zeb2_1⟩ := bk3 b2 (w.heap.size + 1) (by first | omega | simp <;> omega); rw [h4]))
  go_ret
  exact ⟨by first | rfl | exact ret_bool (decide_eq_false (by omega)) | exact ret_bool (decide_eq_true (by omega)), (by ((with_reducible repeat' first | exact .refl _ _ | exact b2 | exact b1 | refine .alloc ?_ ?_ _ | refine .setCell ?_ ?_ _ | refine .drew ?_ | refine below_drewN ?_ _ | refine Below.trans ?_ (b2.mono ?_) | refine Below.trans ?_ (b1.mono ?_)) <;> first | omega | simp <;> omega))⟩
 case inr.inr.inr.inr.inr =>
  rw [h]
  clear h
  have hs := (siN_iff _).1 ((siB_iff _).1 h1).1
  simp only at hs h2
  simp only at h3 h5
  have h6 : (use.length : Int) ≤ 2 * f + lo := by simpa using h5
  clear h5
  go_enter Try.func16, Try.ntmps16
  go_wp2_with (first | (go_at_call 32; (with_reducible refine (wdValid_any r f lo tm _ ps _ (HP.out _ (by ((with_reducible repeat' first | exact .refl _ _ | refine .alloc ?_ ?_ _ | refine .setCell ?_ ?_ _ | refine .drew ?_ | refine below_drewN ?_ _) <;> first | omega | simp <;> omega))).1).mono ?_); rintro e w1 ⟨rfl, b1⟩; have z1 := b1.size; obtain ⟨kb1_0, fb1_0, zb1_0, zab1_0, zbb1_0, zcb1_0, zdb1_0, zeb1_0⟩ := bk3 b1 (w.heap.size) (by first | omega | simp <;> omega); obtain ⟨kb1_1, fb1_1, zb1_1, zab1_1, zbb1_1, zcb1_1, zdb1_1, zeb1_1⟩ := bk3 b1 (w.heap.size + 1) (by first | omega | simp <;> omega); rw [h1]) | (go_at_call 33; (with_reducible refine (wdWithin_any _ _ _ _).mono ?_); rintro e w' ⟨rfl, rfl⟩; rw [h2]) | (go_at_call 34; (with_reducible refine (ContainsO_any _ use w.heap.size pa ps.length pc _ (HP.out _ (by ((with_reducible repeat' first | exact .refl _ _ | exact b1 | refine .alloc ?_ ?_ _ | refine .setCell ?_ ?_ _ | refine .drew ?_ | refine below_drewN ?_ _ | refine Below.trans ?_ (b1.mono ?_)) <;> first | omega | simp <;> omega))).2 (by simp [kb1_0])).mono ?_); rintro e w' ⟨rfl, rfl⟩; rw [h3]) | (go_at_call 35; (with_reducible refine (wdRising_any _ use _ (HP.out _ (by ((with_reducible repeat' first | exact .refl _ _ | exact b1 | refine .alloc ?_ ?_ _ | refine .setCell ?_ ?_ _ | refine .drew ?_ | refine below_drewN ?_ _ | refine Below.trans ?_ (b1.mono ?_)) <;> first | omega | simp <;> omega))).2).mono ?_); rintro e w2 ⟨rfl, b2⟩; have z2 := b2.size; obtain ⟨kb2_0, fb2_0, zb2_0, zab2_0, zbb2_0, zcb2_0, zdb2_0, zeb2_0⟩ := bk3 b2 (w.heap.size) (by first | omega | simp <;> omega); obtain ⟨kb2_1, fb2_1, zb2_1, zab2_1, zbb2_1, zcb2_1, zdb2_1, zeb2_1⟩ := bk3 b2 (w.heap.size + 1) (by first | omega | simp <;> omega); rw [h4]))
  go_ret
  exact ⟨by first | rfl | exact ret_bool (decide_eq_false (by omega)) | exact ret_bool (decide_eq_true (by omega)), (by ((with_reducible repeat' first | exact .refl _ _ | exact b2 | exact b1 | refine .alloc ?_ ?_ _ | refine .setCell ?_ ?_ _ | refine .drew ?_ | refine below_drewN ?_ _ | refine Below.trans ?_ (b2.mono ?_) | refine Below.trans ?_ (b1.mono ?_)) <;> first | omega | simp <;> omega))⟩
 case inl =>
  rw [h]
  clear h
  have hs := (siN_iff _).1 ((siB_iff _).1 h1).1
  simp only at hs h2
  simp only at h3 h5
  have h6 : 2 * f + lo < (use.length : Int) := by simpa using h5
  clear h5
  go_enter Try.func16, Try.ntmps16
  go_wp2_with (first | (go_at_call 32; (with_reducible refine (wdValid_any r f lo tm _ ps _ (HP.out _ (by ((with_reducible repeat' first | exact .refl _ _ | refine .alloc ?_ ?_ _ | refine .setCell ?_ ?_ _ | refine .drew ?_ | refine below_drewN ?_ _) <;> first | omega | simp <;> omega))).1).mono ?_); rintro e w1 ⟨rfl, b1⟩; have z1 := b1.size; obtain ⟨kb1_0, fb1_0, zb1_0, zab1_0, zbb1_0, zcb1_0, zdb1_0, zeb1_0⟩ := bk3 b1 (w.heap.size) (by first | omega | simp <;> omega); obtain ⟨kb1_1, fb1_1, zb1_1, zab1_1, zbb1_1, zcb1_1, zdb1_1, zeb1_1⟩ := bk3 b1 (w.heap.size + 1) (by first | omega | simp <;> omega); rw [h1]) | (go_at_call 33; (with_reducible refine (wdWithin_any _ _ _ _).mono ?_); rintro e w' ⟨rfl, rfl⟩; rw [h2]) | (go_at_call 34; (with_reducible refine (ContainsO_any _ use w.heap.size pa ps.length pc _ (HP.out _ (by ((with_reducible repeat' first | exact .refl _ _ | exact b1 | refine .alloc ?_ ?_ _ | refine .setCell ?_ ?_ _ | refine .drew ?_ | refine below_drewN ?_ _ | refine Below.trans ?_ (b1.mono ?_)) <;> first | omega | simp <;> omega))).2 (by simp [kb1_0])).mono ?_); rintro e w' ⟨rfl, rfl⟩; rw [h3]) | (go_at_call 35; (with_reducible refine (wdRising_any _ use _ (HP.out _ (by ((with_reducible repeat' first | exact .refl _ _ | exact b1 | refine .alloc ?_ ?_ _ | refine .setCell ?_ ?_ _ | refine .drew ?_ | refine below_drewN ?_ _ | refine Below.trans ?_ (b1.mono ?_)) <;> first | omega | simp <;> omega))).2).mono ?_); rintro e w2 ⟨rfl, b2⟩; have z2 := b2.size; obtain ⟨kb2_0, fb2_0, zb2_0, zab2_0, zbb2_0, zcb2_0, zdb2_0, zeb2_0⟩ := bk3 b2 (w.heap.size) (by first | omega | simp <;> omega); obtain ⟨kb2_1, fb2_1, zb2_1, zab2_1, zbb2_1, zcb2_1, zdb2_1, zeb2_1⟩ := bk3 b2 (w.heap.size + 1) (by first | omega | simp <;> omega); rw [h4]))
  go_ret
  exact ⟨by first | rfl | exact ret_bool (decide_eq_false (by omega)) | exact ret_bool (decide_eq_true (by omega)), (by ((with_reducible repeat' first | exact .refl _ _ | exact b2 | exact b1 | refine .alloc ?_ ?_ _ | refine .setCell ?_ ?_ _ | refine .drew ?_ | refine below_drewN ?_ _ | refine Below.trans ?_ (b2.mono ?_) | refine Below.trans ?_ (b1.mono ?_)) <;> first | omega | simp <;> omega))⟩
set_option maxRecDepth 100000 in
set_option maxHeartbeats 400000 in
theorem wdGrowth_any (r c : Int) (w : World) : Calls Try.prog 20 #[.int .i64 r, .int .i64 c] w fun e w' => e = .returned (.tuple #[.int .i64 (grw r c), .int .i64 (elEr r c)]) ∧ Below w.heap.size w w' := by
 have hb : (0 ≤ elLo r c ∧ elLo r c ≤ 1000000000000000) ∧ 0 ≤ elHi r c ∧ elHi r c ≤ 1002000000000010 := by
  cases h : elOk r c with
  | true => have := el_bd h; have := (elOk_iff r c).1 h; omega
  | false => have := elOk_no h; omega
 obtain ⟨hb1, hb2⟩ := hb
 go_enter Try.func20, Try.ntmps20
 go_wp2_with (go_at_call 38; refine (Elapsed_any _ _ _).mono ?_; rintro e w1 ⟨rfl, b1⟩)
 go_ret2
 have z1 := b1.size
 exact ⟨rfl, (by ((with_reducible repeat' first | exact .refl _ _ | exact b1 | refine .alloc ?_ ?_ _ | refine .setCell ?_ ?_ _ | refine .drew ?_ | refine below_drewN ?_ _ | refine Below.trans ?_ (b1.mono ?_)) <;> first | omega | simp <;> omega))⟩
def pkB (s : Si) (i : Int) : Bool := siB s && decide (0 ≤ i ∧ i < s.ps.length)
def pkW (s : Si) (i : Int) : Int := if pkB s i = true then pWd (pAt s.ps i.toNat) else 0
def pkE (s : Si) (i : Int) : Int := if pkB s i = true then 0 else 1
theorem si_wd {s : Si} (h : siB s = true) : ∀ j, j < s.ps.length → (0 ≤ (pAt s.ps j).er ∧ (pAt s.ps j).er ≤ 1000000) ∧ (0 ≤ (pAt s.ps j).ol ∧ (pAt s.ps j).ol ≤ 1000000) ∧ (0 ≤ (pAt s.ps j).oh ∧ (pAt s.ps j).oh ≤ 1000000) := fun j hj => by
 have := (prB_iff _ _ _).1 (((siB_iff s).1 h).2.1 j hj)
 omega
set_option maxRecDepth 100000 in
set_option maxHeartbeats 1000000 in
theorem wdPeer_any (r f lo tm : Int) (pv : Value) (ps : List Pr) (i : Int) (w : World) (hp : PrRow w pv ps) :
  Calls Try.prog 29 #[.agg #[.int .i64 r, .int .i64 f, .int .i64 lo, .int .i64 tm, pv], .int .i64 i] w fun e w' => e = .returned (.tuple #[.int .i64 (pkW ⟨r, f, lo, tm, ps⟩ i), .int .i64 (pkE ⟨r, f, lo, tm, ps⟩ i)]) ∧ Below w.heap.size w w' := by
 have hp0 := hp
 obtain ⟨pa, pc, rfl, q1, q2, q3⟩ := hp
 have hP : ∀ W : World, Below w.heap.size w W → PrRow W (.slice pa ps.length pc) ps := fun W hW => hp0.below (Nat.le_refl _) hW
 have HP := hide hP
 clear hP hp0
 cases h1 : siB ⟨r, f, lo, tm, ps⟩ with
 | false =>
  have e0 : pkB ⟨r, f, lo, tm, ps⟩ i = false := by unfold pkB; rw [h1]; rfl
  have e1 : pkW ⟨r, f, lo, tm, ps⟩ i = 0 := by unfold pkW; rw [e0]; rfl
  have e2 : pkE ⟨r, f, lo, tm, ps⟩ i = 1 := by unfold pkE; rw [e0]; rfl
  rw [e1, e2]
  clear e0 e1 e2 q3
  go_enter Try.func29, Try.ntmps29
  go_wp2_with (go_at_call 32; (with_reducible refine (wdValid_any r f lo tm _ ps _ (HP.out _ (by ((with_reducible repeat' first | exact .refl _ _ | refine .alloc ?_ ?_ _ | refine .setCell ?_ ?_ _ | refine .drew ?_ | refine below_drewN ?_ _) <;> first | omega | simp <;> omega)))).mono ?_); rintro e w1 ⟨rfl, b1⟩; rw [h1])
  go_ret2
  exact ⟨rfl, (by ((with_reducible repeat' first | exact .refl _ _ | exact b1 | refine .alloc ?_ ?_ _ | refine .setCell ?_ ?_ _ | refine .drew ?_ | refine below_drewN ?_ _ | refine Below.trans ?_ (b1.mono ?_)) <;> first | omega | simp <;> omega))⟩
 | true =>
  by_cases h2 : 0 ≤ i ∧ i < ps.length
  ·have e0 : pkB ⟨r, f, lo, tm, ps⟩ i = true := by unfold pkB; rw [h1]; simp only; rw [decide_eq_true h2]; rfl
   have e1 : pkW ⟨r, f, lo, tm, ps⟩ i = pWd (pAt ps i.toNat) := by unfold pkW; rw [e0]; rfl
   have e2 : pkE ⟨r, f, lo, tm, ps⟩ i = 0 := by unfold pkE; rw [e0]; rfl
   obtain ⟨q, rfl⟩ : ∃ q : Nat, i = q := ⟨i.toNat, by omega⟩
   rw [Int.toNat_natCast] at e1
   rw [e1, e2]
   have hql : q < ps.length := by omega
   obtain ⟨pb, po, rfl, q4, q5⟩ := q3 q hql
   obtain ⟨k1, k2, k3⟩ := si_wd h1 q hql
   simp only at k1 k2 k3
   generalize pAt ps q = p at *
   have hS : ∀ W : World, Below (w.heap.size + 1) (w.alloc (.cells #[.int .i64 r, .int .i64 f, .int .i64 lo, .int .i64 tm, .slice (some ⟨pb, po, none⟩) ps.length pc] 24)) W → W.cell? ⟨pb, po + q * 8, none⟩ = some (.int .i64 p.au) ∧ W.cell? ⟨pb, po + q * 8 + 1, none⟩ = some (.int .i64 p.er) ∧ W.cell? ⟨pb, po + q * 8 + 2, none⟩ = some (.int .i64 p.co) ∧ W.cell? ⟨pb, po + q * 8 + 3, none⟩ = some (.int .i64 p.at_) ∧ W.cell? ⟨pb, po + q * 8 + 4, none⟩ = some (.int .i64 p.ol) ∧ W.cell? ⟨pb, po + q * 8 + 5, none⟩ = some (.int .i64 p.oh) ∧ W.cell? ⟨pb, po + q * 8 + 6, none⟩ = some (.int .i64 p.bl) ∧ W.cell? ⟨pb, po + q * 8 + 7, none⟩ = some (.int .i64 p.bh) ∧
     W.cell? ⟨w.heap.size, 0, none⟩ = some (.int .i64 r) ∧ W.cell? ⟨w.heap.size, 1, none⟩ = some (.int .i64 f) ∧ W.cell? ⟨w.heap.size, 2, none⟩ = some (.int .i64 lo) ∧ W.cell? ⟨w.heap.size, 3, none⟩ = some (.int .i64 tm) ∧ W.cell? ⟨w.heap.size, 4, none⟩ = some (.slice (some ⟨pb, po, none⟩) ps.length pc) := by
    intro W hW
    obtain ⟨p0, p1, p2, p3, p4, p5, p6, p7⟩ := q5.below (((Below.refl w.heap.size w).alloc (Nat.le_refl _) _).trans (hW.mono (by omega))) q4
    have hc := (bk hW w.heap.size (by omega)).1
    exact ⟨p0, p1, p2, p3, p4, p5, p6, p7, (hc 0).trans (by simp), (hc 1).trans (by simp), (hc 2).trans (by simp), (hc 3).trans (by simp), (hc 4).trans (by simp)⟩
   have HS := hide hS
   have I1 : (0 : Int) ≤ (q : Int) := by omega
   have I2 : (q : Int) < (ps.length : Int) := by omega
   clear hS e0 e1 e2 q5 q3 h2
   go_enter Try.func29, Try.ntmps29
   go_wp2_with (go_at_call 32; (with_reducible refine (wdValid_any r f lo tm _ ps _ (HP.out _ (by ((with_reducible repeat' first | exact .refl _ _ | refine .alloc ?_ ?_ _ | refine .setCell ?_ ?_ _ | refine .drew ?_ | refine below_drewN ?_ _) <;> first | omega | simp <;> omega)))).mono ?_); rintro e w1 ⟨rfl, b1⟩; obtain ⟨kb1_0, fb1_0, zb1_0, zab1_0, zbb1_0, zcb1_0, zdb1_0, zeb1_0⟩ := bk3 b1 (w.heap.size) (by first | omega | simp <;> omega); rw [h1])
   have B1 : Below (w.heap.size + 1) (w.alloc (.cells #[.int .i64 r, .int .i64 f, .int .i64 lo, .int .i64 tm, .slice (some ⟨pb, po, none⟩) ps.length pc] 24)) w1 := b1.mono (by simp)
   have z1 : w.heap.size + 1 ≤ w1.heap.size := by have := B1.size; simpa using this
   have zd : w1.drew.heap.size = w1.heap.size := rfl
   obtain ⟨p0, p1, p2, p3, p4, p5, p6, p7, y0, y1, y2, y3, y4⟩ := HS.out w1 B1
   clear kb1_0 fb1_0
   go_region_held3 (fun W => W.cell? ⟨pb, po + q * 8, none⟩ = some (.int .i64 p.au) ∧ W.cell? ⟨pb, po + q * 8 + 1, none⟩ = some (.int .i64 p.er) ∧ W.cell? ⟨pb, po + q * 8 + 2, none⟩ = some (.int .i64 p.co) ∧ W.cell? ⟨pb, po + q * 8 + 3, none⟩ = some (.int .i64 p.at_) ∧ W.cell? ⟨pb, po + q * 8 + 4, none⟩ = some (.int .i64 p.ol) ∧ W.cell? ⟨pb, po + q * 8 + 5, none⟩ = some (.int .i64 p.oh) ∧ W.cell? ⟨pb, po + q * 8 + 6, none⟩ = some (.int .i64 p.bl) ∧ W.cell? ⟨pb, po + q * 8 + 7, none⟩ = some (.int .i64 p.bh) ∧
     W.cell? ⟨w.heap.size, 0, none⟩ = some (.int .i64 r) ∧ W.cell? ⟨w.heap.size, 1, none⟩ = some (.int .i64 f) ∧ W.cell? ⟨w.heap.size, 2, none⟩ = some (.int .i64 lo) ∧ W.cell? ⟨w.heap.size, 3, none⟩ = some (.int .i64 tm) ∧ W.cell? ⟨w.heap.size, 4, none⟩ = some (.slice (some ⟨pb, po, none⟩) ps.length pc)) (exact HS.out _ (by ((with_reducible repeat' first | exact .refl _ _ | exact b2 | exact B1 | refine .alloc ?_ ?_ _ | refine .setCell ?_ ?_ _ | refine .drew ?_ | refine below_drewN ?_ _ | refine Below.trans ?_ (b2.mono ?_) | refine Below.trans ?_ (B1.mono ?_)) <;> first | omega | simp <;> omega)))
    ((go_at_call 19; refine (wdWidth_any p r f lo tm _ _ k1 k2 k3).mono ?_; rintro e w2 ⟨rfl, b2⟩))
   go_wp2
   go_ret2
   exact ⟨rfl, (by ((with_reducible repeat' first | exact .refl _ _ | exact b2 | exact b1 | refine .alloc ?_ ?_ _ | refine .setCell ?_ ?_ _ | refine .drew ?_ | refine below_drewN ?_ _ | refine Below.trans ?_ (b2.mono ?_) | refine Below.trans ?_ (b1.mono ?_)) <;> first | omega | simp <;> omega))⟩
  ·have e0 : pkB ⟨r, f, lo, tm, ps⟩ i = false := by unfold pkB; rw [h1]; simp only; rw [decide_eq_false h2]; rfl
   have e1 : pkW ⟨r, f, lo, tm, ps⟩ i = 0 := by unfold pkW; rw [e0]; rfl
   have e2 : pkE ⟨r, f, lo, tm, ps⟩ i = 1 := by unfold pkE; rw [e0]; rfl
   rw [e1, e2]
   clear e0 e1 e2 q3
   by_cases h3 : i < 0
   ·clear h2
    go_enter Try.func29, Try.ntmps29
    go_wp2_with (go_at_call 32; (with_reducible refine (wdValid_any r f lo tm _ ps _ (HP.out _ (by ((with_reducible repeat' first | exact .refl _ _ | refine .alloc ?_ ?_ _ | refine .setCell ?_ ?_ _ | refine .drew ?_ | refine below_drewN ?_ _) <;> first | omega | simp <;> omega)))).mono ?_); rintro e w1 ⟨rfl, b1⟩; obtain ⟨kb1_0, fb1_0, zb1_0, zab1_0, zbb1_0, zcb1_0, zdb1_0, zeb1_0⟩ := bk3 b1 (w.heap.size) (by first | omega | simp <;> omega); rw [h1])
    go_ret2
    exact ⟨rfl, (by ((with_reducible repeat' first | exact .refl _ _ | exact b1 | refine .alloc ?_ ?_ _ | refine .setCell ?_ ?_ _ | refine .drew ?_ | refine below_drewN ?_ _ | refine Below.trans ?_ (b1.mono ?_)) <;> first | omega | simp <;> omega))⟩
   ·have h4 : (ps.length : Int) ≤ i := by omega
    clear h2
    go_enter Try.func29, Try.ntmps29
    go_wp2_with (go_at_call 32; (with_reducible refine (wdValid_any r f lo tm _ ps _ (HP.out _ (by ((with_reducible repeat' first | exact .refl _ _ | refine .alloc ?_ ?_ _ | refine .setCell ?_ ?_ _ | refine .drew ?_ | refine below_drewN ?_ _) <;> first | omega | simp <;> omega)))).mono ?_); rintro e w1 ⟨rfl, b1⟩; obtain ⟨kb1_0, fb1_0, zb1_0, zab1_0, zbb1_0, zcb1_0, zdb1_0, zeb1_0⟩ := bk3 b1 (w.heap.size) (by first | omega | simp <;> omega); rw [h1])
    go_ret2
    exact ⟨rfl, (by ((with_reducible repeat' first | exact .refl _ _ | exact b1 | refine .alloc ?_ ?_ _ | refine .setCell ?_ ?_ _ | refine .drew ?_ | refine below_drewN ?_ _ | refine Below.trans ?_ (b1.mono ?_)) <;> first | omega | simp <;> omega))⟩
end Go.Proofs.Ytlmcoollkmhanaa
/- Package width: Width. -/
namespace Go.Proofs.Ytlmcoollkmhanaa
open Go.RowKit

theorem worst_bd29 {l : List Int} {f lost : Int} (h : spOk l f lost = true) : 0 ≤ worst l f lost ∧ worst l f lost ≤ 2000000000000 := by
 rw [worst_ok h]
 have hm := sp_mk h
 have := bestP_bd (srt_bd l ((spOk_iff l f lost).1 h).1.2) (spM l f lost) (spK l f lost) hm.2.2.1 hm.2.2.2.1
 omega
set_option maxRecDepth 100000 in
set_option maxHeartbeats 1000000 in
theorem wdWidthS_any (r f lo tm : Int) (pv : Value) (ps : List Pr) (uv : Value) (use : List Int) (ev : Int) (w : World) (hp : PrRow w pv ps) (hu : IsRow w uv use) :
  Calls Try.prog 7 #[.agg #[.int .i64 r, .int .i64 f, .int .i64 lo, .int .i64 tm, pv], .agg #[uv, .int .i64 ev]] w fun e w' => e = .returned (.tuple #[.int .i64 (wdt ⟨r, f, lo, tm, ps⟩ use ev), .int .i64 (wdEr ⟨r, f, lo, tm, ps⟩ use ev)]) ∧ Below w.heap.size w w' := by
 obtain ⟨pa, pc, rfl, q1, q2⟩ := hp.len
 obtain ⟨ua, uc, rfl, u1, u2, u3⟩ := id hu
 clear u3
 have hP : ∀ W : World, Below w.heap.size w W → PrRow W (.slice pa ps.length pc) ps ∧ IsRow W (.slice ua use.length uc) use := fun W hW => ⟨hp.below (Nat.le_refl _) hW, hu.below (Nat.le_refl _) hW⟩
 have HP := hide hP
 clear hP
 cases h1 : rgB ⟨r, f, lo, tm, ps⟩ use ev with
 | false =>
  have e1 : wdt ⟨r, f, lo, tm, ps⟩ use ev = 0 := by unfold wdt; rw [h1]; rfl
  have e2 : wdEr ⟨r, f, lo, tm, ps⟩ use ev = 1 := by unfold wdEr; rw [h1]; rfl
  rw [e1, e2]
  clear e1 e2
  go_enter Try.func7, Try.ntmps7
  go_wp2_with (go_at_call 16; (with_reducible refine (wdRight_any r f lo tm _ ps _ use ev _ (HP.out _ (by ((with_reducible repeat' first | exact .refl _ _ | refine .alloc ?_ ?_ _ | refine .setCell ?_ ?_ _ | refine .drew ?_ | refine below_drewN ?_ _) <;> first | omega | simp <;> omega))).1 (HP.out _ (by ((with_reducible repeat' first | exact .refl _ _ | refine .alloc ?_ ?_ _ | refine .setCell ?_ ?_ _ | refine .drew ?_ | refine below_drewN ?_ _) <;> first | omega | simp <;> omega))).2).mono ?_); rintro e w1 ⟨rfl, b1⟩; rw [h1])
  go_ret2
  exact ⟨rfl, (by ((with_reducible repeat' first | exact .refl _ _ | exact b1 | refine .alloc ?_ ?_ _ | refine .setCell ?_ ?_ _ | refine .drew ?_ | refine below_drewN ?_ _ | refine Below.trans ?_ (b1.mono ?_)) <;> first | omega | simp <;> omega))⟩
 | true =>
  have e1 : wdt ⟨r, f, lo, tm, ps⟩ use ev = worst (wdL ps use) f lo + grw r (ev + tm) := by unfold wdt; rw [h1]; rfl
  have e2 : wdEr ⟨r, f, lo, tm, ps⟩ use ev = 0 := by unfold wdEr; rw [h1]; rfl
  rw [e1, e2]
  have hg := rg_elOk h1
  have hs := rg_spOk h1
  simp only at hg hs
  have hE := spEr_ok hs
  have hwb := worst_bd29 hs
  have hgb := grw_bd hg
  have hG : elEr r (ev + tm) = 0 := by unfold elEr; rw [hg]; rfl
  obtain ⟨h2, h3, h4, h5, h6⟩ := (rgB_iff _ _ _).1 h1
  have hsi := (siN_iff _).1 ((siB_iff _).1 h2).1
  have hul := use_le h5 h4
  have hwd := si_wd h2
  simp only at h3 hsi hul hwd h4
  have hul2 : use.length ≤ 1000 := by omega
  obtain ⟨hi1, hi2, hi3, hi4, hi5⟩ := hsi
  have Hwd := hide hwd
  have Hin := hide h4
  generalize hW : worst (wdL ps use) f lo = W0 at *
  generalize hGr : grw r (ev + tm) = G0 at *
  have HW := hide hW
  have HGr := hide hGr
  have HE := hide hE
  have HG := hide hG
  have hS : ∀ W : World, Below (w.heap.size + 2) ((w.alloc (.cells #[.int .i64 r, .int .i64 f, .int .i64 lo, .int .i64 tm, .slice pa ps.length pc] 24)).alloc (.cells #[.slice ua use.length uc, .int .i64 ev] 27)) W → W.cell? ⟨w.heap.size, 0, none⟩ = some (.int .i64 r) ∧ W.cell? ⟨w.heap.size, 1, none⟩ = some (.int .i64 f) ∧ W.cell? ⟨w.heap.size, 2, none⟩ = some (.int .i64 lo) ∧ W.cell? ⟨w.heap.size, 3, none⟩ = some (.int .i64 tm) ∧ W.cell? ⟨w.heap.size, 4, none⟩ = some (.slice pa ps.length pc) ∧
    W.cell? ⟨w.heap.size + 1, 0, none⟩ = some (.slice ua use.length uc) ∧ W.cell? ⟨w.heap.size + 1, 1, none⟩ = some (.int .i64 ev) := by
   intro W hW
   have hc := (bk hW w.heap.size (by omega)).1
   have hd := (bk hW (w.heap.size + 1) (by omega)).1
   exact ⟨(hc 0).trans (by simp), (hc 1).trans (by simp), (hc 2).trans (by simp), (hc 3).trans (by simp), (hc 4).trans (by simp), (hd 0).trans (by simp), (hd 1).trans (by simp)⟩
  have HS := hide hS
  clear e1 e2 hg hs hE hW hGr hG h2 h4 h5 h6 hwd hS
  go_enter Try.func7, Try.ntmps7
  go_wp2_with (go_at_call 16; (with_reducible refine (wdRight_any r f lo tm _ ps _ use ev _ (HP.out _ (by ((with_reducible repeat' first | exact .refl _ _ | refine .alloc ?_ ?_ _ | refine .setCell ?_ ?_ _ | refine .drew ?_ | refine below_drewN ?_ _) <;> first | omega | simp <;> omega))).1 (HP.out _ (by ((with_reducible repeat' first | exact .refl _ _ | refine .alloc ?_ ?_ _ | refine .setCell ?_ ?_ _ | refine .drew ?_ | refine below_drewN ?_ _) <;> first | omega | simp <;> omega))).2).mono ?_); rintro e w1 ⟨rfl, b1⟩; rw [h1])
  have B1 : Below (w.heap.size + 2) ((w.alloc (.cells #[.int .i64 r, .int .i64 f, .int .i64 lo, .int .i64 tm, .slice pa ps.length pc] 24)).alloc (.cells #[.slice ua use.length uc, .int .i64 ev] 27)) w1 := b1.mono (by simp)
  have z1 : w.heap.size + 2 ≤ w1.heap.size := by have := B1.size; simpa using this
  have zd : w1.drew.heap.size = w1.heap.size := rfl
  obtain ⟨y0, y1, y2, y3, y4, x0, x1⟩ := HS.out w1 B1
  go_region_held3 (fun W => W.cell? ⟨w.heap.size, 0, none⟩ = some (.int .i64 r) ∧ W.cell? ⟨w.heap.size, 1, none⟩ = some (.int .i64 f) ∧ W.cell? ⟨w.heap.size, 2, none⟩ = some (.int .i64 lo) ∧ W.cell? ⟨w.heap.size, 3, none⟩ = some (.int .i64 tm) ∧ W.cell? ⟨w.heap.size, 4, none⟩ = some (.slice pa ps.length pc) ∧
    W.cell? ⟨w.heap.size + 1, 0, none⟩ = some (.slice ua use.length uc) ∧ W.cell? ⟨w.heap.size + 1, 1, none⟩ = some (.int .i64 ev)) (exact HS.out _ (by ((with_reducible repeat' first | exact .refl _ _ | exact b3 | exact b2 | exact B1 | refine .alloc ?_ ?_ _ | refine .setCell ?_ ?_ _ | refine .drew ?_ | refine below_drewN ?_ _ | refine Below.trans ?_ (b3.mono ?_) | refine Below.trans ?_ (b2.mono ?_) | refine Below.trans ?_ (B1.mono ?_)) <;> first | omega | simp <;> omega)))
   (first | (go_at_call 18; (with_reducible refine (wdPeersWidth_any r f lo tm _ ps _ use _ (HP.out _ (by ((with_reducible repeat' first | exact .refl _ _ | exact b1 | refine .alloc ?_ ?_ _ | refine .setCell ?_ ?_ _ | refine .drew ?_ | refine below_drewN ?_ _ | refine Below.trans ?_ (b1.mono ?_)) <;> first | omega | simp <;> omega))).1 (HP.out _ (by ((with_reducible repeat' first | exact .refl _ _ | exact b1 | refine .alloc ?_ ?_ _ | refine .setCell ?_ ?_ _ | refine .drew ?_ | refine below_drewN ?_ _ | refine Below.trans ?_ (b1.mono ?_)) <;> first | omega | simp <;> omega))).2 hul2 Hin.out Hwd.out).mono ?_); rintro e w2 ⟨ov2, rfl, o2, b2⟩; have z2 := b2.size) | (go_at_call 17; (with_reducible refine (Worst_any ov2 (wdL ps use) f lo _ o2.row).mono ?_); rintro e w3 ⟨rfl, b3⟩; have z3 := b3.size; rw [HE.out, HW.out]))
  have B3 : Below (w.heap.size + 2) ((w.alloc (.cells #[.int .i64 r, .int .i64 f, .int .i64 lo, .int .i64 tm, .slice pa ps.length pc] 24)).alloc (.cells #[.slice ua use.length uc, .int .i64 ev] 27)) w3 := (by ((with_reducible repeat' first | exact .refl _ _ | exact b3 | exact b2 | exact B1 | refine .alloc ?_ ?_ _ | refine .setCell ?_ ?_ _ | refine .drew ?_ | refine below_drewN ?_ _ | refine Below.trans ?_ (b3.mono ?_) | refine Below.trans ?_ (b2.mono ?_) | refine Below.trans ?_ (B1.mono ?_)) <;> first | omega | simp <;> omega))
  obtain ⟨y0', y1', y2', y3', y4', x0', x1'⟩ := HS.out w3 B3
  have B4 : Below w.heap.size w w3 := (by ((with_reducible repeat' first | exact .refl _ _ | exact b3 | exact b2 | exact b1 | refine .alloc ?_ ?_ _ | refine .setCell ?_ ?_ _ | refine .drew ?_ | refine below_drewN ?_ _ | refine Below.trans ?_ (b3.mono ?_) | refine Below.trans ?_ (b2.mono ?_) | refine Below.trans ?_ (b1.mono ?_)) <;> first | omega | simp <;> omega))
  clear b1 b2 b3 B1 B3 y0 y1 y2 y3 y4 x0 x1 zd o2
  go_wp2_with (go_at_call 20; (with_reducible refine (wdGrowth_any _ _ _).mono ?_); rintro e w4 ⟨rfl, b4⟩; rw [HG.out, HGr.out])
  go_ret2
  have z4 := B4.size
  exact ⟨rfl, (by ((with_reducible repeat' first | exact .refl _ _ | exact b4 | exact B4 | refine .alloc ?_ ?_ _ | refine .setCell ?_ ?_ _ | refine .drew ?_ | refine below_drewN ?_ _ | refine Below.trans ?_ (b4.mono ?_) | refine Below.trans ?_ (B4.mono ?_)) <;> first | omega | simp <;> omega))⟩
end Go.Proofs.Ytlmcoollkmhanaa
