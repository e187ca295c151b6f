/- Package width: Valid. -/
import Derived.Test.YtiaahfccebmkdaaWdD
namespace Go.Proofs.Ytiaahfccebmkdaa
open Go.RowKit

/-- The ways of the numbers of a site. -/
theorem si_ways (r f lo tm : Int) (ps : List Pr) : (siN ⟨r, f, lo, tm, ps⟩ = true ∧ inB r 0 1000000 = true ∧ inB f 0 5 = true ∧ inB lo 0 16 = true ∧ inB tm 1 1000000000 = true ∧ ps.length ≤ 16) ∨
    siN ⟨r, f, lo, tm, ps⟩ = false ∧ (inB r 0 1000000 = false ∨ (inB r 0 1000000 = true ∧ inB f 0 5 = false) ∨ (inB r 0 1000000 = true ∧ inB f 0 5 = true ∧ inB lo 0 16 = false) ∨
      (inB r 0 1000000 = true ∧ inB f 0 5 = true ∧ inB lo 0 16 = true ∧ inB tm 1 1000000000 = false) ∨ (inB r 0 1000000 = true ∧ inB f 0 5 = true ∧ inB lo 0 16 = true ∧ inB tm 1 1000000000 = true ∧ 16 < ps.length)) := by
  unfold siN
  simp only
  cases inB r 0 1000000 <;> cases inB f 0 5 <;> cases inB lo 0 16 <;> cases inB tm 1 1000000000 <;> simp <;> omega
theorem bAt_map (ps : List Pr) (g : Pr → Bool) (j : Nat) (h : j < ps.length) : bAt ((upTo ps.length).map fun i => g (pAt ps i.toNat)) j = g (pAt ps j) := by
  have hl : j < ((upTo ps.length).map fun i => g (pAt ps i.toNat)).length := by rw [List.length_map, upTo_length]; exact h
  have e := upTo_at ps.length j h
  rw [iAt_lt _ _ (by rw [upTo_length]; exact h)] at e
  simp only [bAt, List.getD_eq_getElem?_getD, List.getElem?_eq_getElem hl, Option.getD_some, List.getElem_map, e, Int.toNat_natCast]
theorem wrong_any_iff (r tm : Int) (ps : List Pr) : (!allP r tm ps ps.length) = true ↔ ∃ j, j < ((upTo ps.length).map fun i => (!prB r tm (pAt ps i.toNat))).length ∧ bAt ((upTo ps.length).map fun i => (!prB r tm (pAt ps i.toNat))) j = true := by
  have hl : ((upTo ps.length).map fun i => (!prB r tm (pAt ps i.toNat))).length = ps.length := by rw [List.length_map, upTo_length]
  rw [hl]
  constructor
  · intro h
    apply Classical.byContradiction
    intro hn
    have : allP r tm ps ps.length = true := (allP_iff r tm ps ps.length).2 fun j hj => by
      cases hb : prB r tm (pAt ps j) with
      | true => rfl
      | false => exact absurd ⟨j, hj, by rw [bAt_map ps (fun p => !prB r tm p) j hj, hb]; rfl⟩ hn
    rw [this] at h; cases h
  · rintro ⟨j, hj, h⟩
    rw [bAt_map ps (fun p => !prB r tm p) j hj] at h
    rw [allP_false (k := j) (by simpa using h) _ hj]; rfl
theorem auL_map (ps : List Pr) : ((upTo ps.length).map fun i => Pr.au (pAt ps i.toNat)) = auL ps := by
  apply ints_ext
  · rw [List.length_map, upTo_length, auL_length]
  · intro j hj
    rw [List.length_map, upTo_length] at hj
    rw [auL_at ps j hj, iAt_lt _ _ (by rw [List.length_map, upTo_length]; exact hj), List.getElem_map]
    have e := upTo_at ps.length j hj
    rw [iAt_lt _ _ (by rw [upTo_length]; exact hj)] at e
    rw [e, Int.toNat_natCast]
theorem upTo_in (n : Nat) (j : Nat) (hj : j < (upTo n).length) : 0 ≤ iAt (upTo n) j ∧ iAt (upTo n) j < n := by
  rw [upTo_length] at hj
  rw [upTo_at n j hj]
  omega
set_option maxRecDepth 100000 in
set_option maxHeartbeats 1000000 in
theorem wdValid_any (r f lo tm : Int) (pv : Value) (ps : List Pr) (w : World) (hp : PrRow w pv ps) :
    Calls Try.prog 32 #[.agg #[.int .i64 r, .int .i64 f, .int .i64 lo, .int .i64 tm, pv]] w fun e w' => e = .returned (.bool (siB ⟨r, f, lo, tm, ps⟩)) ∧ Below w.heap.size w w' := by
  have hp0 := hp
  obtain ⟨pa, pc, rfl, q1, q2⟩ := hp.len
  rcases si_ways r f lo tm ps with ⟨h, h1, h2, h3, h4, h5⟩ | ⟨h, h1⟩
  case inr =>
    have e : siB ⟨r, f, lo, tm, ps⟩ = false := by unfold siB; rw [h]; rfl
    rw [e]
    clear e h
    rcases h1 with h1 | ⟨h1, h2⟩ | ⟨h1, h2, h3⟩ | ⟨h1, h2, h3, h4⟩ | ⟨h1, h2, h3, h4, h5⟩
    all_goals
      go_enter Try.func32, Try.ntmps32
      go_wp2_with (go_at_call 33; refine (wdWithin_any _ _ _ _).mono ?_; rintro e w' ⟨rfl, rfl⟩)
      go_ret
      exact ⟨rfl, (by ((repeat' (first | with_reducible exact Below.refl _ _ | with_reducible refine Below.alloc ?_ ?_ _ | with_reducible refine Below.setCell ?_ ?_ _ | with_reducible refine Below.drew ?_ | with_reducible refine below_drewN ?_ _)) <;> (first | omega | (simp; done) | (simp; omega))))⟩
  case inl =>
    have hr : 0 ≤ r ∧ r ≤ 1000000 := by simpa [inB] using h1
    have hP : ∀ W : World, Below w.heap.size w W → PrRow W (.slice pa ps.length pc) ps := fun W hW => hp0.below (Nat.le_refl _) hW
    have HP := hide hP
    cases hA : allP r tm ps ps.length with
    | true =>
      have e : siB ⟨r, f, lo, tm, ps⟩ = risB (auL ps) := by unfold siB; rw [h, hA]; rfl
      rw [e]
      clear e h hp0 hP
      have hAe := wrong_any_iff r tm ps
      rw [hA] at hAe
      have HA := hide hAe
      have hn : ps.length ≤ 1000 := by omega
      have tok1 : True := trivial
      have tok2 : True := trivial
      clear hA hAe
      go_enter Try.func32, Try.ntmps32
      go_wp2_with (go_at_call 33; refine (wdWithin_any _ _ _ _).mono ?_; rintro e w' ⟨rfl, rfl⟩)
      have hz0 : (w.alloc (.cells #[.int .i64 r, .int .i64 f, .int .i64 lo, .int .i64 tm, .slice pa ps.length pc] 24)).heap.size = w.heap.size + 1 := World.size_alloc _ _
      have hS : ∀ W : World, Below (w.heap.size + 1) (w.alloc (.cells #[.int .i64 r, .int .i64 f, .int .i64 lo, .int .i64 tm, .slice pa ps.length pc] 24)) W → W.cell? ⟨w.heap.size, 0, none⟩ = some (.int .i64 r) ∧ W.cell? ⟨w.heap.size, 1, none⟩ = some (.int .i64 f) ∧ W.cell? ⟨w.heap.size, 2, none⟩ = some (.int .i64 lo) ∧ W.cell? ⟨w.heap.size, 3, none⟩ = some (.int .i64 tm) ∧ W.cell? ⟨w.heap.size, 4, none⟩ = some (.slice pa ps.length pc) := by
        intro W hW
        have hc := (bk hW w.heap.size (by omega)).1
        exact ⟨(hc 0).trans (by simp), (hc 1).trans (by simp), (hc 2).trans (by simp), (hc 3).trans (by simp), (hc 4).trans (by simp)⟩
      have zd : (w.alloc (.cells #[.int .i64 r, .int .i64 f, .int .i64 lo, .int .i64 tm, .slice pa ps.length pc] 24)).drew.heap.size = w.heap.size + 1 := World.size_alloc _ _
      have HS := hide hS
      clear hS
      go_region_held3 (fun W => W.cell? ⟨w.heap.size, 0, none⟩ = some (.int .i64 r) ∧ W.cell? ⟨w.heap.size, 1, none⟩ = some (.int .i64 f) ∧ W.cell? ⟨w.heap.size, 2, none⟩ = some (.int .i64 lo) ∧ W.cell? ⟨w.heap.size, 3, none⟩ = some (.int .i64 tm) ∧ W.cell? ⟨w.heap.size, 4, none⟩ = some (.slice pa ps.length pc)) (exact HS.out _ (by ((repeat' (first | with_reducible exact Below.refl _ _ | with_reducible exact b5 | with_reducible exact b4 | with_reducible exact b3 | with_reducible exact b2 | with_reducible exact b1 | with_reducible refine Below.alloc ?_ ?_ _ | with_reducible refine Below.setCell ?_ ?_ _ | with_reducible refine Below.drew ?_ | with_reducible refine below_drewN ?_ _ | with_reducible refine Below.trans ?_ (b5.mono ?_) | with_reducible refine Below.trans ?_ (b4.mono ?_) | with_reducible refine Below.trans ?_ (b3.mono ?_) | with_reducible refine Below.trans ?_ (b2.mono ?_) | with_reducible refine Below.trans ?_ (b1.mono ?_))) <;> (first | omega | (simp; done) | (simp; omega)))))
        (first | (go_at_call 55; have _t := tok1; (with_reducible refine (wdAll_any r f lo tm _ ps hn _ (HP.out _ (by ((repeat' (first | with_reducible exact Below.refl _ _ | with_reducible refine Below.alloc ?_ ?_ _ | with_reducible refine Below.setCell ?_ ?_ _ | with_reducible refine Below.drew ?_ | with_reducible refine below_drewN ?_ _)) <;> (first | omega | (simp; done) | (simp; omega)))))).mono ?_); rintro e w1 ⟨ov1, rfl, o1, b1⟩; have z1 := b1.size; clear tok1) | (go_at_call 54; (with_reducible refine (wdPeersWrong_any r f lo tm _ ps _ _ _ (HP.out _ (by ((repeat' (first | with_reducible exact Below.refl _ _ | with_reducible exact b1 | with_reducible refine Below.alloc ?_ ?_ _ | with_reducible refine Below.setCell ?_ ?_ _ | with_reducible refine Below.drew ?_ | with_reducible refine below_drewN ?_ _ | with_reducible refine Below.trans ?_ (b1.mono ?_))) <;> (first | omega | (simp; done) | (simp; omega))))) o1.row (by rw [upTo_length]; omega) (upTo_in _) hr).mono ?_); rintro e w2 ⟨ov2, rfl, o2, b2⟩; have z2 := b2.size) | (go_at_call 53; (with_reducible refine (wdContainsB_any ov2 _ _ _ _ o2 HA.out).mono ?_); rintro e w' ⟨rfl, rfl⟩) | (go_at_call 55; have _t := tok2; (with_reducible refine (wdAll_any r f lo tm _ ps hn _ (HP.out _ (by ((repeat' (first | with_reducible exact Below.refl _ _ | with_reducible exact b2 | with_reducible exact b1 | with_reducible refine Below.alloc ?_ ?_ _ | with_reducible refine Below.setCell ?_ ?_ _ | with_reducible refine Below.drew ?_ | with_reducible refine below_drewN ?_ _ | with_reducible refine Below.trans ?_ (b2.mono ?_) | with_reducible refine Below.trans ?_ (b1.mono ?_))) <;> (first | omega | (simp; done) | (simp; omega)))))).mono ?_); rintro e w3 ⟨ov3, rfl, o3, b3⟩; have z3 := b3.size; clear tok2) | (go_at_call 28; (with_reducible refine (wdPeersAuth_any r f lo tm _ ps _ _ _ (HP.out _ (by ((repeat' (first | with_reducible exact Below.refl _ _ | with_reducible exact b3 | with_reducible exact b2 | with_reducible exact b1 | with_reducible refine Below.alloc ?_ ?_ _ | with_reducible refine Below.setCell ?_ ?_ _ | with_reducible refine Below.drew ?_ | with_reducible refine below_drewN ?_ _ | with_reducible refine Below.trans ?_ (b3.mono ?_) | with_reducible refine Below.trans ?_ (b2.mono ?_) | with_reducible refine Below.trans ?_ (b1.mono ?_))) <;> (first | omega | (simp; done) | (simp; omega))))) o3.row (by rw [upTo_length]; omega) (upTo_in _)).mono ?_); rintro e w4 ⟨ov4, rfl, o4, b4⟩; have z4 := b4.size) | (go_at_call 35; (with_reducible refine (wdRising_any ov4 _ _ o4.row).mono ?_); rintro e w5 ⟨rfl, b5⟩))
      go_wp2
      go_ret
      exact ⟨ret_bool (by rw [auL_map]), (by ((repeat' (first | with_reducible exact Below.refl _ _ | with_reducible exact b5 | with_reducible exact b4 | with_reducible exact b3 | with_reducible exact b2 | with_reducible exact b1 | with_reducible refine Below.alloc ?_ ?_ _ | with_reducible refine Below.setCell ?_ ?_ _ | with_reducible refine Below.drew ?_ | with_reducible refine below_drewN ?_ _ | with_reducible refine Below.trans ?_ (b5.mono ?_) | with_reducible refine Below.trans ?_ (b4.mono ?_) | with_reducible refine Below.trans ?_ (b3.mono ?_) | with_reducible refine Below.trans ?_ (b2.mono ?_) | with_reducible refine Below.trans ?_ (b1.mono ?_))) <;> (first | omega | (simp; done) | (simp; omega))))⟩
    | false =>
      have e : siB ⟨r, f, lo, tm, ps⟩ = false := by unfold siB; rw [h, hA]; rfl
      rw [e]
      clear e h hp0 hP
      have hAe := wrong_any_iff r tm ps
      rw [hA] at hAe
      have HA := hide hAe
      have hn : ps.length ≤ 1000 := by omega
      have tok1 : True := trivial
      clear hA hAe
      go_enter Try.func32, Try.ntmps32
      go_wp2_with (go_at_call 33; refine (wdWithin_any _ _ _ _).mono ?_; rintro e w' ⟨rfl, rfl⟩)
      have hz0 : (w.alloc (.cells #[.int .i64 r, .int .i64 f, .int .i64 lo, .int .i64 tm, .slice pa ps.length pc] 24)).heap.size = w.heap.size + 1 := World.size_alloc _ _
      have hS : ∀ W : World, Below (w.heap.size + 1) (w.alloc (.cells #[.int .i64 r, .int .i64 f, .int .i64 lo, .int .i64 tm, .slice pa ps.length pc] 24)) W → W.cell? ⟨w.heap.size, 0, none⟩ = some (.int .i64 r) ∧ W.cell? ⟨w.heap.size, 1, none⟩ = some (.int .i64 f) ∧ W.cell? ⟨w.heap.size, 2, none⟩ = some (.int .i64 lo) ∧ W.cell? ⟨w.heap.size, 3, none⟩ = some (.int .i64 tm) ∧ W.cell? ⟨w.heap.size, 4, none⟩ = some (.slice pa ps.length pc) := by
        intro W hW
        have hc := (bk hW w.heap.size (by omega)).1
        exact ⟨(hc 0).trans (by simp), (hc 1).trans (by simp), (hc 2).trans (by simp), (hc 3).trans (by simp), (hc 4).trans (by simp)⟩
      have zd : (w.alloc (.cells #[.int .i64 r, .int .i64 f, .int .i64 lo, .int .i64 tm, .slice pa ps.length pc] 24)).drew.heap.size = w.heap.size + 1 := World.size_alloc _ _
      have HS := hide hS
      clear hS
      go_region_with
        (first | (go_at_call 55; have _t := tok1; (with_reducible refine (wdAll_any r f lo tm _ ps hn _ (HP.out _ (by ((repeat' (first | with_reducible exact Below.refl _ _ | with_reducible refine Below.alloc ?_ ?_ _ | with_reducible refine Below.setCell ?_ ?_ _ | with_reducible refine Below.drew ?_ | with_reducible refine below_drewN ?_ _)) <;> (first | omega | (simp; done) | (simp; omega)))))).mono ?_); rintro e w1 ⟨ov1, rfl, o1, b1⟩; have z1 := b1.size; obtain ⟨kb1_0, fb1_0, zb1_0, zab1_0, zbb1_0, zcb1_0, zdb1_0, zeb1_0⟩ := bk3 b1 (w.heap.size) (by first | omega | (simp; done) | (simp; omega)); clear tok1) | (go_at_call 54; (with_reducible refine (wdPeersWrong_any r f lo tm _ ps _ _ _ (HP.out _ (by ((repeat' (first | with_reducible exact Below.refl _ _ | with_reducible exact b1 | with_reducible refine Below.alloc ?_ ?_ _ | with_reducible refine Below.setCell ?_ ?_ _ | with_reducible refine Below.drew ?_ | with_reducible refine below_drewN ?_ _ | with_reducible refine Below.trans ?_ (b1.mono ?_))) <;> (first | omega | (simp; done) | (simp; omega))))) o1.row (by rw [upTo_length]; omega) (upTo_in _) hr).mono ?_); rintro e w2 ⟨ov2, rfl, o2, b2⟩; have z2 := b2.size; obtain ⟨kb2_0, fb2_0, zb2_0, zab2_0, zbb2_0, zcb2_0, zdb2_0, zeb2_0⟩ := bk3 b2 (w.heap.size) (by first | omega | (simp; done) | (simp; omega))) | (go_at_call 53; (with_reducible refine (wdContainsB_any ov2 _ _ _ _ o2 HA.out).mono ?_); rintro e w' ⟨rfl, rfl⟩))
      all_goals go_wp2
      all_goals go_ret
      all_goals exact ⟨rfl, (by ((repeat' (first | with_reducible exact Below.refl _ _ | with_reducible exact b2 | with_reducible exact b1 | with_reducible refine Below.alloc ?_ ?_ _ | with_reducible refine Below.setCell ?_ ?_ _ | with_reducible refine Below.drew ?_ | with_reducible refine below_drewN ?_ _ | with_reducible refine Below.trans ?_ (b2.mono ?_) | with_reducible refine Below.trans ?_ (b1.mono ?_))) <;> (first | omega | (simp; done) | (simp; omega))))⟩
end Go.Proofs.Ytiaahfccebmkdaa
