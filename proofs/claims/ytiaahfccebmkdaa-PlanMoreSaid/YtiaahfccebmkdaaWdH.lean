/- The reference of layer 29: one peer, Valid. -/
import Derived.Test.YtiaahfccebmkdaaWdE
namespace Go.Proofs.Ytiaahfccebmkdaa
open Go.RowKit

set_option maxRecDepth 100000 in
set_option maxHeartbeats 1000000 in
theorem R29peer_any (p : Pr) (r f lo tm : Int) (pv : Value) (w : World) (hr : 0 ≤ r ∧ r ≤ 1000000) : Calls Try.prog 39 #[.agg #[.int .i64 r, .int .i64 f, .int .i64 lo, .int .i64 tm, pv], .agg #[.int .i64 p.au, .int .i64 p.er, .int .i64 p.co, .int .i64 p.at_, .int .i64 p.ol, .int .i64 p.oh, .int .i64 p.bl, .int .i64 p.bh]] w fun e w' =>
    e = .returned (.bool (prB r tm p)) ∧ Below w.heap.size w w' := by
  cases h1 : lkB p.ol p.oh p.bl p.bh with
  | false =>
    have e1 : prB r tm p = false := by unfold prB; rw [h1]; rfl
    rw [e1]
    clear e1
    go_enter Try.func39, Try.ntmps39
    go_wp2_with (first | (go_at_call 63; (with_reducible refine (R10Form_any _ _ _ _ _ _).mono ?_); rintro e w1 ⟨rfl, b1⟩; rw [h1]) | (go_at_call 38; refine (R29in_any _ _ _ _).mono ?_; rintro e w' ⟨rfl, rfl⟩))
    go_ret
    exact ⟨rfl, (by ((repeat' (first | with_reducible exact Below.refl _ _ | with_reducible exact b1 | with_reducible refine Below.alloc ?_ ?_ _ | with_reducible refine Below.setCell ?_ ?_ _ | with_reducible refine Below.drew ?_ | with_reducible refine below_drewN ?_ _ | with_reducible refine Below.trans ?_ (b1.mono ?_))) <;> (first | omega | (simp; done) | (simp; omega))))⟩
  | true =>
    have hl := (lkB_iff _ _ _ _).1 h1
    have hel : elEr r (p.oh + p.bh) = 0 := by unfold elEr; rw [if_pos ((elOk_iff _ _).2 (by omega))]
    have e1 : prB r tm p = (inB p.au 1 16 && inB p.er 0 1000000 && inB p.co 0 1000000 && decide (ctHi r (p.oh + p.bh) ≤ tm)) := by unfold prB; rw [h1, Bool.true_and]
    rw [e1]
    generalize hc : ctHi r (p.oh + p.bh) = c
    cases h2 : inB p.au 1 16 <;> cases h3 : inB p.er 0 1000000 <;> cases h4 : inB p.co 0 1000000
    all_goals
      have Hc := hide hc
      have He := hide e1
      clear hc e1
      go_enter Try.func39, Try.ntmps39
      go_wp2_with (first | (go_at_call 63; (with_reducible refine (R10Form_any _ _ _ _ _ _).mono ?_); rintro e w1 ⟨rfl, b1⟩; have z1 := b1.size; obtain ⟨kb1_0, fb1_0, zb1_0, zab1_0, zbb1_0, zcb1_0, zdb1_0, zeb1_0⟩ := bk3 b1 (w.heap.size) (by first | omega | (simp; done) | (simp; omega)); obtain ⟨kb1_1, fb1_1, zb1_1, zab1_1, zbb1_1, zcb1_1, zdb1_1, zeb1_1⟩ := bk3 b1 (w.heap.size + 1) (by first | omega | (simp; done) | (simp; omega)); rw [h1]) | (go_at_call 38; refine (R29in_any _ _ _ _).mono ?_; rintro e w' ⟨rfl, rfl⟩) | (go_at_call 64; refine (R7Counts_any _ _ _).mono ?_; rintro e w2 ⟨rfl, b2⟩; have z2 := b2.size; obtain ⟨kb2_0, fb2_0, zb2_0, zab2_0, zbb2_0, zcb2_0, zdb2_0, zeb2_0⟩ := bk3 b2 (w.heap.size) (by first | omega | (simp; done) | (simp; omega)); obtain ⟨kb2_1, fb2_1, zb2_1, zab2_1, zbb2_1, zcb2_1, zdb2_1, zeb2_1⟩ := bk3 b2 (w.heap.size + 1) (by first | omega | (simp; done) | (simp; omega)); rw [hel, Hc.out]))
      go_ret
      exact ⟨ret_bool (by simp), (by ((repeat' (first | with_reducible exact Below.refl _ _ | with_reducible exact b2 | with_reducible exact b1 | with_reducible refine Below.alloc ?_ ?_ _ | with_reducible refine Below.setCell ?_ ?_ _ | with_reducible refine Below.drew ?_ | with_reducible refine below_drewN ?_ _ | with_reducible refine Below.trans ?_ (b2.mono ?_) | with_reducible refine Below.trans ?_ (b1.mono ?_))) <;> (first | omega | (simp; done) | (simp; omega))))⟩
set_option maxRecDepth 100000 in
set_option maxHeartbeats 1000000 in
theorem R29Valid_any (r f lo tm : Int) (pv : Value) (ps : List Pr) (w : World) (hp : PrRow w pv ps) :
    Calls Try.prog 23 #[.agg #[.int .i64 r, .int .i64 f, .int .i64 lo, .int .i64 tm, pv]] w fun e w' => e = .returned (.bool (siB ⟨r, f, lo, tm, ps⟩)) ∧ Below w.heap.size w w' := by
  obtain ⟨pa, pc, rfl, q1, q2, q3⟩ := hp
  rcases si_ways r f lo tm ps with ⟨h, h1, h2, h3, h4, h5⟩ | ⟨h, h1⟩
  case inr =>
    have e : siB ⟨r, f, lo, tm, ps⟩ = false := by unfold siB; rw [h]; rfl
    rw [e]
    clear e h q3
    rcases h1 with h1 | ⟨h1, h2⟩ | ⟨h1, h2, h3⟩ | ⟨h1, h2, h3, h4⟩ | ⟨h1, h2, h3, h4, h5⟩
    all_goals
      go_enter Try.func23, Try.ntmps23
      go_wp2_with (go_at_call 38; refine (R29in_any _ _ _ _).mono ?_; rintro e w' ⟨rfl, rfl⟩)
      all_goals go_ret
      all_goals exact ⟨rfl, (by ((repeat' (first | with_reducible exact Below.refl _ _ | with_reducible refine Below.alloc ?_ ?_ _ | with_reducible refine Below.setCell ?_ ?_ _ | with_reducible refine Below.drew ?_ | with_reducible refine below_drewN ?_ _)) <;> (first | omega | (simp; done) | (simp; omega))))⟩
  case inl =>
    have hr : 0 ≤ r ∧ r ≤ 1000000 := by simpa [inB] using h1
    have e : siB ⟨r, f, lo, tm, ps⟩ = (allP r tm ps ps.length && risB (auL ps)) := by unfold siB; rw [h]; rfl
    rw [e]
    clear e h
    have hS : ∀ W : World, Below (w.heap.size + 1) (w.alloc (.cells #[.int .i64 r, .int .i64 f, .int .i64 lo, .int .i64 tm, .slice pa ps.length pc] 24)) W → W.cell? ⟨w.heap.size, 0, none⟩ = some (.int .i64 r) ∧ W.cell? ⟨w.heap.size, 1, none⟩ = some (.int .i64 f) ∧ W.cell? ⟨w.heap.size, 2, none⟩ = some (.int .i64 lo) ∧ W.cell? ⟨w.heap.size, 3, none⟩ = some (.int .i64 tm) ∧ W.cell? ⟨w.heap.size, 4, none⟩ = some (.slice pa ps.length pc) := by
      intro W hW
      have hc := (bk hW w.heap.size (by omega)).1
      exact ⟨(hc 0).trans (by simp), (hc 1).trans (by simp), (hc 2).trans (by simp), (hc 3).trans (by simp), (hc 4).trans (by simp)⟩
    have HS := hide hS
    have Hq3 := hide q3
    clear hS q3
    go_enter Try.func23, Try.ntmps23
    go_wp2_with (go_at_call 38; refine (R29in_any _ _ _ _).mono ?_; rintro e w' ⟨rfl, rfl⟩)
    go_loopw [7] (fun i wx => ∃ k : Nat, k ≤ ps.length ∧ i = .int .i64 k ∧ Hid (allP r tm ps k = true ∧ risTo (auL ps) k = true) ∧ Below (w.heap.size + 1) (w.alloc (.cells #[.int .i64 r, .int .i64 f, .int .i64 lo, .int .i64 tm, .slice pa ps.length pc] 24)) wx) (fun i _ => ps.length - (intOf i).toNat)
    case atStart => exact ⟨0, Nat.zero_le _, rfl, hide ⟨rfl, rfl⟩, Below.refl _ _⟩
    case round =>
      obtain ⟨k, hk, rfl, Hall, hB⟩ := hrel
      have hzr : w.heap.size + 1 ≤ wr.heap.size := by have := hB.size; simpa using this
      have hBw : Below w.heap.size w wr := ((Below.refl _ _).alloc (Nat.le_refl _) _).trans (hB.mono (by omega))
      by_cases hlt : k < ps.length
      · obtain ⟨pb, po, rfl, q4, q5⟩ := Hq3.out k hlt
        have zd : wr.drew.heap.size = wr.heap.size := rfl
        have I1 : (0 : Int) ≤ (k : Int) := by omega
        have I2 : (k : Int) < (ps.length : Int) := by omega
        cases hb : prB r tm (pAt ps k) with
        | false =>
          have Hb := hide hb
          clear hb
          have hT : ∀ W : World, Below (w.heap.size + 1) (w.alloc (.cells #[.int .i64 r, .int .i64 f, .int .i64 lo, .int .i64 tm, .slice (some ⟨pb, po, none⟩) ps.length pc] 24)) W → W.cell? ⟨pb, po + k * 8, none⟩ = some (.int .i64 (pAt ps k).au) ∧ W.cell? ⟨pb, po + k * 8 + 1, none⟩ = some (.int .i64 (pAt ps k).er) ∧ W.cell? ⟨pb, po + k * 8 + 2, none⟩ = some (.int .i64 (pAt ps k).co) ∧ W.cell? ⟨pb, po + k * 8 + 3, none⟩ = some (.int .i64 (pAt ps k).at_) ∧ W.cell? ⟨pb, po + k * 8 + 4, none⟩ = some (.int .i64 (pAt ps k).ol) ∧ W.cell? ⟨pb, po + k * 8 + 5, none⟩ = some (.int .i64 (pAt ps k).oh) ∧ W.cell? ⟨pb, po + k * 8 + 6, none⟩ = some (.int .i64 (pAt ps k).bl) ∧ W.cell? ⟨pb, po + k * 8 + 7, none⟩ = some (.int .i64 (pAt ps k).bh) ∧
            W.cell? ⟨w.heap.size, 0, none⟩ = some (.int .i64 r) ∧ W.cell? ⟨w.heap.size, 1, none⟩ = some (.int .i64 f) ∧ W.cell? ⟨w.heap.size, 2, none⟩ = some (.int .i64 lo) ∧ W.cell? ⟨w.heap.size, 3, none⟩ = some (.int .i64 tm) ∧ W.cell? ⟨w.heap.size, 4, none⟩ = some (.slice (some ⟨pb, po, none⟩) ps.length pc) := by
            intro W hW
            obtain ⟨p0, p1, p2, p3, p4, p5, p6, p7⟩ := q5.below (((Below.refl w.heap.size w).alloc (Nat.le_refl _) _).trans (hW.mono (by omega))) q4
            obtain ⟨y0, y1, y2, y3, y4⟩ := HS.out W hW
            exact ⟨p0, p1, p2, p3, p4, p5, p6, p7, y0, y1, y2, y3, y4⟩
          have HT := hide hT
          obtain ⟨p0, p1, p2, p3, p4, p5, p6, p7, y0, y1, y2, y3, y4⟩ := hT wr hB
          clear hT q5
          go_wp2_with fail
          go_region_held3 (fun W => W.cell? ⟨pb, po + k * 8, none⟩ = some (.int .i64 (pAt ps k).au) ∧ W.cell? ⟨pb, po + k * 8 + 1, none⟩ = some (.int .i64 (pAt ps k).er) ∧ W.cell? ⟨pb, po + k * 8 + 2, none⟩ = some (.int .i64 (pAt ps k).co) ∧ W.cell? ⟨pb, po + k * 8 + 3, none⟩ = some (.int .i64 (pAt ps k).at_) ∧ W.cell? ⟨pb, po + k * 8 + 4, none⟩ = some (.int .i64 (pAt ps k).ol) ∧ W.cell? ⟨pb, po + k * 8 + 5, none⟩ = some (.int .i64 (pAt ps k).oh) ∧ W.cell? ⟨pb, po + k * 8 + 6, none⟩ = some (.int .i64 (pAt ps k).bl) ∧ W.cell? ⟨pb, po + k * 8 + 7, none⟩ = some (.int .i64 (pAt ps k).bh) ∧
            W.cell? ⟨w.heap.size, 0, none⟩ = some (.int .i64 r) ∧ W.cell? ⟨w.heap.size, 1, none⟩ = some (.int .i64 f) ∧ W.cell? ⟨w.heap.size, 2, none⟩ = some (.int .i64 lo) ∧ W.cell? ⟨w.heap.size, 3, none⟩ = some (.int .i64 tm) ∧ W.cell? ⟨w.heap.size, 4, none⟩ = some (.slice (some ⟨pb, po, none⟩) ps.length pc)) (exact HT.out _ (by ((repeat' (first | with_reducible exact Below.refl _ _ | with_reducible exact b2 | with_reducible exact hB | with_reducible refine Below.alloc ?_ ?_ _ | with_reducible refine Below.setCell ?_ ?_ _ | with_reducible refine Below.drew ?_ | with_reducible refine below_drewN ?_ _ | with_reducible refine Below.trans ?_ (b2.mono ?_) | with_reducible refine Below.trans ?_ (hB.mono ?_))) <;> (first | omega | (simp; done) | (simp; omega)))))
            ((go_at_call 39; (with_reducible refine (R29peer_any (pAt ps k) r f lo tm _ _ hr).mono ?_); rintro e w2 ⟨rfl, b2⟩; have z2 := b2.size; rw [Hb.out]))
          have B2 : Below (w.heap.size + 1) (w.alloc (.cells #[.int .i64 r, .int .i64 f, .int .i64 lo, .int .i64 tm, .slice (some ⟨pb, po, none⟩) ps.length pc] 24)) w2 := (by ((repeat' (first | with_reducible exact Below.refl _ _ | with_reducible exact b2 | with_reducible exact hB | with_reducible refine Below.alloc ?_ ?_ _ | with_reducible refine Below.setCell ?_ ?_ _ | with_reducible refine Below.drew ?_ | with_reducible refine below_drewN ?_ _ | with_reducible refine Below.trans ?_ (b2.mono ?_) | with_reducible refine Below.trans ?_ (hB.mono ?_))) <;> (first | omega | (simp; done) | (simp; omega))))
          clear y0 y1 y2 y3 y4 p0 p1 p2 p3 p4 p5 p6 p7
          go_wp2_with fail
          go_quiet (fail)
          go_wp2_with fail
          go_ret
          have HB := allP_false (l := ps) (k := k) Hb.out ps.length hlt
          exact ⟨ret_bool (by rw [HB]; rfl), (by ((repeat' (first | with_reducible exact Below.refl _ _ | with_reducible exact b2 | with_reducible exact hBw | with_reducible refine Below.alloc ?_ ?_ _ | with_reducible refine Below.setCell ?_ ?_ _ | with_reducible refine Below.drew ?_ | with_reducible refine below_drewN ?_ _ | with_reducible refine Below.trans ?_ (b2.mono ?_) | with_reducible refine Below.trans ?_ (hBw.mono ?_))) <;> (first | omega | (simp; done) | (simp; omega))))⟩
        | true =>
          have hau := (prB_iff _ _ _).1 hb
          have hau1 := hau.2.1.1
          have Hb := hide hb
          clear hb hau
          rcases Nat.eq_zero_or_pos k with h0 | h0
          · skip
            have hT : ∀ W : World, Below (w.heap.size + 1) (w.alloc (.cells #[.int .i64 r, .int .i64 f, .int .i64 lo, .int .i64 tm, .slice (some ⟨pb, po, none⟩) ps.length pc] 24)) W → W.cell? ⟨pb, po + k * 8, none⟩ = some (.int .i64 (pAt ps k).au) ∧ W.cell? ⟨pb, po + k * 8 + 1, none⟩ = some (.int .i64 (pAt ps k).er) ∧ W.cell? ⟨pb, po + k * 8 + 2, none⟩ = some (.int .i64 (pAt ps k).co) ∧ W.cell? ⟨pb, po + k * 8 + 3, none⟩ = some (.int .i64 (pAt ps k).at_) ∧ W.cell? ⟨pb, po + k * 8 + 4, none⟩ = some (.int .i64 (pAt ps k).ol) ∧ W.cell? ⟨pb, po + k * 8 + 5, none⟩ = some (.int .i64 (pAt ps k).oh) ∧ W.cell? ⟨pb, po + k * 8 + 6, none⟩ = some (.int .i64 (pAt ps k).bl) ∧ W.cell? ⟨pb, po + k * 8 + 7, none⟩ = some (.int .i64 (pAt ps k).bh) ∧
            W.cell? ⟨w.heap.size, 0, none⟩ = some (.int .i64 r) ∧ W.cell? ⟨w.heap.size, 1, none⟩ = some (.int .i64 f) ∧ W.cell? ⟨w.heap.size, 2, none⟩ = some (.int .i64 lo) ∧ W.cell? ⟨w.heap.size, 3, none⟩ = some (.int .i64 tm) ∧ W.cell? ⟨w.heap.size, 4, none⟩ = some (.slice (some ⟨pb, po, none⟩) ps.length pc) := by
              intro W hW
              obtain ⟨p0, p1, p2, p3, p4, p5, p6, p7⟩ := q5.below (((Below.refl w.heap.size w).alloc (Nat.le_refl _) _).trans (hW.mono (by omega))) q4
              obtain ⟨y0, y1, y2, y3, y4⟩ := HS.out W hW
              exact ⟨p0, p1, p2, p3, p4, p5, p6, p7, y0, y1, y2, y3, y4⟩
            have HT := hide hT
            obtain ⟨p0, p1, p2, p3, p4, p5, p6, p7, y0, y1, y2, y3, y4⟩ := hT wr hB
            have d0 : decide ((0 : Int) < k) = false := decide_eq_false (by omega)
            have d0' : decide (0 < k) = false := decide_eq_false (by omega)
            have H0 := hide h0
            clear h0
            clear hT q5
            go_wp2_with fail
            go_region_held3 (fun W => W.cell? ⟨pb, po + k * 8, none⟩ = some (.int .i64 (pAt ps k).au) ∧ W.cell? ⟨pb, po + k * 8 + 1, none⟩ = some (.int .i64 (pAt ps k).er) ∧ W.cell? ⟨pb, po + k * 8 + 2, none⟩ = some (.int .i64 (pAt ps k).co) ∧ W.cell? ⟨pb, po + k * 8 + 3, none⟩ = some (.int .i64 (pAt ps k).at_) ∧ W.cell? ⟨pb, po + k * 8 + 4, none⟩ = some (.int .i64 (pAt ps k).ol) ∧ W.cell? ⟨pb, po + k * 8 + 5, none⟩ = some (.int .i64 (pAt ps k).oh) ∧ W.cell? ⟨pb, po + k * 8 + 6, none⟩ = some (.int .i64 (pAt ps k).bl) ∧ W.cell? ⟨pb, po + k * 8 + 7, none⟩ = some (.int .i64 (pAt ps k).bh) ∧
            W.cell? ⟨w.heap.size, 0, none⟩ = some (.int .i64 r) ∧ W.cell? ⟨w.heap.size, 1, none⟩ = some (.int .i64 f) ∧ W.cell? ⟨w.heap.size, 2, none⟩ = some (.int .i64 lo) ∧ W.cell? ⟨w.heap.size, 3, none⟩ = some (.int .i64 tm) ∧ W.cell? ⟨w.heap.size, 4, none⟩ = some (.slice (some ⟨pb, po, none⟩) ps.length pc)) (exact HT.out _ (by ((repeat' (first | with_reducible exact Below.refl _ _ | with_reducible exact b2 | with_reducible exact hB | with_reducible refine Below.alloc ?_ ?_ _ | with_reducible refine Below.setCell ?_ ?_ _ | with_reducible refine Below.drew ?_ | with_reducible refine below_drewN ?_ _ | with_reducible refine Below.trans ?_ (b2.mono ?_) | with_reducible refine Below.trans ?_ (hB.mono ?_))) <;> (first | omega | (simp; done) | (simp; omega)))))
              ((go_at_call 39; (with_reducible refine (R29peer_any (pAt ps k) r f lo tm _ _ hr).mono ?_); rintro e w2 ⟨rfl, b2⟩; have z2 := b2.size; rw [Hb.out]))
            have B2 : Below (w.heap.size + 1) (w.alloc (.cells #[.int .i64 r, .int .i64 f, .int .i64 lo, .int .i64 tm, .slice (some ⟨pb, po, none⟩) ps.length pc] 24)) w2 := (by ((repeat' (first | with_reducible exact Below.refl _ _ | with_reducible exact b2 | with_reducible exact hB | with_reducible refine Below.alloc ?_ ?_ _ | with_reducible refine Below.setCell ?_ ?_ _ | with_reducible refine Below.drew ?_ | with_reducible refine below_drewN ?_ _ | with_reducible refine Below.trans ?_ (b2.mono ?_) | with_reducible refine Below.trans ?_ (hB.mono ?_))) <;> (first | omega | (simp; done) | (simp; omega))))
            clear y0 y1 y2 y3 y4 p0 p1 p2 p3 p4 p5 p6 p7
            go_wp2_with fail
            go_quiet (fail)
            go_wp2_with fail
            go_roundw
            case rel => exact ⟨k + 1, by omega, by go_num, hide ⟨by rw [allP, Hall.out.1, Hb.out]; rfl, by rw [risTo, Hall.out.2]; rw [if_pos H0.out, auL_at ps k hlt, decide_eq_true (by omega)]; rfl⟩, (by ((repeat' (first | with_reducible exact Below.refl _ _ | with_reducible exact B2 | with_reducible refine Below.alloc ?_ ?_ _ | with_reducible refine Below.setCell ?_ ?_ _ | with_reducible refine Below.drew ?_ | with_reducible refine below_drewN ?_ _ | with_reducible refine Below.trans ?_ (B2.mono ?_))) <;> (first | omega | (simp; done) | (simp; omega))))⟩
            case measure => simp [intOf]; omega
          · skip
            have d0 : decide ((0 : Int) < k) = true := decide_eq_true (by omega)
            have d0' : decide (0 < k) = true := decide_eq_true (by omega)
            obtain ⟨j, hj⟩ : ∃ j, k = j + 1 := ⟨k - 1, by omega⟩
            have hjl : j < ps.length := by omega
            have hk1 : (k : Int) - 1 = j := by omega
            have hk1' : IntKind.i64.wrap ((k : Int) - 1) = j := by rw [hk1]; exact IntWalk.i64_in _ (by omega)
            have I3 : (0 : Int) ≤ (j : Int) := by omega
            have I4 : (j : Int) < (ps.length : Int) := by omega
            have hql : PrAt w pb (po + j * 8) (pAt ps j) := by
              obtain ⟨b', o', e, _, hx⟩ := Hq3.out j hjl
              cases e
              exact hx
            have Hql := hide hql
            have Hj := hide hj
            clear hj hql h0
            by_cases hle : (pAt ps k).au ≤ (pAt ps j).au
            · have d5 : decide ((pAt ps k).au ≤ (pAt ps j).au) = true := decide_eq_true hle
              have Hle := hide hle
              clear hle
              have hT : ∀ W : World, Below (w.heap.size + 1) (w.alloc (.cells #[.int .i64 r, .int .i64 f, .int .i64 lo, .int .i64 tm, .slice (some ⟨pb, po, none⟩) ps.length pc] 24)) W → W.cell? ⟨pb, po + k * 8, none⟩ = some (.int .i64 (pAt ps k).au) ∧ W.cell? ⟨pb, po + k * 8 + 1, none⟩ = some (.int .i64 (pAt ps k).er) ∧ W.cell? ⟨pb, po + k * 8 + 2, none⟩ = some (.int .i64 (pAt ps k).co) ∧ W.cell? ⟨pb, po + k * 8 + 3, none⟩ = some (.int .i64 (pAt ps k).at_) ∧ W.cell? ⟨pb, po + k * 8 + 4, none⟩ = some (.int .i64 (pAt ps k).ol) ∧ W.cell? ⟨pb, po + k * 8 + 5, none⟩ = some (.int .i64 (pAt ps k).oh) ∧ W.cell? ⟨pb, po + k * 8 + 6, none⟩ = some (.int .i64 (pAt ps k).bl) ∧ W.cell? ⟨pb, po + k * 8 + 7, none⟩ = some (.int .i64 (pAt ps k).bh) ∧
            W.cell? ⟨w.heap.size, 0, none⟩ = some (.int .i64 r) ∧ W.cell? ⟨w.heap.size, 1, none⟩ = some (.int .i64 f) ∧ W.cell? ⟨w.heap.size, 2, none⟩ = some (.int .i64 lo) ∧ W.cell? ⟨w.heap.size, 3, none⟩ = some (.int .i64 tm) ∧ W.cell? ⟨w.heap.size, 4, none⟩ = some (.slice (some ⟨pb, po, none⟩) ps.length pc) := by
                intro W hW
                obtain ⟨p0, p1, p2, p3, p4, p5, p6, p7⟩ := q5.below (((Below.refl w.heap.size w).alloc (Nat.le_refl _) _).trans (hW.mono (by omega))) q4
                obtain ⟨y0, y1, y2, y3, y4⟩ := HS.out W hW
                exact ⟨p0, p1, p2, p3, p4, p5, p6, p7, y0, y1, y2, y3, y4⟩
              have HT := hide hT
              obtain ⟨p0, p1, p2, p3, p4, p5, p6, p7, y0, y1, y2, y3, y4⟩ := hT wr hB
              clear hT q5
              go_wp2_with fail
              go_region_held3 (fun W => W.cell? ⟨pb, po + k * 8, none⟩ = some (.int .i64 (pAt ps k).au) ∧ W.cell? ⟨pb, po + k * 8 + 1, none⟩ = some (.int .i64 (pAt ps k).er) ∧ W.cell? ⟨pb, po + k * 8 + 2, none⟩ = some (.int .i64 (pAt ps k).co) ∧ W.cell? ⟨pb, po + k * 8 + 3, none⟩ = some (.int .i64 (pAt ps k).at_) ∧ W.cell? ⟨pb, po + k * 8 + 4, none⟩ = some (.int .i64 (pAt ps k).ol) ∧ W.cell? ⟨pb, po + k * 8 + 5, none⟩ = some (.int .i64 (pAt ps k).oh) ∧ W.cell? ⟨pb, po + k * 8 + 6, none⟩ = some (.int .i64 (pAt ps k).bl) ∧ W.cell? ⟨pb, po + k * 8 + 7, none⟩ = some (.int .i64 (pAt ps k).bh) ∧
            W.cell? ⟨w.heap.size, 0, none⟩ = some (.int .i64 r) ∧ W.cell? ⟨w.heap.size, 1, none⟩ = some (.int .i64 f) ∧ W.cell? ⟨w.heap.size, 2, none⟩ = some (.int .i64 lo) ∧ W.cell? ⟨w.heap.size, 3, none⟩ = some (.int .i64 tm) ∧ W.cell? ⟨w.heap.size, 4, none⟩ = some (.slice (some ⟨pb, po, none⟩) ps.length pc)) (exact HT.out _ (by ((repeat' (first | with_reducible exact Below.refl _ _ | with_reducible exact b2 | with_reducible exact hB | with_reducible refine Below.alloc ?_ ?_ _ | with_reducible refine Below.setCell ?_ ?_ _ | with_reducible refine Below.drew ?_ | with_reducible refine below_drewN ?_ _ | with_reducible refine Below.trans ?_ (b2.mono ?_) | with_reducible refine Below.trans ?_ (hB.mono ?_))) <;> (first | omega | (simp; done) | (simp; omega)))))
                ((go_at_call 39; (with_reducible refine (R29peer_any (pAt ps k) r f lo tm _ _ hr).mono ?_); rintro e w2 ⟨rfl, b2⟩; have z2 := b2.size; rw [Hb.out]))
              have B2 : Below (w.heap.size + 1) (w.alloc (.cells #[.int .i64 r, .int .i64 f, .int .i64 lo, .int .i64 tm, .slice (some ⟨pb, po, none⟩) ps.length pc] 24)) w2 := (by ((repeat' (first | with_reducible exact Below.refl _ _ | with_reducible exact b2 | with_reducible exact hB | with_reducible refine Below.alloc ?_ ?_ _ | with_reducible refine Below.setCell ?_ ?_ _ | with_reducible refine Below.drew ?_ | with_reducible refine below_drewN ?_ _ | with_reducible refine Below.trans ?_ (b2.mono ?_) | with_reducible refine Below.trans ?_ (hB.mono ?_))) <;> (first | omega | (simp; done) | (simp; omega))))
              clear y0 y1 y2 y3 y4 p0 p1 p2 p3 p4 p5 p6 p7
              obtain ⟨r0, -⟩ := Hql.out.below (((Below.refl w.heap.size w).alloc (Nat.le_refl _) _).trans (B2.mono (by omega))) q4
              obtain ⟨y0, y1, y2, y3, y4⟩ := HS.out w2 B2
              obtain ⟨s0, -⟩ := HT.out w2 B2
              go_wp2_with fail
              go_quiet (fail)
              go_wp2_with fail
              go_ret
              have HB := risTo_false (l := auL ps) (k := k) (by have := Hj.out; rw [if_neg (by omega), show k - 1 = j by omega, auL_at ps k hlt, auL_at ps j hjl]; exact Hle.out) ps.length hlt
              exact ⟨ret_bool (by unfold risB; rw [auL_length, HB, Bool.and_false]), (by ((repeat' (first | with_reducible exact Below.refl _ _ | with_reducible exact b2 | with_reducible exact hBw | with_reducible refine Below.alloc ?_ ?_ _ | with_reducible refine Below.setCell ?_ ?_ _ | with_reducible refine Below.drew ?_ | with_reducible refine below_drewN ?_ _ | with_reducible refine Below.trans ?_ (b2.mono ?_) | with_reducible refine Below.trans ?_ (hBw.mono ?_))) <;> (first | omega | (simp; done) | (simp; omega))))⟩
            · have d5 : decide ((pAt ps k).au ≤ (pAt ps j).au) = false := decide_eq_false hle
              have Hle := hide hle
              clear hle
              have hT : ∀ W : World, Below (w.heap.size + 1) (w.alloc (.cells #[.int .i64 r, .int .i64 f, .int .i64 lo, .int .i64 tm, .slice (some ⟨pb, po, none⟩) ps.length pc] 24)) W → W.cell? ⟨pb, po + k * 8, none⟩ = some (.int .i64 (pAt ps k).au) ∧ W.cell? ⟨pb, po + k * 8 + 1, none⟩ = some (.int .i64 (pAt ps k).er) ∧ W.cell? ⟨pb, po + k * 8 + 2, none⟩ = some (.int .i64 (pAt ps k).co) ∧ W.cell? ⟨pb, po + k * 8 + 3, none⟩ = some (.int .i64 (pAt ps k).at_) ∧ W.cell? ⟨pb, po + k * 8 + 4, none⟩ = some (.int .i64 (pAt ps k).ol) ∧ W.cell? ⟨pb, po + k * 8 + 5, none⟩ = some (.int .i64 (pAt ps k).oh) ∧ W.cell? ⟨pb, po + k * 8 + 6, none⟩ = some (.int .i64 (pAt ps k).bl) ∧ W.cell? ⟨pb, po + k * 8 + 7, none⟩ = some (.int .i64 (pAt ps k).bh) ∧
            W.cell? ⟨w.heap.size, 0, none⟩ = some (.int .i64 r) ∧ W.cell? ⟨w.heap.size, 1, none⟩ = some (.int .i64 f) ∧ W.cell? ⟨w.heap.size, 2, none⟩ = some (.int .i64 lo) ∧ W.cell? ⟨w.heap.size, 3, none⟩ = some (.int .i64 tm) ∧ W.cell? ⟨w.heap.size, 4, none⟩ = some (.slice (some ⟨pb, po, none⟩) ps.length pc) := by
                intro W hW
                obtain ⟨p0, p1, p2, p3, p4, p5, p6, p7⟩ := q5.below (((Below.refl w.heap.size w).alloc (Nat.le_refl _) _).trans (hW.mono (by omega))) q4
                obtain ⟨y0, y1, y2, y3, y4⟩ := HS.out W hW
                exact ⟨p0, p1, p2, p3, p4, p5, p6, p7, y0, y1, y2, y3, y4⟩
              have HT := hide hT
              obtain ⟨p0, p1, p2, p3, p4, p5, p6, p7, y0, y1, y2, y3, y4⟩ := hT wr hB
              clear hT q5
              go_wp2_with fail
              go_region_held3 (fun W => W.cell? ⟨pb, po + k * 8, none⟩ = some (.int .i64 (pAt ps k).au) ∧ W.cell? ⟨pb, po + k * 8 + 1, none⟩ = some (.int .i64 (pAt ps k).er) ∧ W.cell? ⟨pb, po + k * 8 + 2, none⟩ = some (.int .i64 (pAt ps k).co) ∧ W.cell? ⟨pb, po + k * 8 + 3, none⟩ = some (.int .i64 (pAt ps k).at_) ∧ W.cell? ⟨pb, po + k * 8 + 4, none⟩ = some (.int .i64 (pAt ps k).ol) ∧ W.cell? ⟨pb, po + k * 8 + 5, none⟩ = some (.int .i64 (pAt ps k).oh) ∧ W.cell? ⟨pb, po + k * 8 + 6, none⟩ = some (.int .i64 (pAt ps k).bl) ∧ W.cell? ⟨pb, po + k * 8 + 7, none⟩ = some (.int .i64 (pAt ps k).bh) ∧
            W.cell? ⟨w.heap.size, 0, none⟩ = some (.int .i64 r) ∧ W.cell? ⟨w.heap.size, 1, none⟩ = some (.int .i64 f) ∧ W.cell? ⟨w.heap.size, 2, none⟩ = some (.int .i64 lo) ∧ W.cell? ⟨w.heap.size, 3, none⟩ = some (.int .i64 tm) ∧ W.cell? ⟨w.heap.size, 4, none⟩ = some (.slice (some ⟨pb, po, none⟩) ps.length pc)) (exact HT.out _ (by ((repeat' (first | with_reducible exact Below.refl _ _ | with_reducible exact b2 | with_reducible exact hB | with_reducible refine Below.alloc ?_ ?_ _ | with_reducible refine Below.setCell ?_ ?_ _ | with_reducible refine Below.drew ?_ | with_reducible refine below_drewN ?_ _ | with_reducible refine Below.trans ?_ (b2.mono ?_) | with_reducible refine Below.trans ?_ (hB.mono ?_))) <;> (first | omega | (simp; done) | (simp; omega)))))
                ((go_at_call 39; (with_reducible refine (R29peer_any (pAt ps k) r f lo tm _ _ hr).mono ?_); rintro e w2 ⟨rfl, b2⟩; have z2 := b2.size; rw [Hb.out]))
              have B2 : Below (w.heap.size + 1) (w.alloc (.cells #[.int .i64 r, .int .i64 f, .int .i64 lo, .int .i64 tm, .slice (some ⟨pb, po, none⟩) ps.length pc] 24)) w2 := (by ((repeat' (first | with_reducible exact Below.refl _ _ | with_reducible exact b2 | with_reducible exact hB | with_reducible refine Below.alloc ?_ ?_ _ | with_reducible refine Below.setCell ?_ ?_ _ | with_reducible refine Below.drew ?_ | with_reducible refine below_drewN ?_ _ | with_reducible refine Below.trans ?_ (b2.mono ?_) | with_reducible refine Below.trans ?_ (hB.mono ?_))) <;> (first | omega | (simp; done) | (simp; omega))))
              clear y0 y1 y2 y3 y4 p0 p1 p2 p3 p4 p5 p6 p7
              obtain ⟨r0, -⟩ := Hql.out.below (((Below.refl w.heap.size w).alloc (Nat.le_refl _) _).trans (B2.mono (by omega))) q4
              obtain ⟨y0, y1, y2, y3, y4⟩ := HS.out w2 B2
              obtain ⟨s0, -⟩ := HT.out w2 B2
              go_wp2_with fail
              go_quiet (fail)
              go_wp2_with fail
              go_roundw
              case rel => exact ⟨k + 1, by omega, by go_num, hide ⟨by rw [allP, Hall.out.1, Hb.out]; rfl, by rw [risTo, Hall.out.2]; have := Hj.out; have hle := Hle.out; rw [if_neg (by omega), show k - 1 = j by omega, auL_at ps k hlt, auL_at ps j hjl, decide_eq_true (by omega)]; rfl⟩, (by ((repeat' (first | with_reducible exact Below.refl _ _ | with_reducible exact B2 | with_reducible refine Below.alloc ?_ ?_ _ | with_reducible refine Below.setCell ?_ ?_ _ | with_reducible refine Below.drew ?_ | with_reducible refine below_drewN ?_ _ | with_reducible refine Below.trans ?_ (B2.mono ?_))) <;> (first | omega | (simp; done) | (simp; omega))))⟩
              case measure => simp [intOf]; omega
      · obtain ⟨y0, y1, y2, y3, y4⟩ := HS.out wr hB
        go_wp2_with fail
        go_ret
        refine ⟨ret_bool ?_, hBw⟩
        obtain ⟨a1, a2⟩ := Hall.out
        rw [show k = ps.length by omega] at a1 a2
        unfold risB
        rw [a1, auL_length, a2]; rfl
end Go.Proofs.Ytiaahfccebmkdaa
