
/- Parts WdH WdI WdJ WdK WdN of the proof, joined. -/
import Derived.Test.YtlmcoollkmhanaaGe
import Derived.Test.YtlmcoollkmhanaaGc
/- The reference of layer 29: one peer, Valid. -/
namespace Go.Proofs.Ytlmcoollkmhanaa
open Go.RowKit

set_option maxRecDepth 100000 in
set_option maxHeartbeats 1000000 in
theorem R29peer_any (p : Pr) (r f lo tm : Int) (pv : Value) (w : World) (hr : 0 ≤ r ∧ r ≤ 1000000) : Calls Try.prog 44 #[.agg #[.int .i64 r, .int .i64 f, .int .i64 lo, .int .i64 tm, pv], .agg #[.int .i64 p.au, .int .i64 p.er, .int .i64 p.co, .int .i64 p.at_, .int .i64 p.ol, .int .i64 p.oh, .int .i64 p.bl, .int .i64 p.bh]] w fun e w' =>
  e = .returned (.bool (prB r tm p)) ∧ Below w.heap.size w w' := by
 cases h1 : lkB p.ol p.oh p.bl p.bh with
 | false =>
  have e1 : prB r tm p = false := by unfold prB; rw [h1]; rfl
  rw [e1]
  clear e1
  go_enter Try.func44, Try.ntmps44
  go_wp2_with (first | (go_at_call 64; (with_reducible refine (R10Form_any _ _ _ _ _ _).mono ?_); rintro e w1 ⟨rfl, b1⟩; rw [h1]) | (go_at_call 43; refine (R29in_any _ _ _ _).mono ?_; rintro e w' ⟨rfl, rfl⟩))
  go_ret
  exact ⟨rfl, (by ((with_reducible repeat' first | exact .refl _ _ | exact b1 | refine .alloc ?_ ?_ _ | refine .setCell ?_ ?_ _ | refine .drew ?_ | refine below_drewN ?_ _ | refine Below.trans ?_ (b1.mono ?_)) <;> first | omega | simp <;> omega))⟩
 | true =>
  have hl := (lkB_iff _ _ _ _).1 h1
  have hel : elEr r (p.oh + p.bh) = 0 := by unfold elEr; rw [if_pos ((elOk_iff _ _).2 (by omega))]
  have e1 : prB r tm p = (inB p.au 1 16 && inB p.er 0 1000000 && inB p.co 0 1000000 && decide (ctHi r (p.oh + p.bh) ≤ tm)) := by unfold prB; rw [h1, Bool.true_and]
  rw [e1]
  generalize hc : ctHi r (p.oh + p.bh) = c
  cases h2 : inB p.au 1 16 <;> cases h3 : inB p.er 0 1000000 <;> cases h4 : inB p.co 0 1000000
  all_goals
   have Hc := hide hc
   have He := hide e1
   clear hc e1
   go_enter Try.func44, Try.ntmps44
   go_wp2_with (first | (go_at_call 64; (with_reducible refine (R10Form_any _ _ _ _ _ _).mono ?_); rintro e w1 ⟨rfl, b1⟩; have z1 := b1.size; obtain ⟨kb1_0, fb1_0, zb1_0, zab1_0, zbb1_0, zcb1_0, zdb1_0, zeb1_0⟩ := bk3 b1 (w.heap.size) (by first | omega | simp <;> omega); obtain ⟨kb1_1, fb1_1, zb1_1, zab1_1, zbb1_1, zcb1_1, zdb1_1, zeb1_1⟩ := bk3 b1 (w.heap.size + 1) (by first | omega | simp <;> omega); rw [h1]) | (go_at_call 43; refine (R29in_any _ _ _ _).mono ?_; rintro e w' ⟨rfl, rfl⟩) | (go_at_call 65; refine (R7Counts_any _ _ _).mono ?_; rintro e w2 ⟨rfl, b2⟩; have z2 := b2.size; obtain ⟨kb2_0, fb2_0, zb2_0, zab2_0, zbb2_0, zcb2_0, zdb2_0, zeb2_0⟩ := bk3 b2 (w.heap.size) (by first | omega | simp <;> omega); obtain ⟨kb2_1, fb2_1, zb2_1, zab2_1, zbb2_1, zcb2_1, zdb2_1, zeb2_1⟩ := bk3 b2 (w.heap.size + 1) (by first | omega | simp <;> omega); rw [hel, Hc.out]))
   go_ret
   exact ⟨ret_bool (by simp), (by ((with_reducible repeat' first | exact .refl _ _ | exact b2 | exact b1 | refine .alloc ?_ ?_ _ | refine .setCell ?_ ?_ _ | refine .drew ?_ | refine below_drewN ?_ _ | refine Below.trans ?_ (b2.mono ?_) | refine Below.trans ?_ (b1.mono ?_)) <;> first | omega | simp <;> omega))⟩
set_option maxRecDepth 100000 in
set_option maxHeartbeats 1000000 in
theorem R29Valid_any (r f lo tm : Int) (pv : Value) (ps : List Pr) (w : World) (hp : PrRow w pv ps) :
  Calls Try.prog 30 #[.agg #[.int .i64 r, .int .i64 f, .int .i64 lo, .int .i64 tm, pv]] w fun e w' => e = .returned (.bool (siB ⟨r, f, lo, tm, ps⟩)) ∧ Below w.heap.size w w' := by
 obtain ⟨pa, pc, rfl, q1, q2, q3⟩ := hp
 rcases si_ways r f lo tm ps with ⟨h, h1, h2, h3, h4, h5⟩ | ⟨h, h1⟩
 case inr =>
  have e : siB ⟨r, f, lo, tm, ps⟩ = false := by unfold siB; rw [h]; rfl
  rw [e]
  clear e h q3
  rcases h1 with h1 | ⟨h1, h2⟩ | ⟨h1, h2, h3⟩ | ⟨h1, h2, h3, h4⟩ | ⟨h1, h2, h3, h4, h5⟩
  all_goals
   go_enter Try.func30, Try.ntmps30
   go_wp2_with (go_at_call 43; refine (R29in_any _ _ _ _).mono ?_; rintro e w' ⟨rfl, rfl⟩)
   all_goals go_ret
   all_goals exact ⟨rfl, (by ((with_reducible repeat' first | exact .refl _ _ | refine .alloc ?_ ?_ _ | refine .setCell ?_ ?_ _ | refine .drew ?_ | refine below_drewN ?_ _) <;> first | omega | simp <;> omega))⟩
 case inl =>
  have hr : 0 ≤ r ∧ r ≤ 1000000 := by simpa [inB] using h1
  have e : siB ⟨r, f, lo, tm, ps⟩ = (allP r tm ps ps.length && risB (auL ps)) := by unfold siB; rw [h]; rfl
  rw [e]
  clear e h
  have hS : ∀ W : World, Below (w.heap.size + 1) (w.alloc (.cells #[.int .i64 r, .int .i64 f, .int .i64 lo, .int .i64 tm, .slice pa ps.length pc] 24)) W → W.cell? ⟨w.heap.size, 0, none⟩ = some (.int .i64 r) ∧ W.cell? ⟨w.heap.size, 1, none⟩ = some (.int .i64 f) ∧ W.cell? ⟨w.heap.size, 2, none⟩ = some (.int .i64 lo) ∧ W.cell? ⟨w.heap.size, 3, none⟩ = some (.int .i64 tm) ∧ W.cell? ⟨w.heap.size, 4, none⟩ = some (.slice pa ps.length pc) := by
   intro W hW
   have hc := (bk hW w.heap.size (by omega)).1
   exact ⟨(hc 0).trans (by simp), (hc 1).trans (by simp), (hc 2).trans (by simp), (hc 3).trans (by simp), (hc 4).trans (by simp)⟩
  have HS := hide hS
  have Hq3 := hide q3
  clear hS q3
  go_enter Try.func30, Try.ntmps30
  go_wp2_with (go_at_call 43; refine (R29in_any _ _ _ _).mono ?_; rintro e w' ⟨rfl, rfl⟩)
  go_loopw [7] (fun i wx => ∃ k : Nat, k ≤ ps.length ∧ i = .int .i64 k ∧ Hid (allP r tm ps k = true ∧ risTo (auL ps) k = true) ∧ Below (w.heap.size + 1) (w.alloc (.cells #[.int .i64 r, .int .i64 f, .int .i64 lo, .int .i64 tm, .slice pa ps.length pc] 24)) wx) (fun i _ => ps.length - (intOf i).toNat)
  case atStart => exact ⟨0, Nat.zero_le _, rfl, hide ⟨rfl, rfl⟩, Below.refl _ _⟩
  case round =>
   obtain ⟨k, hk, rfl, Hall, hB⟩ := hrel
   have hzr : w.heap.size + 1 ≤ wr.heap.size := by have := hB.size; simpa using this
   have hBw : Below w.heap.size w wr := ((Below.refl _ _).alloc (Nat.le_refl _) _).trans (hB.mono (by omega))
   by_cases hlt : k < ps.length
   ·obtain ⟨pb, po, rfl, q4, q5⟩ := Hq3.out k hlt
    have zd : wr.drew.heap.size = wr.heap.size := rfl
    have I1 : (0 : Int) ≤ (k : Int) := by omega
    have I2 : (k : Int) < (ps.length : Int) := by omega
    cases hb : prB r tm (pAt ps k) with
    | false =>
     have Hb := hide hb
     clear hb
     have hT : ∀ W : World, Below (w.heap.size + 1) (w.alloc (.cells #[.int .i64 r, .int .i64 f, .int .i64 lo, .int .i64 tm, .slice (some ⟨pb, po, none⟩) ps.length pc] 24)) W → W.cell? ⟨pb, po + k * 8, none⟩ = some (.int .i64 (pAt ps k).au) ∧ W.cell? ⟨pb, po + k * 8 + 1, none⟩ = some (.int .i64 (pAt ps k).er) ∧ W.cell? ⟨pb, po + k * 8 + 2, none⟩ = some (.int .i64 (pAt ps k).co) ∧ W.cell? ⟨pb, po + k * 8 + 3, none⟩ = some (.int .i64 (pAt ps k).at_) ∧ W.cell? ⟨pb, po + k * 8 + 4, none⟩ = some (.int .i64 (pAt ps k).ol) ∧ W.cell? ⟨pb, po + k * 8 + 5, none⟩ = some (.int .i64 (pAt ps k).oh) ∧ W.cell? ⟨pb, po + k * 8 + 6, none⟩ = some (.int .i64 (pAt ps k).bl) ∧ W.cell? ⟨pb, po + k * 8 + 7, none⟩ = some (.int .i64 (pAt ps k).bh) ∧
      W.cell? ⟨w.heap.size, 0, none⟩ = some (.int .i64 r) ∧ W.cell? ⟨w.heap.size, 1, none⟩ = some (.int .i64 f) ∧ W.cell? ⟨w.heap.size, 2, none⟩ = some (.int .i64 lo) ∧ W.cell? ⟨w.heap.size, 3, none⟩ = some (.int .i64 tm) ∧ W.cell? ⟨w.heap.size, 4, none⟩ = some (.slice (some ⟨pb, po, none⟩) ps.length pc) := by
      intro W hW
      obtain ⟨p0, p1, p2, p3, p4, p5, p6, p7⟩ := q5.below (((Below.refl w.heap.size w).alloc (Nat.le_refl _) _).trans (hW.mono (by omega))) q4
      obtain ⟨y0, y1, y2, y3, y4⟩ := HS.out W hW
      exact ⟨p0, p1, p2, p3, p4, p5, p6, p7, y0, y1, y2, y3, y4⟩
     have HT := hide hT
     obtain ⟨p0, p1, p2, p3, p4, p5, p6, p7, y0, y1, y2, y3, y4⟩ := hT wr hB
     clear hT q5
     go_wp2_with fail
     go_region_held3 (fun W => W.cell? ⟨pb, po + k * 8, none⟩ = some (.int .i64 (pAt ps k).au) ∧ W.cell? ⟨pb, po + k * 8 + 1, none⟩ = some (.int .i64 (pAt ps k).er) ∧ W.cell? ⟨pb, po + k * 8 + 2, none⟩ = some (.int .i64 (pAt ps k).co) ∧ W.cell? ⟨pb, po + k * 8 + 3, none⟩ = some (.int .i64 (pAt ps k).at_) ∧ W.cell? ⟨pb, po + k * 8 + 4, none⟩ = some (.int .i64 (pAt ps k).ol) ∧ W.cell? ⟨pb, po + k * 8 + 5, none⟩ = some (.int .i64 (pAt ps k).oh) ∧ W.cell? ⟨pb, po + k * 8 + 6, none⟩ = some (.int .i64 (pAt ps k).bl) ∧ W.cell? ⟨pb, po + k * 8 + 7, none⟩ = some (.int .i64 (pAt ps k).bh) ∧
      W.cell? ⟨w.heap.size, 0, none⟩ = some (.int .i64 r) ∧ W.cell? ⟨w.heap.size, 1, none⟩ = some (.int .i64 f) ∧ W.cell? ⟨w.heap.size, 2, none⟩ = some (.int .i64 lo) ∧ W.cell? ⟨w.heap.size, 3, none⟩ = some (.int .i64 tm) ∧ W.cell? ⟨w.heap.size, 4, none⟩ = some (.slice (some ⟨pb, po, none⟩) ps.length pc)) (exact HT.out _ (by ((with_reducible repeat' first | exact .refl _ _ | exact b2 | exact hB | refine .alloc ?_ ?_ _ | refine .setCell ?_ ?_ _ | refine .drew ?_ | refine below_drewN ?_ _ | refine Below.trans ?_ (b2.mono ?_) | refine Below.trans ?_ (hB.mono ?_)) <;> first | omega | simp <;> omega)))
      ((go_at_call 44; (with_reducible refine (R29peer_any (pAt ps k) r f lo tm _ _ hr).mono ?_); rintro e w2 ⟨rfl, b2⟩; have z2 := b2.size; rw [Hb.out]))
     have B2 : Below (w.heap.size + 1) (w.alloc (.cells #[.int .i64 r, .int .i64 f, .int .i64 lo, .int .i64 tm, .slice (some ⟨pb, po, none⟩) ps.length pc] 24)) w2 := (by ((with_reducible repeat' first | exact .refl _ _ | exact b2 | exact hB | refine .alloc ?_ ?_ _ | refine .setCell ?_ ?_ _ | refine .drew ?_ | refine below_drewN ?_ _ | refine Below.trans ?_ (b2.mono ?_) | refine Below.trans ?_ (hB.mono ?_)) <;> first | omega | simp <;> omega))
     clear y0 y1 y2 y3 y4 p0 p1 p2 p3 p4 p5 p6 p7
     go_wp2_with fail
     go_quiet (fail)
     go_wp2_with fail
     go_ret
     have HB := allP_false (l := ps) (k := k) Hb.out ps.length hlt
     exact ⟨ret_bool (by rw [HB]; rfl), (by ((with_reducible repeat' first | exact .refl _ _ | exact b2 | exact hBw | refine .alloc ?_ ?_ _ | refine .setCell ?_ ?_ _ | refine .drew ?_ | refine below_drewN ?_ _ | refine Below.trans ?_ (b2.mono ?_) | refine Below.trans ?_ (hBw.mono ?_)) <;> first | omega | simp <;> omega))⟩
    | true =>
     have hau := (prB_iff _ _ _).1 hb
     have hau1 := hau.2.1.1
     have Hb := hide hb
     clear hb hau
     rcases Nat.eq_zero_or_pos k with h0 | h0
     ·skip
      have hT : ∀ W : World, Below (w.heap.size + 1) (w.alloc (.cells #[.int .i64 r, .int .i64 f, .int .i64 lo, .int .i64 tm, .slice (some ⟨pb, po, none⟩) ps.length pc] 24)) W → W.cell? ⟨pb, po + k * 8, none⟩ = some (.int .i64 (pAt ps k).au) ∧ W.cell? ⟨pb, po + k * 8 + 1, none⟩ = some (.int .i64 (pAt ps k).er) ∧ W.cell? ⟨pb, po + k * 8 + 2, none⟩ = some (.int .i64 (pAt ps k).co) ∧ W.cell? ⟨pb, po + k * 8 + 3, none⟩ = some (.int .i64 (pAt ps k).at_) ∧ W.cell? ⟨pb, po + k * 8 + 4, none⟩ = some (.int .i64 (pAt ps k).ol) ∧ W.cell? ⟨pb, po + k * 8 + 5, none⟩ = some (.int .i64 (pAt ps k).oh) ∧ W.cell? ⟨pb, po + k * 8 + 6, none⟩ = some (.int .i64 (pAt ps k).bl) ∧ W.cell? ⟨pb, po + k * 8 + 7, none⟩ = some (.int .i64 (pAt ps k).bh) ∧
      W.cell? ⟨w.heap.size, 0, none⟩ = some (.int .i64 r) ∧ W.cell? ⟨w.heap.size, 1, none⟩ = some (.int .i64 f) ∧ W.cell? ⟨w.heap.size, 2, none⟩ = some (.int .i64 lo) ∧ W.cell? ⟨w.heap.size, 3, none⟩ = some (.int .i64 tm) ∧ W.cell? ⟨w.heap.size, 4, none⟩ = some (.slice (some ⟨pb, po, none⟩) ps.length pc) := by
       intro W hW
       obtain ⟨p0, p1, p2, p3, p4, p5, p6, p7⟩ := q5.below (((Below.refl w.heap.size w).alloc (Nat.le_refl _) _).trans (hW.mono (by omega))) q4
       obtain ⟨y0, y1, y2, y3, y4⟩ := HS.out W hW
       exact ⟨p0, p1, p2, p3, p4, p5, p6, p7, y0, y1, y2, y3, y4⟩
      have HT := hide hT
      obtain ⟨p0, p1, p2, p3, p4, p5, p6, p7, y0, y1, y2, y3, y4⟩ := hT wr hB
      have d0 : decide ((0 : Int) < k) = false := decide_eq_false (by omega)
      have d0' : decide (0 < k) = false := decide_eq_false (by omega)
      have H0 := hide h0
      clear h0
      clear hT q5
      go_wp2_with fail
      go_region_held3 (fun W => W.cell? ⟨pb, po + k * 8, none⟩ = some (.int .i64 (pAt ps k).au) ∧ W.cell? ⟨pb, po + k * 8 + 1, none⟩ = some (.int .i64 (pAt ps k).er) ∧ W.cell? ⟨pb, po + k * 8 + 2, none⟩ = some (.int .i64 (pAt ps k).co) ∧ W.cell? ⟨pb, po + k * 8 + 3, none⟩ = some (.int .i64 (pAt ps k).at_) ∧ W.cell? ⟨pb, po + k * 8 + 4, none⟩ = some (.int .i64 (pAt ps k).ol) ∧ W.cell? ⟨pb, po + k * 8 + 5, none⟩ = some (.int .i64 (pAt ps k).oh) ∧ W.cell? ⟨pb, po + k * 8 + 6, none⟩ = some (.int .i64 (pAt ps k).bl) ∧ W.cell? ⟨pb, po + k * 8 + 7, none⟩ = some (.int .i64 (pAt ps k).bh) ∧
      W.cell? ⟨w.heap.size, 0, none⟩ = some (.int .i64 r) ∧ W.cell? ⟨w.heap.size, 1, none⟩ = some (.int .i64 f) ∧ W.cell? ⟨w.heap.size, 2, none⟩ = some (.int .i64 lo) ∧ W.cell? ⟨w.heap.size, 3, none⟩ = some (.int .i64 tm) ∧ W.cell? ⟨w.heap.size, 4, none⟩ = some (.slice (some ⟨pb, po, none⟩) ps.length pc)) (exact HT.out _ (by ((with_reducible repeat' first | exact .refl _ _ | exact b2 | exact hB | refine .alloc ?_ ?_ _ | refine .setCell ?_ ?_ _ | refine .drew ?_ | refine below_drewN ?_ _ | refine Below.trans ?_ (b2.mono ?_) | refine Below.trans ?_ (hB.mono ?_)) <;> first | omega | simp <;> omega)))
       ((go_at_call 44; (with_reducible refine (R29peer_any (pAt ps k) r f lo tm _ _ hr).mono ?_); rintro e w2 ⟨rfl, b2⟩; have z2 := b2.size; rw [Hb.out]))
      have B2 : Below (w.heap.size + 1) (w.alloc (.cells #[.int .i64 r, .int .i64 f, .int .i64 lo, .int .i64 tm, .slice (some ⟨pb, po, none⟩) ps.length pc] 24)) w2 := (by ((with_reducible repeat' first | exact .refl _ _ | exact b2 | exact hB | refine .alloc ?_ ?_ _ | refine .setCell ?_ ?_ _ | refine .drew ?_ | refine below_drewN ?_ _ | refine Below.trans ?_ (b2.mono ?_) | refine Below.trans ?_ (hB.mono ?_)) <;> first | omega | simp <;> omega))
      clear y0 y1 y2 y3 y4 p0 p1 p2 p3 p4 p5 p6 p7
      go_wp2_with fail
      go_quiet (fail)
      go_wp2_with fail
      go_roundw
      case rel => exact ⟨k + 1, by omega, by go_num, hide ⟨by rw [allP, Hall.out.1, Hb.out]; rfl, by rw [risTo, Hall.out.2]; rw [if_pos H0.out, auL_at ps k hlt, decide_eq_true (by omega)]; rfl⟩, (by ((with_reducible repeat' first | exact .refl _ _ | exact B2 | refine .alloc ?_ ?_ _ | refine .setCell ?_ ?_ _ | refine .drew ?_ | refine below_drewN ?_ _ | refine Below.trans ?_ (B2.mono ?_)) <;> first | omega | simp <;> omega))⟩
      case measure => simp [intOf]; omega
     ·skip
      have d0 : decide ((0 : Int) < k) = true := decide_eq_true (by omega)
      have d0' : decide (0 < k) = true := decide_eq_true (by omega)
      obtain ⟨j, hj⟩ : ∃ j, k = j + 1 := ⟨k - 1, by omega⟩
      have hjl : j < ps.length := by omega
      have hk1 : (k : Int) - 1 = j := by omega
      have hk1' : IntKind.i64.wrap ((k : Int) - 1) = j := by rw [hk1]; exact IntWalk.i64_in _ (by omega)
      have I3 : (0 : Int) ≤ (j : Int) := by omega
      have I4 : (j : Int) < (ps.length : Int) := by omega
      have hql : PrAt w pb (po + j * 8) (pAt ps j) := by
       obtain ⟨b', o', e, _, hx⟩ := Hq3.out j hjl
       cases e
       exact hx
      have Hql := hide hql
      have Hj := hide hj
      clear hj hql h0
      by_cases hle : (pAt ps k).au ≤ (pAt ps j).au
      ·have d5 : decide ((pAt ps k).au ≤ (pAt ps j).au) = true := decide_eq_true hle
       have Hle := hide hle
       clear hle
       have hT : ∀ W : World, Below (w.heap.size + 1) (w.alloc (.cells #[.int .i64 r, .int .i64 f, .int .i64 lo, .int .i64 tm, .slice (some ⟨pb, po, none⟩) ps.length pc] 24)) W → W.cell? ⟨pb, po + k * 8, none⟩ = some (.int .i64 (pAt ps k).au) ∧ W.cell? ⟨pb, po + k * 8 + 1, none⟩ = some (.int .i64 (pAt ps k).er) ∧ W.cell? ⟨pb, po + k * 8 + 2, none⟩ = some (.int .i64 (pAt ps k).co) ∧ W.cell? ⟨pb, po + k * 8 + 3, none⟩ = some (.int .i64 (pAt ps k).at_) ∧ W.cell? ⟨pb, po + k * 8 + 4, none⟩ = some (.int .i64 (pAt ps k).ol) ∧ W.cell? ⟨pb, po + k * 8 + 5, none⟩ = some (.int .i64 (pAt ps k).oh) ∧ W.cell? ⟨pb, po + k * 8 + 6, none⟩ = some (.int .i64 (pAt ps k).bl) ∧ W.cell? ⟨pb, po + k * 8 + 7, none⟩ = some (.int .i64 (pAt ps k).bh) ∧
      W.cell? ⟨w.heap.size, 0, none⟩ = some (.int .i64 r) ∧ W.cell? ⟨w.heap.size, 1, none⟩ = some (.int .i64 f) ∧ W.cell? ⟨w.heap.size, 2, none⟩ = some (.int .i64 lo) ∧ W.cell? ⟨w.heap.size, 3, none⟩ = some (.int .i64 tm) ∧ W.cell? ⟨w.heap.size, 4, none⟩ = some (.slice (some ⟨pb, po, none⟩) ps.length pc) := by
        intro W hW
        obtain ⟨p0, p1, p2, p3, p4, p5, p6, p7⟩ := q5.below (((Below.refl w.heap.size w).alloc (Nat.le_refl _) _).trans (hW.mono (by omega))) q4
        obtain ⟨y0, y1, y2, y3, y4⟩ := HS.out W hW
        exact ⟨p0, p1, p2, p3, p4, p5, p6, p7, y0, y1, y2, y3, y4⟩
       have HT := hide hT
       obtain ⟨p0, p1, p2, p3, p4, p5, p6, p7, y0, y1, y2, y3, y4⟩ := hT wr hB
       clear hT q5
       go_wp2_with fail
       go_region_held3 (fun W => W.cell? ⟨pb, po + k * 8, none⟩ = some (.int .i64 (pAt ps k).au) ∧ W.cell? ⟨pb, po + k * 8 + 1, none⟩ = some (.int .i64 (pAt ps k).er) ∧ W.cell? ⟨pb, po + k * 8 + 2, none⟩ = some (.int .i64 (pAt ps k).co) ∧ W.cell? ⟨pb, po + k * 8 + 3, none⟩ = some (.int .i64 (pAt ps k).at_) ∧ W.cell? ⟨pb, po + k * 8 + 4, none⟩ = some (.int .i64 (pAt ps k).ol) ∧ W.cell? ⟨pb, po + k * 8 + 5, none⟩ = some (.int .i64 (pAt ps k).oh) ∧ W.cell? ⟨pb, po + k * 8 + 6, none⟩ = some (.int .i64 (pAt ps k).bl) ∧ W.cell? ⟨pb, po + k * 8 + 7, none⟩ = some (.int .i64 (pAt ps k).bh) ∧
      W.cell? ⟨w.heap.size, 0, none⟩ = some (.int .i64 r) ∧ W.cell? ⟨w.heap.size, 1, none⟩ = some (.int .i64 f) ∧ W.cell? ⟨w.heap.size, 2, none⟩ = some (.int .i64 lo) ∧ W.cell? ⟨w.heap.size, 3, none⟩ = some (.int .i64 tm) ∧ W.cell? ⟨w.heap.size, 4, none⟩ = some (.slice (some ⟨pb, po, none⟩) ps.length pc)) (exact HT.out _ (by ((with_reducible repeat' first | exact .refl _ _ | exact b2 | exact hB | refine .alloc ?_ ?_ _ | refine .setCell ?_ ?_ _ | refine .drew ?_ | refine below_drewN ?_ _ | refine Below.trans ?_ (b2.mono ?_) | refine Below.trans ?_ (hB.mono ?_)) <;> first | omega | simp <;> omega)))
        ((go_at_call 44; (with_reducible refine (R29peer_any (pAt ps k) r f lo tm _ _ hr).mono ?_); rintro e w2 ⟨rfl, b2⟩; have z2 := b2.size; rw [Hb.out]))
       have B2 : Below (w.heap.size + 1) (w.alloc (.cells #[.int .i64 r, .int .i64 f, .int .i64 lo, .int .i64 tm, .slice (some ⟨pb, po, none⟩) ps.length pc] 24)) w2 := (by ((with_reducible repeat' first | exact .refl _ _ | exact b2 | exact hB | refine .alloc ?_ ?_ _ | refine .setCell ?_ ?_ _ | refine .drew ?_ | refine below_drewN ?_ _ | refine Below.trans ?_ (b2.mono ?_) | refine Below.trans ?_ (hB.mono ?_)) <;> first | omega | simp <;> omega))
       clear y0 y1 y2 y3 y4 p0 p1 p2 p3 p4 p5 p6 p7
       obtain ⟨r0, -⟩ := Hql.out.below (((Below.refl w.heap.size w).alloc (Nat.le_refl _) _).trans (B2.mono (by omega))) q4
       obtain ⟨y0, y1, y2, y3, y4⟩ := HS.out w2 B2
       obtain ⟨s0, -⟩ := HT.out w2 B2
       go_wp2_with fail
       go_quiet (fail)
       go_wp2_with fail
       go_ret
       have HB := risTo_false (l := auL ps) (k := k) (by have := Hj.out; rw [if_neg (by omega), show k - 1 = j by omega, auL_at ps k hlt, auL_at ps j hjl]; exact Hle.out) ps.length hlt
       exact ⟨ret_bool (by unfold risB; rw [auL_length, HB, Bool.and_false]), (by ((with_reducible repeat' first | exact .refl _ _ | exact b2 | exact hBw | refine .alloc ?_ ?_ _ | refine .setCell ?_ ?_ _ | refine .drew ?_ | refine below_drewN ?_ _ | refine Below.trans ?_ (b2.mono ?_) | refine Below.trans ?_ (hBw.mono ?_)) <;> first | omega | simp <;> omega))⟩
      ·have d5 : decide ((pAt ps k).au ≤ (pAt ps j).au) = false := decide_eq_false hle
       have Hle := hide hle
       clear hle
       have hT : ∀ W : World, Below (w.heap.size + 1) (w.alloc (.cells #[.int .i64 r, .int .i64 f, .int .i64 lo, .int .i64 tm, .slice (some ⟨pb, po, none⟩) ps.length pc] 24)) W → W.cell? ⟨pb, po + k * 8, none⟩ = some (.int .i64 (pAt ps k).au) ∧ W.cell? ⟨pb, po + k * 8 + 1, none⟩ = some (.int .i64 (pAt ps k).er) ∧ W.cell? ⟨pb, po + k * 8 + 2, none⟩ = some (.int .i64 (pAt ps k).co) ∧ W.cell? ⟨pb, po + k * 8 + 3, none⟩ = some (.int .i64 (pAt ps k).at_) ∧ W.cell? ⟨pb, po + k * 8 + 4, none⟩ = some (.int .i64 (pAt ps k).ol) ∧ W.cell? ⟨pb, po + k * 8 + 5, none⟩ = some (.int .i64 (pAt ps k).oh) ∧ W.cell? ⟨pb, po + k * 8 + 6, none⟩ = some (.int .i64 (pAt ps k).bl) ∧ W.cell? ⟨pb, po + k * 8 + 7, none⟩ = some (.int .i64 (pAt ps k).bh) ∧
      W.cell? ⟨w.heap.size, 0, none⟩ = some (.int .i64 r) ∧ W.cell? ⟨w.heap.size, 1, none⟩ = some (.int .i64 f) ∧ W.cell? ⟨w.heap.size, 2, none⟩ = some (.int .i64 lo) ∧ W.cell? ⟨w.heap.size, 3, none⟩ = some (.int .i64 tm) ∧ W.cell? ⟨w.heap.size, 4, none⟩ = some (.slice (some ⟨pb, po, none⟩) ps.length pc) := by
        intro W hW
        obtain ⟨p0, p1, p2, p3, p4, p5, p6, p7⟩ := q5.below (((Below.refl w.heap.size w).alloc (Nat.le_refl _) _).trans (hW.mono (by omega))) q4
        obtain ⟨y0, y1, y2, y3, y4⟩ := HS.out W hW
        exact ⟨p0, p1, p2, p3, p4, p5, p6, p7, y0, y1, y2, y3, y4⟩
       have HT := hide hT
       obtain ⟨p0, p1, p2, p3, p4, p5, p6, p7, y0, y1, y2, y3, y4⟩ := hT wr hB
       clear hT q5
       go_wp2_with fail
       go_region_held3 (fun W => W.cell? ⟨pb, po + k * 8, none⟩ = some (.int .i64 (pAt ps k).au) ∧ W.cell? ⟨pb, po + k * 8 + 1, none⟩ = some (.int .i64 (pAt ps k).er) ∧ W.cell? ⟨pb, po + k * 8 + 2, none⟩ = some (.int .i64 (pAt ps k).co) ∧ W.cell? ⟨pb, po + k * 8 + 3, none⟩ = some (.int .i64 (pAt ps k).at_) ∧ W.cell? ⟨pb, po + k * 8 + 4, none⟩ = some (.int .i64 (pAt ps k).ol) ∧ W.cell? ⟨pb, po + k * 8 + 5, none⟩ = some (.int .i64 (pAt ps k).oh) ∧ W.cell? ⟨pb, po + k * 8 + 6, none⟩ = some (.int .i64 (pAt ps k).bl) ∧ W.cell? ⟨pb, po + k * 8 + 7, none⟩ = some (.int .i64 (pAt ps k).bh) ∧
      W.cell? ⟨w.heap.size, 0, none⟩ = some (.int .i64 r) ∧ W.cell? ⟨w.heap.size, 1, none⟩ = some (.int .i64 f) ∧ W.cell? ⟨w.heap.size, 2, none⟩ = some (.int .i64 lo) ∧ W.cell? ⟨w.heap.size, 3, none⟩ = some (.int .i64 tm) ∧ W.cell? ⟨w.heap.size, 4, none⟩ = some (.slice (some ⟨pb, po, none⟩) ps.length pc)) (exact HT.out _ (by ((with_reducible repeat' first | exact .refl _ _ | exact b2 | exact hB | refine .alloc ?_ ?_ _ | refine .setCell ?_ ?_ _ | refine .drew ?_ | refine below_drewN ?_ _ | refine Below.trans ?_ (b2.mono ?_) | refine Below.trans ?_ (hB.mono ?_)) <;> first | omega | simp <;> omega)))
        ((go_at_call 44; (with_reducible refine (R29peer_any (pAt ps k) r f lo tm _ _ hr).mono ?_); rintro e w2 ⟨rfl, b2⟩; have z2 := b2.size; rw [Hb.out]))
       have B2 : Below (w.heap.size + 1) (w.alloc (.cells #[.int .i64 r, .int .i64 f, .int .i64 lo, .int .i64 tm, .slice (some ⟨pb, po, none⟩) ps.length pc] 24)) w2 := (by ((with_reducible repeat' first | exact .refl _ _ | exact b2 | exact hB | refine .alloc ?_ ?_ _ | refine .setCell ?_ ?_ _ | refine .drew ?_ | refine below_drewN ?_ _ | refine Below.trans ?_ (b2.mono ?_) | refine Below.trans ?_ (hB.mono ?_)) <;> first | omega | simp <;> omega))
       clear y0 y1 y2 y3 y4 p0 p1 p2 p3 p4 p5 p6 p7
       obtain ⟨r0, -⟩ := Hql.out.below (((Below.refl w.heap.size w).alloc (Nat.le_refl _) _).trans (B2.mono (by omega))) q4
       obtain ⟨y0, y1, y2, y3, y4⟩ := HS.out w2 B2
       obtain ⟨s0, -⟩ := HT.out w2 B2
       go_wp2_with fail
       go_quiet (fail)
       go_wp2_with fail
       go_roundw
       case rel => exact ⟨k + 1, by omega, by go_num, hide ⟨by rw [allP, Hall.out.1, Hb.out]; rfl, by rw [risTo, Hall.out.2]; have := Hj.out; have hle := Hle.out; rw [if_neg (by omega), show k - 1 = j by omega, auL_at ps k hlt, auL_at ps j hjl, decide_eq_true (by omega)]; rfl⟩, (by ((with_reducible repeat' first | exact .refl _ _ | exact B2 | refine .alloc ?_ ?_ _ | refine .setCell ?_ ?_ _ | refine .drew ?_ | refine below_drewN ?_ _ | refine Below.trans ?_ (B2.mono ?_)) <;> first | omega | simp <;> omega))⟩
       case measure => simp [intOf]; omega
   ·obtain ⟨y0, y1, y2, y3, y4⟩ := HS.out wr hB
    go_wp2_with fail
    go_ret
    refine ⟨ret_bool ?_, hBw⟩
    obtain ⟨a1, a2⟩ := Hall.out
    rw [show k = ps.length by omega] at a1 a2
    unfold risB
    rw [a1, auL_length, a2]; rfl
end Go.Proofs.Ytlmcoollkmhanaa
/- The reference of layer 29: Right, Growth, Peer. -/
namespace Go.Proofs.Ytlmcoollkmhanaa
open Go.RowKit

set_option maxRecDepth 100000 in
set_option maxHeartbeats 1000000 in
theorem R29Right_any (r f lo tm : Int) (pv : Value) (ps : List Pr) (uv : Value) (use : List Int) (ev : Int) (w : World) (hp : PrRow w pv ps) (hu : IsRow w uv use) (hun : use.length ≤ 1000000) :
  Calls Try.prog 15 #[.agg #[.int .i64 r, .int .i64 f, .int .i64 lo, .int .i64 tm, pv], .agg #[uv, .int .i64 ev]] w fun e w' => e = .returned (.bool (rgB ⟨r, f, lo, tm, ps⟩ use ev)) ∧ Below w.heap.size w w' := by
 obtain ⟨pa, pc, rfl, q1, q2⟩ := hp.len
 have hP : ∀ W : World, Below w.heap.size w W → PrRow W (.slice pa ps.length pc) ps := fun W hW => hp.below (Nat.le_refl _) hW
 have HP := hide hP
 obtain ⟨ua, uc, rfl, u1, u2, u3⟩ := hu
 have Hu3 := hide u3
 clear hP u3
 cases h1 : siB ⟨r, f, lo, tm, ps⟩ with
 | false =>
  have e : rgB ⟨r, f, lo, tm, ps⟩ use ev = false := by unfold rgB; rw [h1]; rfl
  rw [e]
  clear e
  go_enter Try.func15, Try.ntmps15
  go_wp2_with (go_at_call 30; (with_reducible refine (R29Valid_any r f lo tm _ ps _ (HP.out _ (by ((with_reducible repeat' first | exact .refl _ _ | refine .alloc ?_ ?_ _ | refine .setCell ?_ ?_ _ | refine .drew ?_ | refine below_drewN ?_ _) <;> first | omega | simp <;> omega)))).mono ?_); rintro e w1 ⟨rfl, b1⟩; rw [h1])
  go_ret
  exact ⟨rfl, (by ((with_reducible repeat' first | exact .refl _ _ | exact b1 | refine .alloc ?_ ?_ _ | refine .setCell ?_ ?_ _ | refine .drew ?_ | refine below_drewN ?_ _ | refine Below.trans ?_ (b1.mono ?_)) <;> first | omega | simp <;> omega))⟩
 | true =>
  have hsi := (siN_iff _).1 ((siB_iff _).1 h1).1
  simp only at hsi
  obtain ⟨hi1, hi2, hi3, hi4, hi5⟩ := hsi
  have hS : ∀ W : World, Below (w.heap.size + 2) ((w.alloc (.cells #[.int .i64 r, .int .i64 f, .int .i64 lo, .int .i64 tm, .slice pa ps.length pc] 24)).alloc (.cells #[.slice ua use.length uc, .int .i64 ev] 27)) W → W.cell? ⟨w.heap.size, 0, none⟩ = some (.int .i64 r) ∧ W.cell? ⟨w.heap.size, 1, none⟩ = some (.int .i64 f) ∧ W.cell? ⟨w.heap.size, 2, none⟩ = some (.int .i64 lo) ∧ W.cell? ⟨w.heap.size, 3, none⟩ = some (.int .i64 tm) ∧ W.cell? ⟨w.heap.size, 4, none⟩ = some (.slice pa ps.length pc) ∧ W.cell? ⟨w.heap.size + 1, 0, none⟩ = some (.slice ua use.length uc) ∧ W.cell? ⟨w.heap.size + 1, 1, none⟩ = some (.int .i64 ev) := by
   intro W hW
   have hc := (bk hW w.heap.size (by omega)).1
   have hd := (bk hW (w.heap.size + 1) (by omega)).1
   exact ⟨(hc 0).trans (by simp), (hc 1).trans (by simp), (hc 2).trans (by simp), (hc 3).trans (by simp), (hc 4).trans (by simp), (hd 0).trans (by simp), (hd 1).trans (by simp)⟩
  have HS := hide hS
  clear hS
  by_cases hev : tm + 1 ≤ ev ∧ ev ≤ 1000000000000
  case neg =>
   have e : rgB ⟨r, f, lo, tm, ps⟩ use ev = false := by
    have e2 : inB ev (tm + 1) 1000000000000 = false := by unfold inB; exact decide_eq_false hev
    unfold rgB; simp only; rw [e2, Bool.and_false]; rfl
   rw [e]
   clear e
   by_cases c1 : ev < 1
   ·clear hev
    go_enter Try.func15, Try.ntmps15
    go_wp2_with (go_at_call 30; (with_reducible refine (R29Valid_any r f lo tm _ ps _ (HP.out _ (by ((with_reducible repeat' first | exact .refl _ _ | refine .alloc ?_ ?_ _ | refine .setCell ?_ ?_ _ | refine .drew ?_ | refine below_drewN ?_ _) <;> first | omega | simp <;> omega)))).mono ?_); rintro e w1 ⟨rfl, b1⟩; obtain ⟨kb1_0, fb1_0, zb1_0, zab1_0, zbb1_0, zcb1_0, zdb1_0, zeb1_0⟩ := bk3 b1 (w.heap.size) (by first | omega | simp <;> omega); obtain ⟨kb1_1, fb1_1, zb1_1, zab1_1, zbb1_1, zcb1_1, zdb1_1, zeb1_1⟩ := bk3 b1 (w.heap.size + 1) (by first | omega | simp <;> omega); rw [h1])
    go_ret
    exact ⟨rfl, (by ((with_reducible repeat' first | exact .refl _ _ | exact b1 | refine .alloc ?_ ?_ _ | refine .setCell ?_ ?_ _ | refine .drew ?_ | refine below_drewN ?_ _ | refine Below.trans ?_ (b1.mono ?_)) <;> first | omega | simp <;> omega))⟩
   ·by_cases c2 : 1000000000000 < ev
    ·clear hev
     go_enter Try.func15, Try.ntmps15
     go_wp2_with (go_at_call 30; (with_reducible refine (R29Valid_any r f lo tm _ ps _ (HP.out _ (by ((with_reducible repeat' first | exact .refl _ _ | refine .alloc ?_ ?_ _ | refine .setCell ?_ ?_ _ | refine .drew ?_ | refine below_drewN ?_ _) <;> first | omega | simp <;> omega)))).mono ?_); rintro e w1 ⟨rfl, b1⟩; obtain ⟨kb1_0, fb1_0, zb1_0, zab1_0, zbb1_0, zcb1_0, zdb1_0, zeb1_0⟩ := bk3 b1 (w.heap.size) (by first | omega | simp <;> omega); obtain ⟨kb1_1, fb1_1, zb1_1, zab1_1, zbb1_1, zcb1_1, zdb1_1, zeb1_1⟩ := bk3 b1 (w.heap.size + 1) (by first | omega | simp <;> omega); rw [h1])
     go_ret
     exact ⟨rfl, (by ((with_reducible repeat' first | exact .refl _ _ | exact b1 | refine .alloc ?_ ?_ _ | refine .setCell ?_ ?_ _ | refine .drew ?_ | refine below_drewN ?_ _ | refine Below.trans ?_ (b1.mono ?_)) <;> first | omega | simp <;> omega))⟩
    ·have c3 : ev ≤ tm := by omega
     clear hev
     go_enter Try.func15, Try.ntmps15
     go_wp2_with (go_at_call 30; (with_reducible refine (R29Valid_any r f lo tm _ ps _ (HP.out _ (by ((with_reducible repeat' first | exact .refl _ _ | refine .alloc ?_ ?_ _ | refine .setCell ?_ ?_ _ | refine .drew ?_ | refine below_drewN ?_ _) <;> first | omega | simp <;> omega)))).mono ?_); rintro e w1 ⟨rfl, b1⟩; obtain ⟨kb1_0, fb1_0, zb1_0, zab1_0, zbb1_0, zcb1_0, zdb1_0, zeb1_0⟩ := bk3 b1 (w.heap.size) (by first | omega | simp <;> omega); obtain ⟨kb1_1, fb1_1, zb1_1, zab1_1, zbb1_1, zcb1_1, zdb1_1, zeb1_1⟩ := bk3 b1 (w.heap.size + 1) (by first | omega | simp <;> omega); rw [h1])
     go_ret
     exact ⟨rfl, (by ((with_reducible repeat' first | exact .refl _ _ | exact b1 | refine .alloc ?_ ?_ _ | refine .setCell ?_ ?_ _ | refine .drew ?_ | refine below_drewN ?_ _ | refine Below.trans ?_ (b1.mono ?_)) <;> first | omega | simp <;> omega))⟩
  case pos =>
   have e : rgB ⟨r, f, lo, tm, ps⟩ use ev = (inAll ps.length use use.length && risB use && decide (2 * f + lo < use.length)) := by
    have e2 : inB ev (tm + 1) 1000000000000 = true := by unfold inB; exact decide_eq_true hev
    unfold rgB; simp only; rw [h1, e2]; rfl
   rw [e]
   clear e
   obtain ⟨hev1, hev2⟩ := hev
   go_enter Try.func15, Try.ntmps15
   go_wp2_with (go_at_call 30; (with_reducible refine (R29Valid_any r f lo tm _ ps _ (HP.out _ (by ((with_reducible repeat' first | exact .refl _ _ | refine .alloc ?_ ?_ _ | refine .setCell ?_ ?_ _ | refine .drew ?_ | refine below_drewN ?_ _) <;> first | omega | simp <;> omega)))).mono ?_); rintro e w1 ⟨rfl, b1⟩; have B1 : Below (w.heap.size + 2) ((w.alloc (.cells #[.int .i64 r, .int .i64 f, .int .i64 lo, .int .i64 tm, .slice pa ps.length pc] 24)).alloc (.cells #[.slice ua use.length uc, .int .i64 ev] 27)) w1 := b1.mono (by simp); obtain ⟨y0, y1, y2, y3, y4, x0, x1⟩ := HS.out w1 B1; rw [h1])
   clear y0 y1 y2 y3 y4 x0 x1
   go_loopw [6] (fun i wx => ∃ k : Nat, k ≤ use.length ∧ i = .int .i64 k ∧ Hid (inAll ps.length use k = true ∧ risTo use k = true) ∧ Below (w.heap.size + 2) ((w.alloc (.cells #[.int .i64 r, .int .i64 f, .int .i64 lo, .int .i64 tm, .slice pa ps.length pc] 24)).alloc (.cells #[.slice ua use.length uc, .int .i64 ev] 27)) wx) (fun i _ => use.length - (intOf i).toNat)
   case atStart => exact ⟨0, Nat.zero_le _, rfl, hide ⟨rfl, rfl⟩, B1⟩
   case round =>
    obtain ⟨k, hk, rfl, Hall, hB⟩ := hrel
    obtain ⟨y0, y1, y2, y3, y4, x0, x1⟩ := HS.out wr hB
    have hzr : w.heap.size + 2 ≤ wr.heap.size := by have := hB.size; simpa using this
    have hBw : Below w.heap.size w wr := (((Below.refl _ _).alloc (Nat.le_refl _) _).alloc (by simp) _).trans (hB.mono (by omega))
    clear b1 B1
    by_cases hlt : k < use.length
    ·obtain ⟨ub, uo, rfl, u4, u5⟩ := Hu3.out k hlt
     have u5' := (hBw.cell (p := ⟨ub, uo + k, none⟩) u4).trans u5
     have I1 : (0 : Int) ≤ (k : Int) := by omega
     have I2 : (k : Int) < (use.length : Int) := by omega
     clear u5
     obtain ⟨a, ha⟩ : ∃ a, a = iAt use k := ⟨_, rfl⟩
     rw [← ha] at u5'
     have Ha := hide ha
     clear ha
     by_cases c1 : a < 0
     ·have d1 : decide (a < 0) = true := decide_eq_true c1
      go_wp2_with fail
      go_quiet (fail)
      go_wp2_with fail
      go_ret
      have HB := inAll_false (n := ps.length) (l := use) (k := k) (by have := Ha.out; omega) use.length hlt
      exact ⟨ret_bool (by rw [HB]; rfl), (by ((with_reducible repeat' first | exact .refl _ _ | exact hBw | refine .alloc ?_ ?_ _ | refine .setCell ?_ ?_ _ | refine .drew ?_ | refine below_drewN ?_ _ | refine Below.trans ?_ (hBw.mono ?_)) <;> first | omega | simp <;> omega))⟩
     ·have d1 : decide (a < 0) = false := decide_eq_false c1
      by_cases c2 : (ps.length : Int) ≤ a
      ·have d2 : decide ((ps.length : Int) ≤ a) = true := decide_eq_true c2
       go_wp2_with fail
       go_quiet (fail)
       go_wp2_with fail
       go_ret
       have HB := inAll_false (n := ps.length) (l := use) (k := k) (by have := Ha.out; omega) use.length hlt
       exact ⟨ret_bool (by rw [HB]; rfl), (by ((with_reducible repeat' first | exact .refl _ _ | exact hBw | refine .alloc ?_ ?_ _ | refine .setCell ?_ ?_ _ | refine .drew ?_ | refine below_drewN ?_ _ | refine Below.trans ?_ (hBw.mono ?_)) <;> first | omega | simp <;> omega))⟩
      ·have d2 : decide ((ps.length : Int) ≤ a) = false := decide_eq_false c2
       have hin : decide (0 ≤ iAt use k ∧ iAt use k < ps.length) = true := decide_eq_true (by have := Ha.out; omega)
       have Hin := hide hin
       clear hin
       rcases Nat.eq_zero_or_pos k with h0 | h0
       ·have d0 : decide ((0 : Int) < k) = false := decide_eq_false (by omega)
        have d0' : decide (0 < k) = false := decide_eq_false (by omega)
        have H0 := hide h0
        clear h0
        go_wp2_with fail
        go_quiet (fail)
        go_wp2_with fail
        go_roundw
        case rel => exact ⟨k + 1, by omega, by go_num, hide ⟨by rw [inAll, Hall.out.1, Hin.out]; rfl, by have := Ha.out; rw [risTo, Hall.out.2, if_pos H0.out, decide_eq_true (by omega)]; rfl⟩, (by ((with_reducible repeat' first | exact .refl _ _ | exact hB | refine .alloc ?_ ?_ _ | refine .setCell ?_ ?_ _ | refine .drew ?_ | refine below_drewN ?_ _ | refine Below.trans ?_ (hB.mono ?_)) <;> first | omega | simp <;> omega))⟩
        case measure => simp [intOf]; omega
       ·have d0 : decide ((0 : Int) < k) = true := decide_eq_true (by omega)
        have d0' : decide (0 < k) = true := decide_eq_true (by omega)
        obtain ⟨j, hj⟩ : ∃ j, k = j + 1 := ⟨k - 1, by omega⟩
        have hjl : j < use.length := by omega
        have hk1 : (k : Int) - 1 = j := by omega
        have hk1' : IntKind.i64.wrap ((k : Int) - 1) = j := by rw [hk1]; exact IntWalk.i64_in _ (by omega)
        have I3 : (0 : Int) ≤ (j : Int) := by omega
        have I4 : (j : Int) < (use.length : Int) := by omega
        have v5 : wr.cell? ⟨ub, uo + j, none⟩ = some (.int .i64 (iAt use j)) := by
         obtain ⟨b', o', e, _, hx⟩ := Hu3.out j hjl
         cases e
         exact (hBw.cell (p := ⟨ub, uo + j, none⟩) u4).trans hx
        have Hj := hide hj
        clear hj h0
        by_cases hle : a ≤ iAt use j
        ·have d5 : decide (a ≤ iAt use j) = true := decide_eq_true hle
         have Hle := hide hle
         clear hle
         go_wp2_with fail
         go_quiet (fail)
         go_wp2_with fail
         go_ret
         have HB := risTo_false (l := use) (k := k) (by have := Hj.out; rw [if_neg (by omega), show k - 1 = j by omega, ← Ha.out]; exact Hle.out) use.length hlt
         exact ⟨ret_bool (by unfold risB; rw [HB, Bool.and_false]; rfl), (by ((with_reducible repeat' first | exact .refl _ _ | exact hBw | refine .alloc ?_ ?_ _ | refine .setCell ?_ ?_ _ | refine .drew ?_ | refine below_drewN ?_ _ | refine Below.trans ?_ (hBw.mono ?_)) <;> first | omega | simp <;> omega))⟩
        ·have d5 : decide (a ≤ iAt use j) = false := decide_eq_false hle
         have Hle := hide hle
         clear hle
         go_wp2_with fail
         go_quiet (fail)
         go_wp2_with fail
         go_roundw
         case rel => exact ⟨k + 1, by omega, by go_num, hide ⟨by rw [inAll, Hall.out.1, Hin.out]; rfl, by have := Hj.out; have hle := Hle.out; have ha := Ha.out; rw [risTo, Hall.out.2, if_neg (by omega), show k - 1 = j by omega, decide_eq_true (by omega)]; rfl⟩, (by ((with_reducible repeat' first | exact .refl _ _ | exact hB | refine .alloc ?_ ?_ _ | refine .setCell ?_ ?_ _ | refine .drew ?_ | refine below_drewN ?_ _ | refine Below.trans ?_ (hB.mono ?_)) <;> first | omega | simp <;> omega))⟩
         case measure => simp [intOf]; omega
    ·go_wp2_with fail
     go_ret
     obtain ⟨a1, a2⟩ := Hall.out
     have hke : k = use.length := by omega
     rw [hke] at a1 a2
     refine ⟨ret_bool ?_, hBw⟩
     unfold risB
     rw [a1, a2]; rfl
set_option maxRecDepth 100000 in
set_option maxHeartbeats 1000000 in
theorem R29Few_any (r f lo tm : Int) (pv : Value) (ps : List Pr) (uv : Value) (use : List Int) (ev : Int) (w : World) (hp : PrRow w pv ps) (hu : IsRow w uv use) :
  Calls Try.prog 14 #[.agg #[.int .i64 r, .int .i64 f, .int .i64 lo, .int .i64 tm, pv], .agg #[uv, .int .i64 ev]] w fun e w' => e = .returned (.bool (decide (ps.length ≤ 20 ∧ use.length ≤ 20))) ∧ Below w.heap.size w w' := by
 obtain ⟨pa, pc, rfl, q1, q2⟩ := hp.len
 obtain ⟨ua, uc, rfl, u1, u2, u3⟩ := hu
 clear u3
 by_cases h1 : ps.length ≤ 20
 ·by_cases h2 : use.length ≤ 20
  ·have d1 : decide ((ps.length : Int) ≤ 20) = true := decide_eq_true (by omega)
   have d2 : decide ((use.length : Int) ≤ 20) = true := decide_eq_true (by omega)
   go_enter Try.func14, Try.ntmps14
   go_wp2_with fail
   go_ret
   exact ⟨ret_bool (by simp [h1, h2]), (by ((with_reducible repeat' first | exact .refl _ _ | refine .alloc ?_ ?_ _ | refine .setCell ?_ ?_ _ | refine .drew ?_ | refine below_drewN ?_ _) <;> first | omega | simp <;> omega))⟩
  ·have d1 : decide ((ps.length : Int) ≤ 20) = true := decide_eq_true (by omega)
   have d2 : decide ((use.length : Int) ≤ 20) = false := decide_eq_false (by omega)
   go_enter Try.func14, Try.ntmps14
   go_wp2_with fail
   go_ret
   exact ⟨ret_bool (by simp [h1, h2]), (by ((with_reducible repeat' first | exact .refl _ _ | refine .alloc ?_ ?_ _ | refine .setCell ?_ ?_ _ | refine .drew ?_ | refine below_drewN ?_ _) <;> first | omega | simp <;> omega))⟩
 ·have d1 : decide ((ps.length : Int) ≤ 20) = false := decide_eq_false (by omega)
  go_enter Try.func14, Try.ntmps14
  go_wp2_with fail
  go_ret
  exact ⟨ret_bool (by simp [h1]), (by ((with_reducible repeat' first | exact .refl _ _ | refine .alloc ?_ ?_ _ | refine .setCell ?_ ?_ _ | refine .drew ?_ | refine below_drewN ?_ _) <;> first | omega | simp <;> omega))⟩
end Go.Proofs.Ytlmcoollkmhanaa
/- The reference of layer 29: Peer, Widths, Width. -/
namespace Go.Proofs.Ytlmcoollkmhanaa
open Go.RowKit

end Go.Proofs.Ytlmcoollkmhanaa
/- The reference of layer 29: Width. -/
namespace Go.Proofs.Ytlmcoollkmhanaa
open Go.RowKit

end Go.Proofs.Ytlmcoollkmhanaa
/- Package belief: At. -/
namespace Go.Proofs.Ytlmcoollkmhanaa
open Go.RowKit
attribute [local go_sem ↓] run_max_mx run_min_mn

end Go.Proofs.Ytlmcoollkmhanaa
