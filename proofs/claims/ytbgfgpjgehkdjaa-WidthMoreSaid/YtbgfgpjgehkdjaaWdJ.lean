/- The reference of layer 29: Peer, Widths, Width. -/
import Derived.Test.YtbgfgpjgehkdjaaWdI
import Derived.Test.YtbgfgpjgehkdjaaWdG
import Derived.Test.YtbgfgpjgehkdjaaSpL
namespace Go.Proofs.Ytbgfgpjgehkdjaa
open Go.RowKit

set_option maxRecDepth 100000 in
set_option maxHeartbeats 1000000 in
theorem R29Peer_any (r f lo tm : Int) (pv : Value) (ps : List Pr) (i : Int) (w : World) (hp : PrRow w pv ps) :
    Calls Try.prog 16 #[.agg #[.int .i64 r, .int .i64 f, .int .i64 lo, .int .i64 tm, pv], .int .i64 i] w fun e w' => e = .returned (.tuple #[.int .i64 (pkW ⟨r, f, lo, tm, ps⟩ i), .int .i64 (pkE ⟨r, f, lo, tm, ps⟩ i)]) ∧ Below w.heap.size w w' := by
  have hp0 := hp
  obtain ⟨pa, pc, rfl, q1, q2, q3⟩ := hp
  have hP : ∀ W : World, Below w.heap.size w W → PrRow W (.slice pa ps.length pc) ps := fun W hW => hp0.below (Nat.le_refl _) hW
  have HP := hide hP
  clear hP hp0
  cases h1 : siB ⟨r, f, lo, tm, ps⟩ with
  | false =>
    have e0 : pkB ⟨r, f, lo, tm, ps⟩ i = false := by unfold pkB; rw [h1]; rfl
    have e1 : pkW ⟨r, f, lo, tm, ps⟩ i = 0 := by unfold pkW; rw [e0]; rfl
    have e2 : pkE ⟨r, f, lo, tm, ps⟩ i = 1 := by unfold pkE; rw [e0]; rfl
    rw [e1, e2]
    clear e0 e1 e2 q3
    go_enter Try.func16, Try.ntmps16
    go_wp2_with (go_at_call 12; (with_reducible refine (R29Valid_any r f lo tm _ ps _ (HP.out _ (by ((repeat' (first | with_reducible exact Below.refl _ _ | with_reducible refine Below.alloc ?_ ?_ _ | with_reducible refine Below.setCell ?_ ?_ _ | with_reducible refine Below.drew ?_ | with_reducible refine below_drewN ?_ _)) <;> (first | omega | (simp; done) | (simp; omega)))))).mono ?_); rintro e w1 ⟨rfl, b1⟩; rw [h1])
    go_ret2
    exact ⟨rfl, (by ((repeat' (first | with_reducible exact Below.refl _ _ | with_reducible exact b1 | with_reducible refine Below.alloc ?_ ?_ _ | with_reducible refine Below.setCell ?_ ?_ _ | with_reducible refine Below.drew ?_ | with_reducible refine below_drewN ?_ _ | with_reducible refine Below.trans ?_ (b1.mono ?_))) <;> (first | omega | (simp; done) | (simp; omega))))⟩
  | true =>
    by_cases h2 : 0 ≤ i ∧ i < ps.length
    · have e0 : pkB ⟨r, f, lo, tm, ps⟩ i = true := by unfold pkB; rw [h1]; simp only; rw [decide_eq_true h2]; rfl
      have e1 : pkW ⟨r, f, lo, tm, ps⟩ i = pWd (pAt ps i.toNat) := by unfold pkW; rw [e0]; rfl
      have e2 : pkE ⟨r, f, lo, tm, ps⟩ i = 0 := by unfold pkE; rw [e0]; rfl
      obtain ⟨q, rfl⟩ : ∃ q : Nat, i = q := ⟨i.toNat, by omega⟩
      rw [Int.toNat_natCast] at e1
      rw [e1, e2]
      have hql : q < ps.length := by omega
      obtain ⟨pb, po, rfl, q4, q5⟩ := q3 q hql
      obtain ⟨k1, k2, k3⟩ := si_wd h1 q hql
      simp only at k1 k2 k3
      generalize pAt ps q = p at *
      have I1 : (0 : Int) ≤ (q : Int) := by omega
      have I2 : (q : Int) < (ps.length : Int) := by omega
      have Hq5 := hide q5
      clear e0 e1 e2 q5 q3 h2
      go_enter Try.func16, Try.ntmps16
      go_wp2_with fail
      (with_reducible refine (R29Valid_any r f lo tm _ ps _ (HP.out _ (by ((repeat' (first | with_reducible exact Below.refl _ _ | with_reducible refine Below.alloc ?_ ?_ _ | with_reducible refine Below.setCell ?_ ?_ _ | with_reducible refine Below.drew ?_ | with_reducible refine below_drewN ?_ _)) <;> (first | omega | (simp; done) | (simp; omega)))))).mono ?_)
      rintro e w1 ⟨rfl, b1⟩
      rw [h1]
      have z1 : w.heap.size + 1 ≤ w1.heap.size := by have := b1.size; simpa using this
      have hb1 : Below w.heap.size w w1 := (by ((repeat' (first | with_reducible exact Below.refl _ _ | with_reducible exact b1 | with_reducible refine Below.alloc ?_ ?_ _ | with_reducible refine Below.setCell ?_ ?_ _ | with_reducible refine Below.drew ?_ | with_reducible refine below_drewN ?_ _ | with_reducible refine Below.trans ?_ (b1.mono ?_))) <;> (first | omega | (simp; done) | (simp; omega))))
      obtain ⟨kb1_0, fb1_0, zb1_0, zab1_0, zbb1_0, zcb1_0, zdb1_0, zeb1_0⟩ := bk3 b1 (w.heap.size) (by first | omega | (simp; done) | (simp; omega))
      obtain ⟨p0, p1, p2, p3, p4, p5, p6, p7⟩ := Hq5.out.below hb1 q4
      go_wp2_with fail
      refine (R29one_any p _ k1 k2 k3).mono ?_
      rintro e w2 ⟨rfl, b2⟩
      go_wp2_with fail
      go_ret2
      exact ⟨rfl, (by ((repeat' (first | with_reducible exact Below.refl _ _ | with_reducible exact b2 | with_reducible exact hb1 | with_reducible refine Below.alloc ?_ ?_ _ | with_reducible refine Below.setCell ?_ ?_ _ | with_reducible refine Below.drew ?_ | with_reducible refine below_drewN ?_ _ | with_reducible refine Below.trans ?_ (b2.mono ?_) | with_reducible refine Below.trans ?_ (hb1.mono ?_))) <;> (first | omega | (simp; done) | (simp; omega))))⟩
    · have e0 : pkB ⟨r, f, lo, tm, ps⟩ i = false := by unfold pkB; rw [h1]; simp only; rw [decide_eq_false h2]; rfl
      have e1 : pkW ⟨r, f, lo, tm, ps⟩ i = 0 := by unfold pkW; rw [e0]; rfl
      have e2 : pkE ⟨r, f, lo, tm, ps⟩ i = 1 := by unfold pkE; rw [e0]; rfl
      rw [e1, e2]
      clear e0 e1 e2 q3
      by_cases h3 : i < 0
      · clear h2
        go_enter Try.func16, Try.ntmps16
        go_wp2_with (go_at_call 12; (with_reducible refine (R29Valid_any r f lo tm _ ps _ (HP.out _ (by ((repeat' (first | with_reducible exact Below.refl _ _ | with_reducible refine Below.alloc ?_ ?_ _ | with_reducible refine Below.setCell ?_ ?_ _ | with_reducible refine Below.drew ?_ | with_reducible refine below_drewN ?_ _)) <;> (first | omega | (simp; done) | (simp; omega)))))).mono ?_); rintro e w1 ⟨rfl, b1⟩; obtain ⟨kb1_0, fb1_0, zb1_0, zab1_0, zbb1_0, zcb1_0, zdb1_0, zeb1_0⟩ := bk3 b1 (w.heap.size) (by first | omega | (simp; done) | (simp; omega)); rw [h1])
        go_ret2
        exact ⟨rfl, (by ((repeat' (first | with_reducible exact Below.refl _ _ | with_reducible exact b1 | with_reducible refine Below.alloc ?_ ?_ _ | with_reducible refine Below.setCell ?_ ?_ _ | with_reducible refine Below.drew ?_ | with_reducible refine below_drewN ?_ _ | with_reducible refine Below.trans ?_ (b1.mono ?_))) <;> (first | omega | (simp; done) | (simp; omega))))⟩
      · have h4 : (ps.length : Int) ≤ i := by omega
        clear h2
        go_enter Try.func16, Try.ntmps16
        go_wp2_with (go_at_call 12; (with_reducible refine (R29Valid_any r f lo tm _ ps _ (HP.out _ (by ((repeat' (first | with_reducible exact Below.refl _ _ | with_reducible refine Below.alloc ?_ ?_ _ | with_reducible refine Below.setCell ?_ ?_ _ | with_reducible refine Below.drew ?_ | with_reducible refine below_drewN ?_ _)) <;> (first | omega | (simp; done) | (simp; omega)))))).mono ?_); rintro e w1 ⟨rfl, b1⟩; obtain ⟨kb1_0, fb1_0, zb1_0, zab1_0, zbb1_0, zcb1_0, zdb1_0, zeb1_0⟩ := bk3 b1 (w.heap.size) (by first | omega | (simp; done) | (simp; omega)); rw [h1])
        go_ret2
        exact ⟨rfl, (by ((repeat' (first | with_reducible exact Below.refl _ _ | with_reducible exact b1 | with_reducible refine Below.alloc ?_ ?_ _ | with_reducible refine Below.setCell ?_ ?_ _ | with_reducible refine Below.drew ?_ | with_reducible refine below_drewN ?_ _ | with_reducible refine Below.trans ?_ (b1.mono ?_))) <;> (first | omega | (simp; done) | (simp; omega))))⟩
theorem wdL_take (ps : List Pr) (use : List Int) (k : Nat) (h : k < use.length) : wdL ps (use.take (k + 1)) = wdL ps (use.take k) ++ [pWd (pAt ps (iAt use k).toNat)] := by
  rw [take_snoc_is use k h]; simp [wdL]
set_option maxRecDepth 100000 in
set_option maxHeartbeats 1000000 in
theorem R29Widths_any (r f lo tm : Int) (pv : Value) (ps : List Pr) (uv : Value) (use : List Int) (ev : Int) (w : World) (hp : PrRow w pv ps) (hu : IsRow w uv use) (hul : use.length ≤ 1000) (hin : ∀ j, j < use.length → 0 ≤ iAt use j ∧ iAt use j < ps.length)
    (hok : ∀ j, j < ps.length → (0 ≤ (pAt ps j).er ∧ (pAt ps j).er ≤ 1000000) ∧ (0 ≤ (pAt ps j).ol ∧ (pAt ps j).ol ≤ 1000000) ∧ (0 ≤ (pAt ps j).oh ∧ (pAt ps j).oh ≤ 1000000)) :
    Calls Try.prog 44 #[.agg #[.int .i64 r, .int .i64 f, .int .i64 lo, .int .i64 tm, pv], .agg #[uv, .int .i64 ev]] w fun e w' => ∃ ov, e = .returned ov ∧ OwnIs w' w.heap.size ov (wdL ps use) ∧ Below w.heap.size w w' := by
  obtain ⟨i0, hi0, hz0, hz1, hz2⟩ := info_parts infoInt
  obtain ⟨pa, pc, rfl, q1, q2, q3⟩ := hp
  obtain ⟨ua, uc, rfl, u1, u2, u3⟩ := hu
  have Hq3 := hide q3
  have Hu3 := hide u3
  have Hin := hide hin
  have Hok := hide hok
  have hS : ∀ W : World, Below (w.heap.size + 2) ((w.alloc (.cells #[.int .i64 r, .int .i64 f, .int .i64 lo, .int .i64 tm, .slice pa ps.length pc] 24)).alloc (.cells #[.slice ua use.length uc, .int .i64 ev] 27)) W → W.cell? ⟨w.heap.size, 0, none⟩ = some (.int .i64 r) ∧ W.cell? ⟨w.heap.size, 1, none⟩ = some (.int .i64 f) ∧ W.cell? ⟨w.heap.size, 2, none⟩ = some (.int .i64 lo) ∧ W.cell? ⟨w.heap.size, 3, none⟩ = some (.int .i64 tm) ∧ W.cell? ⟨w.heap.size, 4, none⟩ = some (.slice pa ps.length pc) ∧ W.cell? ⟨w.heap.size + 1, 0, none⟩ = some (.slice ua use.length uc) ∧ W.cell? ⟨w.heap.size + 1, 1, none⟩ = some (.int .i64 ev) := by
    intro W hW
    have hc := (bk hW w.heap.size (by omega)).1
    have hd := (bk hW (w.heap.size + 1) (by omega)).1
    exact ⟨(hc 0).trans (by simp), (hc 1).trans (by simp), (hc 2).trans (by simp), (hc 3).trans (by simp), (hc 4).trans (by simp), (hd 0).trans (by simp), (hd 1).trans (by simp)⟩
  have HS := hide hS
  clear hS q3 u3 hin hok
  go_enter Try.func44, Try.ntmps44
  go_wp2
  go_loopw [5, 6] (fun s5 s6 wx => ∃ k : Nat, k ≤ use.length ∧ s6 = .int .i64 k ∧ OwnIs wx (w.heap.size + 2) s5 (wdL ps (use.take k)) ∧ Below (w.heap.size + 2) ((w.alloc (.cells #[.int .i64 r, .int .i64 f, .int .i64 lo, .int .i64 tm, .slice pa ps.length pc] 24)).alloc (.cells #[.slice ua use.length uc, .int .i64 ev] 27)) wx) (fun _ s6 _ => use.length - (intOf s6).toNat)
  case atStart => exact ⟨0, Nat.zero_le _, rfl, by rw [List.take_zero]; exact OwnIs.nil _ _, Below.refl _ _⟩
  case round =>
    obtain ⟨k, hk, rfl, hown, hB⟩ := hrel
    have hBw : Below w.heap.size w wr := (((Below.refl _ _).alloc (Nat.le_refl _) _).alloc (by simp) _).trans (hB.mono (by omega))
    have hzr : w.heap.size + 2 ≤ wr.heap.size := by have := hB.size; simpa using this
    by_cases hlt : k < use.length
    · obtain ⟨ub, uo, rfl, u4, u5⟩ := Hu3.out k hlt
      have hki := Hin.out k hlt
      obtain ⟨q, hq⟩ : ∃ q : Nat, iAt use k = q := ⟨(iAt use k).toNat, by omega⟩
      rw [hq] at u5 hki
      have hql : q < ps.length := by omega
      obtain ⟨pb, po, rfl, q4, q5⟩ := Hq3.out q hql
      have hlk : (wdL ps (use.take k)).length = k := by rw [wdL_length, List.length_take]; omega
      have hsn := wdL_take ps use k hlt
      rw [hq, Int.toNat_natCast] at hsn
      have I1 : (0 : Int) ≤ (q : Int) := by omega
      have I2 : (q : Int) < (ps.length : Int) := by omega
      have I3 : (0 : Int) ≤ (k : Int) := by omega
      have I4 : (k : Int) < (use.length : Int) := by omega
      obtain ⟨oa, ocap, hov, ho1, ho2⟩ := hown.val
      have hlow := World.ownsRow.lt hown
      have hown' := hown
      unfold OwnIs at hown'
      rw [hlk] at hown' hov
      subst hov
      obtain ⟨hk1, hk2, hk3⟩ := Hok.out q hql
      have Hlk := hide hlk
      have Hsn := hide hsn
      have Hq := hide hq
      have zd : wr.drew.heap.size = wr.heap.size := rfl
      generalize hP : pAt ps q = p at *
      have hT : ∀ W : World, Below (w.heap.size + 2) ((w.alloc (.cells #[.int .i64 r, .int .i64 f, .int .i64 lo, .int .i64 tm, .slice (some ⟨pb, po, none⟩) ps.length pc] 24)).alloc (.cells #[.slice (some ⟨ub, uo, none⟩) use.length uc, .int .i64 ev] 27)) W → W.cell? ⟨pb, po + q * 8, none⟩ = some (.int .i64 p.au) ∧ W.cell? ⟨pb, po + q * 8 + 1, none⟩ = some (.int .i64 p.er) ∧ W.cell? ⟨pb, po + q * 8 + 2, none⟩ = some (.int .i64 p.co) ∧ W.cell? ⟨pb, po + q * 8 + 3, none⟩ = some (.int .i64 p.at_) ∧ W.cell? ⟨pb, po + q * 8 + 4, none⟩ = some (.int .i64 p.ol) ∧ W.cell? ⟨pb, po + q * 8 + 5, none⟩ = some (.int .i64 p.oh) ∧ W.cell? ⟨pb, po + q * 8 + 6, none⟩ = some (.int .i64 p.bl) ∧ W.cell? ⟨pb, po + q * 8 + 7, none⟩ = some (.int .i64 p.bh) ∧ W.cell? ⟨w.heap.size, 4, none⟩ = some (.slice (some ⟨pb, po, none⟩) ps.length pc) ∧ W.cell? ⟨w.heap.size + 1, 0, none⟩ = some (.slice (some ⟨ub, uo, none⟩) use.length uc) ∧ W.cell? ⟨ub, uo + k, none⟩ = some (.int .i64 (q : Int)) := by
        intro W hW
        have hWw : Below w.heap.size w W := (((Below.refl _ _).alloc (Nat.le_refl _) _).alloc (by simp) _).trans (hW.mono (by omega))
        obtain ⟨p0, p1, p2, p3, p4, p5, p6, p7⟩ := q5.below hWw q4
        obtain ⟨y0, y1, y2, y3, y4, x0, x1⟩ := HS.out W hW
        exact ⟨p0, p1, p2, p3, p4, p5, p6, p7, y4, x0, (hWw.cell (p := ⟨ub, uo + k, none⟩) u4).trans u5⟩
      have HT := hide hT
      obtain ⟨p0, p1, p2, p3, p4, p5, p6, p7, y4, x0, x2⟩ := hT wr hB
      clear hlk hsn hq hown u5 q5 hP hT
      go_wp2_with fail
      go_region_held3 (fun W => W.cell? ⟨pb, po + q * 8, none⟩ = some (.int .i64 p.au) ∧ W.cell? ⟨pb, po + q * 8 + 1, none⟩ = some (.int .i64 p.er) ∧ W.cell? ⟨pb, po + q * 8 + 2, none⟩ = some (.int .i64 p.co) ∧ W.cell? ⟨pb, po + q * 8 + 3, none⟩ = some (.int .i64 p.at_) ∧ W.cell? ⟨pb, po + q * 8 + 4, none⟩ = some (.int .i64 p.ol) ∧ W.cell? ⟨pb, po + q * 8 + 5, none⟩ = some (.int .i64 p.oh) ∧ W.cell? ⟨pb, po + q * 8 + 6, none⟩ = some (.int .i64 p.bl) ∧ W.cell? ⟨pb, po + q * 8 + 7, none⟩ = some (.int .i64 p.bh) ∧ W.cell? ⟨w.heap.size, 4, none⟩ = some (.slice (some ⟨pb, po, none⟩) ps.length pc) ∧ W.cell? ⟨w.heap.size + 1, 0, none⟩ = some (.slice (some ⟨ub, uo, none⟩) use.length uc) ∧ W.cell? ⟨ub, uo + k, none⟩ = some (.int .i64 (q : Int))) (exact HT.out _ (by ((repeat' (first | with_reducible exact Below.refl _ _ | with_reducible exact hB3 | with_reducible exact b1 | with_reducible exact hB | with_reducible refine Below.alloc ?_ ?_ _ | with_reducible refine Below.setCell ?_ ?_ _ | with_reducible refine Below.drew ?_ | with_reducible refine below_drewN ?_ _ | with_reducible refine Below.trans ?_ (hB3.mono ?_) | with_reducible refine Below.trans ?_ (b1.mono ?_) | with_reducible refine Below.trans ?_ (hB.mono ?_))) <;> (first | omega | (simp; done) | (simp; omega)))))
        (first | (go_at_call 39; (with_reducible refine (R29one_any p _ hk1 hk2 hk3).mono ?_); rintro e w1 ⟨rfl, b1⟩; have z1 := b1.size) | ((refine step_append_own rfl (.tmp 14) (.tmp 25) 25 rfl (w.heap.size + 2) 3 i0 (.int .i64 0) 1 8 Try.underlying25 hi0 hz0 hz1 hz2 rfl (by decide) _ k _ (by simp [Act.eval]) (World.ownsRow.alloc (ownsRow_below hown' (by ((repeat' (first | with_reducible exact Below.refl _ _ | with_reducible exact b1 | with_reducible refine Below.alloc ?_ ?_ _ | with_reducible refine Below.setCell ?_ ?_ _ | with_reducible refine Below.drew ?_ | with_reducible refine below_drewN ?_ _ | with_reducible refine Below.trans ?_ (b1.mono ?_))) <;> (first | omega | (simp; done) | (simp; omega))))) _) ⟨w1.heap.size, 0, none⟩ 1 1 [.int .i64 (pWd p)] (by simp [Act.eval]) rfl (cells_new w1 [.int .i64 (pWd p)] _) (by simp [Value.oneCell']) (by unfold maxLen; omega) (by omega) (by have := b1.size; first | omega | (simp; omega)) ?_; intro v3 w3 hown3 hg3; have hB3 : Below (w.heap.size + 2) ((w.alloc (.cells #[.int .i64 r, .int .i64 f, .int .i64 lo, .int .i64 tm, .slice (some ⟨pb, po, none⟩) ps.length pc] 24)).alloc (.cells #[.slice (some ⟨ub, uo, none⟩) use.length uc, .int .i64 ev] 27)) w3 := Below.grown (by ((repeat' (first | with_reducible exact Below.refl _ _ | with_reducible exact b1 | with_reducible exact hB | with_reducible refine Below.alloc ?_ ?_ _ | with_reducible refine Below.setCell ?_ ?_ _ | with_reducible refine Below.drew ?_ | with_reducible refine below_drewN ?_ _ | with_reducible refine Below.trans ?_ (b1.mono ?_) | with_reducible refine Below.trans ?_ (hB.mono ?_))) <;> (first | omega | (simp; done) | (simp; omega)))) hg3 (by have := b1.size; first | omega | (simp; omega)) (fun r h => (hlow r h).1))))
      go_wp2
      go_roundw
      case rel => exact ⟨k + 1, by omega, by go_num, by rw [Hsn.out]; exact OwnIs.app (by rw [Hlk.out]; exact hown3), hB3⟩
      case measure => simp [intOf]; omega
    · obtain rfl : k = use.length := by omega
      rw [List.take_length] at hown
      obtain ⟨y0, y1, y2, y3, y4, x0, x1⟩ := HS.out wr hB
      go_wp2_with fail
      go_ret
      exact ⟨_, rfl, World.ownsRow.mono hown (by omega), hBw⟩
end Go.Proofs.Ytbgfgpjgehkdjaa
