/- Package spread: a game, and the i-th width of the right ones. -/
import Derived.Test.YtiaahfccebmkdaaSpA
namespace Go.Proofs.Ytiaahfccebmkdaa
open Go.RowKit
attribute [local go_sem ↓] run_max_mx run_min_mn

theorem infoIs : (Try.prog.info? 3).map (fun i => (i.zero, i.size, i.bytes)) = some (some (.int .i64 0), 1, 8) := by kernel_rfl
/-- The pointer's block holds a game over the widths l. -/
structure GameAt (W : World) (gb : Nat) (l : List Int) (m k : Nat) (f : Int) : Prop where
  wv : ∃ v, W.cell? ⟨gb, 0, none⟩ = some v ∧ IsRow W v l
  ov : ∃ b off cap, W.cell? ⟨gb, 1, none⟩ = some (.slice (some ⟨b, off, none⟩) l.length cap) ∧ l.length ≤ cap ∧ cap ≤ 9223372036854775807 ∧ b < W.heap.size ∧ ∀ i, i < l.length → W.cell? ⟨b, off + i, none⟩ = some (.int .i64 (nAt (ordL l) i))
  m : W.cell? ⟨gb, 2, none⟩ = some (.int .i64 m)
  k : W.cell? ⟨gb, 3, none⟩ = some (.int .i64 k)
  f : W.cell? ⟨gb, 4, none⟩ = some (.int .i64 f)
  lt : gb < W.heap.size
theorem GameAt.below {W V : World} {gb : Nat} {l : List Int} {m k : Nat} {f : Int} (h : GameAt W gb l m k f) {B : Nat} (hB : W.heap.size ≤ B) (hb : Below B W V) : GameAt V gb l m k f := by
  obtain ⟨⟨v, h1, h2⟩, ⟨b, off, cap, h3, h4, h5, h6, h7⟩, h8, h9, h10, h11⟩ := h
  have hg := fun o => hb.cell (p := ⟨gb, o, none⟩) (Nat.lt_of_lt_of_le h11 hB)
  exact ⟨⟨v, (hg 0).trans h1, h2.below hB hb⟩, ⟨b, off, cap, (hg 1).trans h3, h4, h5, Nat.lt_of_lt_of_le h6 hb.size, fun i hi => (hb.cell (p := ⟨b, off + i, none⟩) (Nat.lt_of_lt_of_le h6 hB)).trans (h7 i hi)⟩,
    (hg 2).trans h8, (hg 3).trans h9, (hg 4).trans h10, Nat.lt_of_lt_of_le h11 hb.size⟩
set_option maxRecDepth 100000 in
set_option maxHeartbeats 400000 in
theorem w_any (gb i : Nat) (l : List Int) (m k : Nat) (f : Int) (w : World) (h : GameAt w gb l m k f) (hi1 : 1 ≤ i) (him : i ≤ m) (hml : m ≤ l.length) (hl : l.length ≤ 1000) :
    Calls Try.prog 87 #[.pointer (some ⟨gb, 0, none⟩), .int .i64 i] w fun e w' => e = .returned (.int .i64 (iAt (srt l) (i - 1))) ∧ ∃ n, w' = w.drewN n := by
  obtain ⟨⟨v, h1, a, cap', rfl, q1, q2, q3⟩, ⟨b, off, cap, h3, h4, h5, h6, h7⟩, h8, h9, h10, h11⟩ := h
  obtain ⟨j, rfl⟩ : ∃ j, i = j + 1 := ⟨i - 1, by omega⟩
  have hc := h7 j (by omega)
  have ho := ordL_bd l j (by omega)
  obtain ⟨b2, off2, rfl, r1, r2⟩ := q3 (nAt (ordL l) j) ho
  have hs := hide (srt_at l j (by omega))
  generalize hx : nAt (ordL l) j = x at *
  clear h7 q3 hx
  have ww : IntKind.i64.wrap ((j : Int) + 1 - 1) = j := by rw [IntWalk.i64_in _ (by omega)]; omega
  have hjm : j < m := by omega
  have hmc : m ≤ cap := by omega
  go_enter Try.func87, Try.ntmps87
  go_wp2
  go_quiet (fail)
  go_wp2
  go_ret
  exact ⟨by rw [show j + 1 - 1 = j by omega, hs.out]; rfl, _, rfl⟩

theorem spA_false {l : List Int} {f lost : Int} (h : spA l f lost = false) : spEr l f lost = 1 := by unfold spEr; rw [if_neg (by simp [h])]
set_option maxRecDepth 100000 in
set_option maxHeartbeats 400000 in
theorem newGame_bad (v : Value) (l : List Int) (f lost : Int) (w : World) (hv : IsRow w v l) (hA : spA l f lost = false) :
    Calls Try.prog 50 #[v, .int .i64 f, .int .i64 lost] w fun e w' => e = .returned (.tuple #[.pointer none, .int .i64 1]) ∧ Below w.heap.size w w' := by
  have hv2 : ∀ o, IsRow (w.alloc o) v l := fun o => hv.below (Nat.le_refl _) ((Below.refl _ _).alloc (Nat.le_refl _) o)
  obtain ⟨a, cap, rfl, h1, h2, h3⟩ := hv
  clear h3
  by_cases p1 : inB l.length 1 16 = true
  case neg =>
    have p1' : inB l.length 1 16 = false := by simpa using p1
    clear p1 hA
    go_enter Try.func50, Try.ntmps50
    go_wp2_with (go_at_call 68; refine (within_any _ _ _ _).mono ?_; rintro e w' ⟨rfl, rfl⟩)
    go_ret2
    exact ⟨rfl, (by ((repeat' (first | exact Below.refl _ _ | refine Below.alloc ?_ ?_ _ | refine Below.setCell ?_ ?_ _ | refine Below.drew ?_ | refine below_drewN ?_ _)) <;> (first | omega | (simp; done) | (simp; omega))))⟩
  by_cases p2 : allW l l.length = true
  case neg =>
    have p2' : allW l l.length = false := by simpa using p2
    clear p2 hA
    go_enter Try.func50, Try.ntmps50
    go_wp2_with (first | (go_at_call 68; refine (within_any _ _ _ _).mono ?_; rintro e w' ⟨rfl, rfl⟩) | (go_at_call 34; refine (ContainsI_any _ l _ (hv2 _)).mono ?_; rintro e w1 ⟨rfl, b1⟩))
    go_ret2
    exact ⟨rfl, (by ((repeat' (first | exact Below.refl _ _ | exact b1 | refine Below.alloc ?_ ?_ _ | refine Below.setCell ?_ ?_ _ | refine Below.drew ?_ | refine below_drewN ?_ _ | refine Below.trans ?_ (b1.mono ?_))) <;> (first | omega | (simp; done) | (simp; omega))))⟩
  by_cases p3 : inB f 0 16 = true
  case neg =>
    have p3' : inB f 0 16 = false := by simpa using p3
    clear p3 hA
    go_enter Try.func50, Try.ntmps50
    go_wp2_with (first | (go_at_call 68; refine (within_any _ _ _ _).mono ?_; rintro e w' ⟨rfl, rfl⟩) | (go_at_call 34; refine (ContainsI_any _ l _ (hv2 _)).mono ?_; rintro e w1 ⟨rfl, b1⟩))
    go_ret2
    exact ⟨rfl, (by ((repeat' (first | exact Below.refl _ _ | exact b1 | refine Below.alloc ?_ ?_ _ | refine Below.setCell ?_ ?_ _ | refine Below.drew ?_ | refine below_drewN ?_ _ | refine Below.trans ?_ (b1.mono ?_))) <;> (first | omega | (simp; done) | (simp; omega))))⟩
  have p4' : inB lost 0 16 = false := by simpa [spA, p1, p2, p3] using hA
  clear hA
  go_enter Try.func50, Try.ntmps50
  go_wp2_with (first | (go_at_call 68; refine (within_any _ _ _ _).mono ?_; rintro e w' ⟨rfl, rfl⟩) | (go_at_call 34; refine (ContainsI_any _ l _ (hv2 _)).mono ?_; rintro e w1 ⟨rfl, b1⟩))
  go_ret2
  exact ⟨rfl, (by ((repeat' (first | exact Below.refl _ _ | exact b1 | refine Below.alloc ?_ ?_ _ | refine Below.setCell ?_ ?_ _ | refine Below.drew ?_ | refine below_drewN ?_ _ | refine Below.trans ?_ (b1.mono ?_))) <;> (first | omega | (simp; done) | (simp; omega))))⟩
set_option maxRecDepth 100000 in
set_option maxHeartbeats 400000 in
theorem newGame_few (v : Value) (l : List Int) (f lost : Int) (w : World) (hv : IsRow w v l) (hA : spA l f lost = true) (hf : ¬ 2 * f < l.length - lost) :
    Calls Try.prog 50 #[v, .int .i64 f, .int .i64 lost] w fun e w' => e = .returned (.tuple #[.pointer none, .int .i64 20]) ∧ Below w.heap.size w w' := by
  have hv2 : ∀ o, IsRow (w.alloc o) v l := fun o => hv.below (Nat.le_refl _) ((Below.refl _ _).alloc (Nat.le_refl _) o)
  obtain ⟨a, cap, rfl, h1, h2, h3⟩ := hv
  simp only [spA, Bool.and_eq_true] at hA
  obtain ⟨⟨⟨p1, p2⟩, p3⟩, p4⟩ := hA
  have b1 := p1
  have b2 := p3
  have b3 := p4
  simp only [inB, decide_eq_true_eq] at b1 b2 b3
  have hle : (l.length : Int) - lost ≤ 2 * f := by omega
  clear h3 hf
  go_enter Try.func50, Try.ntmps50
  go_wp2_with (first | (go_at_call 68; refine (within_any _ _ _ _).mono ?_; rintro e w' ⟨rfl, rfl⟩) | (go_at_call 34; refine (ContainsI_any _ l _ (hv2 _)).mono ?_; rintro e w1 ⟨rfl, hb1⟩; obtain ⟨c1, f1⟩ := bk hb1 w.heap.size (by simp); have hz1 := hb1.size; simp only [World.size_alloc] at hz1))
  go_ret2
  exact ⟨rfl, (by ((repeat' (first | exact Below.refl _ _ | exact hb1 | refine Below.alloc ?_ ?_ _ | refine Below.setCell ?_ ?_ _ | refine Below.drew ?_ | refine below_drewN ?_ _ | refine Below.trans ?_ (hb1.mono ?_))) <;> (first | omega | (simp; done) | (simp; omega))))⟩

theorem toI_range (k : Nat) : toI (List.range (k + 1)) = toI (List.range k) ++ [(k : Int)] := by unfold toI; rw [List.range_succ]; simp
/-- A row of its own, as the sort wants it. -/
theorem own_hold {W : World} {base : Nat} {o : List Nat} {v : Value} (h : OwnIs W base v (toI o)) (h0 : 0 < o.length) : ∃ b cap, v = .slice (some ⟨b, 0, none⟩) o.length cap ∧ base ≤ b ∧ b < W.heap.size ∧ o.length ≤ cap ∧ cap ≤ 9223372036854775807 ∧ Hold W b 0 o := by
  have hl := toI_length o
  obtain ⟨a1, cap1, hv, q1, q2⟩ := h.val
  obtain ⟨g, cap, hv2, hb, hlt⟩ := World.ownsRow.form h (by omega)
  rw [hv] at hv2
  simp only [Value.slice.injEq] at hv2
  obtain ⟨rfl, -, rfl⟩ := hv2
  subst hv
  refine ⟨g, cap1, by rw [hl], hb, hlt, by omega, q2, fun i hi => ?_, fun i => World.ownsRow.frozenAt h i⟩
  have := (World.ownsRow.cellAt h i (by rw [Nat.mul_one]; omega)).trans (encI_at (toI o) i (by omega))
  rw [Nat.zero_add, this, toI_at o i hi]
set_option maxRecDepth 100000 in
set_option maxHeartbeats 1000000 in
theorem newGame_ok (v : Value) (l : List Int) (f lost : Int) (w : World) (hv : IsRow w v l) (hok : spOk l f lost = true) :
    Calls Try.prog 50 #[v, .int .i64 f, .int .i64 lost] w fun e w' => ∃ gb, e = .returned (.tuple #[.pointer (some ⟨gb, 0, none⟩), .int .i64 0]) ∧ w.heap.size ≤ gb ∧ GameAt w' gb l (spM l f lost) (spK l f lost) f ∧ Below w.heap.size w w' := by
  have hv2 : ∀ o, IsRow (w.alloc o) v l := fun o => hv.below (Nat.le_refl _) ((Below.refl _ _).alloc (Nat.le_refl _) o)
  have hv' := hv
  obtain ⟨a, cap, rfl, h1, h2, h3⟩ := hv
  have hok' := hok
  simp only [spOk, spA, Bool.and_eq_true, decide_eq_true_eq] at hok'
  obtain ⟨⟨⟨⟨p1, p2⟩, p3⟩, p4⟩, p5⟩ := hok'
  have b1 := p1
  have b2 := p3
  have b3 := p4
  simp only [inB, decide_eq_true_eq] at b1 b2 b3
  obtain ⟨m1, m2, m3, m4, m5, m6⟩ := sp_mk hok
  have hle : ¬ (l.length : Int) - lost ≤ 2 * f := by omega
  have hown0 : ∀ q, (Value.slice a l.length cap).ownBlock = some q → q < w.heap.size := by
    obtain ⟨b, off, rfl, h4, _⟩ := h3 0 (by omega)
    intro q hq; cases hq; exact h4
  have Hown0 := hide hown0
  have M1 := hide m1
  have M2 := hide m2
  obtain ⟨i0, hi, hz0, hz1, hz2⟩ := info_parts infoIs
  clear h3 hok hown0 m1 m2
  go_enter Try.func50, Try.ntmps50
  go_wp2_with (first | (go_at_call 68; refine (within_any _ _ _ _).mono ?_; rintro e w' ⟨rfl, rfl⟩) | (go_at_call 34; refine (ContainsI_any _ l _ (hv2 _)).mono ?_; rintro e w1 ⟨rfl, hb1⟩; obtain ⟨c1, f1⟩ := bk hb1 w.heap.size (by simp); have hz1' := hb1.size; simp only [World.size_alloc] at hz1'; have hz2' : w.heap.size < w1.heap.size := hz1'))
  have x1 : (w1.alloc (.cells #[.slice a l.length cap, .slice none 0 0, .int .i64 (l.length - lost - f), .int .i64 (l.length - lost - 2 * f), .int .i64 f] 104)).cell? ⟨w.heap.size, 0, none⟩ = some (.slice a l.length cap) := by
    rw [(old1 w1 _ (by omega) 0).1, c1]; simp
  have x2 : Below w.heap.size w (w1.alloc (.cells #[.slice a l.length cap, .slice none 0 0, .int .i64 (l.length - lost - f), .int .i64 (l.length - lost - 2 * f), .int .i64 f] 104)) := (by ((repeat' (first | exact Below.refl _ _ | exact hb1 | refine Below.alloc ?_ ?_ _ | refine Below.setCell ?_ ?_ _ | refine Below.drew ?_ | refine below_drewN ?_ _ | refine Below.trans ?_ (hb1.mono ?_))) <;> (first | omega | (simp; done) | (simp; omega))))
  go_loopw [52] (fun i wr => ∃ (k : Nat) (ov : Value), k ≤ l.length ∧ i = .int .i64 k ∧ wr.cell? ⟨w1.heap.size, 1, none⟩ = some ov ∧ OwnIs wr (w1.heap.size + 1) ov (toI (List.range k)) ∧
      (wr.cell? ⟨w1.heap.size, 0, none⟩ = some (.slice a l.length cap) ∧ wr.cell? ⟨w1.heap.size, 2, none⟩ = some (.int .i64 (l.length - lost - f)) ∧ wr.cell? ⟨w1.heap.size, 3, none⟩ = some (.int .i64 (l.length - lost - 2 * f)) ∧ wr.cell? ⟨w1.heap.size, 4, none⟩ = some (.int .i64 f)) ∧
      (∀ o, wr.frozen? ⟨w1.heap.size, o, none⟩ = false) ∧ wr.cell? ⟨w.heap.size, 0, none⟩ = some (.slice a l.length cap) ∧ w1.heap.size < wr.heap.size ∧ Below w.heap.size w wr) (fun i _ => l.length - (intOf i).toNat)
  case atStart => exact ⟨0, _, Nat.zero_le _, rfl, by simp, OwnIs.nil _ _, ⟨by simp, by simp, by simp, by simp⟩, by simp, x1, by simp, x2⟩
  case round =>
    obtain ⟨k, ov, hk, rfl, y1, hown, ⟨y0, y2, y3, y4⟩, yf, yx, hzr, hB⟩ := hrel
    have hlk := toI_length (List.range k)
    rw [List.length_range] at hlk
    by_cases hlt : k < l.length
    · obtain ⟨oa, ocap, hov, ho1, ho2⟩ := hown.val
      have hlow := World.ownsRow.lt hown
      unfold OwnIs at hown
      rw [hlk] at hown hov
      subst hov
      have Hlk := hide hlk
      clear hlk
      go_wp2_with (at_builtin; refine wpList_append_own _ rfl _ _ 25 rfl (w1.heap.size + 1) 3 i0 (.int .i64 0) 1 8 Try.underlying25 hi hz0 hz1 hz2 rfl (by decide) _ k (encI (toI (List.range k))) rfl (World.ownsRow.alloc hown _) ⟨wr.heap.size, 0, none⟩ 1 1 [.int .i64 k] rfl rfl (cells_new wr [.int .i64 k] _) (by simp [Value.oneCell']) (by unfold maxLen; omega) (by omega) (by simp; omega) ?_; intro v3 w3 hown3 hg3 _; obtain ⟨c3, f3⟩ := grown_keeps hg3 (b := w1.heap.size) (by simp; omega) (fun h => (by have := hlow _ h.symm; omega)); obtain ⟨d3, _⟩ := grown_keeps hg3 (b := w.heap.size) (by simp; omega) (fun h => (by have := hlow _ h.symm; omega)); obtain ⟨a3, cap3, rfl⟩ := ownsRow_val hown3)
      have hz3 := hg3.size
      simp only [World.size_alloc] at hz3
      go_roundw
      case rel =>
        have o1 := fun o => (old1 wr (.cells #[.int .i64 k] 3) hzr o).1
        have e1 := fun o => (c3 o).trans (o1 o)
        refine ⟨k + 1, .slice a3 (k + 1) cap3, by omega, by go_num, World.cell?_setCell_same' _ _ _ (by rw [e1, y1]; rfl), ?_, ⟨?_, ?_, ?_, ?_⟩, fun o => ?_, ?_, by simp; omega, ?_⟩
        · refine ownsRow_setCell_below ?_ (by first | omega | simp) _
          rw [toI_range]
          exact OwnIs.app (by rw [Hlk.out]; exact hown3)
        · exact (World.cell?_setCell_other _ _ _ _ (fun e => by simp at e)).trans ((e1 0).trans y0)
        · exact (World.cell?_setCell_other _ _ _ _ (fun e => by simp at e)).trans ((e1 2).trans y2)
        · exact (World.cell?_setCell_other _ _ _ _ (fun e => by simp at e)).trans ((e1 3).trans y3)
        · exact (World.cell?_setCell_other _ _ _ _ (fun e => by simp at e)).trans ((e1 4).trans y4)
        · rw [World.frozen?_setCell, f3, (old1 wr _ hzr o).2]; exact yf o
        · refine (World.cell?_setCell_other _ _ _ _ (fun e => by (simp at e) <;> omega)).trans ((d3 0).trans (((old1 wr _ (by omega) 0).1).trans yx))
        · exact Below.setCell (((hB.alloc (by omega) _).grown hg3 (by first | omega | (simp; omega)) (fun r h => by have := hlow r h; omega))) (by show w.heap.size ≤ w1.heap.size; omega) _
      case measure => simp [intOf]; omega
    · obtain rfl : k = l.length := by omega
      obtain ⟨b, ocap, rfl, g1, g2, g3, g4, g5⟩ := own_hold hown (by simp; omega)
      rw [List.length_range] at y1 g3
      have hv3 := hv'.below (Nat.le_refl _) hB
      clear hown hlk hv'
      go_wp2_with fail
      refine (sortS_any l w.heap.size b 0 ocap _ _ yx hv3 (by omega) (fun q hq => by have := Hown0.out q hq; omega) g2 (by omega) (by omega) g3 g5).mono ?_
      rintro e w3 ⟨rfl, hs⟩
      go_wp2_with fail
      go_ret2
      have hgc := fun o => grown_cell hs.2 (q := w1.heap.size) hzr (by omega) o
      have hv4 := isrow_grown hv3 hs.2 (fun q hq => by have := Hown0.out q hq; omega)
      have hsz := hs.2.size
      refine ⟨w1.heap.size, rfl, by omega, ⟨⟨_, (hgc 0).trans y0, hv4⟩, ⟨b, 0, ocap, (hgc 1).trans y1, g3, g4, by omega, fun i hi => hs.1.1 i (by rw [ordL_length]; exact hi)⟩, ?_, ?_, (hgc 4).trans y4, by omega⟩, ?_⟩
      · rw [hgc 2, y2, M1.out]
      · rw [hgc 3, y3, M2.out]
      · exact hB.grown hs.2 hB.size (fun q e => by cases e; omega)
end Go.Proofs.Ytiaahfccebmkdaa
