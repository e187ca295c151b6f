/- The examples of the chapter on width: the check that stands in every statement answers true. -/
import Derived.Test.YtbgfgpjgehkdjaaGreatWdK
namespace Go.Proofs.YtbgfgpjgehkdjaaGreat
open Go.RowKit

/-- The cells of a list of peers, one behind the other. -/
def encPs (c : List Pr) : List Value := c.flatMap fun p => (encP p).toList
theorem encPs_length (c : List Pr) : (encPs c).length = c.length * 8 := by
  induction c with
  | nil => rfl
  | cons p c ih =>
    have e : encPs (p :: c) = (encP p).toList ++ encPs c := rfl
    rw [e, List.length_append, ih, List.length_cons]
    simp [encP]; omega
theorem encPs_append (c d : List Pr) : encPs (c ++ d) = encPs c ++ encPs d := by simp [encPs]
theorem encPs_at (c : List Pr) : ∀ i, i < c.length → (encPs c)[i * 8]? = some (.int .i64 (pAt c i).au) ∧ (encPs c)[i * 8 + 1]? = some (.int .i64 (pAt c i).er) ∧ (encPs c)[i * 8 + 2]? = some (.int .i64 (pAt c i).co) ∧ (encPs c)[i * 8 + 3]? = some (.int .i64 (pAt c i).at_) ∧
    (encPs c)[i * 8 + 4]? = some (.int .i64 (pAt c i).ol) ∧ (encPs c)[i * 8 + 5]? = some (.int .i64 (pAt c i).oh) ∧ (encPs c)[i * 8 + 6]? = some (.int .i64 (pAt c i).bl) ∧ (encPs c)[i * 8 + 7]? = some (.int .i64 (pAt c i).bh) := by
  induction c with
  | nil => intro i h; simp at h
  | cons p c ih =>
    intro i h
    have e : encPs (p :: c) = .int .i64 p.au :: .int .i64 p.er :: .int .i64 p.co :: .int .i64 p.at_ :: .int .i64 p.ol :: .int .i64 p.oh :: .int .i64 p.bl :: .int .i64 p.bh :: encPs c := rfl
    cases i with
    | zero => rw [e]; simp [pAt]
    | succ i =>
      have h1 := ih i (by simpa using h)
      rw [e, show (i + 1) * 8 = i * 8 + 1 + 1 + 1 + 1 + 1 + 1 + 1 + 1 by omega]
      simp only [List.getElem?_cons_succ]
      simpa [pAt] using h1
theorem encP_one (c : List Pr) : ∀ u ∈ encPs c, u.oneCell' = true := by
  intro u hu
  simp only [encPs, List.mem_flatMap] at hu
  obtain ⟨p, _, hu⟩ := hu
  simp [encP] at hu
  rcases hu with rfl | rfl | rfl | rfl | rfl | rfl | rfl | rfl <;> rfl
/-- v, of c.length elements, owns a row from block base on, which reads as the peers c. -/
def OwnPs (w : World) (base : Nat) (v : Value) (c : List Pr) : Prop := w.ownsRow base 42 8 v c.length (encPs c)
theorem OwnPs.nil (w : World) (base : Nat) : OwnPs w base (.slice none 0 0) [] := World.ownsRow_nil _ _ _ _
theorem OwnPs.app {w : World} {base : Nat} {v : Value} {c : List Pr} {p : Pr} (h : w.ownsRow base 42 8 v (c.length + 1) (encPs c ++ (encP p).toList)) : OwnPs w base v (c ++ [p]) := by
  unfold OwnPs
  rw [encPs_append, show (c ++ [p]).length = c.length + 1 by simp]
  simpa [encPs] using h
theorem OwnPs.below {w w' : World} {base : Nat} {v : Value} {c : List Pr} (h : OwnPs w base v c) {B : Nat} (hB : w.heap.size ≤ B) (hb : Below B w w') : OwnPs w' base v c := ownsRow_below h (hb.mono hB)
theorem OwnPs.val {w : World} {base : Nat} {v : Value} {c : List Pr} (h : OwnPs w base v c) : ∃ a cap, v = .slice a c.length cap ∧ c.length ≤ cap ∧ cap ≤ 9223372036854775807 := by
  rcases h.2 with ⟨hv, h0⟩ | ⟨g, cap, cur, hv, hg, hc, hn, hm, _⟩
  · exact ⟨none, 0, by rw [hv, h0], by omega, by omega⟩
  · exact ⟨_, cap, hv, hn, hm⟩
theorem OwnPs.row {w : World} {base : Nat} {v : Value} {c : List Pr} (h : OwnPs w base v c) : PrRow w v c := by
  rcases Nat.eq_zero_or_pos c.length with h0 | h0
  · have hc : c = [] := List.eq_nil_of_length_eq_zero h0
    subst hc
    rcases h.2 with ⟨hv, _⟩ | ⟨g, cap, cur, hv, hg, hc, hn, hm, _⟩
    · exact ⟨none, 0, hv, Nat.le_refl _, by omega, fun i hi => by simp at hi⟩
    · exact ⟨_, cap, hv, hn, hm, fun i hi => by simp at hi⟩
  · obtain ⟨g, cap, rfl, hb, hlt⟩ := World.ownsRow.form h h0
    have hcap : c.length ≤ cap ∧ cap ≤ maxLen := by
      rcases h.2 with ⟨hv, _⟩ | ⟨g', cap', cur, hv, hg, hc, hn, hm, _⟩
      · simp at hv
      · simp only [Value.slice.injEq] at hv; obtain ⟨-, -, rfl⟩ := hv; exact ⟨hn, hm⟩
    refine ⟨_, cap, rfl, hcap.1, hcap.2, fun i hi => ⟨g, 0, rfl, hlt, ?_⟩⟩
    obtain ⟨e0, e1, e2, e3, e4, e5, e6, e7⟩ := encPs_at c i hi
    rw [Nat.zero_add]
    exact ⟨(World.ownsRow.cellAt h _ (by omega)).trans e0, (World.ownsRow.cellAt h _ (by omega)).trans e1, (World.ownsRow.cellAt h _ (by omega)).trans e2, (World.ownsRow.cellAt h _ (by omega)).trans e3,
      (World.ownsRow.cellAt h _ (by omega)).trans e4, (World.ownsRow.cellAt h _ (by omega)).trans e5, (World.ownsRow.cellAt h _ (by omega)).trans e6, (World.ownsRow.cellAt h _ (by omega)).trans e7⟩
theorem infoPr : (Tryz.prog.info? 42).map (fun i => (i.zero, i.size, i.bytes)) = some (some (.agg #[.int .i64 0, .int .i64 0, .int .i64 0, .int .i64 0, .int .i64 0, .int .i64 0, .int .i64 0, .int .i64 0]), 8, 64) := by kernel_rfl
def exP (i : Nat) : Pr := ⟨(i : Int) + 1, 3, 0, 0, 10, 12, 1, 2⟩
def exL (n : Nat) : List Pr := (List.range n).map exP
theorem exL_length (n : Nat) : (exL n).length = n := by simp [exL]
theorem exL_snoc (n : Nat) : exL (n + 1) = exL n ++ [exP n] := by simp [exL, List.range_succ]
set_option maxRecDepth 100000 in
set_option maxHeartbeats 1000000 in
theorem example_any (n : Nat) (hn : n ≤ 100) (w : World) : Calls Tryz.prog 15 #[.int .i64 n] w fun e w' => ∃ pv, e = .returned (.agg #[.int .i64 0, .int .i64 1, .int .i64 0, .int .i64 20, pv]) ∧ PrRow w' pv (exL n) ∧ Below w.heap.size w w' := by
  obtain ⟨i0, hi0, hz0, hz1, hz2⟩ := info_parts infoPr
  go_enter Tryz.func15, Tryz.ntmps15
  go_wp2
  go_loopw [4] (fun s4 wx => ∃ (k : Nat) (ov : Value), k ≤ n ∧ s4 = .int .i64 k ∧ wx.cell? ⟨w.heap.size + 1, 4, none⟩ = some ov ∧ OwnPs wx (w.heap.size + 2) ov (exL k) ∧ (wx.cell? ⟨w.heap.size + 1, 0, none⟩ = some (.int .i64 0) ∧ wx.cell? ⟨w.heap.size + 1, 1, none⟩ = some (.int .i64 1) ∧ wx.cell? ⟨w.heap.size + 1, 2, none⟩ = some (.int .i64 0) ∧ wx.cell? ⟨w.heap.size + 1, 3, none⟩ = some (.int .i64 20)) ∧ (∀ o, wx.frozen? ⟨w.heap.size + 1, o, none⟩ = false) ∧
      ((∃ z0, wx.cell? ⟨w.heap.size, 0, none⟩ = some z0) ∧ (∃ z1, wx.cell? ⟨w.heap.size, 1, none⟩ = some z1) ∧ (∃ z2, wx.cell? ⟨w.heap.size, 2, none⟩ = some z2) ∧ (∃ z3, wx.cell? ⟨w.heap.size, 3, none⟩ = some z3) ∧ (∃ z4, wx.cell? ⟨w.heap.size, 4, none⟩ = some z4) ∧ (∀ o, wx.frozen? ⟨w.heap.size, o, none⟩ = false)) ∧ w.heap.size + 2 ≤ wx.heap.size ∧ Below w.heap.size w wx) (fun s4 _ => n - (intOf s4).toNat)
  case atStart => exact ⟨0, _, Nat.zero_le _, rfl, by simp, OwnPs.nil _ _, ⟨by simp, by simp, by simp, by simp⟩, by simp, ⟨by simp, by simp, by simp, by simp, by simp, by simp⟩, by simp, (by ((repeat' (first | with_reducible exact Below.refl _ _ | with_reducible refine Below.alloc ?_ ?_ _ | with_reducible refine Below.setCell ?_ ?_ _ | with_reducible refine Below.drew ?_ | with_reducible refine below_drewN ?_ _)) <;> (first | omega | (simp; done) | (simp; omega))))⟩
  case round =>
    obtain ⟨k, ov, hk, rfl, y4, hown, ⟨y0, y1, y2, y3⟩, yf, ⟨⟨z0, x0⟩, ⟨z1, x1⟩, ⟨z2, x2⟩, ⟨z3, x3⟩, ⟨z4, x4⟩, xf⟩, hzr, hB⟩ := hrel
    by_cases hlt : k < n
    · obtain ⟨oa, ocap, hov, ho1, ho2⟩ := hown.val
      have hlow := World.ownsRow.lt hown
      have hlk := exL_length k
      have hown' := hown
      unfold OwnPs at hown'
      rw [hlk] at hown' hov
      subst hov
      have Hlk := hide hlk
      have hzA : w.heap.size + 1 < wr.heap.size := by omega
      have hzB : w.heap.size < wr.heap.size := by omega
      clear hlk hown
      go_wp2_with (at_builtin; refine wpList_append_own _ rfl _ _ 22 rfl (w.heap.size + 2) 42 i0 (.agg #[.int .i64 0, .int .i64 0, .int .i64 0, .int .i64 0, .int .i64 0, .int .i64 0, .int .i64 0, .int .i64 0]) 8 64 Tryz.underlying22 hi0 hz0 hz1 hz2 rfl (by decide) _ k (encPs (exL k)) rfl (World.ownsRow.alloc hown' _) ⟨wr.heap.size, 0, none⟩ 1 1 (encP (exP k)).toList rfl rfl (cells_new wr (encP (exP k)).toList _) (by simp [Value.oneCell', encP]) (by unfold maxLen; omega) (by omega) (by simp; omega) ?_; intro v3 w3 hown3 hg3 _; obtain ⟨c3, f3⟩ := grown_keeps hg3 (b := w.heap.size + 1) (by simp; omega) (fun h => (by have := hlow _ h.symm; omega)); obtain ⟨d3, g3⟩ := grown_keeps hg3 (b := w.heap.size) (by simp; omega) (fun h => (by have := hlow _ h.symm; omega)); obtain ⟨a3, cap3, rfl⟩ := ownsRow_val hown3)
      have hz3 := hg3.size
      simp only [World.size_alloc] at hz3
      go_roundw
      case rel =>
        have e1 := fun o => (c3 o).trans (old1 wr (.cells (encP (exP k)) 42) (show w.heap.size + 1 < wr.heap.size by omega) o).1
        have e2 := fun o => (d3 o).trans (old1 wr (.cells (encP (exP k)) 42) (show w.heap.size < wr.heap.size by omega) o).1
        have n1 : ∀ o, (⟨w.heap.size + 1, 4, none⟩ : Addr) ≠ ⟨w.heap.size, o, none⟩ := fun o e => by simp at e
        refine ⟨k + 1, .slice a3 (k + 1) cap3, by omega, by go_num, World.cell?_setCell_same' _ _ _ (by rw [e1, y4]; rfl), ?_, ⟨?_, ?_, ?_, ?_⟩, fun o => ?_, ⟨⟨z0, ?_⟩, ⟨z1, ?_⟩, ⟨z2, ?_⟩, ⟨z3, ?_⟩, ⟨z4, ?_⟩, fun o => ?_⟩, by simp; omega, ?_⟩
        · refine ownsRow_setCell_below ?_ (by first | omega | simp) _
          rw [exL_snoc]
          exact OwnPs.app (by rw [Hlk.out]; exact hown3)
        · exact (World.cell?_setCell_other _ _ _ _ (fun e => by simp at e)).trans ((e1 0).trans y0)
        · exact (World.cell?_setCell_other _ _ _ _ (fun e => by simp at e)).trans ((e1 1).trans y1)
        · exact (World.cell?_setCell_other _ _ _ _ (fun e => by simp at e)).trans ((e1 2).trans y2)
        · exact (World.cell?_setCell_other _ _ _ _ (fun e => by simp at e)).trans ((e1 3).trans y3)
        · rw [World.frozen?_setCell, f3, (old1 wr _ (show w.heap.size + 1 < wr.heap.size by omega) o).2]; exact yf o
        · exact (World.cell?_setCell_other _ _ _ _ (n1 0)).trans ((e2 0).trans x0)
        · exact (World.cell?_setCell_other _ _ _ _ (n1 1)).trans ((e2 1).trans x1)
        · exact (World.cell?_setCell_other _ _ _ _ (n1 2)).trans ((e2 2).trans x2)
        · exact (World.cell?_setCell_other _ _ _ _ (n1 3)).trans ((e2 3).trans x3)
        · exact (World.cell?_setCell_other _ _ _ _ (n1 4)).trans ((e2 4).trans x4)
        · rw [World.frozen?_setCell, g3, (old1 wr _ (show w.heap.size < wr.heap.size by omega) o).2]; exact xf o
        · exact Below.setCell (((hB.alloc (by omega) _).grown hg3 (by first | omega | (simp; omega)) (fun r h => by have := hlow r h; omega))) (by show w.heap.size ≤ w.heap.size + 1; omega) _
      case measure => simp [intOf]; omega
    · obtain rfl : k = n := by omega
      obtain ⟨oa, ocap, hov, ho1, ho2⟩ := hown.val
      subst hov
      go_wp2_with fail
      refine bodyPost_ret (v := .agg #[.int .i64 0, .int .i64 1, .int .i64 0, .int .i64 20, .slice oa (exL k).length ocap]) (by simp [results, Tryz.results15, go_sem, *]) rfl ⟨_, rfl, ?_, (by ((repeat' (first | with_reducible exact Below.refl _ _ | with_reducible exact hB | with_reducible refine Below.alloc ?_ ?_ _ | with_reducible refine Below.setCell ?_ ?_ _ | with_reducible refine Below.drew ?_ | with_reducible refine below_drewN ?_ _ | with_reducible refine Below.trans ?_ (hB.mono ?_))) <;> (first | omega | (simp; done) | (simp; omega))))⟩
      refine OwnPs.row (base := w.heap.size + 2) ?_
      unfold OwnPs
      repeat (refine ownsRow_setCell_below ?_ (by first | omega | simp) _)
      exact hown
end Go.Proofs.YtbgfgpjgehkdjaaGreat
