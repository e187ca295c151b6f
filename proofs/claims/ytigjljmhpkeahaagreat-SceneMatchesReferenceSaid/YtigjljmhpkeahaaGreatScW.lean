
/- The examples of the chapter on scenes: the check that stands in every statement answers true. -/
import Derived.Test.YtigjljmhpkeahaaGreatScU
import Derived.Test.YtigjljmhpkeahaaGreatScI
import Derived.Test.YtigjljmhpkeahaaGreatScJ
import Derived.Test.YtigjljmhpkeahaaGreatScK
import Derived.Test.YtigjljmhpkeahaaGreatGv
import Derived.Test.YtigjljmhpkeahaaGreatGo
import Derived.Deep.DeepCutAuto
namespace Go.Proofs.YtigjljmhpkeahaaGreat
open Go.RowKit
attribute [local go_sem ↓] run_max_mx run_min_mn run_eql_iv run_neq_iv run_eql_an run_neq_an

def exQ (i : Nat) : Pr := ⟨(i : Int) + 1, 3, 2, 0, 10, 12, 1, 2⟩
def exQs (n : Nat) : List Pr := (List.range n).map exQ
theorem exQs_length (n : Nat) : (exQs n).length = n := by simp [exQs]
theorem exQs_snoc (n : Nat) : exQs (n + 1) = exQs n ++ [exQ n] := by simp [exQs, List.range_succ]
def exA : List An := [⟨1, false, 10, 1, 1004, 1010⟩, ⟨2, false, 10, 1, 1004, 1010⟩, ⟨3, false, 12, 1, 1012, 1018⟩, ⟨4, false, 10, 1, 1004, 1018⟩]
def exX : Sc := ⟨[0, 1, 2, 3], 100, 1000, exA, 120⟩
set_option maxRecDepth 100000 in
theorem hvX : wsS ⟨0, 1, 0, 20, exQs 4⟩ [0, 1, 2, 3] 100 1000 = exX ∧ wsEr ⟨0, 1, 0, 20, exQs 4⟩ [0, 1, 2, 3] 100 1000 = 0 := ⟨by kernel_rfl, by kernel_rfl⟩
set_option maxRecDepth 100000 in
theorem hvF : fitB ⟨0, 1, 0, 20, exQs 4⟩ ⟨[0, 1, 2, 3], 100, 1000, exA, 120⟩ = true ∧ alB ⟨0, 1, 0, 20, exQs 4⟩ ⟨[0, 1, 2, 3], 100, 1000, exA, 120⟩ = true := ⟨by kernel_rfl, by kernel_rfl⟩
set_option maxRecDepth 100000 in
theorem hvP : pyEr ⟨0, 1, 0, 20, exQs 4⟩ ⟨[0, 1, 2, 3], 100, 1000, exA, 120⟩ = 0 ∧ pyLo ⟨0, 1, 0, 20, exQs 4⟩ ⟨[0, 1, 2, 3], 100, 1000, exA, 120⟩ = 1112 ∧ pyHi ⟨0, 1, 0, 20, exQs 4⟩ ⟨[0, 1, 2, 3], 100, 1000, exA, 120⟩ = 1120 := ⟨by kernel_rfl, by kernel_rfl, by kernel_rfl⟩
set_option maxRecDepth 100000 in
theorem hvL : wsS ⟨0, 1, 0, 20, exQs 4⟩ [0, 1, 2, 3] 100 7 = sc0 ∧ wsEr ⟨0, 1, 0, 20, exQs 4⟩ [0, 1, 2, 3] 100 7 = 3 := ⟨by kernel_rfl, by kernel_rfl⟩
set_option maxRecDepth 100000 in
theorem hvR8 : rfS ⟨0, 1, 0, 20, exQs 4⟩ [100] 8 1000 = sc0 ∧ rfB ⟨0, 1, 0, 20, exQs 4⟩ [100] 8 1000 = false ∧ rfEr ⟨0, 1, 0, 20, exQs 4⟩ [100] 8 1000 = 0 := ⟨by kernel_rfl, by kernel_rfl, by kernel_rfl⟩
set_option maxRecDepth 100000 in
theorem hvR7 : rfS ⟨0, 1, 0, 20, exQs 4⟩ [100] 7 1000 = exX ∧ rfB ⟨0, 1, 0, 20, exQs 4⟩ [100] 7 1000 = true ∧ rfEr ⟨0, 1, 0, 20, exQs 4⟩ [100] 7 1000 = 0 := ⟨by kernel_rfl, by kernel_rfl, by kernel_rfl⟩
set_option maxRecDepth 100000 in
set_option maxHeartbeats 1000000 in
theorem ex32_any (w : World) : Calls Tryz.prog 30 #[] w fun e w' => ∃ pv, e = .returned (.agg #[.int .i64 0, .int .i64 1, .int .i64 0, .int .i64 20, pv]) ∧ PrRow w' pv (exQs 4) ∧ Below w.heap.size w w' := by
 obtain ⟨i0, hi0, hz0, hz1, hz2⟩ := info_parts infoPr
 go_enter Tryz.func30, Tryz.ntmps30
 go_wp2
 go_loopw [2] (fun s4 wx => ∃ (k : Nat) (ov : Value), k ≤ 4 ∧ s4 = .int .i64 k ∧ wx.cell? ⟨w.heap.size + 1, 4, none⟩ = some ov ∧ OwnPs wx (w.heap.size + 2) ov (exQs k) ∧ (wx.cell? ⟨w.heap.size + 1, 0, none⟩ = some (.int .i64 0) ∧ wx.cell? ⟨w.heap.size + 1, 1, none⟩ = some (.int .i64 1) ∧ wx.cell? ⟨w.heap.size + 1, 2, none⟩ = some (.int .i64 0) ∧ wx.cell? ⟨w.heap.size + 1, 3, none⟩ = some (.int .i64 20)) ∧ (∀ o, wx.frozen? ⟨w.heap.size + 1, o, none⟩ = false) ∧
   ((∃ z0, wx.cell? ⟨w.heap.size, 0, none⟩ = some z0) ∧ (∃ z1, wx.cell? ⟨w.heap.size, 1, none⟩ = some z1) ∧ (∃ z2, wx.cell? ⟨w.heap.size, 2, none⟩ = some z2) ∧ (∃ z3, wx.cell? ⟨w.heap.size, 3, none⟩ = some z3) ∧ (∃ z4, wx.cell? ⟨w.heap.size, 4, none⟩ = some z4) ∧ (∀ o, wx.frozen? ⟨w.heap.size, o, none⟩ = false)) ∧ w.heap.size + 2 ≤ wx.heap.size ∧ Below w.heap.size w wx) (fun s4 _ => 4 - (intOf s4).toNat)
 case atStart => exact ⟨0, _, Nat.zero_le _, rfl, by simp, OwnPs.nil _ _, ⟨by simp, by simp, by simp, by simp⟩, by simp, ⟨by simp, by simp, by simp, by simp, by simp, by simp⟩, by simp, (by ((with_reducible repeat' first | exact .refl _ _ | refine .alloc ?_ ?_ _ | refine .setCell ?_ ?_ _ | refine .drew ?_ | refine below_drewN ?_ _) <;> first | omega | simp <;> omega))⟩
 case round =>
  obtain ⟨k, ov, hk, rfl, y4, hown, ⟨y0, y1, y2, y3⟩, yf, ⟨⟨z0, x0⟩, ⟨z1, x1⟩, ⟨z2, x2⟩, ⟨z3, x3⟩, ⟨z4, x4⟩, xf⟩, hzr, hB⟩ := hrel
  by_cases hlt : k < 4
  ·obtain ⟨oa, ocap, hov, ho1, ho2⟩ := hown.val
   have hlow := World.ownsRow.lt hown
   have hlk := exQs_length k
   have hown' := hown
   unfold OwnPs at hown'
   rw [hlk] at hown' hov
   subst hov
   have Hlk := hide hlk
   have hzA : w.heap.size + 1 < wr.heap.size := by omega
   have hzB : w.heap.size < wr.heap.size := by omega
   clear hlk hown
   go_wp2_with (at_builtin; refine wpList_append_own _ rfl _ _ 22 rfl (w.heap.size + 2) 67 i0 (.agg #[.int .i64 0, .int .i64 0, .int .i64 0, .int .i64 0, .int .i64 0, .int .i64 0, .int .i64 0, .int .i64 0]) 8 64 Tryz.underlying22 hi0 hz0 hz1 hz2 rfl (by decide) _ k (encPs (exQs k)) rfl (World.ownsRow.alloc hown' _) ⟨wr.heap.size, 0, none⟩ 1 1 (encP (exQ k)).toList rfl rfl (cells_new wr (encP (exQ k)).toList _) (by simp [Value.oneCell', encP]) (by unfold maxLen; omega) (by omega) (by simp; omega) ?_; intro v3 w3 hown3 hg3 _; obtain ⟨c3, f3⟩ := grown_keeps hg3 (b := w.heap.size + 1) (by simp; omega) (fun h => (by have := hlow _ h.symm; omega)); obtain ⟨d3, g3⟩ := grown_keeps hg3 (b := w.heap.size) (by simp; omega) (fun h => (by have := hlow _ h.symm; omega)); obtain ⟨a3, cap3, rfl⟩ := ownsRow_val hown3)
   have hz3 := hg3.size
   simp only [World.size_alloc] at hz3
   go_roundw
   case rel =>
    have e1 := fun o => (c3 o).trans (old1 wr (.cells (encP (exQ k)) 67) (show w.heap.size + 1 < wr.heap.size by omega) o).1
    have e2 := fun o => (d3 o).trans (old1 wr (.cells (encP (exQ k)) 67) (show w.heap.size < wr.heap.size by omega) o).1
    have n1 : ∀ o, (⟨w.heap.size + 1, 4, none⟩ : Addr) ≠ ⟨w.heap.size, o, none⟩ := fun o e => by simp at e
    refine ⟨k + 1, .slice a3 (k + 1) cap3, by omega, by go_num, World.cell?_setCell_same' _ _ _ (by rw [e1, y4]; rfl), ?_, ⟨?_, ?_, ?_, ?_⟩, fun o => ?_, ⟨⟨z0, ?_⟩, ⟨z1, ?_⟩, ⟨z2, ?_⟩, ⟨z3, ?_⟩, ⟨z4, ?_⟩, fun o => ?_⟩, by simp; omega, ?_⟩
    ·refine ownsRow_setCell_below ?_ (by first | omega | simp) _
     rw [exQs_snoc]
     exact OwnPs.app (by rw [Hlk.out]; exact hown3)
    ·exact (World.cell?_setCell_other _ _ _ _ (fun e => by simp at e)).trans ((e1 0).trans y0)
    ·exact (World.cell?_setCell_other _ _ _ _ (fun e => by simp at e)).trans ((e1 1).trans y1)
    ·exact (World.cell?_setCell_other _ _ _ _ (fun e => by simp at e)).trans ((e1 2).trans y2)
    ·exact (World.cell?_setCell_other _ _ _ _ (fun e => by simp at e)).trans ((e1 3).trans y3)
    ·rw [World.frozen?_setCell, f3, (old1 wr _ (show w.heap.size + 1 < wr.heap.size by omega) o).2]; exact yf o
    ·exact (World.cell?_setCell_other _ _ _ _ (n1 0)).trans ((e2 0).trans x0)
    ·exact (World.cell?_setCell_other _ _ _ _ (n1 1)).trans ((e2 1).trans x1)
    ·exact (World.cell?_setCell_other _ _ _ _ (n1 2)).trans ((e2 2).trans x2)
    ·exact (World.cell?_setCell_other _ _ _ _ (n1 3)).trans ((e2 3).trans x3)
    ·exact (World.cell?_setCell_other _ _ _ _ (n1 4)).trans ((e2 4).trans x4)
    ·rw [World.frozen?_setCell, g3, (old1 wr _ (show w.heap.size < wr.heap.size by omega) o).2]; exact xf o
    ·exact Below.setCell (((hB.alloc (by omega) _).grown hg3 (by first | omega | (simp; omega)) (fun r h => by have := hlow r h; omega))) (by show w.heap.size ≤ w.heap.size + 1; omega) _
   case measure => simp [intOf]; omega
  ·obtain rfl : k = 4 := by omega
   obtain ⟨oa, ocap, hov, ho1, ho2⟩ := hown.val
   subst hov
   go_wp2_with fail
   refine bodyPost_ret (v := .agg #[.int .i64 0, .int .i64 1, .int .i64 0, .int .i64 20, .slice oa (exQs 4).length ocap]) (by simp [results, Tryz.results30, go_sem, *]) rfl ⟨_, rfl, ?_, (by ((with_reducible repeat' first | exact .refl _ _ | exact hB | refine .alloc ?_ ?_ _ | refine .setCell ?_ ?_ _ | refine .drew ?_ | refine below_drewN ?_ _ | refine Below.trans ?_ (hB.mono ?_)) <;> first | omega | simp <;> omega))⟩
   refine OwnPs.row (base := w.heap.size + 2) ?_
   unfold OwnPs
   repeat (refine ownsRow_setCell_below ?_ (by first | omega | simp) _)
   exact hown

theorem ScRet.rows {w w' : World} {x : Sc} {uv av : Value} (h : ScRet w w' x uv av) : IsRow w' uv x.use ∧ AnRow w' av x.an ∧ (∃ a c, uv = .slice a x.use.length c) ∧ ∃ a c, av = .slice a x.an.length c := by
 obtain ⟨a, c, e1, -, -⟩ := h.1.val
 obtain ⟨a', c', e2, -, -⟩ := h.2.val
 exact ⟨h.1.row, h.2.row, ⟨a, c, e1⟩, a', c', e2⟩
theorem exWorst_any (pv uv : Value) (w : World) (hp : PrRow w pv (exQs 4)) (hu : IsRow w uv [0, 1, 2, 3]) :
  Calls Tryz.prog 14 #[.agg #[.int .i64 0, .int .i64 1, .int .i64 0, .int .i64 20, pv], .agg #[uv, .int .i64 100], .int .i64 1000] w fun e w' => ∃ ua uc aa ac, e = .returned (.tuple #[.agg #[.slice ua 4 uc, .int .i64 100, .int .i64 1000, .slice aa 4 ac, .int .i64 120], .int .i64 0]) ∧ IsRow w' (.slice ua 4 uc) [0, 1, 2, 3] ∧ AnRow w' (.slice aa 4 ac) exA ∧ Below w.heap.size w w' := by
 refine (scWorst_any 0 1 0 20 pv (exQs 4) uv [0, 1, 2, 3] 100 1000 w hp hu).mono ?_
 unfold WorstPost
 rw [hvX.1, hvX.2]
 rintro e w' ⟨uv', av', rfl, hr, hb⟩
 obtain ⟨h1, h2, ⟨a, c, rfl⟩, a', c', rfl⟩ := hr.rows
 exact ⟨a, c, a', c', rfl, h1, h2, hb⟩
theorem exLate_any (pv uv : Value) (w : World) (hp : PrRow w pv (exQs 4)) (hu : IsRow w uv [0, 1, 2, 3]) :
  Calls Tryz.prog 14 #[.agg #[.int .i64 0, .int .i64 1, .int .i64 0, .int .i64 20, pv], .agg #[uv, .int .i64 100], .int .i64 7] w fun e w' => ∃ ua uc aa ac, e = .returned (.tuple #[.agg #[.slice ua 0 uc, .int .i64 0, .int .i64 0, .slice aa 0 ac, .int .i64 0], .int .i64 3]) ∧ Below w.heap.size w w' := by
 refine (scWorst_any 0 1 0 20 pv (exQs 4) uv [0, 1, 2, 3] 100 7 w hp hu).mono ?_
 unfold WorstPost
 rw [hvL.1, hvL.2]
 rintro e w' ⟨uv', av', rfl, hr, hb⟩
 obtain ⟨h1, h2, ⟨a, c, rfl⟩, a', c', rfl⟩ := hr.rows
 exact ⟨a, c, a', c', rfl, hb⟩
theorem exAllowed_any (pv uv av : Value) (w : World) (hp : PrRow w pv (exQs 4)) (hu : IsRow w uv [0, 1, 2, 3]) (ha : AnRow w av exA) :
  Calls Tryz.prog 17 #[.agg #[.int .i64 0, .int .i64 1, .int .i64 0, .int .i64 20, pv], .agg #[uv, .int .i64 100, .int .i64 1000, av, .int .i64 120]] w fun e w' => e = .returned (.tuple #[.bool true, .int .i64 0]) ∧ Below w.heap.size w w' := by
 have := scAllowed_any 0 1 0 20 pv (exQs 4) uv [0, 1, 2, 3] 100 1000 av exA 120 w hp hu ha
 unfold AllPost at this
 rw [hvF.1, hvF.2] at this
 exact this
theorem exPlay_any (pv uv av : Value) (w : World) (hp : PrRow w pv (exQs 4)) (hu : IsRow w uv [0, 1, 2, 3]) (ha : AnRow w av exA) :
  Calls Tryz.prog 19 #[.agg #[.int .i64 0, .int .i64 1, .int .i64 0, .int .i64 20, pv], .agg #[uv, .int .i64 100, .int .i64 1000, av, .int .i64 120]] w fun e w' => e = .returned (.tuple #[.agg #[.int .i64 1112, .int .i64 1120], .int .i64 0]) ∧ Below w.heap.size w w' := by
 have := scPlay_any 0 1 0 20 pv (exQs 4) uv [0, 1, 2, 3] 100 1000 av exA 120 w hp hu ha
 unfold PlayPost at this
 rw [hvP.1, hvP.2.1, hvP.2.2] at this
 exact this
theorem exRef8_any (pv v : Value) (w : World) (hp : PrRow w pv (exQs 4)) (hv : IsRow w v [100]) :
  Calls Tryz.prog 22 #[.agg #[.int .i64 0, .int .i64 1, .int .i64 0, .int .i64 20, pv], v, .int .i64 8, .int .i64 1000] w fun e w' => ∃ ua uc aa ac, e = .returned (.tuple #[.agg #[.slice ua 0 uc, .int .i64 0, .int .i64 0, .slice aa 0 ac, .int .i64 0], .bool false, .int .i64 0]) ∧ Below w.heap.size w w' := by
 refine (scRefuse_any 0 1 0 20 pv (exQs 4) v [100] 8 1000 w hp hv).mono ?_
 unfold RefPost
 rw [hvR8.1, hvR8.2.1, hvR8.2.2]
 rintro e w' ⟨uv', av', rfl, hr, hb⟩
 obtain ⟨h1, h2, ⟨a, c, rfl⟩, a', c', rfl⟩ := hr.rows
 exact ⟨a, c, a', c', rfl, hb⟩
theorem exRef7_any (pv v : Value) (w : World) (hp : PrRow w pv (exQs 4)) (hv : IsRow w v [100]) :
  Calls Tryz.prog 22 #[.agg #[.int .i64 0, .int .i64 1, .int .i64 0, .int .i64 20, pv], v, .int .i64 7, .int .i64 1000] w fun e w' => ∃ ua uc aa ac, e = .returned (.tuple #[.agg #[.slice ua 4 uc, .int .i64 100, .int .i64 1000, .slice aa 4 ac, .int .i64 120], .bool true, .int .i64 0]) ∧ IsRow w' (.slice ua 4 uc) [0, 1, 2, 3] ∧ AnRow w' (.slice aa 4 ac) exA ∧ Below w.heap.size w w' := by
 refine (scRefuse_any 0 1 0 20 pv (exQs 4) v [100] 7 1000 w hp hv).mono ?_
 unfold RefPost
 rw [hvR7.1, hvR7.2.1, hvR7.2.2]
 rintro e w' ⟨uv', av', rfl, hr, hb⟩
 obtain ⟨h1, h2, ⟨a, c, rfl⟩, a', c', rfl⟩ := hr.rows
 exact ⟨a, c, a', c', rfl, h1, h2, hb⟩
def SnBox (W : World) (g : Nat) (x : Sc) (uv av : Value) : Prop := (W.cell? ⟨g, 0, none⟩ = some uv ∧ W.cell? ⟨g, 1, none⟩ = some (.int .i64 x.ev) ∧ W.cell? ⟨g, 2, none⟩ = some (.int .i64 x.at_) ∧ W.cell? ⟨g, 3, none⟩ = some av ∧ W.cell? ⟨g, 4, none⟩ = some (.int .i64 x.ct)) ∧ IsRow W uv x.use ∧ AnRow W av x.an ∧ g < W.heap.size
theorem SnBox.below {w W : World} {g : Nat} {x : Sc} {uv av : Value} (h : SnBox w g x uv av) (hb : Below w.heap.size w W) : SnBox W g x uv av := by
 obtain ⟨⟨c0, c1, c2, c3, c4⟩, h1, h2, h3⟩ := h
 have h0 := (bk hb g h3).1
 exact ⟨⟨(h0 _).trans c0, (h0 _).trans c1, (h0 _).trans c2, (h0 _).trans c3, (h0 _).trans c4⟩, h1.below (Nat.le_refl _) hb, h2.below (Nat.le_refl _) hb, Nat.lt_of_lt_of_le h3 hb.size⟩
theorem SnBox.made {w : World} {x : Sc} {uv av : Value} {t : TypeId} (h1 : IsRow w uv x.use) (h2 : AnRow w av x.an) : SnBox (w.alloc (.cells #[uv, .int .i64 x.ev, .int .i64 x.at_, av, .int .i64 x.ct] t)) w.heap.size x uv av := by
 refine ⟨⟨?_, ?_, ?_, ?_, ?_⟩, h1.below (Nat.le_refl _) (by ((with_reducible repeat' first | exact .refl _ _ | refine .alloc ?_ ?_ _ | refine .setCell ?_ ?_ _ | refine .drew ?_ | refine below_drewN ?_ _) <;> first | omega | simp <;> omega)), h2.below (Nat.le_refl _) (by ((with_reducible repeat' first | exact .refl _ _ | refine .alloc ?_ ?_ _ | refine .setCell ?_ ?_ _ | refine .drew ?_ | refine below_drewN ?_ _) <;> first | omega | simp <;> omega)), ?_⟩ <;> simp
set_option maxRecDepth 100000 in
set_option maxHeartbeats 2000000 in
theorem scHead_any (w : World) : Calls Tryz.prog 11 #[] w fun e w' => e = .returned (.bool true) ∧ Below w.heap.size w w' := by
 go_enter Tryz.func11, Tryz.ntmps11
 go_wp2_with fail
 refine (ex32_any _).mono ?_
 rintro e x1 ⟨p1, rfl, r1, c1⟩
 obtain ⟨pa1, pc1, rfl, -, -⟩ := r1.len
 go_wp2_with fail
 refine (exWorst_any _ _ _ (r1.below (Nat.le_refl _) (by ((with_reducible repeat' first | exact .refl _ _ | refine .alloc ?_ ?_ _ | refine .setCell ?_ ?_ _ | refine .drew ?_ | refine below_drewN ?_ _) <;> first | omega | simp <;> omega))) (by simpa [encI] using isrow_lit x1 [0, 1, 2, 3] 3 (by decide))).mono ?_
 rintro e y1 ⟨ua1, uc1, aa1, ac1, rfl, hu1, ha1, d1⟩
 have e1 : Below w.heap.size w y1 := c1.trans (Below.mono (show Below x1.heap.size x1 y1 from (by ((with_reducible repeat' first | exact .refl _ _ | exact d1 | refine .alloc ?_ ?_ _ | refine .setCell ?_ ?_ _ | refine .drew ?_ | refine below_drewN ?_ _ | refine Below.trans ?_ (d1.mono ?_)) <;> first | omega | simp <;> omega))) c1.size)
 have ez1 := e1.size
 clear r1 c1 d1
 go_upto_region 2 with fail
 have k1 : SnBox (y1.alloc (.cells #[.slice ua1 4 uc1, .int .i64 100, .int .i64 1000, .slice aa1 4 ac1, .int .i64 120] 30)) y1.heap.size exX (.slice ua1 4 uc1) (.slice aa1 4 ac1) := SnBox.made (x := exX) hu1 ha1
 have B1 : Below w.heap.size w (y1.alloc (.cells #[.slice ua1 4 uc1, .int .i64 100, .int .i64 1000, .slice aa1 4 ac1, .int .i64 120] 30)) := (by ((with_reducible repeat' first | exact .refl _ _ | exact e1 | refine .alloc ?_ ?_ _ | refine .setCell ?_ ?_ _ | refine .drew ?_ | refine below_drewN ?_ _ | refine Below.trans ?_ (e1.mono ?_)) <;> first | omega | simp <;> omega))
 obtain ⟨g1, hg1⟩ : ∃ g, g = y1.heap.size := ⟨_, rfl⟩
 rw [← hg1] at k1 ⊢
 clear hg1 e1 hu1 ha1 ez1
 generalize y1.alloc (.cells #[.slice ua1 4 uc1, .int .i64 100, .int .i64 1000, .slice aa1 4 ac1, .int .i64 120] 30) = W1 at *
 obtain ⟨⟨m0, m1, m2, m3, m4⟩, -, -, mz⟩ := id k1
 have K1 := hide k1
 have HB1 := hide B1
 simp only [exX] at m1 m2 m4
 clear k1 B1
 go_cut [3, 4] (fun s3 s4 wx => s3 = .bool true ∧ s4 = .int .i64 0 ∧ Below W1.heap.size W1 wx)
 case first =>
  go_region_with (first | (go_at_call 30; refine (ex32_any _).mono ?_; rintro e x2 ⟨p2, rfl, r2, c2d⟩; have c2 : Below W1.heap.size W1 x2 := ⟨c2d.os, c2d.tape, c2d.output, c2d.size, c2d.block⟩; obtain ⟨⟨t0, t1, t2, t3, t4⟩, -, -, tz⟩ := K1.out.below c2; simp only [exX] at t1 t2 t4; have R2 := hide r2; have C2 := hide c2; clear r2 c2 c2d) | (go_at_call 17; refine (exAllowed_any _ _ _ _ R2.out (K1.out.below C2.out).2.1 (K1.out.below C2.out).2.2.1).mono ?_; rintro e y2 ⟨rfl, d2⟩))
  all_goals go_wp2
  all_goals go_meet
  all_goals exact ⟨rfl, rfl, C2.out.trans (Below.mono ⟨d2.os, d2.tape, d2.output, d2.size, d2.block⟩ C2.out.size)⟩
 case rest =>
  obtain ⟨rfl, rfl, h2⟩ := hcut
  obtain ⟨W2, hW2⟩ : ∃ W : World, W = wc := ⟨_, rfl⟩
  subst hW2
  have K2 := hide (K1.out.below h2)
  have HB2 := hide (HB1.out.trans (h2.mono HB1.out.size))
  clear K1 HB1 h2 m0 m1 m2 m3 m4 mz
  obtain ⟨⟨m0, m1, m2, m3, m4⟩, -, -, mz⟩ := id K2.out
  simp only [exX] at m1 m2 m4
  go_upto_region 3 with fail
  go_cut [5, 6] (fun s5 s6 wx => ∃ g : Nat, s5 = .pointer (some ⟨g, 0, none⟩) ∧ s6 = .int .i64 0 ∧ W2.heap.size ≤ g ∧ g < wx.heap.size ∧ wx.cell? ⟨g, 0, none⟩ = some (.int .i64 1112) ∧ wx.cell? ⟨g, 1, none⟩ = some (.int .i64 1120) ∧ Below W2.heap.size W2 wx)
  case first =>
   have hA : ∀ W : World, Below W2.heap.size W2 W → W.cell? ⟨g1, 0, none⟩ = some (.slice ua1 4 uc1) ∧ W.cell? ⟨g1, 1, none⟩ = some (.int .i64 100) ∧ W.cell? ⟨g1, 2, none⟩ = some (.int .i64 1000) ∧ W.cell? ⟨g1, 3, none⟩ = some (.slice aa1 4 ac1) ∧ W.cell? ⟨g1, 4, none⟩ = some (.int .i64 120) := fun W hW => (K2.out.below hW).1
   have HA := hide hA
   have hK2 : ∀ W : World, Below W2.heap.size W2 W → IsRow W (.slice ua1 4 uc1) [0, 1, 2, 3] ∧ AnRow W (.slice aa1 4 ac1) exA := fun W hW => ⟨(K2.out.below hW).2.1, (K2.out.below hW).2.2.1⟩
   have HK2 := hide hK2
   clear hA hK2
   go_region_with (first | (go_at_call 30; (with_reducible refine (ex32_any _).mono ?_); rintro e x3 ⟨p3, rfl, r3, c3⟩; have c3' : Below W2.heap.size W2 x3 := (by ((with_reducible repeat' first | exact .refl _ _ | exact c3 | refine .alloc ?_ ?_ _ | refine .setCell ?_ ?_ _ | refine .drew ?_ | refine below_drewN ?_ _ | refine Below.trans ?_ (c3.mono ?_)) <;> first | omega | simp <;> omega)); obtain ⟨t0, t1, t2, t3, t4⟩ := HA.out _ c3'; have zx : W2.heap.size ≤ x3.heap.size := c3'.size; have tz : g1 < x3.heap.size := Nat.lt_of_lt_of_le mz c3'.size; have R3 := hide r3; have C3 := hide c3'; (first | (have mm := made_cells2 c3; obtain ⟨mm0, mm1, mf0, mf1, ms⟩ := mm) | (have mm := made_cells2D c3; obtain ⟨mm0, mm1, mf0, mf1, ms⟩ := mm) | skip); clear r3 c3' c3) | (go_at_call 19; (with_reducible refine (exPlay_any _ _ _ _ (R3.out.below (Nat.le_refl _) (by ((with_reducible repeat' first | exact .refl _ _ | refine .alloc ?_ ?_ _ | refine .setCell ?_ ?_ _ | refine .drew ?_ | refine below_drewN ?_ _) <;> first | omega | simp <;> omega))) (HK2.out _ (by ((with_reducible repeat' first | exact .refl _ _ | exact C3.out | refine .alloc ?_ ?_ _ | refine .setCell ?_ ?_ _ | refine .drew ?_ | refine below_drewN ?_ _ | refine Below.trans ?_ (C3.out.mono ?_)) <;> first | omega | simp <;> omega))).1 (HK2.out _ (by ((with_reducible repeat' first | exact .refl _ _ | exact C3.out | refine .alloc ?_ ?_ _ | refine .setCell ?_ ?_ _ | refine .drew ?_ | refine below_drewN ?_ _ | refine Below.trans ?_ (C3.out.mono ?_)) <;> first | omega | simp <;> omega))).2).mono ?_); rintro e y3 ⟨rfl, d3⟩; have dk : Below W2.heap.size W2 y3 := (by ((with_reducible repeat' first | exact .refl _ _ | exact d3 | exact C3.out | refine .alloc ?_ ?_ _ | refine .setCell ?_ ?_ _ | refine .drew ?_ | refine below_drewN ?_ _ | refine Below.trans ?_ (d3.mono ?_) | refine Below.trans ?_ (C3.out.mono ?_)) <;> first | omega | simp <;> omega)); have dz : W2.heap.size ≤ y3.heap.size := dk.size; have DK := hide dk; (first | (have tt := made_cells2 d3; obtain ⟨n0, n1, nf0, nf1, ns⟩ := tt) | (have tt := made_cells2D d3; obtain ⟨n0, n1, nf0, nf1, ns⟩ := tt) | (have n0 := (d3.cell (p := ⟨W2.heap.size, 0, none⟩) ms).trans mm0; have n1 := (d3.cell (p := ⟨W2.heap.size, 1, none⟩) ms).trans mm1; have nf0 := ((bk d3 W2.heap.size ms).2 0).trans mf0; have nf1 := ((bk d3 W2.heap.size ms).2 1).trans mf1; have ns : W2.heap.size < y3.heap.size := World.block_lt_of_cell? _ _ n0) | skip); clear d3 dk))
   all_goals go_wp2
   all_goals go_meet
   all_goals refine ⟨_, rfl, rfl, ?_, ?_, ?_, ?_, ?_⟩
   all_goals first | exact Nat.le_refl _ | with_reducible exact zx | with_reducible exact DK.out.size | exact set_other _ (set_same _ n0) (by intro h; simp at h) | exact set_same _ (set_other _ n1 (by intro h; simp at h)) | (simp [World.setCell]; done) | (simp [World.setCell]; omega) | (((with_reducible repeat' first | exact .refl _ _ | exact DK.out | refine .alloc ?_ ?_ _ | refine .setCell ?_ ?_ _ | refine .drew ?_ | refine below_drewN ?_ _ | refine Below.trans ?_ (DK.out.mono ?_)) <;> first | omega | simp <;> omega))
  case rest =>
   obtain ⟨g3, rfl, rfl, hg3a, hg3b, q0, q1, h3⟩ := hcut
   obtain ⟨W3, hW3⟩ : ∃ W : World, W = wc := ⟨_, rfl⟩
   subst hW3
   have hb3 := HB2.out.trans (h3.mono HB2.out.size)
   have hK3 : ∀ V : World, Below W3.heap.size W3 V → SnBox V g1 exX (.slice ua1 4 uc1) (.slice aa1 4 ac1) ∧ (V.cell? ⟨g3, 0, none⟩ = some (.int .i64 1112) ∧ V.cell? ⟨g3, 1, none⟩ = some (.int .i64 1120) ∧ g3 < V.heap.size) ∧ Below w.heap.size w V := fun V hV =>
    ⟨(K2.out.below h3).below hV, ⟨(hV.cell (p := ⟨g3, 0, none⟩) hg3b).trans q0, (hV.cell (p := ⟨g3, 1, none⟩) hg3b).trans q1, Nat.lt_of_lt_of_le hg3b hV.size⟩, hb3.trans (hV.mono hb3.size)⟩
   have K3 := hide hK3
   clear K2 HB2 m0 m1 m2 m3 m4 mz hg3a hg3b q0 q1 h3 hb3 hK3
   go_wp2_with fail
   refine (ex32_any _).mono ?_
   rintro e x4 ⟨p4, rfl, r4, c4⟩
   obtain ⟨pa4, pc4, rfl, -, -⟩ := r4.len
   go_wp2_with fail
   refine (exRef8_any _ _ _ (r4.below (Nat.le_refl _) (by ((with_reducible repeat' first | exact .refl _ _ | refine .alloc ?_ ?_ _ | refine .setCell ?_ ?_ _ | refine .drew ?_ | refine below_drewN ?_ _) <;> first | omega | simp <;> omega))) (by simpa [encI] using isrow_lit x4 [100] 3 (by decide))).mono ?_
   rintro e y4 ⟨ua4, uc4, aa4, ac4, rfl, d4⟩
   have e4 : Below W3.heap.size W3 y4 := c4.trans (Below.mono (show Below x4.heap.size x4 y4 from (by ((with_reducible repeat' first | exact .refl _ _ | exact d4 | refine .alloc ?_ ?_ _ | refine .setCell ?_ ?_ _ | refine .drew ?_ | refine below_drewN ?_ _ | refine Below.trans ?_ (d4.mono ?_)) <;> first | omega | simp <;> omega))) c4.size)
   clear r4 c4 d4
   go_wp2_with fail
   have h4 := e4.alloc e4.size (.cells #[.slice ua4 0 uc4, .int .i64 0, .int .i64 0, .slice aa4 0 ac4, .int .i64 0] 30)
   clear e4
   generalize y4.alloc (.cells #[.slice ua4 0 uc4, .int .i64 0, .int .i64 0, .slice aa4 0 ac4, .int .i64 0] 30) = W4 at *
   refine (ex32_any _).mono ?_
   rintro e x5 ⟨p5, rfl, r5, c5⟩
   obtain ⟨pa5, pc5, rfl, -, -⟩ := r5.len
   go_wp2_with fail
   refine (exRef7_any _ _ _ (r5.below (Nat.le_refl _) (by ((with_reducible repeat' first | exact .refl _ _ | refine .alloc ?_ ?_ _ | refine .setCell ?_ ?_ _ | refine .drew ?_ | refine below_drewN ?_ _) <;> first | omega | simp <;> omega))) (by simpa [encI] using isrow_lit x5 [100] 3 (by decide))).mono ?_
   rintro e y5 ⟨ua5, uc5, aa5, ac5, rfl, hu5, ha5, d5⟩
   have e5 : Below W3.heap.size W3 y5 := h4.trans ((c5.trans (Below.mono (show Below x5.heap.size x5 y5 from (by ((with_reducible repeat' first | exact .refl _ _ | exact d5 | refine .alloc ?_ ?_ _ | refine .setCell ?_ ?_ _ | refine .drew ?_ | refine below_drewN ?_ _ | refine Below.trans ?_ (d5.mono ?_)) <;> first | omega | simp <;> omega))) c5.size)).mono h4.size)
   clear r5 c5 d5 h4
   go_wp2_with fail
   have h5 := e5.alloc e5.size (.cells #[.slice ua5 4 uc5, .int .i64 100, .int .i64 1000, .slice aa5 4 ac5, .int .i64 120] 30)
   have k5 : SnBox (y5.alloc (.cells #[.slice ua5 4 uc5, .int .i64 100, .int .i64 1000, .slice aa5 4 ac5, .int .i64 120] 30)) y5.heap.size exX (.slice ua5 4 uc5) (.slice aa5 4 ac5) := SnBox.made (x := exX) hu5 ha5
   obtain ⟨g5, hg5⟩ : ∃ g, g = y5.heap.size := ⟨_, rfl⟩
   rw [← hg5] at k5 ⊢
   clear hg5 e5 hu5 ha5
   generalize y5.alloc (.cells #[.slice ua5 4 uc5, .int .i64 100, .int .i64 1000, .slice aa5 4 ac5, .int .i64 120] 30) = W5 at *
   have K5 := hide k5
   clear k5
   refine (ex32_any _).mono ?_
   rintro e x6 ⟨p6, rfl, r6, c6⟩
   obtain ⟨pa6, pc6, rfl, -, -⟩ := r6.len
   go_wp2_with fail
   refine (exLate_any _ _ _ (r6.below (Nat.le_refl _) (by ((with_reducible repeat' first | exact .refl _ _ | refine .alloc ?_ ?_ _ | refine .setCell ?_ ?_ _ | refine .drew ?_ | refine below_drewN ?_ _) <;> first | omega | simp <;> omega))) (by simpa [encI] using isrow_lit x6 [0, 1, 2, 3] 3 (by decide))).mono ?_
   rintro e y6 ⟨ua6, uc6, aa6, ac6, rfl, d6⟩
   have f6 : Below W5.heap.size W5 y6 := c6.trans (Below.mono (show Below x6.heap.size x6 y6 from (by ((with_reducible repeat' first | exact .refl _ _ | exact d6 | refine .alloc ?_ ?_ _ | refine .setCell ?_ ?_ _ | refine .drew ?_ | refine below_drewN ?_ _ | refine Below.trans ?_ (d6.mono ?_)) <;> first | omega | simp <;> omega))) c6.size)
   clear r6 c6 d6
   go_upto_region 7 with fail
   have h6 := f6.alloc f6.size (.cells #[.slice ua6 0 uc6, .int .i64 0, .int .i64 0, .slice aa6 0 ac6, .int .i64 0] 30)
   clear f6
   generalize y6.alloc (.cells #[.slice ua6 0 uc6, .int .i64 0, .int .i64 0, .slice aa6 0 ac6, .int .i64 0] 30) = W6 at *
   have h36 : Below W3.heap.size W3 W6 := h5.trans (h6.mono h5.size)
   obtain ⟨⟨⟨m0, m1, m2, m3, m4⟩, mu, ma, mz⟩, ⟨q0, q1, qz⟩, hB⟩ := K3.out W6 h36
   obtain ⟨⟨n0, n1, n2, n3, n4⟩, nu, na, nz⟩ := K5.out.below h6
   simp only [exX] at m1 m2 m4 n1 n2 n4
   obtain ⟨ab, ao, ac', hae, -, -, hab, hac⟩ := AnRow.at0 ma (by decide)
   have hae' : (Value.slice aa1 4 ac1) = .slice (some ⟨ab, ao, none⟩) 4 ac' := hae
   cases hae'
   obtain ⟨a00, a01, a02, a03, a04, a05⟩ : AnAt W6 ab ao ⟨1, false, 10, 1, 1004, 1010⟩ := by simpa [exX, exA, anAt] using hac 0 (by decide)
   obtain ⟨a20, a21, a22, a23, a24, a25⟩ : AnAt W6 ab (ao + 12) ⟨3, false, 12, 1, 1012, 1018⟩ := by simpa [exX, exA, anAt] using hac 2 (by decide)
   obtain ⟨a30, a31, a32, a33, a34, a35⟩ : AnAt W6 ab (ao + 18) ⟨4, false, 10, 1, 1004, 1018⟩ := by simpa [exX, exA, anAt] using hac 3 (by decide)
   have v1 : anEq ⟨1, false, 10, 1, 1004, 1010⟩ ⟨1, false, 10, 1, 1004, 1010⟩ = true := by decide
   have v2 : anEq ⟨3, false, 12, 1, 1012, 1018⟩ ⟨3, false, 12, 1, 1012, 1018⟩ = true := by decide
   have hSm := R32Same_any exX exX (.slice ua1 4 uc1) (.slice (some ⟨ab, ao, none⟩) 4 ac1) (.slice ua5 4 uc5) (.slice aa5 4 ac5) W6 mu ma nu na
   rw [scSame_self] at hSm
   unfold valSc at hSm
   simp only [exX] at hSm
   have HSm := hide hSm
   have HB := hide hB
   clear hSm hB h36 h6 h5 K3 K5 hac mu ma nu na hae
   go_wp2_with (go_at_call 16; (with_reducible refine HSm.out.mono ?_); rintro e w9 ⟨rfl, k9⟩)
   go_ret
   exact ⟨rfl, HB.out.trans (k9.mono HB.out.size)⟩
end Go.Proofs.YtigjljmhpkeahaaGreat
