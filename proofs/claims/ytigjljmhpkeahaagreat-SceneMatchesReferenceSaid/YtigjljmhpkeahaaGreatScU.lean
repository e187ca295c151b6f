
/- Package scene, the reference: Same. -/
import Derived.Test.YtigjljmhpkeahaaGreatScG
import Derived.Test.YtigjljmhpkeahaaGreatGq
namespace Go.Proofs.YtigjljmhpkeahaaGreat
open Go.RowKit
attribute [local go_sem ↓] run_max_mx run_min_mn run_eql_iv run_neq_iv run_eql_an run_neq_an

theorem scSame_no {x y : Sc} (h : ¬ (x.use = y.use ∧ x.ev = y.ev ∧ x.at_ = y.at_ ∧ x.ct = y.ct ∧ x.an.length = y.an.length)) : scSame x y = false := by
 unfold scSame
 rw [decide_eq_false h, Bool.false_and]
theorem scSame_yes {x y : Sc} (h : x.use = y.use ∧ x.ev = y.ev ∧ x.at_ = y.at_ ∧ x.ct = y.ct ∧ x.an.length = y.an.length) : scSame x y = anSame x.an y.an x.an.length := by
 unfold scSame
 rw [decide_eq_true h, Bool.true_and]
set_option maxRecDepth 100000 in
set_option maxHeartbeats 1500000 in
theorem R32Same_any (x y : Sc) (uv av uw aw : Value) (w : World) (h1 : IsRow w uv x.use) (h2 : AnRow w av x.an) (h3 : IsRow w uw y.use) (h4 : AnRow w aw y.an) :
  Calls Tryz.prog 16 #[valSc x uv av, valSc y uw aw] w fun e w' => e = .returned (.bool (scSame x y)) ∧ Below w.heap.size w w' := by
 unfold valSc
 have hR : ∀ W : World, Below w.heap.size w W → (IsRow W uv x.use ∧ IsRow W uw y.use) ∧ AnRow W av x.an ∧ AnRow W aw y.an := fun W hW => ⟨⟨h1.below (Nat.le_refl _) hW, h3.below (Nat.le_refl _) hW⟩, h2.below (Nat.le_refl _) hW, h4.below (Nat.le_refl _) hW⟩
 have HR := hide hR
 obtain ⟨aa, ac, rfl, aq1, aq2⟩ := h2.len
 obtain ⟨ba, bc, rfl, bq1, bq2⟩ := h4.len
 obtain ⟨W0, hW0⟩ : ∃ W : World, W = (w.alloc (.cells #[uv, .int .i64 x.ev, .int .i64 x.at_, .slice aa x.an.length ac, .int .i64 x.ct] 30)).alloc (.cells #[uw, .int .i64 y.ev, .int .i64 y.at_, .slice ba y.an.length bc, .int .i64 y.ct] 30) := ⟨_, rfl⟩
 have hS : ∀ V : World, Below (w.heap.size + 2) W0 V → (V.cell? ⟨w.heap.size, 0, none⟩ = some uv ∧ V.cell? ⟨w.heap.size, 1, none⟩ = some (.int .i64 x.ev) ∧ V.cell? ⟨w.heap.size, 2, none⟩ = some (.int .i64 x.at_) ∧ V.cell? ⟨w.heap.size, 3, none⟩ = some (.slice aa x.an.length ac) ∧ V.cell? ⟨w.heap.size, 4, none⟩ = some (.int .i64 x.ct)) ∧
   (V.cell? ⟨w.heap.size + 1, 0, none⟩ = some uw ∧ V.cell? ⟨w.heap.size + 1, 1, none⟩ = some (.int .i64 y.ev) ∧ V.cell? ⟨w.heap.size + 1, 2, none⟩ = some (.int .i64 y.at_) ∧ V.cell? ⟨w.heap.size + 1, 3, none⟩ = some (.slice ba y.an.length bc) ∧ V.cell? ⟨w.heap.size + 1, 4, none⟩ = some (.int .i64 y.ct)) ∧ w.heap.size + 2 ≤ V.heap.size ∧ Below w.heap.size w V := by
  intro V hV
  have bW : Below w.heap.size w W0 := by rw [hW0]; ((with_reducible repeat' first | exact .refl _ _ | refine .alloc ?_ ?_ _ | refine .setCell ?_ ?_ _ | refine .drew ?_ | refine below_drewN ?_ _) <;> first | omega | simp <;> omega)
  have zW : W0.heap.size = w.heap.size + 2 := by rw [hW0]; simp
  have hz := hV.size
  have k0 := (bk hV w.heap.size (by omega)).1
  have k1 := (bk hV (w.heap.size + 1) (by omega)).1
  refine ⟨⟨(k0 _).trans ?_, (k0 _).trans ?_, (k0 _).trans ?_, (k0 _).trans ?_, (k0 _).trans ?_⟩, ⟨(k1 _).trans ?_, (k1 _).trans ?_, (k1 _).trans ?_, (k1 _).trans ?_, (k1 _).trans ?_⟩, by omega, bW.trans (hV.mono (by omega))⟩ <;> rw [hW0] <;> simp [go_sem]
 have HS := hide hS
 have hU := fun W h h' => RSameInts_any uv uw x.use y.use W h h'
 have HU := hide hU
 clear hR hS h1 h2 h3 h4 hU
 rcases (show x.use ≠ y.use ∨ (x.use = y.use ∧ x.ev ≠ y.ev) ∨ (x.use = y.use ∧ x.ev = y.ev ∧ x.at_ ≠ y.at_) ∨ (x.use = y.use ∧ x.ev = y.ev ∧ x.at_ = y.at_ ∧ x.ct ≠ y.ct) ∨ (x.use = y.use ∧ x.ev = y.ev ∧ x.at_ = y.at_ ∧ x.ct = y.ct ∧ x.an.length ≠ y.an.length) ∨ (x.use = y.use ∧ x.ev = y.ev ∧ x.at_ = y.at_ ∧ x.ct = y.ct ∧ x.an.length = y.an.length) by
  by_cases g1 : x.use = y.use
  ·refine .inr ?_
   simp only [g1, true_and]
   omega
  ·exact .inl g1) with g1 | ⟨g1, g2⟩ | ⟨g1, g2, g3⟩ | ⟨g1, g2, g3, g4⟩ | ⟨g1, g2, g3, g4, g5⟩ | ⟨g1, g2, g3, g4, g5⟩
 case inr.inr.inr.inr.inr =>
  rw [scSame_yes ⟨g1, g2, g3, g4, g5⟩]
  have du : decide (x.use = y.use) = true := decide_eq_true g1
  have d1 : (x.ev != y.ev) = false := by rw [g2]; simp
  have d2 : (x.at_ != y.at_) = false := by rw [g3]; simp
  have d3 : (x.ct != y.ct) = false := by rw [g4]; simp
  have d4 : ((x.an.length : Int) != (y.an.length : Int)) = false := by rw [g5]; simp
  have G5 := hide g5
  clear g1 g2 g3 g4 g5
  go_enter Tryz.func16, Tryz.ntmps16
  go_upto_region 1 with fail
  rw [← hW0]
  clear hW0
  have B0 : Below (w.heap.size + 2) W0 W0 := Below.refl _ _
  obtain ⟨⟨x0, x1, x2, x3, x4⟩, ⟨y0, y1, y2, y3, y4⟩, z0, b0⟩ := HS.out W0 B0
  go_upto_region 4 with (go_at_call 46; (with_reducible refine (HU.out _ (HR.out _ b0).1.1 (HR.out _ b0).1.2).mono ?_); rintro e w1 ⟨rfl, k1⟩; rw [du]; have B1 : Below (w.heap.size + 2) W0 w1 := B0.trans (k1.mono z0); clear x0 x1 x2 x3 x4 y0 y1 y2 y3 y4 z0 b0 k1; obtain ⟨⟨x0, x1, x2, x3, x4⟩, ⟨y0, y1, y2, y3, y4⟩, z0, b0⟩ := HS.out w1 B1)
  go_wp2_with fail
  clear x0 x1 x2 x3 x4 y0 y1 y2 y3 y4 z0 b0
  go_loopw [6] (fun s6 wx => ∃ k : Nat, k ≤ x.an.length ∧ s6 = .int .i64 k ∧ Hid (anSame x.an y.an k = true) ∧ Below (w.heap.size + 2) W0 wx) (fun s6 _ => x.an.length - (intOf s6).toNat)
  case atStart => exact ⟨0, Nat.zero_le _, rfl, hide rfl, B1⟩
  case round =>
   obtain ⟨k, hk, rfl, Hf, hB⟩ := hrel
   obtain ⟨⟨x0, x1, x2, x3, x4⟩, ⟨y0, y1, y2, y3, y4⟩, z0, b0⟩ := HS.out wr hB
   by_cases hlt : k < x.an.length
   ·have hnx : anSame x.an y.an (k + 1) = (anSame x.an y.an k && anEq (anAt x.an k) (anAt y.an k)) := rfl
    have hno : anEq (anAt x.an k) (anAt y.an k) = false → anSame x.an y.an x.an.length = false := fun h => by
     cases hq : anSame x.an y.an x.an.length with
     | false => rfl
     | true => rw [(anEq_iff _ _).2 ((anSame_iff _ _ _).1 hq k hlt)] at h; cases h
    have hly : k < y.an.length := by have := G5.out; omega
    obtain ⟨ab, ao, ac', hae, -, -, hab, hac⟩ := (HR.out _ b0).2.1.at0 (by omega)
    cases hae
    obtain ⟨bb, bo, bc', hbe, -, -, hbb, hbc⟩ := (HR.out _ b0).2.2.at0 (by omega)
    cases hbe
    obtain ⟨a0, a1, a2, a3, a4, a5⟩ := hac k hlt
    obtain ⟨c0, c1, c2, c3, c4, c5⟩ := hbc k hly
    generalize anAt x.an k = a at *
    generalize anAt y.an k = c at *
    have I1 : (0 : Int) ≤ (k : Int) := by omega
    have I2 : (k : Int) < (x.an.length : Int) := by omega
    have I3 : (k : Int) < (y.an.length : Int) := by omega
    have heq : ∀ b : Bool, anEq a c = b → anEq ⟨a.au, a.ls, a.ou, a.bk, a.lo, a.hi⟩ ⟨c.au, c.ls, c.ou, c.bk, c.lo, c.hi⟩ = b := fun b h => h
    have Hnx := hide hnx
    have Hno := hide hno
    have Hb0 := hide b0
    clear hnx hno hac hbc b0 hab hbb
    cases hval : anEq a c
    ·have hv := heq _ hval
     clear heq
     go_wp2_with fail
     go_quiet (fail)
     go_wp2
     go_ret
     exact ⟨ret_bool (Hno.out hval).symm, (by ((repeat' (first | exact Below.refl _ _ | exact Hb0.out | refine Below.alloc ?_ ?_ _ | refine Below.setCell ?_ ?_ _ | refine Below.drew ?_ | refine below_drewN ?_ _ | refine Below.trans ?_ (Hb0.out.mono ?_))) <;> (first | omega | (simp; done) | (simp; omega))))⟩
    ·have hv := heq _ hval
     clear heq
     go_wp2_with fail
     go_quiet (fail)
     go_wp2
     go_roundw
     case rel => exact ⟨k + 1, by omega, by go_num, hide (by rw [Hnx.out, Hf.out, hval]; rfl), (by ((repeat' (first | exact Below.refl _ _ | exact hB | refine Below.alloc ?_ ?_ _ | refine Below.setCell ?_ ?_ _ | refine Below.drew ?_ | refine below_drewN ?_ _ | refine Below.trans ?_ (hB.mono ?_))) <;> (first | omega | (simp; done) | (simp; omega))))⟩
     case measure => simp [intOf]; omega
   ·obtain rfl : k = x.an.length := by omega
    go_wp2_with fail
    go_ret
    exact ⟨ret_bool Hf.out.symm, b0⟩
 case inl =>
  rw [scSame_no fun h => g1 h.1]
  have du : decide (x.use = y.use) = false := decide_eq_false g1
  clear g1
  go_enter Tryz.func16, Tryz.ntmps16
  go_upto_region 1 with fail
  rw [← hW0]
  clear hW0
  have B0 : Below (w.heap.size + 2) W0 W0 := Below.refl _ _
  obtain ⟨⟨x0, x1, x2, x3, x4⟩, ⟨y0, y1, y2, y3, y4⟩, z0, b0⟩ := HS.out W0 B0
  go_wp2_with (go_at_call 46; (with_reducible refine (HU.out _ (HR.out _ b0).1.1 (HR.out _ b0).1.2).mono ?_); rintro e w1 ⟨rfl, k1⟩; rw [du]; have B1 : Below (w.heap.size + 2) W0 w1 := B0.trans (k1.mono z0); clear x0 x1 x2 x3 x4 y0 y1 y2 y3 y4 z0 b0 k1; obtain ⟨⟨x0, x1, x2, x3, x4⟩, ⟨y0, y1, y2, y3, y4⟩, z0, b0⟩ := HS.out w1 B1)
  go_ret
  exact ⟨rfl, b0⟩
 case inr.inl =>
  rw [scSame_no fun h => g2 h.2.1]
  have du : decide (x.use = y.use) = true := decide_eq_true g1
  have d1 : (x.ev != y.ev) = true := by rw [bne_iff_ne]; exact g2
  clear g1 g2
  go_enter Tryz.func16, Tryz.ntmps16
  go_upto_region 1 with fail
  rw [← hW0]
  clear hW0
  have B0 : Below (w.heap.size + 2) W0 W0 := Below.refl _ _
  obtain ⟨⟨x0, x1, x2, x3, x4⟩, ⟨y0, y1, y2, y3, y4⟩, z0, b0⟩ := HS.out W0 B0
  go_wp2_with (go_at_call 46; (with_reducible refine (HU.out _ (HR.out _ b0).1.1 (HR.out _ b0).1.2).mono ?_); rintro e w1 ⟨rfl, k1⟩; rw [du]; have B1 : Below (w.heap.size + 2) W0 w1 := B0.trans (k1.mono z0); clear x0 x1 x2 x3 x4 y0 y1 y2 y3 y4 z0 b0 k1; obtain ⟨⟨x0, x1, x2, x3, x4⟩, ⟨y0, y1, y2, y3, y4⟩, z0, b0⟩ := HS.out w1 B1)
  go_ret
  exact ⟨rfl, b0⟩
 case inr.inr.inl =>
  rw [scSame_no fun h => g3 h.2.2.1]
  have du : decide (x.use = y.use) = true := decide_eq_true g1
  have d1 : (x.ev != y.ev) = false := by rw [g2]; simp
  have d2 : (x.at_ != y.at_) = true := by rw [bne_iff_ne]; exact g3
  clear g1 g2 g3
  go_enter Tryz.func16, Tryz.ntmps16
  go_upto_region 1 with fail
  rw [← hW0]
  clear hW0
  have B0 : Below (w.heap.size + 2) W0 W0 := Below.refl _ _
  obtain ⟨⟨x0, x1, x2, x3, x4⟩, ⟨y0, y1, y2, y3, y4⟩, z0, b0⟩ := HS.out W0 B0
  go_wp2_with (go_at_call 46; (with_reducible refine (HU.out _ (HR.out _ b0).1.1 (HR.out _ b0).1.2).mono ?_); rintro e w1 ⟨rfl, k1⟩; rw [du]; have B1 : Below (w.heap.size + 2) W0 w1 := B0.trans (k1.mono z0); clear x0 x1 x2 x3 x4 y0 y1 y2 y3 y4 z0 b0 k1; obtain ⟨⟨x0, x1, x2, x3, x4⟩, ⟨y0, y1, y2, y3, y4⟩, z0, b0⟩ := HS.out w1 B1)
  go_ret
  exact ⟨rfl, b0⟩
 case inr.inr.inr.inl =>
  rw [scSame_no fun h => g4 h.2.2.2.1]
  have du : decide (x.use = y.use) = true := decide_eq_true g1
  have d1 : (x.ev != y.ev) = false := by rw [g2]; simp
  have d2 : (x.at_ != y.at_) = false := by rw [g3]; simp
  have d3 : (x.ct != y.ct) = true := by rw [bne_iff_ne]; exact g4
  clear g1 g2 g3 g4
  go_enter Tryz.func16, Tryz.ntmps16
  go_upto_region 1 with fail
  rw [← hW0]
  clear hW0
  have B0 : Below (w.heap.size + 2) W0 W0 := Below.refl _ _
  obtain ⟨⟨x0, x1, x2, x3, x4⟩, ⟨y0, y1, y2, y3, y4⟩, z0, b0⟩ := HS.out W0 B0
  go_wp2_with (go_at_call 46; (with_reducible refine (HU.out _ (HR.out _ b0).1.1 (HR.out _ b0).1.2).mono ?_); rintro e w1 ⟨rfl, k1⟩; rw [du]; have B1 : Below (w.heap.size + 2) W0 w1 := B0.trans (k1.mono z0); clear x0 x1 x2 x3 x4 y0 y1 y2 y3 y4 z0 b0 k1; obtain ⟨⟨x0, x1, x2, x3, x4⟩, ⟨y0, y1, y2, y3, y4⟩, z0, b0⟩ := HS.out w1 B1)
  go_ret
  exact ⟨rfl, b0⟩
 case inr.inr.inr.inr.inl =>
  rw [scSame_no fun h => g5 h.2.2.2.2]
  have du : decide (x.use = y.use) = true := decide_eq_true g1
  have d1 : (x.ev != y.ev) = false := by rw [g2]; simp
  have d2 : (x.at_ != y.at_) = false := by rw [g3]; simp
  have d3 : (x.ct != y.ct) = false := by rw [g4]; simp
  have d4 : ((x.an.length : Int) != (y.an.length : Int)) = true := by rw [bne_iff_ne]; omega
  clear g1 g2 g3 g4 g5
  go_enter Tryz.func16, Tryz.ntmps16
  go_upto_region 1 with fail
  rw [← hW0]
  clear hW0
  have B0 : Below (w.heap.size + 2) W0 W0 := Below.refl _ _
  obtain ⟨⟨x0, x1, x2, x3, x4⟩, ⟨y0, y1, y2, y3, y4⟩, z0, b0⟩ := HS.out W0 B0
  go_wp2_with (go_at_call 46; (with_reducible refine (HU.out _ (HR.out _ b0).1.1 (HR.out _ b0).1.2).mono ?_); rintro e w1 ⟨rfl, k1⟩; rw [du]; have B1 : Below (w.heap.size + 2) W0 w1 := B0.trans (k1.mono z0); clear x0 x1 x2 x3 x4 y0 y1 y2 y3 y4 z0 b0 k1; obtain ⟨⟨x0, x1, x2, x3, x4⟩, ⟨y0, y1, y2, y3, y4⟩, z0, b0⟩ := HS.out w1 B1)
  go_ret
  exact ⟨rfl, b0⟩
end Go.Proofs.YtigjljmhpkeahaaGreat
