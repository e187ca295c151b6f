/- Package plan: the rules, one by one. -/
import Derived.Test.YtiaahfccebmkdaaPlD
namespace Go.Proofs.Ytiaahfccebmkdaa
open Go.RowKit

set_option maxRecDepth 100000 in
set_option maxHeartbeats 1000000 in
theorem rule1_any (sb : Nat) (r f lo tm : Int) (pv : Value) (ps : List Pr) (ua : Value) (a : Of) (ub : Value) (b : Of) (w : World) (hs : w.cell? ⟨sb, 0, none⟩ = some (.int .i64 r) ∧ w.cell? ⟨sb, 1, none⟩ = some (.int .i64 f) ∧ w.cell? ⟨sb, 2, none⟩ = some (.int .i64 lo) ∧ w.cell? ⟨sb, 3, none⟩ = some (.int .i64 tm) ∧ w.cell? ⟨sb, 4, none⟩ = some pv) (hsb : sb < w.heap.size)
    (hp : PrRow w pv ps) (ha : IsRow w ua a.use) (hb : IsRow w ub b.use) (ca : CsOk ps a.use a.ev) (cb : CsOk ps b.use b.ev) :
    Calls Try.prog 43 #[.agg #[ua, .int .i64 a.ev, .int .i64 a.wd], .agg #[ub, .int .i64 b.ev, .int .i64 b.wd], .pointer (some ⟨sb, 0, none⟩)] w fun e w' => e = .returned (.int .i64 (cmpC ps a b)) ∧ Below w.heap.size w w' := by
  obtain ⟨s0, s1, s2, s3, s4⟩ := hs
  have hR : ∀ W : World, Below w.heap.size w W → PrRow W pv ps ∧ IsRow W ua a.use ∧ IsRow W ub b.use := fun W hW => ⟨hp.below (Nat.le_refl _) hW, ha.below (Nat.le_refl _) hW, hb.below (Nat.le_refl _) hW⟩
  have HR := hide hR
  have Ca := hide ca
  have Cb := hide cb
  have hE : cmpS ps a.use a.ev b.use b.ev = cmpC ps a b := rfl
  have HE := hide hE
  clear hR hp ha hb ca cb hE
  go_enter Try.func43, Try.ntmps43
  go_wp2_with fail
  refine (compare_any r f lo tm _ ps _ a.use a.ev _ b.use b.ev _ (HR.out _ (by ((repeat' (first | with_reducible exact Below.refl _ _ | with_reducible refine Below.alloc ?_ ?_ _ | with_reducible refine Below.setCell ?_ ?_ _ | with_reducible refine Below.drew ?_ | with_reducible refine below_drewN ?_ _)) <;> (first | omega | (simp; done) | (simp; omega))))).1 (HR.out _ (by ((repeat' (first | with_reducible exact Below.refl _ _ | with_reducible refine Below.alloc ?_ ?_ _ | with_reducible refine Below.setCell ?_ ?_ _ | with_reducible refine Below.drew ?_ | with_reducible refine below_drewN ?_ _)) <;> (first | omega | (simp; done) | (simp; omega))))).2.1 (HR.out _ (by ((repeat' (first | with_reducible exact Below.refl _ _ | with_reducible refine Below.alloc ?_ ?_ _ | with_reducible refine Below.setCell ?_ ?_ _ | with_reducible refine Below.drew ?_ | with_reducible refine below_drewN ?_ _)) <;> (first | omega | (simp; done) | (simp; omega))))).2.2 Ca.out Cb.out).mono ?_
  rintro e w1 ⟨rfl, b1⟩
  go_wp2_with fail
  go_ret
  exact ⟨ret_int HE.out, (by ((repeat' (first | with_reducible exact Below.refl _ _ | with_reducible exact b1 | with_reducible refine Below.alloc ?_ ?_ _ | with_reducible refine Below.setCell ?_ ?_ _ | with_reducible refine Below.drew ?_ | with_reducible refine below_drewN ?_ _ | with_reducible refine Below.trans ?_ (b1.mono ?_))) <;> (first | omega | (simp; done) | (simp; omega))))⟩
set_option maxRecDepth 100000 in
set_option maxHeartbeats 1000000 in
theorem rule2_any (ua : Value) (a : Of) (ub : Value) (b : Of) (w : World) :
    Calls Try.prog 44 #[.agg #[ua, .int .i64 a.ev, .int .i64 a.wd], .agg #[ub, .int .i64 b.ev, .int .i64 b.wd]] w fun e w' => e = .returned (.int .i64 (cmpW a b)) ∧ Below w.heap.size w w' := by
  have hE : Lib.compareInt a.wd b.wd = cmpW a b := rfl
  have HE := hide hE
  clear hE
  go_enter Try.func44, Try.ntmps44
  go_wp2_with (go_at_call 45; (with_reducible refine (Compare_any _ _ _).mono ?_); rintro e w' ⟨rfl, rfl⟩)
  go_ret
  exact ⟨ret_int HE.out, (by ((repeat' (first | with_reducible exact Below.refl _ _ | with_reducible refine Below.alloc ?_ ?_ _ | with_reducible refine Below.setCell ?_ ?_ _ | with_reducible refine Below.drew ?_ | with_reducible refine below_drewN ?_ _)) <;> (first | omega | (simp; done) | (simp; omega))))⟩
set_option maxRecDepth 100000 in
set_option maxHeartbeats 1000000 in
theorem rule3_any (ua : Value) (a : Of) (ub : Value) (b : Of) (w : World) (ha : IsRow w ua a.use) (hb : IsRow w ub b.use) :
    Calls Try.prog 46 #[.agg #[ua, .int .i64 a.ev, .int .i64 a.wd], .agg #[ub, .int .i64 b.ev, .int .i64 b.wd]] w fun e w' => e = .returned (.int .i64 (c3 a b)) ∧ Below w.heap.size w w' := by
  obtain ⟨pa, pc, rfl, -, -, -⟩ := ha
  obtain ⟨qa, qc, rfl, -, -, -⟩ := hb
  have hE : Lib.compareInt a.use.length b.use.length = c3 a b := rfl
  have HE := hide hE
  clear hE
  go_enter Try.func46, Try.ntmps46
  go_wp2_with (go_at_call 45; (with_reducible refine (Compare_any _ _ _).mono ?_); rintro e w' ⟨rfl, rfl⟩)
  go_ret
  exact ⟨ret_int HE.out, (by ((repeat' (first | with_reducible exact Below.refl _ _ | with_reducible refine Below.alloc ?_ ?_ _ | with_reducible refine Below.setCell ?_ ?_ _ | with_reducible refine Below.drew ?_ | with_reducible refine below_drewN ?_ _)) <;> (first | omega | (simp; done) | (simp; omega))))⟩
set_option maxRecDepth 100000 in
set_option maxHeartbeats 1000000 in
theorem rule5_any (ua : Value) (a : Of) (ub : Value) (b : Of) (w : World) :
    Calls Try.prog 49 #[.agg #[ua, .int .i64 a.ev, .int .i64 a.wd], .agg #[ub, .int .i64 b.ev, .int .i64 b.wd]] w fun e w' => e = .returned (.int .i64 (c5 a b)) ∧ Below w.heap.size w w' := by
  have hE : Lib.compareInt b.ev a.ev = c5 a b := rfl
  have HE := hide hE
  clear hE
  go_enter Try.func49, Try.ntmps49
  go_wp2_with (go_at_call 45; (with_reducible refine (Compare_any _ _ _).mono ?_); rintro e w' ⟨rfl, rfl⟩)
  go_ret
  exact ⟨ret_int HE.out, (by ((repeat' (first | with_reducible exact Below.refl _ _ | with_reducible refine Below.alloc ?_ ?_ _ | with_reducible refine Below.setCell ?_ ?_ _ | with_reducible refine Below.drew ?_ | with_reducible refine below_drewN ?_ _)) <;> (first | omega | (simp; done) | (simp; omega))))⟩
end Go.Proofs.Ytiaahfccebmkdaa
