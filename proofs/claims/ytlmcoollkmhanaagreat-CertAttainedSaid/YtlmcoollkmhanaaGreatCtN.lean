
/- The reference of cert: SameCase, Same, Few. -/
import Derived.Test.YtlmcoollkmhanaaGreatCtI
import Derived.Test.YtlmcoollkmhanaaGreatCtK
import Derived.Test.YtlmcoollkmhanaaGreatGs
import Derived.Deep.RegionHeld3
import Derived.Deep.DeepCutAuto
namespace Go.Proofs.YtlmcoollkmhanaaGreat
open Go.RowKit

set_option maxRecDepth 100000 in
set_option maxHeartbeats 1000000 in
theorem R31SameCase_any (a b : Cs) (u1 u2 u3 u4 : Value) (w : World) (h1 : IsRow w u1 a.li) (h2 : IsRow w u2 a.lo) (h3 : IsRow w u3 b.li) (h4 : IsRow w u4 b.lo) :
  Calls Tryz.prog 26 #[.agg #[u1, u2, .int .i64 a.wd], .agg #[u3, u4, .int .i64 b.wd]] w fun e w' => e = .returned (.bool (csEq a b)) ∧ Below w.heap.size w w' := by
 have HR := hide (fun (W : World) (hW : Below w.heap.size w W) => (And.intro (And.intro (h1.below (Nat.le_refl _) hW) (h2.below (Nat.le_refl _) hW)) (And.intro (h3.below (Nat.le_refl _) hW) (h4.below (Nat.le_refl _) hW)) : (IsRow W u1 a.li ∧ IsRow W u2 a.lo) ∧ IsRow W u3 b.li ∧ IsRow W u4 b.lo))
 obtain ⟨a1, c1, rfl, -⟩ := id h1
 obtain ⟨a2, c2, rfl, -⟩ := id h2
 obtain ⟨a3, c3, rfl, -⟩ := id h3
 obtain ⟨a4, c4, rfl, -⟩ := id h4
 clear h1 h2 h3 h4
 obtain ⟨W0, hW0⟩ : ∃ W : World, W = (w.alloc (.cells #[.slice a1 a.li.length c1, .slice a2 a.lo.length c2, .int .i64 a.wd] 68)).alloc (.cells #[.slice a3 b.li.length c3, .slice a4 b.lo.length c4, .int .i64 b.wd] 68) := ⟨_, rfl⟩
 have HS := hide (cs_boxes (t := 68) hW0)
 have HE1 := hide (fun W p q => RSameInts15_any (.slice a1 a.li.length c1) (.slice a3 b.li.length c3) a.li b.li W p q)
 have HE2 := hide (fun W p q => RSameInts15_any (.slice a2 a.lo.length c2) (.slice a4 b.lo.length c4) a.lo b.lo W p q)
 unfold csEq
 cases d1 : decide (a.wd = b.wd) with
 | false =>
  have e1 : (a.wd == b.wd) = false := by rw [beq_eq_false_iff_ne]; exact of_decide_eq_false d1
  clear d1
  go_enter Tryz.func26, Tryz.ntmps26
  go_upto_region 1 with fail
  rw [← hW0]
  obtain ⟨⟨x0, x1, x2⟩, ⟨y0, y1, y2⟩, b0, z0⟩ := HS.out W0 (Below.refl _ _)
  clear hW0
  go_wp2_with fail
  go_ret
  exact ⟨rfl, b0⟩
 | true =>
  have e1 : (a.wd == b.wd) = true := by rw [beq_iff_eq]; exact of_decide_eq_true d1
  clear d1
  cases d2 : decide (a.li = b.li) with
  | false =>
   go_enter Tryz.func26, Tryz.ntmps26
   go_upto_region 1 with fail
   rw [← hW0]
   obtain ⟨⟨x0, x1, x2⟩, ⟨y0, y1, y2⟩, b0, z0⟩ := HS.out W0 (Below.refl _ _)
   clear hW0
   go_wp2_with fail
   refine (HE1.out _ (HR.out _ b0).1.1 (HR.out _ b0).2.1).mono ?_
   rintro e w1 ⟨rfl, k1⟩
   rw [d2]
   have B1 : Below (w.heap.size + 2) W0 w1 := (Below.refl _ _).trans (k1.mono z0)
   clear x0 x1 x2 y0 y1 y2 b0 z0 k1 d2
   obtain ⟨⟨x0, x1, x2⟩, ⟨y0, y1, y2⟩, b0, z0⟩ := HS.out w1 B1
   go_wp2_with fail
   go_ret
   exact ⟨rfl, b0⟩
  | true =>
   go_enter Tryz.func26, Tryz.ntmps26
   go_upto_region 1 with fail
   rw [← hW0]
   obtain ⟨⟨x0, x1, x2⟩, ⟨y0, y1, y2⟩, b0, z0⟩ := HS.out W0 (Below.refl _ _)
   clear hW0
   go_wp2_with fail
   refine (HE1.out _ (HR.out _ b0).1.1 (HR.out _ b0).2.1).mono ?_
   rintro e w1 ⟨rfl, k1⟩
   rw [d2]
   have B1 : Below (w.heap.size + 2) W0 w1 := (Below.refl _ _).trans (k1.mono z0)
   clear x0 x1 x2 y0 y1 y2 b0 z0 k1 d2
   obtain ⟨⟨x0, x1, x2⟩, ⟨y0, y1, y2⟩, b0, z0⟩ := HS.out w1 B1
   go_wp2_with fail
   refine (HE2.out _ (HR.out _ b0).1.2 (HR.out _ b0).2.2).mono ?_
   rintro e w2 ⟨rfl, k2⟩
   have B2 : Below (w.heap.size + 2) W0 w2 := B1.trans (k2.mono z0)
   clear x0 x1 x2 y0 y1 y2 b0 z0 k2 B1
   obtain ⟨⟨x0, x1, x2⟩, ⟨y0, y1, y2⟩, b0, z0⟩ := HS.out w2 B2
   obtain ⟨R, hR⟩ : ∃ R, R = decide (a.lo = b.lo) := ⟨_, rfl⟩
   rw [← hR]
   have HR2 := hide hR
   clear hR
   go_wp2_with fail
   go_ret
   exact ⟨by rw [HR2.out]; simp, b0⟩
end Go.Proofs.YtlmcoollkmhanaaGreat
