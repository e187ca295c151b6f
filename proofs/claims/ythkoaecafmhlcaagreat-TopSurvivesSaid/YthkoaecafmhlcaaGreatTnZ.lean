/- TopSurvives: for every argument the law answers true, and its arguments stand as they were; no condition. -/
import Derived.Test.YthkoaecafmhlcaaGreatJ50
import Derived.Test.YthkoaecafmhlcaaGreatJ01
import Derived.Test.YthkoaecafmhlcaaGreatJ44
namespace Go.Proofs.YthkoaecafmhlcaaGreat
open Go.ChangeShapes Go.WideShapes Go.ChangeAt Go.RowKit
set_option maxRecDepth 100000 in
theorem topSurvives_holds : Rows.TopSurvivesSaid :=
 OpenClaim.holds_of_wide 3 Tryz.f3 rfl rfl rfl rfl rfl rfl rfl ⟨rfl, rfl, rfl, rfl, rfl⟩ rfl rfl rfl rfl rfl (by kernel_rfl) Tryz.func3 (by kernel_rfl)
  (of_decide_eq_true (by kernel_rfl)) (by unfold Func.isWrapper; rw [if_neg (of_decide_eq_false (by kernel_rfl))]; exact ⟨rfl, rfl⟩)
  (fun os started H enc _ => law_lifted started 3 Tryz.f3 Tryz.func3 (by kernel_rfl) Rows.topSurvivesSpec rfl rfl
   (fun ds h => by match ds, h with | [_, _, _, _, _, _], _ => exact ⟨rfl, rfl, rfl⟩)
   (fun t h => by
    rw [Tryz.params3] at h
    simp only [List.mem_cons, List.not_mem_nil, or_false] at h
    rcases h with rfl | rfl | rfl | rfl | rfl | rfl <;> exact ⟨by kernel_rfl, of_decide_eq_true (by kernel_rfl)⟩)
   (ChangeSpec.witness6 (enc := enc) (C := Tryz.checked) false ⟨#[], #[.slice none 0 0, .agg #[.int .u16 0, .int .u16 0, .int .u16 0], .int .u8 0, .int .i64 0, .int .u8 0, .agg #[.int .i64 0, .int .i64 0, .slice none 0 0, .slice none 0 0, .int .u32 0, .int .u16 0, .int .u16 0, .bool false]], []⟩ 8 (by kernel_rfl) (by kernel_rfl) (by kernel_rfl) (by kernel_rfl))
   (fun W base args ds p hA hok => by
    rw [Tryz.params3] at hA hok
    obtain ⟨v0, vs0, d0, ds0, p0, q0, hargs, rfl, rfl, h0, r0⟩ := ChangeShapes.trodAll_cons hA
    obtain ⟨v1, vs1, d1, ds1, p1, q1, rfl, rfl, rfl, h1, r1⟩ := ChangeShapes.trodAll_cons r0
    obtain ⟨v2, vs2, d2, ds2, p2, q2, rfl, rfl, rfl, h2, r2⟩ := ChangeShapes.trodAll_cons r1
    obtain ⟨v3, vs3, d3, ds3, p3, q3, rfl, rfl, rfl, h3, r3⟩ := ChangeShapes.trodAll_cons r2
    obtain ⟨v4, vs4, d4, ds4, p4, q4, rfl, rfl, rfl, h4, r4⟩ := ChangeShapes.trodAll_cons r3
    obtain ⟨v5, vs5, d5, ds5, p5, q5, rfl, rfl, rfl, h5, r5⟩ := ChangeShapes.trodAll_cons r4
    obtain ⟨rfl, rfl, rfl⟩ := ChangeShapes.trodAll_nil r5
    obtain rfl : args = #[v0, v1, v2, v3, v4, v5] := by rw [← Array.toArray_toList (xs := args), hargs]
    obtain ⟨l0, hl0⟩ := open_dds (hok 0 _ v0 rfl rfl) h0
    obtain ⟨l1, hl1⟩ := open_u3 (hok 1 _ v1 rfl rfl) h1
    obtain ⟨x2, rfl, hx2⟩ := open_u8 Tryz.underlying5 (hok 2 _ v2 rfl rfl) h2
    obtain ⟨x3, rfl, hx3⟩ := open_i64 Tryz.underlying3 (hok 3 _ v3 rfl rfl) h3
    obtain ⟨x4, rfl, hx4⟩ := open_u8 Tryz.underlying5 (hok 4 _ v4 rfl rfl) h4
    obtain ⟨l5, hl5⟩ := open_dd (hok 5 _ v5 rfl rfl) h5
    exact TopS_any W v0 l0 hl0 v1 l1 hl1 x2 hx2 x3 x4 hx4 v5 l5 hl5))
#print axioms topSurvives_holds
end Go.Proofs.YthkoaecafmhlcaaGreat
