
/- For all sites, schedules and changes: the statement CertChanged answers true; without a condition. -/
import Derived.Test.YtlmcoollkmhanaaCtZ5b
import Derived.Test.YtlmcoollkmhanaaCtZ5c
import Derived.Test.YtlmcoollkmhanaaCtZ5d
import Derived.Test.YtlmcoollkmhanaaCtZ5e
namespace Go.Proofs.Ytlmcoollkmhanaa
open Go.RowKit

theorem CtZ5_any (w : World) (v0 : Value) (s : SiA) (hs : SiOk w v0 s) (v1 : Value) (c : ScA) (hc : ScOk w v1 c) (mo : Int) (hmo : 0 ≤ mo ∧ mo ≤ 65535) (wh : Int) (hwh : 0 ≤ wh ∧ wh ≤ 65535) (wt : Int) (hwt : 0 ≤ wt ∧ wt ≤ 255) (by_ : Int) (hby : -32768 ≤ by_ ∧ by_ ≤ 32767) :
  Calls Try.prog 4 #[v0, v1, .int .u16 mo, .int .u16 wh, .int .u8 wt, .int .i16 by_] w fun e w' => e = .returned (.bool true) ∧ Below w.heap.size w w' := by
 have h5 : wt % 5 = 0 ∨ wt % 5 = 1 ∨ wt % 5 = 2 ∨ wt % 5 = 3 ∨ wt % 5 = 4 := by omega
 rcases h5 with e5 | e5 | e5 | e5 | e5
 ·exact CtZ5_c0 w v0 s hs v1 c hc mo hmo wh hwh wt hwt e5 by_ hby
 ·exact CtZ5_c1 w v0 s hs v1 c hc mo hmo wh hwh wt hwt e5 by_ hby
 ·exact CtZ5_c2 w v0 s hs v1 c hc mo hmo wh hwh wt hwt e5 by_ hby
 ·exact CtZ5_c3 w v0 s hs v1 c hc mo hmo wh hwh wt hwt e5 by_ hby
 ·by_cases hq : wh % ((csL ⟨s.r, s.f, s.lo, s.tm, s.ps⟩ c.use c.ev).length : Int) = wh / 7 % ((csL ⟨s.r, s.f, s.lo, s.tm, s.ps⟩ c.use c.ev).length : Int)
  ·exact CtZ5_c4 w v0 s hs v1 c hc mo hmo wh hwh wt hwt e5 hq by_ hby
  ·exact CtZ5_c5 w v0 s hs v1 c hc mo hmo wh hwh wt hwt e5 hq by_ hby
set_option maxRecDepth 100000 in
theorem certChanged_holds : Rows.CertChangedSaid :=
 OpenClaim.holds_of_wide 4 Try.f4 rfl rfl rfl rfl rfl rfl rfl ⟨rfl, rfl, rfl, rfl, rfl⟩ rfl rfl rfl rfl rfl (by kernel_rfl) Try.func4 (by kernel_rfl)
  (of_decide_eq_true (by kernel_rfl)) (by unfold Func.isWrapper; rw [if_neg (of_decide_eq_false (by kernel_rfl))]; exact ⟨rfl, rfl⟩)
  (fun os started H enc _ => law_lifted started 4 Try.f4 Try.func4 (by kernel_rfl) Rows.certChangedSpec rfl rfl
   (fun ds h => by match ds, h with | [_, _, _, _, _, _], _ => exact ⟨rfl, rfl, rfl⟩)
   (fun t h => by
    rw [Try.params4] at h
    simp only [List.mem_cons, List.not_mem_nil, or_false] at h
    rcases h with rfl | rfl | rfl | rfl | rfl | rfl <;> exact ⟨by kernel_rfl, of_decide_eq_true (by kernel_rfl)⟩)
   (ChangeSpec.witness6 (enc := enc) (C := Try.checked) false ⟨#[], #[.agg #[.int .i64 0, .int .i64 0, .int .i64 0, .int .i64 0, .slice none 0 0], .agg #[.slice none 0 0, .int .i64 0], .int .u16 0, .int .u16 0, .int .u8 0, .int .i16 0], []⟩ 8 (by kernel_rfl) (by kernel_rfl) (by kernel_rfl) (by kernel_rfl))
   (fun W base args ds p hA hok => by
    rw [Try.params4] at hA hok
    obtain ⟨v0, vs0, d0, ds0, p0, q0, hargs, rfl, rfl, h0, r0⟩ := ChangeShapes.trodAll_cons hA
    obtain ⟨v1, vs1, d1, ds1, p1, q1, rfl, rfl, rfl, h1, r1⟩ := ChangeShapes.trodAll_cons r0
    obtain ⟨v2, vs2, d2, ds2, p2, q2, rfl, rfl, rfl, h2, r2⟩ := ChangeShapes.trodAll_cons r1
    obtain ⟨v3, vs3, d3, ds3, p3, q3, rfl, rfl, rfl, h3, r3⟩ := ChangeShapes.trodAll_cons r2
    obtain ⟨v4, vs4, d4, ds4, p4, q4, rfl, rfl, rfl, h4, r4⟩ := ChangeShapes.trodAll_cons r3
    obtain ⟨v5, vs5, d5, ds5, p5, q5, rfl, rfl, rfl, h5, r5⟩ := ChangeShapes.trodAll_cons r4
    obtain ⟨rfl, rfl, rfl⟩ := ChangeShapes.trodAll_nil r5
    obtain rfl : args = #[v0, v1, v2, v3, v4, v5] := by rw [← Array.toArray_toList (xs := args), hargs]
    obtain ⟨l0, hl0⟩ := open_site (hok 0 _ v0 rfl rfl) h0
    obtain ⟨l1, hl1⟩ := open_sched (hok 1 _ v1 rfl rfl) h1
    obtain ⟨x2, rfl, hx2⟩ := open_u16 Try.underlying41 (hok 2 _ v2 rfl rfl) h2
    obtain ⟨x3, rfl, hx3⟩ := open_u16 Try.underlying41 (hok 3 _ v3 rfl rfl) h3
    obtain ⟨x4, rfl, hx4⟩ := open_u8 Try.underlying5 (hok 4 _ v4 rfl rfl) h4
    obtain ⟨x5, rfl, hx5⟩ := open_i16 Try.underlying42 (hok 5 _ v5 rfl rfl) h5
    exact CtZ5_any W v0 l0 hl0 v1 l1 hl1 x2 hx2 x3 hx3 x4 hx4 x5 hx5))
end Go.Proofs.Ytlmcoollkmhanaa
