/- Package plan: the rules, and the iterator over all offers. -/
import Derived.Test.YtiaahfccebmkdaaPlP
import Derived.Test.YtiaahfccebmkdaaWdG
import Derived.Test.YtiaahfccebmkdaaRg
import Derived.RangeFuncBox
import Derived.RangeFuncFrom
import Derived.Shelf.Abstract
import Derived.Shelf.AbstractIn
import Derived.Shelf.RegionOpen
import Derived.OwnWalkIn
import Derived.TacticsInMore
import Derived.LoopNIn
import Derived.LoopIn
import Derived.Sort.QuietIn
import Derived.Sort.BigQuietIn
import Derived.Sort.QuietTacIn
import Derived.BigRegionIn
namespace Go.Proofs.Ytiaahfccebmkdaa
open Go.RowKit Go.Shelf
attribute [local go_sem] Oper.semAt_some

theorem grown_of_below {A B : World} (h : Below A.heap.size A B) : A.grownBy B none := ⟨h.os, h.tape, h.output, h.size, fun k hk _ => h.block k hk⟩
theorem isrow_keepC {b1 b2 : Nat} {A B : World} {v : Value} {l : List Int} (h : IsRow A v l) (hb : ∀ q, v.ownBlock = some q → q ≠ b1 ∧ q ≠ b2) (k : KeepC b1 b2 A B) : IsRow B v l := by
  obtain ⟨a, cap, rfl, h1, h2, h3⟩ := h
  refine ⟨a, cap, rfl, h1, h2, fun i hi => ?_⟩
  obtain ⟨b, off, rfl, h4, h5⟩ := h3 i hi
  obtain ⟨n1, n2⟩ := hb b rfl
  exact ⟨b, off, rfl, Nat.lt_of_lt_of_le h4 k.1, k.cell h5 n1 n2⟩
theorem isrow_keepC0 {b1 b2 : Nat} {w A B : World} {v : Value} {l : List Int} (h : IsRow w v l) (hA : Below w.heap.size w A) (h1 : w.heap.size ≤ b1) (h2 : w.heap.size ≤ b2) (k : KeepC b1 b2 A B) : IsRow B v l := by
  obtain ⟨a, cap, rfl, g1, g2, g3⟩ := h
  refine ⟨a, cap, rfl, g1, g2, fun i hi => ?_⟩
  obtain ⟨b, off, rfl, h4, h5⟩ := g3 i hi
  exact ⟨b, off, rfl, Nat.lt_of_lt_of_le h4 (Nat.le_trans hA.size k.1), k.cell ((hA.cell (p := ⟨b, off + i, none⟩) h4).trans h5) (by omega) (by omega)⟩
theorem prrow_keepC0 {b1 b2 : Nat} {w A B : World} {v : Value} {l : List Pr} (h : PrRow w v l) (hA : Below w.heap.size w A) (h1 : w.heap.size ≤ b1) (h2 : w.heap.size ≤ b2) (k : KeepC b1 b2 A B) : PrRow B v l := by
  obtain ⟨a, cap, rfl, g1, g2, g3⟩ := h
  refine ⟨a, cap, rfl, g1, g2, fun i hi => ?_⟩
  obtain ⟨b, off, rfl, h4, h5⟩ := g3 i hi
  have hc : ∀ o v, w.cell? ⟨b, o, none⟩ = some v → B.cell? ⟨b, o, none⟩ = some v := fun o v hv => k.cell ((hA.cell (p := ⟨b, o, none⟩) h4).trans hv) (by omega) (by omega)
  obtain ⟨c0, c1, c2, c3, c4, c5, c6, c7⟩ := h5
  exact ⟨b, off, rfl, Nat.lt_of_lt_of_le h4 (Nat.le_trans hA.size k.1), hc _ _ c0, hc _ _ c1, hc _ _ c2, hc _ _ c3, hc _ _ c4, hc _ _ c5, hc _ _ c6, hc _ _ c7⟩
set_option maxRecDepth 100000 in
set_option maxHeartbeats 1000000 in
theorem rules_any (r f lo tm : Int) (pv : Value) (w : World) :
    Calls Try.prog 26 #[.agg #[.int .i64 r, .int .i64 f, .int .i64 lo, .int .i64 tm, pv]] w fun e w' => e = .returned (.slice (some ⟨w.heap.size + 1, 0, none⟩) 5 5) ∧
      w' = (w.alloc (.cells #[.int .i64 r, .int .i64 f, .int .i64 lo, .int .i64 tm, pv] 24)).alloc (.cells #[.func (.func 43) #[] #[.pointer (some ⟨w.heap.size, 0, none⟩)], .func (.func 44) #[] #[], .func (.func 46) #[] #[], .func (.func 47) #[] #[], .func (.func 49) #[] #[]] 75) := by
  go_enter Try.func26, Try.ntmps26
  go_wp2_with fail
  go_ret
  exact ⟨by first | rfl | (simp; done), rfl⟩
set_option maxRecDepth 100000 in
set_option maxHeartbeats 1000000 in
theorem offers_any (r f lo tm : Int) (pv v : Value) (pl : List Int) (w : World) (hv : IsRow w v pl) :
    Calls Try.prog 42 #[.agg #[.int .i64 r, .int .i64 f, .int .i64 lo, .int .i64 tm, pv], v] w fun e w' => e = .returned (.func (.func 65) #[] #[.pointer (some ⟨w.heap.size, 0, none⟩), .pointer (some ⟨w.heap.size + 1, 0, none⟩)]) ∧
      w' = (w.alloc (.cells #[.int .i64 r, .int .i64 f, .int .i64 lo, .int .i64 tm, pv] 24)).alloc (.cells #[v] 25) := by
  obtain ⟨a, cap, rfl, -⟩ := hv
  go_enter Try.func42, Try.ntmps42
  go_wp2_with fail
  go_ret
  exact ⟨by first | rfl | (simp; done), rfl⟩
end Go.Proofs.Ytiaahfccebmkdaa
