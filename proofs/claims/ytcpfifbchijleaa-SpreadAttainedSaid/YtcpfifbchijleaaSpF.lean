/- slices.Sorted of slices.Values of integers. -/
import Derived.Test.YtcpfifbchijleaaSpE
import Derived.Shelf.SortM.Plain
import Derived.Shelf.SortM.SortNone
import Derived.Sort.OwnSortedInts
import Derived.Lib.OwnBridge
namespace Go.Proofs.Ytcpfifbchijleaa
open Go.RowKit Go.Shelf
def sortA_ren : Go.Shelf.Ren := ⟨fun | 5 => 42 | 8 => 52 | 7 => 51 | 19 => 66 | 20 => 67 | 10 => 57 | 11 => 58 | 12 => 59 | 13 => 60 | 14 => 61 | 15 => 62 | 16 => 63 | 17 => 64 | 18 => 65 | 30 => 72 | 31 => 73 | 32 => 74 | 33 => 75 | 34 => 76 | 35 => 48 | 40 => 84 | n => n, fun | 23 => 22 | 25 => 3 | 3 => 3 | 32 => 87 | 22 => 22 | 0 => 0 | 44 => 35 | 46 => 44 | 4 => 4 | 36 => 93 | 35 => 92 | 41 => 96 | 5 => 5 | 9 => 9 | 53 => 108 | 57 => 112 | 63 => 120 | 64 => 55 | n => n, fun | n => n⟩
theorem sortA : Go.Proofs.SlLaysM.n5 Try.prog sortA_ren := {
  mixed := by kernel_rfl,
  f5 := ⟨Try.f42.name, by decide, Try.func42.trans (congrArg some (by kernel_rfl))⟩,
  f7 := ⟨Try.f51.name, by decide, Try.func51.trans (congrArg some (by kernel_rfl))⟩,
  f8 := Try.func52.trans (congrArg some (by kernel_rfl)),
  f10 := ⟨Try.f57.name, by decide, Try.func57.trans (congrArg some (by kernel_rfl))⟩,
  f11 := ⟨Try.f58.name, by decide, Try.func58.trans (congrArg some (by kernel_rfl))⟩,
  f12 := ⟨Try.f59.name, by decide, Try.func59.trans (congrArg some (by kernel_rfl))⟩,
  f13 := ⟨Try.f60.name, by decide, Try.func60.trans (congrArg some (by kernel_rfl))⟩,
  f14 := ⟨Try.f61.name, by decide, Try.func61.trans (congrArg some (by kernel_rfl))⟩,
  f15 := ⟨Try.f62.name, by decide, Try.func62.trans (congrArg some (by kernel_rfl))⟩,
  f16 := ⟨Try.f63.name, by decide, Try.func63.trans (congrArg some (by kernel_rfl))⟩,
  f17 := ⟨Try.f64.name, by decide, Try.func64.trans (congrArg some (by kernel_rfl))⟩,
  f18 := ⟨Try.f65.name, by decide, Try.func65.trans (congrArg some (by kernel_rfl))⟩,
  f19 := Try.func66.trans (congrArg some (by kernel_rfl)),
  f20 := Try.func67.trans (congrArg some (by kernel_rfl)),
  f30 := ⟨Try.f72.name, by decide, Try.func72.trans (congrArg some (by kernel_rfl))⟩,
  f31 := Try.func73.trans (congrArg some (by kernel_rfl)),
  f32 := Try.func74.trans (congrArg some (by kernel_rfl)),
  f33 := ⟨Try.f75.name, by decide, Try.func75.trans (congrArg some (by kernel_rfl))⟩,
  f34 := ⟨Try.f76.name, by decide, Try.func76.trans (congrArg some (by kernel_rfl))⟩,
  f35 := ⟨Try.f48.name, by decide, Try.func48.trans (congrArg some (by kernel_rfl))⟩,
  f40 := ⟨Try.f84.name, by decide, Try.func84.trans (congrArg some (by kernel_rfl))⟩,
  t0 := Try.underlying0,
  a0 := Try.isAgg0,
  z0 := Try.sizeOf0,
  v0 := Try.zeroValue0,
  t3 := Try.underlying3,
  a3 := Try.isAgg3,
  z3 := Try.sizeOf3,
  v3 := Try.zeroValue3,
  t4 := Try.underlying4,
  a4 := Try.isAgg4,
  z4 := Try.sizeOf4,
  v4 := Try.zeroValue4,
  t5 := Try.underlying5,
  a5 := Try.isAgg5,
  z5 := Try.sizeOf5,
  v5 := Try.zeroValue5,
  t9 := Try.underlying9,
  a9 := Try.isAgg9,
  z9 := Try.sizeOf9,
  v9 := Try.zeroValue9,
  t22 := Try.underlying22,
  a22 := Try.isAgg22,
  z22 := Try.sizeOf22,
  v22 := Try.zeroValue22,
  t23 := Try.underlying22,
  a23 := Try.isAgg22,
  z23 := Try.sizeOf22,
  v23 := Try.zeroValue22,
  t25 := Try.underlying3,
  a25 := Try.isAgg3,
  z25 := Try.sizeOf3,
  v25 := Try.zeroValue3,
  t32 := Try.underlying87,
  a32 := Try.isAgg87,
  z32 := Try.sizeOf87,
  v32 := Try.zeroValue87,
  t35 := Try.underlying92,
  a35 := Try.isAgg92,
  z35 := Try.sizeOf92,
  v35 := Try.zeroValue92,
  t36 := Try.underlying93,
  a36 := Try.isAgg93,
  z36 := Try.sizeOf93,
  v36 := Try.zeroValue93,
  t41 := Try.underlying96,
  a41 := Try.isAgg96,
  z41 := Try.sizeOf96,
  v41 := Try.zeroValue96,
  t44 := Try.underlying35,
  a44 := Try.isAgg35,
  z44 := Try.sizeOf35,
  v44 := Try.zeroValue35,
  t46 := Try.underlying44,
  a46 := Try.isAgg44,
  z46 := Try.sizeOf44,
  v46 := Try.zeroValue44,
  t53 := Try.underlying108,
  a53 := Try.isAgg108,
  z53 := Try.sizeOf108,
  v53 := Try.zeroValue108,
  t57 := Try.underlying112,
  a57 := Try.isAgg112,
  z57 := Try.sizeOf112,
  v57 := Try.zeroValue112,
  t63 := Try.underlying120,
  a63 := Try.isAgg120,
  z63 := Try.sizeOf120,
  v63 := Try.zeroValue120,
  t64 := Try.underlying55,
  a64 := Try.isAgg55,
  z64 := Try.sizeOf55,
  v64 := Try.zeroValue55 }


def srtI (zs : List Int) : List Int := zs.mergeSort fun x y => decide (x ≤ y)
theorem srtI_length (zs : List Int) : (srtI zs).length = zs.length := List.length_mergeSort zs
theorem sortI_calls (blk off cap : Nat) (zs : List Int) (w : World) (hH : Sort.Holds (Value.int .i64) w blk off zs.toArray) (hblk : blk < w.heap.size) (hsz : zs.length < 4611686018427387904) :
    Calls Try.prog 42 #[.slice (some ⟨blk, off, none⟩) zs.length cap] w fun e w' => e = .returned (.tuple #[]) ∧ ∃ n os, w' = Sort.grow (Sort.putRow (Value.int .i64) (Sort.ahead w n) blk off (srtI zs).toArray) os :=
  AnyM.slices_Sort_int sortA blk off cap zs w hH hblk hsz
theorem sortI_none (p : Option Addr) (cap : Nat) (w : World) : Calls Try.prog 42 #[.slice p 0 cap] w fun e w' => e = .returned (.tuple #[]) ∧ w' = w := AnyM.slices_Sort_int_none sortA p cap w
theorem SortI_any (v : Value) (zs : List Int) (base : Nat) (w : World) (hown : OwnIs w base v zs) (hbase : base ≤ w.heap.size) (hz : zs.length ≤ 1000) :
    Calls Try.prog 42 #[v] w fun e w' => e = .returned (.tuple #[]) ∧ OwnIs w' base v (srtI zs) ∧ Below base w w' := by
  rcases hown.2 with ⟨hv, h0⟩ | ⟨g, cap, cur, hv, hg, hc, hn, hm, hcur, _⟩
  · have hz0 : zs = [] := List.eq_nil_of_length_eq_zero h0
    subst hz0 hv
    exact (sortI_none none 0 w).mono fun e w' ⟨he, hw⟩ => ⟨he, by rw [hw, show srtI [] = [] from by simp [srtI]]; exact hown, by rw [hw]; exact Below.refl _ _⟩
  · subst hv
    obtain ⟨g', cap', e1, e2, e3, e4, e5, e6, hH⟩ := Lib.holds_of_ownsRow (enc := Value.int .i64) hown (by simp)
    cases e1
    refine (sortI_calls g 0 cap zs w hH e3 (by omega)).mono fun e w' ⟨he, n, os, hw⟩ => ⟨he, ?_, ?_⟩
    · subst hw
      have := ownsRow_sortedI (n := n) (os := os) (ss := zs) (ts := srtI zs) (srtI_length zs) hg hc hn hm hcur
      unfold OwnIs
      rw [srtI_length]
      exact this
    · subst hw
      exact (Below.refl base w).grown (grownBy_sortedI _) hbase (fun k e => by cases e; exact hg)
set_option maxRecDepth 100000 in
set_option maxHeartbeats 400000 in
theorem Sorted_any (Bn : Nat) (v : Value) (zs : List Int) (w0 w : World) (hv : IsRow w0 v zs) (hz : zs.length ≤ 1000) (hs0 : w0.heap.size ≤ w.heap.size) (hb0 : ∀ q, q < w0.heap.size → w.heap[q]? = w0.heap[q]?) (hBn : w0.heap.size ≤ Bn) (hc : w.cell? ⟨Bn, 0, none⟩ = some v) :
    Calls Try.prog 26 #[.func (.func 43) #[] #[.pointer (some ⟨Bn, 0, none⟩)]] w fun e w' => ∃ ov, e = .returned ov ∧ OwnIs w' w.heap.size ov (srtI zs) ∧ Below w.heap.size w w' := by
  have Hb0 := hide hb0
  clear hb0
  go_enter Try.func26, Try.ntmps26
  go_wp2_with fail
  refine (Collect_any Bn v zs w0 _ hv hz hs0 Hb0.out hBn hc).mono ?_
  rintro e w1 ⟨ov, rfl, ho, b1⟩
  go_wp2_with fail
  refine (SortI_any _ _ _ _ ho b1.size hz).mono ?_
  rintro e w2 ⟨rfl, ho2, b2⟩
  go_wp2_with fail
  go_ret
  exact ⟨ov, rfl, ho2, b1.trans b2⟩
end Go.Proofs.Ytcpfifbchijleaa
