/- The edges of intervals: the comparison, the sort, the list that is sorted. -/
import Derived.Test.YtcpfifbchijleaaIvD
import Derived.Test.YtcpfifbchijleaaIvN
import Derived.Shelf.SlSortCmp.WholeK
import Derived.Shelf.SlSortCmp.NoneTotal
import Derived.Lib.Small
namespace Go.Proofs.Ytcpfifbchijleaa
open Go.RowKit
def sortE_ren : Go.Shelf.Ren := ⟨fun | 6 => 80 | 15 => 52 | 14 => 86 | 28 => 66 | 29 => 67 | 20 => 87 | 21 => 88 | 22 => 89 | 23 => 90 | 24 => 91 | 25 => 92 | 26 => 93 | 27 => 94 | 46 => 95 | 47 => 73 | 48 => 74 | 49 => 96 | 50 => 97 | 57 => 98 | n => n, fun | 22 => 116 | 24 => 106 | 25 => 118 | 3 => 3 | 39 => 87 | 0 => 0 | 53 => 35 | 55 => 44 | 4 => 4 | 46 => 93 | 45 => 92 | 50 => 96 | 5 => 5 | 9 => 9 | 66 => 108 | 70 => 112 | 76 => 120 | 77 => 55 | n => n, fun | n => n⟩
theorem sortE : Go.Proofs.SlLaysF0.n6 Try.prog sortE_ren := {
  mixed := by kernel_rfl,
  f6 := ⟨Try.f80.name, by decide, Try.func80.trans (congrArg some (by kernel_rfl))⟩,
  f14 := ⟨Try.f86.name, by decide, Try.func86.trans (congrArg some (by kernel_rfl))⟩,
  f15 := Try.func52.trans (congrArg some (by kernel_rfl)),
  f20 := ⟨Try.f87.name, by decide, Try.func87.trans (congrArg some (by kernel_rfl))⟩,
  f21 := ⟨Try.f88.name, by decide, Try.func88.trans (congrArg some (by kernel_rfl))⟩,
  f22 := ⟨Try.f89.name, by decide, Try.func89.trans (congrArg some (by kernel_rfl))⟩,
  f23 := ⟨Try.f90.name, by decide, Try.func90.trans (congrArg some (by kernel_rfl))⟩,
  f24 := ⟨Try.f91.name, by decide, Try.func91.trans (congrArg some (by kernel_rfl))⟩,
  f25 := ⟨Try.f92.name, by decide, Try.func92.trans (congrArg some (by kernel_rfl))⟩,
  f26 := ⟨Try.f93.name, by decide, Try.func93.trans (congrArg some (by kernel_rfl))⟩,
  f27 := ⟨Try.f94.name, by decide, Try.func94.trans (congrArg some (by kernel_rfl))⟩,
  f28 := Try.func66.trans (congrArg some (by kernel_rfl)),
  f29 := Try.func67.trans (congrArg some (by kernel_rfl)),
  f46 := ⟨Try.f95.name, by decide, Try.func95.trans (congrArg some (by kernel_rfl))⟩,
  f47 := Try.func73.trans (congrArg some (by kernel_rfl)),
  f48 := Try.func74.trans (congrArg some (by kernel_rfl)),
  f49 := ⟨Try.f96.name, by decide, Try.func96.trans (congrArg some (by kernel_rfl))⟩,
  f50 := ⟨Try.f97.name, by decide, Try.func97.trans (congrArg some (by kernel_rfl))⟩,
  f57 := ⟨Try.f98.name, by decide, Try.func98.trans (congrArg some (by kernel_rfl))⟩,
  t0 := Try.underlying0,
  a0 := Try.isAgg0,
  z0 := Try.sizeOf0,
  v0 := Try.zeroValue0,
  t3 := Try.underlying3,
  a3 := Try.isAgg3,
  z3 := Try.sizeOf3,
  v3 := Try.zeroValue3,
  t4 := Try.underlying4,
  a4 := Try.isAgg4,
  z4 := Try.sizeOf4,
  v4 := Try.zeroValue4,
  t5 := Try.underlying5,
  a5 := Try.isAgg5,
  z5 := Try.sizeOf5,
  v5 := Try.zeroValue5,
  t9 := Try.underlying9,
  a9 := Try.isAgg9,
  z9 := Try.sizeOf9,
  v9 := Try.zeroValue9,
  t22 := Try.underlying116,
  a22 := Try.isAgg116,
  z22 := Try.sizeOf116,
  v22 := Try.zeroValue116,
  t25 := Try.underlying118,
  a25 := Try.isAgg118,
  z25 := Try.sizeOf118,
  v25 := Try.zeroValue118,
  t39 := Try.underlying87,
  a39 := Try.isAgg87,
  z39 := Try.sizeOf87,
  v39 := Try.zeroValue87,
  t45 := Try.underlying92,
  a45 := Try.isAgg92,
  z45 := Try.sizeOf92,
  v45 := Try.zeroValue92,
  t46 := Try.underlying93,
  a46 := Try.isAgg93,
  z46 := Try.sizeOf93,
  v46 := Try.zeroValue93,
  t50 := Try.underlying96,
  a50 := Try.isAgg96,
  z50 := Try.sizeOf96,
  v50 := Try.zeroValue96,
  t53 := Try.underlying35,
  a53 := Try.isAgg35,
  z53 := Try.sizeOf35,
  v53 := Try.zeroValue35,
  t55 := Try.underlying44,
  a55 := Try.isAgg44,
  z55 := Try.sizeOf44,
  v55 := Try.zeroValue44,
  t66 := Try.underlying108,
  a66 := Try.isAgg108,
  z66 := Try.sizeOf108,
  v66 := Try.zeroValue108,
  t70 := Try.underlying112,
  a70 := Try.isAgg112,
  z70 := Try.sizeOf112,
  v70 := Try.zeroValue112,
  t76 := Try.underlying120,
  a76 := Try.isAgg120,
  z76 := Try.sizeOf120,
  v76 := Try.zeroValue120,
  t77 := Try.underlying55,
  a77 := Try.isAgg55,
  z77 := Try.sizeOf55,
  v77 := Try.zeroValue55 }


def encE (x : Int × Int) : List Value := [.int .i64 x.1, .int .i64 x.2]
theorem aggE : ∀ w, (isAgg 106).run Try.prog w = .ok true w := fun _ => by kernel_rfl
theorem sizE : ∀ w, (Go.sizeOf 106).run Try.prog w = .ok 2 w := fun _ => by kernel_rfl
def cmpE (x y : Int × Int) : Int := Lib.compareInt x.1 y.1
theorem cmpE_lt (x y : Int × Int) : ltOf cmpE x y = decide (x.1 < y.1) := by
  unfold ltOf cmpE Lib.compareInt
  by_cases h1 : x.1 < y.1
  · simp [h1]
  · by_cases h2 : y.1 < x.1 <;> simp [h1, h2]
theorem cmpE_swo : Sort.SWO (ltOf cmpE) where
  irrefl x := by rw [cmpE_lt]; simp
  trans x y z h1 h2 := by rw [cmpE_lt] at *; simp at *; omega
  ntrans x y z h1 h2 := by rw [cmpE_lt] at *; simp at *; omega

set_option maxRecDepth 100000 in
set_option maxHeartbeats 400000 in
theorem isNaNI_any (x : Int) (w : World) : Calls Try.prog 48 #[.int .i64 x] w fun e w' => e = .returned (.bool false) ∧ w' = w := by
  go_enter Try.func48, Try.ntmps48
  go_wp2
  all_goals go_ret
  all_goals exact ⟨ret_bool (by simp), rfl⟩
set_option maxRecDepth 100000 in
set_option maxHeartbeats 400000 in
theorem CompareI_any (x y : Int) (w : World) : Calls Try.prog 38 #[.int .i64 x, .int .i64 y] w fun e w' => e = .returned (.int .i64 (Lib.compareInt x y)) ∧ w' = w := by
  go_enter Try.func38, Try.ntmps38
  go_wp2_with (go_at_call 48; refine (isNaNI_any _ _).mono ?_; rintro e w' ⟨rfl, rfl⟩)
  all_goals go_ret
  all_goals exact ⟨ret_int (by unfold Lib.compareInt; split <;> first | rfl | omega | (split <;> first | rfl | omega)), rfl⟩
set_option maxRecDepth 100000 in
set_option maxHeartbeats 400000 in
theorem edges1_any (x y : Int × Int) (W : World) : Calls Try.prog 81 #[.agg #[.int .i64 x.1, .int .i64 x.2], .agg #[.int .i64 y.1, .int .i64 y.2]] W fun e w' =>
    e = .returned (.int .i64 (cmpE x y)) ∧ ∃ q os', w' = Sort.grow (W.drewN q) os' := by
  go_enter Try.func81, Try.ntmps81
  go_wp2_with (go_at_call 38; refine (CompareI_any _ _ _).mono ?_; rintro e w' ⟨rfl, rfl⟩)
  go_ret
  exact ⟨rfl, 0, _, by rw [Sort.alloc_eq_grow, Sort.alloc_eq_grow, Sort.grow_grow]; rfl⟩
theorem edges1_lays (blk off size : Nat) (w : World) : CmpLays Try.prog 81 #[] encE 2 cmpE blk off size w := fun _ _ _ _ x y => edges1_any x y _
theorem sortE_calls (blk off cap : Nat) (d : Array (Int × Int)) (w : World) (hH : Sort.HoldsK encE 2 w blk off d) (hblk : blk < w.heap.size) (hsz : d.size < 4611686018427387904) :
    Calls Try.prog 80 #[.slice (some ⟨blk, off, none⟩) d.size cap, .func (.func 81) #[] #[]] w fun e w' =>
      e = .returned (.tuple #[]) ∧ ∃ d' n os, Sort.PermIn 0 d.size d d' ∧ Sort.SortedIn (ltOf cmpE) 0 d.size d' ∧ w' = sortWorldK encE 2 w blk off n d' os :=
  AnyQ.slices_SortFunc sortE 2 aggE sizE encE (fun _ => rfl) (fun x v hv => by simp [encE] at hv; rcases hv with rfl | rfl <;> rfl) cmpE cmpE_swo 81 #[] blk off cap d w
    (enters_of Try.func81 (by kernel_rfl) rfl) (edges1_lays blk off d.size w) hH hblk hsz
theorem sortE_none (p : Option Addr) (cap : Nat) (fv : Value) (w : World) :
    Calls Try.prog 80 #[.slice p 0 cap, fv] w fun e w' => e = .returned (.tuple #[]) ∧ w' = w := AnyF.slices_SortFunc_none sortE p cap fv w

theorem below_sortWorldK {B blk off n : Nat} {w : World} {d' : Array (Int × Int)} {os : Array Obj} (h : B ≤ blk) (hB : B ≤ w.heap.size) : Below B w (sortWorldK encE 2 w blk off n d' os) := by
  refine ⟨rfl, rfl, rfl, ?_, fun k hk => ?_⟩
  · show _ ≤ (sortWorldK encE 2 w blk off n d' os).heap.size
    unfold sortWorldK Sort.grow
    simp [Sort.putRowK, Sort.ahead]
  · unfold sortWorldK Sort.grow Sort.putRowK Sort.putRow Sort.mapBlock Sort.ahead
    dsimp only
    rw [Array.getElem?_append_left (by simp; omega), Array.getElem?_modify, if_neg (by omega)]
theorem arr_get (E : List (Int × Int)) (i : Nat) (h : i < E.length) : E.toArray[i]! = (iLo E i, iHi E i) := by
  rw [getElem!_pos E.toArray i (by simpa using h)]
  simp [iLo, iHi, List.getD_eq_getElem?_getD, List.getElem?_eq_getElem h]
theorem arr_toList (d : Array (Int × Int)) (i : Nat) (h : i < d.size) : d[i]! = (iLo d.toList i, iHi d.toList i) := by
  have := arr_get d.toList i (by simpa using h)
  simpa using this
theorem holds_own {T : TypeId} {w : World} {base g cap : Nat} {E : List (Int × Int)} (h : OwnP T w base (.slice (some ⟨g, 0, none⟩) E.length cap) E) : Sort.HoldsK encE 2 w g 0 E.toArray := by
  intro j hj
  simp only [Sort.size_flatK, List.size_toArray] at hj
  refine ⟨?_, by rw [Nat.zero_add]; exact World.ownsRow.frozenAt h j⟩
  rw [Nat.zero_add, World.ownsRow.cellAt h j hj, Sort.get_flatK _ _ _ _ (by simpa using hj), arr_get E (j / 2) (by omega)]
  have h1 := encL_at E (j / 2) (by omega)
  rcases Nat.mod_two_eq_zero_or_one j with h2 | h2
  · rw [h2, show j = j / 2 * 2 by omega]
    simpa [encE] using h1.1
  · rw [h2, show j = j / 2 * 2 + 1 by omega]
    have e : (j / 2 * 2 + 1) / 2 = j / 2 := by omega
    simpa [encE, e] using h1.2
theorem row_holds {w : World} {g cap n : Nat} {d : Array (Int × Int)} (h : Sort.HoldsK encE 2 w g 0 d) (hg : g < w.heap.size) (hn : d.size = n) (hc : n ≤ cap) (hm : cap ≤ 9223372036854775807) : IvRow w (.slice (some ⟨g, 0, none⟩) n cap) d.toList := by
  subst hn
  refine ⟨_, cap, by simp, by simpa using hc, hm, fun i hi => ⟨g, 0, rfl, hg, ?_, ?_⟩⟩
  · have h1 := (Sort.HoldsK.cell h (i := i) (c := 0) (by simpa using hi) (by omega)).1
    rw [arr_toList d i (by simpa using hi)] at h1
    simpa [encE] using h1
  · have h1 := (Sort.HoldsK.cell h (i := i) (c := 1) (by simpa using hi) (by omega)).1
    rw [arr_toList d i (by simpa using hi)] at h1
    simpa [encE] using h1
def SortPost (v : Value) (E : List (Int × Int)) (base : Nat) (w : World) (e : Ending) (w' : World) : Prop :=
  e = .returned (.tuple #[]) ∧ (∃ E' : List (Int × Int), E'.Perm E ∧ E'.Pairwise (fun a b => a.1 ≤ b.1) ∧ IvRow w' v E') ∧ Below base w w'
theorem sort_any (v : Value) (E : List (Int × Int)) (base : Nat) (w : World) (hown : OwnP 106 w base v E) (hbase : base ≤ w.heap.size) (hE : E.length ≤ 1000) :
    Calls Try.prog 80 #[v, .func (.func 81) #[] #[]] w (SortPost v E base w) := by
  obtain ⟨a, cap, rfl, h1, h2⟩ := hown.val
  rcases Nat.eq_zero_or_pos E.length with h0 | h0
  · have hn : E = [] := List.eq_nil_of_length_eq_zero h0
    subst hn
    exact (sortE_none a cap _ w).mono fun e w' ⟨he, hw⟩ => ⟨he, ⟨[], List.Perm.refl _, List.Pairwise.nil, by rw [hw]; exact hown.row⟩, by rw [hw]; exact Below.refl _ _⟩
  · obtain ⟨g, cap', hv, hg1, hg2⟩ := World.ownsRow.form hown h0
    simp only [Value.slice.injEq] at hv
    obtain ⟨rfl, -, rfl⟩ := hv
    have hs := sortE_calls g 0 cap E.toArray w (holds_own hown) hg2 (by simp; omega)
    rw [List.size_toArray] at hs
    refine hs.mono fun e w' ⟨he, d', n, os, hp, hso, hw⟩ => ⟨he, ⟨d'.toList, ?_, ?_, ?_⟩, by rw [hw]; exact below_sortWorldK hg1 hbase⟩
    · have h3 := hp.2.2
      have h4 : d'.size = E.length := by simpa using hp.1
      rwa [show d'.extract 0 E.length = d' by rw [← h4]; simp, show E.toArray.extract 0 E.length = E.toArray by simp] at h3
    · have h4 : d'.size = E.length := by simpa using hp.1
      rw [List.pairwise_iff_getElem]
      intro i j hi hj hij
      have h5 := hso i j (Nat.zero_le _) hij (by simpa [h4] using hj)
      rw [cmpE_lt, getElem!_pos d' j (by simpa using hj), getElem!_pos d' i (by simpa using hi)] at h5
      simp at h5 ⊢
      omega
    · have h4 : d'.size = E.length := by simpa using hp.1
      rw [hw]
      have hH := holds_own hown
      exact row_holds (holdsK_sortWorldK encE 2 w g 0 n E.toArray d' os hg2 hH (by simpa using h4)) (lt_sortWorldK encE 2 w g 0 n d' os hg2) h4 h1 h2
end Go.Proofs.Ytcpfifbchijleaa
