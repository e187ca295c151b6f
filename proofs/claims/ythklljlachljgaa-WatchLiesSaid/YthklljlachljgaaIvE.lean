/- The edges of intervals: the comparison, the sort, the list that is sorted. -/
import Derived.Test.YthklljlachljgaaIvD
import Derived.Test.YthklljlachljgaaIvN
import Derived.Shelf.SlSortCmp.WholeK
import Derived.Shelf.SlSortCmp.NoneTotal
import Derived.Lib.Small
namespace Go.Proofs.Ythklljlachljgaa
open Go.RowKit
def sortE_ren : Go.Shelf.Ren := ⟨fun | 6 => 60 | 15 => 65 | 14 => 64 | 28 => 75 | 29 => 76 | 20 => 67 | 21 => 68 | 22 => 69 | 23 => 70 | 24 => 71 | 25 => 72 | 26 => 73 | 27 => 74 | 46 => 77 | 47 => 78 | 48 => 79 | 49 => 80 | 50 => 81 | 57 => 82 | n => n, fun | 22 => 82 | 24 => 79 | 25 => 85 | 3 => 3 | 39 => 89 | 0 => 0 | 53 => 45 | 55 => 100 | 4 => 4 | 46 => 92 | 45 => 91 | 50 => 96 | 5 => 5 | 9 => 9 | 66 => 101 | 70 => 105 | 76 => 107 | 77 => 108 | n => n, fun | n => n⟩
theorem sortE : Go.Proofs.SlLaysF0.n6 Try.prog sortE_ren := {
  mixed := by kernel_rfl,
  f6 := ⟨Try.f60.name, by decide, Try.func60.trans (congrArg some (by kernel_rfl))⟩,
  f14 := ⟨Try.f64.name, by decide, Try.func64.trans (congrArg some (by kernel_rfl))⟩,
  f15 := Try.func65.trans (congrArg some (by kernel_rfl)),
  f20 := ⟨Try.f67.name, by decide, Try.func67.trans (congrArg some (by kernel_rfl))⟩,
  f21 := ⟨Try.f68.name, by decide, Try.func68.trans (congrArg some (by kernel_rfl))⟩,
  f22 := ⟨Try.f69.name, by decide, Try.func69.trans (congrArg some (by kernel_rfl))⟩,
  f23 := ⟨Try.f70.name, by decide, Try.func70.trans (congrArg some (by kernel_rfl))⟩,
  f24 := ⟨Try.f71.name, by decide, Try.func71.trans (congrArg some (by kernel_rfl))⟩,
  f25 := ⟨Try.f72.name, by decide, Try.func72.trans (congrArg some (by kernel_rfl))⟩,
  f26 := ⟨Try.f73.name, by decide, Try.func73.trans (congrArg some (by kernel_rfl))⟩,
  f27 := ⟨Try.f74.name, by decide, Try.func74.trans (congrArg some (by kernel_rfl))⟩,
  f28 := Try.func75.trans (congrArg some (by kernel_rfl)),
  f29 := Try.func76.trans (congrArg some (by kernel_rfl)),
  f46 := ⟨Try.f77.name, by decide, Try.func77.trans (congrArg some (by kernel_rfl))⟩,
  f47 := Try.func78.trans (congrArg some (by kernel_rfl)),
  f48 := Try.func79.trans (congrArg some (by kernel_rfl)),
  f49 := ⟨Try.f80.name, by decide, Try.func80.trans (congrArg some (by kernel_rfl))⟩,
  f50 := ⟨Try.f81.name, by decide, Try.func81.trans (congrArg some (by kernel_rfl))⟩,
  f57 := ⟨Try.f82.name, by decide, Try.func82.trans (congrArg some (by kernel_rfl))⟩,
  t0 := Try.underlying0,
  a0 := Try.isAgg0,
  z0 := Try.sizeOf0,
  v0 := Try.zeroValue0,
  t3 := Try.underlying3,
  a3 := Try.isAgg3,
  z3 := Try.sizeOf3,
  v3 := Try.zeroValue3,
  t4 := Try.underlying4,
  a4 := Try.isAgg4,
  z4 := Try.sizeOf4,
  v4 := Try.zeroValue4,
  t5 := Try.underlying5,
  a5 := Try.isAgg5,
  z5 := Try.sizeOf5,
  v5 := Try.zeroValue5,
  t9 := Try.underlying9,
  a9 := Try.isAgg9,
  z9 := Try.sizeOf9,
  v9 := Try.zeroValue9,
  t22 := Try.underlying82,
  a22 := Try.isAgg82,
  z22 := Try.sizeOf82,
  v22 := Try.zeroValue82,
  t25 := Try.underlying85,
  a25 := Try.isAgg85,
  z25 := Try.sizeOf85,
  v25 := Try.zeroValue85,
  t39 := Try.underlying89,
  a39 := Try.isAgg89,
  z39 := Try.sizeOf89,
  v39 := Try.zeroValue89,
  t45 := Try.underlying91,
  a45 := Try.isAgg91,
  z45 := Try.sizeOf91,
  v45 := Try.zeroValue91,
  t46 := Try.underlying92,
  a46 := Try.isAgg92,
  z46 := Try.sizeOf92,
  v46 := Try.zeroValue92,
  t50 := Try.underlying96,
  a50 := Try.isAgg96,
  z50 := Try.sizeOf96,
  v50 := Try.zeroValue96,
  t53 := Try.underlying45,
  a53 := Try.isAgg45,
  z53 := Try.sizeOf45,
  v53 := Try.zeroValue45,
  t55 := Try.underlying100,
  a55 := Try.isAgg100,
  z55 := Try.sizeOf100,
  v55 := Try.zeroValue100,
  t66 := Try.underlying101,
  a66 := Try.isAgg101,
  z66 := Try.sizeOf101,
  v66 := Try.zeroValue101,
  t70 := Try.underlying105,
  a70 := Try.isAgg105,
  z70 := Try.sizeOf105,
  v70 := Try.zeroValue105,
  t76 := Try.underlying107,
  a76 := Try.isAgg107,
  z76 := Try.sizeOf107,
  v76 := Try.zeroValue107,
  t77 := Try.underlying108,
  a77 := Try.isAgg108,
  z77 := Try.sizeOf108,
  v77 := Try.zeroValue108 }


def encE (x : Int × Int) : List Value := [.int .i64 x.1, .int .i64 x.2]
theorem aggE : ∀ w, (isAgg 79).run Try.prog w = .ok true w := fun _ => by kernel_rfl
theorem sizE : ∀ w, (Go.sizeOf 79).run Try.prog w = .ok 2 w := fun _ => by kernel_rfl
def cmpE (x y : Int × Int) : Int := Lib.compareInt x.1 y.1
theorem cmpE_lt (x y : Int × Int) : ltOf cmpE x y = decide (x.1 < y.1) := by
  unfold ltOf cmpE Lib.compareInt
  by_cases h1 : x.1 < y.1
  · simp [h1]
  · by_cases h2 : y.1 < x.1 <;> simp [h1, h2]
theorem cmpE_swo : Sort.SWO (ltOf cmpE) where
  irrefl x := by rw [cmpE_lt]; simp
  trans x y z h1 h2 := by rw [cmpE_lt] at *; simp at *; omega
  ntrans x y z h1 h2 := by rw [cmpE_lt] at *; simp at *; omega

set_option maxRecDepth 100000 in
set_option maxHeartbeats 400000 in
theorem isNaN_any (x : Int) (w : World) : Calls Try.prog 66 #[.int .i64 x] w fun e w' => e = .returned (.bool false) ∧ w' = w := by
  go_enter Try.func66, Try.ntmps66
  go_wp2
  all_goals go_ret
  all_goals exact ⟨ret_bool (by simp), rfl⟩
set_option maxRecDepth 100000 in
set_option maxHeartbeats 400000 in
theorem Compare_any (x y : Int) (w : World) : Calls Try.prog 62 #[.int .i64 x, .int .i64 y] w fun e w' => e = .returned (.int .i64 (Lib.compareInt x y)) ∧ w' = w := by
  go_enter Try.func62, Try.ntmps62
  go_wp2_with (go_at_call 66; refine (isNaN_any _ _).mono ?_; rintro e w' ⟨rfl, rfl⟩)
  all_goals go_ret
  all_goals exact ⟨ret_int (by unfold Lib.compareInt; split <;> first | rfl | omega | (split <;> first | rfl | omega)), rfl⟩
set_option maxRecDepth 100000 in
set_option maxHeartbeats 400000 in
theorem edges1_any (x y : Int × Int) (W : World) : Calls Try.prog 61 #[.agg #[.int .i64 x.1, .int .i64 x.2], .agg #[.int .i64 y.1, .int .i64 y.2]] W fun e w' =>
    e = .returned (.int .i64 (cmpE x y)) ∧ ∃ q os', w' = Sort.grow (W.drewN q) os' := by
  go_enter Try.func61, Try.ntmps61
  go_wp2_with (go_at_call 62; refine (Compare_any _ _ _).mono ?_; rintro e w' ⟨rfl, rfl⟩)
  go_ret
  exact ⟨rfl, 0, _, by rw [Sort.alloc_eq_grow, Sort.alloc_eq_grow, Sort.grow_grow]; rfl⟩
theorem edges1_lays (blk off size : Nat) (w : World) : CmpLays Try.prog 61 #[] encE 2 cmpE blk off size w := fun _ _ _ _ x y => edges1_any x y _
theorem sortE_calls (blk off cap : Nat) (d : Array (Int × Int)) (w : World) (hH : Sort.HoldsK encE 2 w blk off d) (hblk : blk < w.heap.size) (hsz : d.size < 4611686018427387904) :
    Calls Try.prog 60 #[.slice (some ⟨blk, off, none⟩) d.size cap, .func (.func 61) #[] #[]] w fun e w' =>
      e = .returned (.tuple #[]) ∧ ∃ d' n os, Sort.PermIn 0 d.size d d' ∧ Sort.SortedIn (ltOf cmpE) 0 d.size d' ∧ w' = sortWorldK encE 2 w blk off n d' os :=
  AnyQ.slices_SortFunc sortE 2 aggE sizE encE (fun _ => rfl) (fun x v hv => by simp [encE] at hv; rcases hv with rfl | rfl <;> rfl) cmpE cmpE_swo 61 #[] blk off cap d w
    (enters_of Try.func61 (by kernel_rfl) rfl) (edges1_lays blk off d.size w) hH hblk hsz
theorem sortE_none (p : Option Addr) (cap : Nat) (fv : Value) (w : World) :
    Calls Try.prog 60 #[.slice p 0 cap, fv] w fun e w' => e = .returned (.tuple #[]) ∧ w' = w := AnyF.slices_SortFunc_none sortE p cap fv w

theorem below_sortWorldK {B blk off n : Nat} {w : World} {d' : Array (Int × Int)} {os : Array Obj} (h : B ≤ blk) (hB : B ≤ w.heap.size) : Below B w (sortWorldK encE 2 w blk off n d' os) := by
  refine ⟨rfl, rfl, rfl, ?_, fun k hk => ?_⟩
  · show _ ≤ (sortWorldK encE 2 w blk off n d' os).heap.size
    unfold sortWorldK Sort.grow
    simp [Sort.putRowK, Sort.ahead]
  · unfold sortWorldK Sort.grow Sort.putRowK Sort.putRow Sort.mapBlock Sort.ahead
    dsimp only
    rw [Array.getElem?_append_left (by simp; omega), Array.getElem?_modify, if_neg (by omega)]
theorem arr_get (E : List (Int × Int)) (i : Nat) (h : i < E.length) : E.toArray[i]! = (iLo E i, iHi E i) := by
  rw [getElem!_pos E.toArray i (by simpa using h)]
  simp [iLo, iHi, List.getD_eq_getElem?_getD, List.getElem?_eq_getElem h]
theorem arr_toList (d : Array (Int × Int)) (i : Nat) (h : i < d.size) : d[i]! = (iLo d.toList i, iHi d.toList i) := by
  have := arr_get d.toList i (by simpa using h)
  simpa using this
theorem holds_own {T : TypeId} {w : World} {base g cap : Nat} {E : List (Int × Int)} (h : OwnP T w base (.slice (some ⟨g, 0, none⟩) E.length cap) E) : Sort.HoldsK encE 2 w g 0 E.toArray := by
  intro j hj
  simp only [Sort.size_flatK, List.size_toArray] at hj
  refine ⟨?_, by rw [Nat.zero_add]; exact World.ownsRow.frozenAt h j⟩
  rw [Nat.zero_add, World.ownsRow.cellAt h j hj, Sort.get_flatK _ _ _ _ (by simpa using hj), arr_get E (j / 2) (by omega)]
  have h1 := encL_at E (j / 2) (by omega)
  rcases Nat.mod_two_eq_zero_or_one j with h2 | h2
  · rw [h2, show j = j / 2 * 2 by omega]
    simpa [encE] using h1.1
  · rw [h2, show j = j / 2 * 2 + 1 by omega]
    have e : (j / 2 * 2 + 1) / 2 = j / 2 := by omega
    simpa [encE, e] using h1.2
theorem row_holds {w : World} {g cap n : Nat} {d : Array (Int × Int)} (h : Sort.HoldsK encE 2 w g 0 d) (hg : g < w.heap.size) (hn : d.size = n) (hc : n ≤ cap) (hm : cap ≤ 9223372036854775807) : IvRow w (.slice (some ⟨g, 0, none⟩) n cap) d.toList := by
  subst hn
  refine ⟨_, cap, by simp, by simpa using hc, hm, fun i hi => ⟨g, 0, rfl, hg, ?_, ?_⟩⟩
  · have h1 := (Sort.HoldsK.cell h (i := i) (c := 0) (by simpa using hi) (by omega)).1
    rw [arr_toList d i (by simpa using hi)] at h1
    simpa [encE] using h1
  · have h1 := (Sort.HoldsK.cell h (i := i) (c := 1) (by simpa using hi) (by omega)).1
    rw [arr_toList d i (by simpa using hi)] at h1
    simpa [encE] using h1
def SortPost (v : Value) (E : List (Int × Int)) (base : Nat) (w : World) (e : Ending) (w' : World) : Prop :=
  e = .returned (.tuple #[]) ∧ (∃ E' : List (Int × Int), E'.Perm E ∧ E'.Pairwise (fun a b => a.1 ≤ b.1) ∧ IvRow w' v E') ∧ Below base w w'
theorem sort_any (v : Value) (E : List (Int × Int)) (base : Nat) (w : World) (hown : OwnP 79 w base v E) (hbase : base ≤ w.heap.size) (hE : E.length ≤ 1000) :
    Calls Try.prog 60 #[v, .func (.func 61) #[] #[]] w (SortPost v E base w) := by
  obtain ⟨a, cap, rfl, h1, h2⟩ := hown.val
  rcases Nat.eq_zero_or_pos E.length with h0 | h0
  · have hn : E = [] := List.eq_nil_of_length_eq_zero h0
    subst hn
    exact (sortE_none a cap _ w).mono fun e w' ⟨he, hw⟩ => ⟨he, ⟨[], List.Perm.refl _, List.Pairwise.nil, by rw [hw]; exact hown.row⟩, by rw [hw]; exact Below.refl _ _⟩
  · obtain ⟨g, cap', hv, hg1, hg2⟩ := World.ownsRow.form hown h0
    simp only [Value.slice.injEq] at hv
    obtain ⟨rfl, -, rfl⟩ := hv
    have hs := sortE_calls g 0 cap E.toArray w (holds_own hown) hg2 (by simp; omega)
    rw [List.size_toArray] at hs
    refine hs.mono fun e w' ⟨he, d', n, os, hp, hso, hw⟩ => ⟨he, ⟨d'.toList, ?_, ?_, ?_⟩, by rw [hw]; exact below_sortWorldK hg1 hbase⟩
    · have h3 := hp.2.2
      have h4 : d'.size = E.length := by simpa using hp.1
      rwa [show d'.extract 0 E.length = d' by rw [← h4]; simp, show E.toArray.extract 0 E.length = E.toArray by simp] at h3
    · have h4 : d'.size = E.length := by simpa using hp.1
      rw [List.pairwise_iff_getElem]
      intro i j hi hj hij
      have h5 := hso i j (Nat.zero_le _) hij (by simpa [h4] using hj)
      rw [cmpE_lt, getElem!_pos d' j (by simpa using hj), getElem!_pos d' i (by simpa using hi)] at h5
      simp at h5 ⊢
      omega
    · have h4 : d'.size = E.length := by simpa using hp.1
      rw [hw]
      have hH := holds_own hown
      exact row_holds (holdsK_sortWorldK encE 2 w g 0 n E.toArray d' os hg2 hH (by simpa using h4)) (lt_sortWorldK encE 2 w g 0 n d' os hg2) h4 h1 h2
end Go.Proofs.Ythklljlachljgaa
