/- The edges of intervals: the comparison, the sort, the list that is sorted. -/
import Derived.Test.YtbgfgpjgehkdjaaGreatIvD
import Derived.Test.YtbgfgpjgehkdjaaGreatIvN
import Derived.Shelf.SlSortCmp.WholeK
import Derived.Shelf.SlSortCmp.NoneTotal
import Derived.Lib.Small
namespace Go.Proofs.YtbgfgpjgehkdjaaGreat
open Go.RowKit
def sortE_ren : Go.Shelf.Ren := ⟨fun | 6 => 90 | 15 => 100 | 14 => 99 | 28 => 111 | 29 => 102 | 20 => 103 | 21 => 104 | 22 => 105 | 23 => 106 | 24 => 107 | 25 => 108 | 26 => 109 | 27 => 110 | 46 => 113 | 47 => 114 | 48 => 115 | 49 => 116 | 50 => 117 | 57 => 118 | n => n, fun | 22 => 130 | 24 => 119 | 25 => 132 | 3 => 3 | 39 => 136 | 0 => 0 | 53 => 43 | 55 => 31 | 4 => 4 | 46 => 145 | 45 => 144 | 50 => 149 | 5 => 5 | 9 => 9 | 66 => 152 | 70 => 156 | 76 => 158 | 77 => 93 | n => n, fun | n => n⟩
theorem sortE : Go.Proofs.SlLaysF0.n6 Tryz.prog sortE_ren := {
  mixed := by kernel_rfl,
  f6 := ⟨Tryz.f90.name, by decide, Tryz.func90.trans (congrArg some (by kernel_rfl))⟩,
  f14 := ⟨Tryz.f99.name, by decide, Tryz.func99.trans (congrArg some (by kernel_rfl))⟩,
  f15 := Tryz.func100.trans (congrArg some (by kernel_rfl)),
  f20 := ⟨Tryz.f103.name, by decide, Tryz.func103.trans (congrArg some (by kernel_rfl))⟩,
  f21 := ⟨Tryz.f104.name, by decide, Tryz.func104.trans (congrArg some (by kernel_rfl))⟩,
  f22 := ⟨Tryz.f105.name, by decide, Tryz.func105.trans (congrArg some (by kernel_rfl))⟩,
  f23 := ⟨Tryz.f106.name, by decide, Tryz.func106.trans (congrArg some (by kernel_rfl))⟩,
  f24 := ⟨Tryz.f107.name, by decide, Tryz.func107.trans (congrArg some (by kernel_rfl))⟩,
  f25 := ⟨Tryz.f108.name, by decide, Tryz.func108.trans (congrArg some (by kernel_rfl))⟩,
  f26 := ⟨Tryz.f109.name, by decide, Tryz.func109.trans (congrArg some (by kernel_rfl))⟩,
  f27 := ⟨Tryz.f110.name, by decide, Tryz.func110.trans (congrArg some (by kernel_rfl))⟩,
  f28 := Tryz.func111.trans (congrArg some (by kernel_rfl)),
  f29 := Tryz.func102.trans (congrArg some (by kernel_rfl)),
  f46 := ⟨Tryz.f113.name, by decide, Tryz.func113.trans (congrArg some (by kernel_rfl))⟩,
  f47 := Tryz.func114.trans (congrArg some (by kernel_rfl)),
  f48 := Tryz.func115.trans (congrArg some (by kernel_rfl)),
  f49 := ⟨Tryz.f116.name, by decide, Tryz.func116.trans (congrArg some (by kernel_rfl))⟩,
  f50 := ⟨Tryz.f117.name, by decide, Tryz.func117.trans (congrArg some (by kernel_rfl))⟩,
  f57 := ⟨Tryz.f118.name, by decide, Tryz.func118.trans (congrArg some (by kernel_rfl))⟩,
  t0 := Tryz.underlying0,
  a0 := Tryz.isAgg0,
  z0 := Tryz.sizeOf0,
  v0 := Tryz.zeroValue0,
  t3 := Tryz.underlying3,
  a3 := Tryz.isAgg3,
  z3 := Tryz.sizeOf3,
  v3 := Tryz.zeroValue3,
  t4 := Tryz.underlying4,
  a4 := Tryz.isAgg4,
  z4 := Tryz.sizeOf4,
  v4 := Tryz.zeroValue4,
  t5 := Tryz.underlying5,
  a5 := Tryz.isAgg5,
  z5 := Tryz.sizeOf5,
  v5 := Tryz.zeroValue5,
  t9 := Tryz.underlying9,
  a9 := Tryz.isAgg9,
  z9 := Tryz.sizeOf9,
  v9 := Tryz.zeroValue9,
  t22 := Tryz.underlying130,
  a22 := Tryz.isAgg130,
  z22 := Tryz.sizeOf130,
  v22 := Tryz.zeroValue130,
  t25 := Tryz.underlying132,
  a25 := Tryz.isAgg132,
  z25 := Tryz.sizeOf132,
  v25 := Tryz.zeroValue132,
  t39 := Tryz.underlying136,
  a39 := Tryz.isAgg136,
  z39 := Tryz.sizeOf136,
  v39 := Tryz.zeroValue136,
  t45 := Tryz.underlying144,
  a45 := Tryz.isAgg144,
  z45 := Tryz.sizeOf144,
  v45 := Tryz.zeroValue144,
  t46 := Tryz.underlying145,
  a46 := Tryz.isAgg145,
  z46 := Tryz.sizeOf145,
  v46 := Tryz.zeroValue145,
  t50 := Tryz.underlying149,
  a50 := Tryz.isAgg149,
  z50 := Tryz.sizeOf149,
  v50 := Tryz.zeroValue149,
  t53 := Tryz.underlying43,
  a53 := Tryz.isAgg43,
  z53 := Tryz.sizeOf43,
  v53 := Tryz.zeroValue43,
  t55 := Tryz.underlying31,
  a55 := Tryz.isAgg31,
  z55 := Tryz.sizeOf31,
  v55 := Tryz.zeroValue31,
  t66 := Tryz.underlying152,
  a66 := Tryz.isAgg152,
  z66 := Tryz.sizeOf152,
  v66 := Tryz.zeroValue152,
  t70 := Tryz.underlying156,
  a70 := Tryz.isAgg156,
  z70 := Tryz.sizeOf156,
  v70 := Tryz.zeroValue156,
  t76 := Tryz.underlying158,
  a76 := Tryz.isAgg158,
  z76 := Tryz.sizeOf158,
  v76 := Tryz.zeroValue158,
  t77 := Tryz.underlying93,
  a77 := Tryz.isAgg93,
  z77 := Tryz.sizeOf93,
  v77 := Tryz.zeroValue93 }


def encE (x : Int × Int) : List Value := [.int .i64 x.1, .int .i64 x.2]
theorem aggE : ∀ w, (isAgg 119).run Tryz.prog w = .ok true w := fun _ => by kernel_rfl
theorem sizE : ∀ w, (Go.sizeOf 119).run Tryz.prog w = .ok 2 w := fun _ => by kernel_rfl
def cmpE (x y : Int × Int) : Int := Lib.compareInt x.1 y.1
theorem cmpE_lt (x y : Int × Int) : ltOf cmpE x y = decide (x.1 < y.1) := by
  unfold ltOf cmpE Lib.compareInt
  by_cases h1 : x.1 < y.1
  · simp [h1]
  · by_cases h2 : y.1 < x.1 <;> simp [h1, h2]
theorem cmpE_swo : Sort.SWO (ltOf cmpE) where
  irrefl x := by rw [cmpE_lt]; simp
  trans x y z h1 h2 := by rw [cmpE_lt] at *; simp at *; omega
  ntrans x y z h1 h2 := by rw [cmpE_lt] at *; simp at *; omega

set_option maxRecDepth 100000 in
set_option maxHeartbeats 400000 in
theorem isNaNI_any (x : Int) (w : World) : Calls Tryz.prog 80 #[.int .i64 x] w fun e w' => e = .returned (.bool false) ∧ w' = w := by
  go_enter Tryz.func80, Tryz.ntmps80
  go_wp2
  all_goals go_ret
  all_goals exact ⟨ret_bool (by simp), rfl⟩
set_option maxRecDepth 100000 in
set_option maxHeartbeats 400000 in
theorem CompareI_any (x y : Int) (w : World) : Calls Tryz.prog 67 #[.int .i64 x, .int .i64 y] w fun e w' => e = .returned (.int .i64 (Lib.compareInt x y)) ∧ w' = w := by
  go_enter Tryz.func67, Tryz.ntmps67
  go_wp2_with (go_at_call 80; refine (isNaNI_any _ _).mono ?_; rintro e w' ⟨rfl, rfl⟩)
  all_goals go_ret
  all_goals exact ⟨ret_int (by unfold Lib.compareInt; split <;> first | rfl | omega | (split <;> first | rfl | omega)), rfl⟩
set_option maxRecDepth 100000 in
set_option maxHeartbeats 400000 in
theorem edges1_any (x y : Int × Int) (W : World) : Calls Tryz.prog 91 #[.agg #[.int .i64 x.1, .int .i64 x.2], .agg #[.int .i64 y.1, .int .i64 y.2]] W fun e w' =>
    e = .returned (.int .i64 (cmpE x y)) ∧ ∃ q os', w' = Sort.grow (W.drewN q) os' := by
  go_enter Tryz.func91, Tryz.ntmps91
  go_wp2_with (go_at_call 67; refine (CompareI_any _ _ _).mono ?_; rintro e w' ⟨rfl, rfl⟩)
  go_ret
  exact ⟨rfl, 0, _, by rw [Sort.alloc_eq_grow, Sort.alloc_eq_grow, Sort.grow_grow]; rfl⟩
theorem edges1_lays (blk off size : Nat) (w : World) : CmpLays Tryz.prog 91 #[] encE 2 cmpE blk off size w := fun _ _ _ _ x y => edges1_any x y _
theorem sortE_calls (blk off cap : Nat) (d : Array (Int × Int)) (w : World) (hH : Sort.HoldsK encE 2 w blk off d) (hblk : blk < w.heap.size) (hsz : d.size < 4611686018427387904) :
    Calls Tryz.prog 90 #[.slice (some ⟨blk, off, none⟩) d.size cap, .func (.func 91) #[] #[]] w fun e w' =>
      e = .returned (.tuple #[]) ∧ ∃ d' n os, Sort.PermIn 0 d.size d d' ∧ Sort.SortedIn (ltOf cmpE) 0 d.size d' ∧ w' = sortWorldK encE 2 w blk off n d' os :=
  AnyQ.slices_SortFunc sortE 2 aggE sizE encE (fun _ => rfl) (fun x v hv => by simp [encE] at hv; rcases hv with rfl | rfl <;> rfl) cmpE cmpE_swo 91 #[] blk off cap d w
    (enters_of Tryz.func91 (by kernel_rfl) rfl) (edges1_lays blk off d.size w) hH hblk hsz
theorem sortE_none (p : Option Addr) (cap : Nat) (fv : Value) (w : World) :
    Calls Tryz.prog 90 #[.slice p 0 cap, fv] w fun e w' => e = .returned (.tuple #[]) ∧ w' = w := AnyF.slices_SortFunc_none sortE p cap fv w

theorem below_sortWorldK {B blk off n : Nat} {w : World} {d' : Array (Int × Int)} {os : Array Obj} (h : B ≤ blk) (hB : B ≤ w.heap.size) : Below B w (sortWorldK encE 2 w blk off n d' os) := by
  refine ⟨rfl, rfl, rfl, ?_, fun k hk => ?_⟩
  · show _ ≤ (sortWorldK encE 2 w blk off n d' os).heap.size
    unfold sortWorldK Sort.grow
    simp [Sort.putRowK, Sort.ahead]
  · unfold sortWorldK Sort.grow Sort.putRowK Sort.putRow Sort.mapBlock Sort.ahead
    dsimp only
    rw [Array.getElem?_append_left (by simp; omega), Array.getElem?_modify, if_neg (by omega)]
theorem arr_get (E : List (Int × Int)) (i : Nat) (h : i < E.length) : E.toArray[i]! = (iLo E i, iHi E i) := by
  rw [getElem!_pos E.toArray i (by simpa using h)]
  simp [iLo, iHi, List.getD_eq_getElem?_getD, List.getElem?_eq_getElem h]
theorem arr_toList (d : Array (Int × Int)) (i : Nat) (h : i < d.size) : d[i]! = (iLo d.toList i, iHi d.toList i) := by
  have := arr_get d.toList i (by simpa using h)
  simpa using this
theorem holds_own {T : TypeId} {w : World} {base g cap : Nat} {E : List (Int × Int)} (h : OwnP T w base (.slice (some ⟨g, 0, none⟩) E.length cap) E) : Sort.HoldsK encE 2 w g 0 E.toArray := by
  intro j hj
  simp only [Sort.size_flatK, List.size_toArray] at hj
  refine ⟨?_, by rw [Nat.zero_add]; exact World.ownsRow.frozenAt h j⟩
  rw [Nat.zero_add, World.ownsRow.cellAt h j hj, Sort.get_flatK _ _ _ _ (by simpa using hj), arr_get E (j / 2) (by omega)]
  have h1 := encL_at E (j / 2) (by omega)
  rcases Nat.mod_two_eq_zero_or_one j with h2 | h2
  · rw [h2, show j = j / 2 * 2 by omega]
    simpa [encE] using h1.1
  · rw [h2, show j = j / 2 * 2 + 1 by omega]
    have e : (j / 2 * 2 + 1) / 2 = j / 2 := by omega
    simpa [encE, e] using h1.2
theorem row_holds {w : World} {g cap n : Nat} {d : Array (Int × Int)} (h : Sort.HoldsK encE 2 w g 0 d) (hg : g < w.heap.size) (hn : d.size = n) (hc : n ≤ cap) (hm : cap ≤ 9223372036854775807) : IvRow w (.slice (some ⟨g, 0, none⟩) n cap) d.toList := by
  subst hn
  refine ⟨_, cap, by simp, by simpa using hc, hm, fun i hi => ⟨g, 0, rfl, hg, ?_, ?_⟩⟩
  · have h1 := (Sort.HoldsK.cell h (i := i) (c := 0) (by simpa using hi) (by omega)).1
    rw [arr_toList d i (by simpa using hi)] at h1
    simpa [encE] using h1
  · have h1 := (Sort.HoldsK.cell h (i := i) (c := 1) (by simpa using hi) (by omega)).1
    rw [arr_toList d i (by simpa using hi)] at h1
    simpa [encE] using h1
def SortPost (v : Value) (E : List (Int × Int)) (base : Nat) (w : World) (e : Ending) (w' : World) : Prop :=
  e = .returned (.tuple #[]) ∧ (∃ E' : List (Int × Int), E'.Perm E ∧ E'.Pairwise (fun a b => a.1 ≤ b.1) ∧ IvRow w' v E') ∧ Below base w w'
theorem sort_any (v : Value) (E : List (Int × Int)) (base : Nat) (w : World) (hown : OwnP 119 w base v E) (hbase : base ≤ w.heap.size) (hE : E.length ≤ 1000) :
    Calls Tryz.prog 90 #[v, .func (.func 91) #[] #[]] w (SortPost v E base w) := by
  obtain ⟨a, cap, rfl, h1, h2⟩ := hown.val
  rcases Nat.eq_zero_or_pos E.length with h0 | h0
  · have hn : E = [] := List.eq_nil_of_length_eq_zero h0
    subst hn
    exact (sortE_none a cap _ w).mono fun e w' ⟨he, hw⟩ => ⟨he, ⟨[], List.Perm.refl _, List.Pairwise.nil, by rw [hw]; exact hown.row⟩, by rw [hw]; exact Below.refl _ _⟩
  · obtain ⟨g, cap', hv, hg1, hg2⟩ := World.ownsRow.form hown h0
    simp only [Value.slice.injEq] at hv
    obtain ⟨rfl, -, rfl⟩ := hv
    have hs := sortE_calls g 0 cap E.toArray w (holds_own hown) hg2 (by simp; omega)
    rw [List.size_toArray] at hs
    refine hs.mono fun e w' ⟨he, d', n, os, hp, hso, hw⟩ => ⟨he, ⟨d'.toList, ?_, ?_, ?_⟩, by rw [hw]; exact below_sortWorldK hg1 hbase⟩
    · have h3 := hp.2.2
      have h4 : d'.size = E.length := by simpa using hp.1
      rwa [show d'.extract 0 E.length = d' by rw [← h4]; simp, show E.toArray.extract 0 E.length = E.toArray by simp] at h3
    · have h4 : d'.size = E.length := by simpa using hp.1
      rw [List.pairwise_iff_getElem]
      intro i j hi hj hij
      have h5 := hso i j (Nat.zero_le _) hij (by simpa [h4] using hj)
      rw [cmpE_lt, getElem!_pos d' j (by simpa using hj), getElem!_pos d' i (by simpa using hi)] at h5
      simp at h5 ⊢
      omega
    · have h4 : d'.size = E.length := by simpa using hp.1
      rw [hw]
      have hH := holds_own hown
      exact row_holds (holdsK_sortWorldK encE 2 w g 0 n E.toArray d' os hg2 hH (by simpa using h4)) (lt_sortWorldK encE 2 w g 0 n d' os hg2) h4 h1 h2
end Go.Proofs.YtbgfgpjgehkdjaaGreat
