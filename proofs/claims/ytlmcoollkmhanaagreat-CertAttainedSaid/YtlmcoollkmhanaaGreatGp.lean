
/- Parts IvD IvE IvF IvG IvH of the proof, joined. -/
import Derived.Test.YtlmcoollkmhanaaGreatGa
import Derived.Shelf.SlSortCmp.WholeK
import Derived.Shelf.SlSortCmp.NoneTotal
import Derived.Lib.Small
import Derived.RangeFuncNested
import Derived.RangeFuncBound
import Derived.RangeFuncCalls
import Derived.RangeFuncLeaves
import Derived.RangeFuncBox
import Derived.Shelf.Abstract
import Derived.Shelf.AbstractIn
import Derived.Shelf.RegionOpen
import Derived.OwnWalkIn
import Derived.TacticsInMore
import Derived.LoopNIn
import Derived.LoopIn
import Derived.Sort.QuietIn
import Derived.Sort.BigQuietIn
import Derived.BigRegionIn
import Derived.Laws.EntriesVeiled
/- The reference's Cover: a list that rises, is apart, and has just the times of so great a depth. -/
namespace Go.Proofs.YtlmcoollkmhanaaGreat
open Go.RowKit
attribute [local go_sem ↓] run_max_mx run_min_mn run_eql_iv run_neq_iv

theorem infoIv : (Tryz.prog.info? 53).map (fun i => (i.zero, i.size, i.bytes)) = some (some (.agg #[.int .i64 0, .int .i64 0]), 2, 16) := by kernel_rfl
def coverOk (l : List Iv) (need : Int) : Bool := listB l && decide (1 ≤ need ∧ need ≤ 64)
def coverEr (l : List Iv) (need : Int) : Int := if coverOk l need = true then 0 else 1
def CovOut (l : List Iv) (need : Int) (c : List Iv) : Prop := if coverOk l need = true then CovSpec l need c else c = []
def CovPost (B : Nat) (w : World) (l : List Iv) (need : Int) (e : Ending) (w' : World) : Prop :=
 ∃ v c, e = .returned (.tuple #[v, .int .i64 (coverEr l need)]) ∧ OwnIv w' w.heap.size v c ∧ CovOut l need c ∧ Below B w w'

end Go.Proofs.YtlmcoollkmhanaaGreat
/- The edges of intervals: the comparison, the sort, the list that is sorted. -/
namespace Go.Proofs.YtlmcoollkmhanaaGreat
open Go.RowKit
def sortE_ren : Go.Shelf.Ren := ⟨fun | 6 => 152 | 15 => 111 | 14 => 165 | 28 => 140 | 29 => 141 | 20 => 168 | 21 => 169 | 22 => 170 | 23 => 171 | 24 => 172 | 25 => 173 | 26 => 174 | 27 => 175 | 46 => 176 | 47 => 157 | 48 => 158 | 49 => 177 | 50 => 178 | 57 => 179 | n => n, fun | 22 => 183 | 24 => 163 | 25 => 185 | 3 => 3 | 39 => 150 | 0 => 0 | 53 => 55 | 55 => 44 | 4 => 4 | 46 => 169 | 45 => 168 | 50 => 172 | 5 => 5 | 9 => 9 | 66 => 187 | 70 => 191 | 76 => 197 | 77 => 99 | n => n, fun | n => n⟩
theorem sortE : Go.Proofs.SlLaysF0.n6 Tryz.prog sortE_ren := {
 mixed := by kernel_rfl,
 f6 := ⟨Tryz.f152.name, by decide, Tryz.func152.trans (congrArg some (by kernel_rfl))⟩,
 f14 := ⟨Tryz.f165.name, by decide, Tryz.func165.trans (congrArg some (by kernel_rfl))⟩,
 f15 := Tryz.func111.trans (congrArg some (by kernel_rfl)),
 f20 := ⟨Tryz.f168.name, by decide, Tryz.func168.trans (congrArg some (by kernel_rfl))⟩,
 f21 := ⟨Tryz.f169.name, by decide, Tryz.func169.trans (congrArg some (by kernel_rfl))⟩,
 f22 := ⟨Tryz.f170.name, by decide, Tryz.func170.trans (congrArg some (by kernel_rfl))⟩,
 f23 := ⟨Tryz.f171.name, by decide, Tryz.func171.trans (congrArg some (by kernel_rfl))⟩,
 f24 := ⟨Tryz.f172.name, by decide, Tryz.func172.trans (congrArg some (by kernel_rfl))⟩,
 f25 := ⟨Tryz.f173.name, by decide, Tryz.func173.trans (congrArg some (by kernel_rfl))⟩,
 f26 := ⟨Tryz.f174.name, by decide, Tryz.func174.trans (congrArg some (by kernel_rfl))⟩,
 f27 := ⟨Tryz.f175.name, by decide, Tryz.func175.trans (congrArg some (by kernel_rfl))⟩,
 f28 := Tryz.func140.trans (congrArg some (by kernel_rfl)),
 f29 := Tryz.func141.trans (congrArg some (by kernel_rfl)),
 f46 := ⟨Tryz.f176.name, by decide, Tryz.func176.trans (congrArg some (by kernel_rfl))⟩,
 f47 := Tryz.func157.trans (congrArg some (by kernel_rfl)),
 f48 := Tryz.func158.trans (congrArg some (by kernel_rfl)),
 f49 := ⟨Tryz.f177.name, by decide, Tryz.func177.trans (congrArg some (by kernel_rfl))⟩,
 f50 := ⟨Tryz.f178.name, by decide, Tryz.func178.trans (congrArg some (by kernel_rfl))⟩,
 f57 := ⟨Tryz.f179.name, by decide, Tryz.func179.trans (congrArg some (by kernel_rfl))⟩,
 t0 := Tryz.underlying0,
 a0 := Tryz.isAgg0,
 z0 := Tryz.sizeOf0,
 v0 := Tryz.zeroValue0,
 t3 := Tryz.underlying3,
 a3 := Tryz.isAgg3,
 z3 := Tryz.sizeOf3,
 v3 := Tryz.zeroValue3,
 t4 := Tryz.underlying4,
 a4 := Tryz.isAgg4,
 z4 := Tryz.sizeOf4,
 v4 := Tryz.zeroValue4,
 t5 := Tryz.underlying5,
 a5 := Tryz.isAgg5,
 z5 := Tryz.sizeOf5,
 v5 := Tryz.zeroValue5,
 t9 := Tryz.underlying9,
 a9 := Tryz.isAgg9,
 z9 := Tryz.sizeOf9,
 v9 := Tryz.zeroValue9,
 t22 := Tryz.underlying183,
 a22 := Tryz.isAgg183,
 z22 := Tryz.sizeOf183,
 v22 := Tryz.zeroValue183,
 t25 := Tryz.underlying185,
 a25 := Tryz.isAgg185,
 z25 := Tryz.sizeOf185,
 v25 := Tryz.zeroValue185,
 t39 := Tryz.underlying150,
 a39 := Tryz.isAgg150,
 z39 := Tryz.sizeOf150,
 v39 := Tryz.zeroValue150,
 t45 := Tryz.underlying168,
 a45 := Tryz.isAgg168,
 z45 := Tryz.sizeOf168,
 v45 := Tryz.zeroValue168,
 t46 := Tryz.underlying169,
 a46 := Tryz.isAgg169,
 z46 := Tryz.sizeOf169,
 v46 := Tryz.zeroValue169,
 t50 := Tryz.underlying172,
 a50 := Tryz.isAgg172,
 z50 := Tryz.sizeOf172,
 v50 := Tryz.zeroValue172,
 t53 := Tryz.underlying55,
 a53 := Tryz.isAgg55,
 z53 := Tryz.sizeOf55,
 v53 := Tryz.zeroValue55,
 t55 := Tryz.underlying44,
 a55 := Tryz.isAgg44,
 z55 := Tryz.sizeOf44,
 v55 := Tryz.zeroValue44,
 t66 := Tryz.underlying187,
 a66 := Tryz.isAgg187,
 z66 := Tryz.sizeOf187,
 v66 := Tryz.zeroValue187,
 t70 := Tryz.underlying191,
 a70 := Tryz.isAgg191,
 z70 := Tryz.sizeOf191,
 v70 := Tryz.zeroValue191,
 t76 := Tryz.underlying197,
 a76 := Tryz.isAgg197,
 z76 := Tryz.sizeOf197,
 v76 := Tryz.zeroValue197,
 t77 := Tryz.underlying99,
 a77 := Tryz.isAgg99,
 z77 := Tryz.sizeOf99,
 v77 := Tryz.zeroValue99 }


def encE (x : Int × Int) : List Value := [.int .i64 x.1, .int .i64 x.2]
theorem aggE : ∀ w, (isAgg 163).run Tryz.prog w = .ok true w := fun _ => by kernel_rfl
theorem sizE : ∀ w, (Go.sizeOf 163).run Tryz.prog w = .ok 2 w := fun _ => by kernel_rfl
def cmpE (x y : Int × Int) : Int := Lib.compareInt x.1 y.1
theorem cmpE_lt (x y : Int × Int) : ltOf cmpE x y = decide (x.1 < y.1) := by
 unfold ltOf cmpE Lib.compareInt
 by_cases h1 : x.1 < y.1
 ·simp [h1]
 ·by_cases h2 : y.1 < x.1 <;> simp [h1, h2]
theorem cmpE_swo : Sort.SWO (ltOf cmpE) where
 irrefl x := by rw [cmpE_lt]; simp
 trans x y z h1 h2 := by rw [cmpE_lt] at *; simp at *; omega
 ntrans x y z h1 h2 := by rw [cmpE_lt] at *; simp at *; omega

set_option maxRecDepth 100000 in
set_option maxHeartbeats 400000 in
theorem isNaNI_any (x : Int) (w : World) : Calls Tryz.prog 107 #[.int .i64 x] w fun e w' => e = .returned (.bool false) ∧ w' = w := by
 go_enter Tryz.func107, Tryz.ntmps107
 go_wp2
 all_goals go_ret
 all_goals exact ⟨ret_bool (by simp), rfl⟩
set_option maxRecDepth 100000 in
set_option maxHeartbeats 400000 in
theorem CompareI_any (x y : Int) (w : World) : Calls Tryz.prog 82 #[.int .i64 x, .int .i64 y] w fun e w' => e = .returned (.int .i64 (Lib.compareInt x y)) ∧ w' = w := by
 go_enter Tryz.func82, Tryz.ntmps82
 go_wp2_with (go_at_call 107; refine (isNaNI_any _ _).mono ?_; rintro e w' ⟨rfl, rfl⟩)
 all_goals go_ret
 all_goals exact ⟨ret_int (by unfold Lib.compareInt; split <;> first | rfl | omega | (split <;> first | rfl | omega)), rfl⟩
set_option maxRecDepth 100000 in
set_option maxHeartbeats 400000 in
theorem edges1_any (x y : Int × Int) (W : World) : Calls Tryz.prog 153 #[.agg #[.int .i64 x.1, .int .i64 x.2], .agg #[.int .i64 y.1, .int .i64 y.2]] W fun e w' =>
  e = .returned (.int .i64 (cmpE x y)) ∧ ∃ q os', w' = Sort.grow (W.drewN q) os' := by
 go_enter Tryz.func153, Tryz.ntmps153
 go_wp2_with (go_at_call 82; refine (CompareI_any _ _ _).mono ?_; rintro e w' ⟨rfl, rfl⟩)
 go_ret
 exact ⟨rfl, 0, _, by rw [Sort.alloc_eq_grow, Sort.alloc_eq_grow, Sort.grow_grow]; rfl⟩
theorem edges1_lays (blk off size : Nat) (w : World) : CmpLays Tryz.prog 153 #[] encE 2 cmpE blk off size w := fun _ _ _ _ x y => edges1_any x y _
theorem sortE_calls (blk off cap : Nat) (d : Array (Int × Int)) (w : World) (hH : Sort.HoldsK encE 2 w blk off d) (hblk : blk < w.heap.size) (hsz : d.size < 4611686018427387904) :
  Calls Tryz.prog 152 #[.slice (some ⟨blk, off, none⟩) d.size cap, .func (.func 153) #[] #[]] w fun e w' =>
   e = .returned (.tuple #[]) ∧ ∃ d' n os, Sort.PermIn 0 d.size d d' ∧ Sort.SortedIn (ltOf cmpE) 0 d.size d' ∧ w' = sortWorldK encE 2 w blk off n d' os :=
 AnyQ.slices_SortFunc sortE 2 aggE sizE encE (fun _ => rfl) (fun x v hv => by simp [encE] at hv; rcases hv with rfl | rfl <;> rfl) cmpE cmpE_swo 153 #[] blk off cap d w
  (enters_of Tryz.func153 (by kernel_rfl) rfl) (edges1_lays blk off d.size w) hH hblk hsz
theorem sortE_none (p : Option Addr) (cap : Nat) (fv : Value) (w : World) :
  Calls Tryz.prog 152 #[.slice p 0 cap, fv] w fun e w' => e = .returned (.tuple #[]) ∧ w' = w := AnyF.slices_SortFunc_none sortE p cap fv w

theorem below_sortWorldK {B blk off n : Nat} {w : World} {d' : Array (Int × Int)} {os : Array Obj} (h : B ≤ blk) (hB : B ≤ w.heap.size) : Below B w (sortWorldK encE 2 w blk off n d' os) := by
 refine ⟨rfl, rfl, rfl, ?_, fun k hk => ?_⟩
 ·show _ ≤ (sortWorldK encE 2 w blk off n d' os).heap.size
  unfold sortWorldK Sort.grow
  simp [Sort.putRowK, Sort.ahead]
 ·unfold sortWorldK Sort.grow Sort.putRowK Sort.putRow Sort.mapBlock Sort.ahead
  dsimp only
  rw [Array.getElem?_append_left (by simp; omega), Array.getElem?_modify, if_neg (by omega)]
theorem arr_get (E : List (Int × Int)) (i : Nat) (h : i < E.length) : E.toArray[i]! = (iLo E i, iHi E i) := by
 rw [getElem!_pos E.toArray i (by simpa using h)]
 simp [iLo, iHi, List.getD_eq_getElem?_getD, List.getElem?_eq_getElem h]
theorem arr_toList (d : Array (Int × Int)) (i : Nat) (h : i < d.size) : d[i]! = (iLo d.toList i, iHi d.toList i) := by
 have := arr_get d.toList i (by simpa using h)
 simpa using this
theorem holds_own {T : TypeId} {w : World} {base g cap : Nat} {E : List (Int × Int)} (h : OwnP T w base (.slice (some ⟨g, 0, none⟩) E.length cap) E) : Sort.HoldsK encE 2 w g 0 E.toArray := by
 intro j hj
 simp only [Sort.size_flatK, List.size_toArray] at hj
 refine ⟨?_, by rw [Nat.zero_add]; exact World.ownsRow.frozenAt h j⟩
 rw [Nat.zero_add, World.ownsRow.cellAt h j hj, Sort.get_flatK _ _ _ _ (by simpa using hj), arr_get E (j / 2) (by omega)]
 have h1 := encL_at E (j / 2) (by omega)
 rcases Nat.mod_two_eq_zero_or_one j with h2 | h2
 ·rw [h2, show j = j / 2 * 2 by omega]
  simpa [encE] using h1.1
 ·rw [h2, show j = j / 2 * 2 + 1 by omega]
  have e : (j / 2 * 2 + 1) / 2 = j / 2 := by omega
  simpa [encE, e] using h1.2
theorem row_holds {w : World} {g cap n : Nat} {d : Array (Int × Int)} (h : Sort.HoldsK encE 2 w g 0 d) (hg : g < w.heap.size) (hn : d.size = n) (hc : n ≤ cap) (hm : cap ≤ 9223372036854775807) : IvRow w (.slice (some ⟨g, 0, none⟩) n cap) d.toList := by
 subst hn
 refine ⟨_, cap, by simp, by simpa using hc, hm, fun i hi => ⟨g, 0, rfl, hg, ?_, ?_⟩⟩
 ·have h1 := (Sort.HoldsK.cell h (i := i) (c := 0) (by simpa using hi) (by omega)).1
  rw [arr_toList d i (by simpa using hi)] at h1
  simpa [encE] using h1
 ·have h1 := (Sort.HoldsK.cell h (i := i) (c := 1) (by simpa using hi) (by omega)).1
  rw [arr_toList d i (by simpa using hi)] at h1
  simpa [encE] using h1
def SortPost (v : Value) (E : List (Int × Int)) (base : Nat) (w : World) (e : Ending) (w' : World) : Prop :=
 e = .returned (.tuple #[]) ∧ (∃ E' : List (Int × Int), E'.Perm E ∧ E'.Pairwise (fun a b => a.1 ≤ b.1) ∧ IvRow w' v E') ∧ Below base w w'
theorem sort_any (v : Value) (E : List (Int × Int)) (base : Nat) (w : World) (hown : OwnP 163 w base v E) (hbase : base ≤ w.heap.size) (hE : E.length ≤ 1000) :
  Calls Tryz.prog 152 #[v, .func (.func 153) #[] #[]] w (SortPost v E base w) := by
 obtain ⟨a, cap, rfl, h1, h2⟩ := hown.val
 rcases Nat.eq_zero_or_pos E.length with h0 | h0
 ·have hn : E = [] := List.eq_nil_of_length_eq_zero h0
  subst hn
  exact (sortE_none a cap _ w).mono fun e w' ⟨he, hw⟩ => ⟨he, ⟨[], List.Perm.refl _, List.Pairwise.nil, by rw [hw]; exact hown.row⟩, by rw [hw]; exact Below.refl _ _⟩
 ·obtain ⟨g, cap', hv, hg1, hg2⟩ := World.ownsRow.form hown h0
  simp only [Value.slice.injEq] at hv
  obtain ⟨rfl, -, rfl⟩ := hv
  have hs := sortE_calls g 0 cap E.toArray w (holds_own hown) hg2 (by simp; omega)
  rw [List.size_toArray] at hs
  refine hs.mono fun e w' ⟨he, d', n, os, hp, hso, hw⟩ => ⟨he, ⟨d'.toList, ?_, ?_, ?_⟩, by rw [hw]; exact below_sortWorldK hg1 hbase⟩
  ·have h3 := hp.2.2
   have h4 : d'.size = E.length := by simpa using hp.1
   rwa [show d'.extract 0 E.length = d' by rw [← h4]; simp, show E.toArray.extract 0 E.length = E.toArray by simp] at h3
  ·have h4 : d'.size = E.length := by simpa using hp.1
   rw [List.pairwise_iff_getElem]
   intro i j hi hj hij
   have h5 := hso i j (Nat.zero_le _) hij (by simpa [h4] using hj)
   rw [cmpE_lt, getElem!_pos d' j (by simpa using hj), getElem!_pos d' i (by simpa using hi)] at h5
   simp at h5 ⊢
   omega
  ·have h4 : d'.size = E.length := by simpa using hp.1
   rw [hw]
   have hH := holds_own hown
   exact row_holds (holdsK_sortWorldK encE 2 w g 0 n E.toArray d' os hg2 hH (by simpa using h4)) (lt_sortWorldK encE 2 w g 0 n d' os hg2) h4 h1 h2
end Go.Proofs.YtlmcoollkmhanaaGreat
/- Package interval's edges: the sorted list, in a box that the iterator captures. -/
namespace Go.Proofs.YtlmcoollkmhanaaGreat
open Go.RowKit
theorem infoEd : (Tryz.prog.info? 163).map (fun i => (i.zero, i.size, i.bytes)) = some (some (.agg #[.int .i64 0, .int .i64 0]), 2, 16) := by kernel_rfl
def EdgesPost (l : List Iv) (w : World) (e : Ending) (w' : World) : Prop :=
 e = .returned (.func (.func 154) #[] #[.pointer (some ⟨w.heap.size, 0, none⟩)]) ∧ Below w.heap.size w w' ∧
  ∃ sv E, w.heap.size < w'.heap.size ∧ w'.cell? ⟨w.heap.size, 0, none⟩ = some sv ∧ IvRow w' sv E ∧ E.Perm (edg l) ∧ E.Pairwise (fun a b => a.1 ≤ b.1) ∧ ∀ k, sv.ownBlock = some k → w.heap.size ≤ k
set_option maxRecDepth 100000 in
set_option maxHeartbeats 1000000 in
theorem edges_any (v : Value) (l : List Iv) (w : World) (hv : IvRow w v l) (hl : listB l = true) : Calls Tryz.prog 128 #[v] w (EdgesPost l w) := by
 obtain ⟨a, cap, rfl, h1, h2, h3⟩ := hv
 obtain ⟨i0, hi, hz0, hz1, hz2⟩ := info_parts infoEd
 have hl64 := ((listB_iff l).1 hl).1
 have Hb := hide ((listB_iff l).1 hl).2
 clear hl
 go_enter Tryz.func128, Tryz.ntmps128
 go_wp2
 go_loopw [8] (fun i wr => ∃ (k : Nat) (sv : Value), k ≤ l.length ∧ i = .int .i64 k ∧ wr.cell? ⟨w.heap.size, 0, none⟩ = some sv ∧ wr.frozen? ⟨w.heap.size, 0, none⟩ = false ∧
   OwnP 163 wr (w.heap.size + 1) sv (edg (l.take k)) ∧ Below w.heap.size w wr ∧ w.heap.size < wr.heap.size) (fun i _ => l.length - (intOf i).toNat)
 case atStart => exact ⟨0, _, Nat.zero_le _, rfl, by simp, by simp, OwnP.nil _ _, (by ((repeat' (first | exact Below.refl _ _ | refine Below.alloc ?_ ?_ _ | refine Below.setCell ?_ ?_ _ | refine Below.drew ?_ | refine below_drewN ?_ _)) <;> (first | omega | (simp; done) | (simp; omega)))), by simp⟩
 case round =>
  obtain ⟨k, sv, hk, rfl, hc, hf, hown, hB, hz⟩ := hrel
  have hel : (edg (l.take k)).length = 2 * k := by rw [edg_length, List.length_take, Nat.min_eq_left hk]
  by_cases hlt : k < l.length
  ·obtain ⟨b, off, rfl, h4, h5, h6⟩ := h3 k hlt
   have h5' := (hB.cell (p := ⟨b, off + k * 2, none⟩) h4).trans h5
   have h6' := (hB.cell (p := ⟨b, off + k * 2 + 1, none⟩) h4).trans h6
   obtain ⟨b1, b2, b3⟩ := Hb.out k hlt
   obtain ⟨a1, cap1, hsv, hc1, hc2⟩ := hown.val
   have hlow := hown.lt
   unfold OwnP at hown
   rw [hel] at hown hsv hc1
   subst hsv
   have Hel := hide hel
   have hnw : ∀ o, ∀ j u, [Value.int .i64 (iLo l k), .int .i64 1, .int .i64 (iHi l k + 1), .int .i64 (-1)][j]? = some u → ((wr.alloc o).alloc (.cells #[.int .i64 (iLo l k), .int .i64 1, .int .i64 (iHi l k + 1), .int .i64 (-1)] 163)).cell? ((⟨wr.heap.size + 1, 0, none⟩ : Addr).add j) = some u := fun o j u hj => by
    have := cells_new (wr.alloc o) [.int .i64 (iLo l k), .int .i64 1, .int .i64 (iHi l k + 1), .int .i64 (-1)] 163 j u hj
    rwa [World.size_alloc] at this
   have Hnw := hide hnw
   clear h5 h6 h3 hel hnw
   go_wp2_with (at_builtin; (refine wpList_append_own _ rfl _ _ 183 rfl (w.heap.size + 1) 163 i0 (.agg #[.int .i64 0, .int .i64 0]) 2 16 Tryz.underlying183 hi hz0 hz1 hz2 rfl (by decide) _ (2 * k) (encL (edg (l.take k))) rfl (World.ownsRow.alloc (World.ownsRow.alloc hown _) _) ⟨wr.heap.size + 1, 0, none⟩ 2 2 [.int .i64 (iLo l k), .int .i64 1, .int .i64 (iHi l k + 1), .int .i64 (-1)] rfl rfl (Hnw.out _) (by simp [Value.oneCell']) (by unfold maxLen; omega) (by omega) (by simp; omega) ?_); intro v3 w3 hown3 hg3 _; obtain ⟨c3, f3⟩ := grown_keeps hg3 (b := w.heap.size) (by simp; omega) (fun h => (by have := hlow _ h.symm; omega)); obtain ⟨a3, cap3, rfl⟩ := ownsRow_val hown3)
   have hz3 := hg3.size
   simp only [World.size_alloc] at hz3
   go_roundw
   case rel =>
    have hE : OwnP 163 w3 (w.heap.size + 1) (.slice a3 (2 * k + 2) cap3) (edg (l.take (k + 1))) := by
     rw [edg_snoc l k hlt]
     unfold OwnP
     rw [List.length_append, Hel.out, encL_append]
     exact hown3
    have k1 : w3.cell? ⟨w.heap.size, 0, none⟩ = some (.slice a1 (2 * k) cap1) := (c3 0).trans ((old2 wr _ _ hz 0).1.trans hc)
    have k2 : w3.frozen? ⟨w.heap.size, 0, none⟩ = false := (f3 0).trans ((old2 wr _ _ hz 0).2.trans hf)
    exact ⟨k + 1, .slice a3 (2 * k + 2) cap3, by omega, congrArg (Value.int .i64) (by omega), World.cell?_setCell_same' _ _ _ (by rw [k1]; rfl), by rw [World.frozen?_setCell]; exact k2, ownsRow_setCell_below hE (by first | omega | simp) _, (((hB.alloc hB.size _).alloc (by first | omega | (simp; omega)) _).grown hg3 (by first | omega | (simp; omega)) (fun j h => (by have := hlow _ h; omega))).setCell (Nat.le_refl _) _, by first | omega | (simp; omega)⟩
   case measure => simp [intOf]; omega
  ·obtain rfl : k = l.length := by omega
   rw [List.take_length] at hown hel
   clear h3
   go_wp2_with fail
   refine (sort_any _ _ (w.heap.size + 1) _ hown (by omega) (by omega)).mono ?_
   rintro e w1 ⟨rfl, ⟨E, hp, hs, hr⟩, hb1⟩
   have c1 := (hb1.cell (p := ⟨w.heap.size, 0, none⟩) (Nat.lt_succ_self _)).trans hc
   have hz1' := hb1.size
   go_wp2
   go_ret
   exact ⟨rfl, hB.trans (hb1.mono (by omega)), sv, E, by omega, c1, hr, hp, hs, fun k h => by have := hown.lt k h; omega⟩
end Go.Proofs.YtlmcoollkmhanaaGreat
/- Package interval's iterator over the sorted edges: one value a time. -/
namespace Go.Proofs.YtlmcoollkmhanaaGreat
open Go.RowKit Go.Shelf
attribute [local go_sem] Oper.semAt_some

def KeepB (lo hi : Nat) (A B : World) : Prop := A.heap.size ≤ B.heap.size ∧ ∀ q, lo ≤ q → q < hi → B.heap[q]? = A.heap[q]?
theorem KeepB.refl (lo hi : Nat) (A : World) : KeepB lo hi A A := ⟨Nat.le_refl _, fun _ _ _ => rfl⟩
theorem KeepB.trans {lo hi : Nat} {A B C : World} (h : KeepB lo hi A B) (k : KeepB lo hi B C) : KeepB lo hi A C := ⟨Nat.le_trans h.1 k.1, fun q h1 h2 => (k.2 q h1 h2).trans (h.2 q h1 h2)⟩
theorem KeepB.grown {lo hi : Nat} {A B : World} {row : Option Nat} (hg : A.grownBy B row) (hh : hi ≤ A.heap.size) (hr : ∀ k, row = some k → k < lo ∨ hi ≤ k) : KeepB lo hi A B :=
 ⟨hg.size, fun q h1 h2 => hg.block q (by omega) fun h => by have := hr q h.symm; omega⟩
theorem KeepB.cell {lo hi : Nat} {A B : World} (h : KeepB lo hi A B) {b : Nat} (h1 : lo ≤ b) (h2 : b < hi) (o : Nat) : B.cell? ⟨b, o, none⟩ = A.cell? ⟨b, o, none⟩ := World.cell?_of_block (a := ⟨b, o, none⟩) (h.2 b h1 h2)

theorem grown_drewNI {a w : World} {row : Option Nat} (h : a.grownBy w row) (n : Nat) : a.grownBy (w.drewN n) row := ⟨h.os, h.tape, h.output, h.size, h.block⟩
theorem grown_set {a w : World} {row : Option Nat} (h : a.grownBy w row) {p : Addr} (hp : a.heap.size ≤ p.block) (u : Value) : a.grownBy (w.setCell p u) row :=
 ⟨h.os, h.tape, h.output, by simpa [World.setCell] using h.size, fun i hi hne => (Below.heap_setCell w p u i (by omega)).trans (h.block i hi hne)⟩
theorem grp_next {E pre : List Ed} {a y : Int} {j : Nat} (h : grp E = pre ++ grp ((a, y) :: E.drop j)) (hn : j < E.length → iLo E j ≠ a) : grp E = (pre ++ [(a, y)]) ++ grp (E.drop j) := by
 rcases Nat.lt_or_ge j E.length with hj | hj
 ·rw [drop_at E j hj] at h ⊢
  rw [h, grp_apart _ _ _ (by simpa using hn hj)]; simp
 ·rw [List.drop_eq_nil_of_le hj] at h ⊢
  rw [h]; simp [grp]
theorem grp_lt {E pre : List Ed} {a y : Int} {r : List Ed} (h : grp E = pre ++ grp ((a, y) :: r)) : pre.length < (grp E).length := by
 obtain ⟨b, s, hs⟩ := grp_head (a, y) r
 rw [h, hs]; simp

set_option maxRecDepth 100000 in
set_option maxHeartbeats 2000000 in
theorem edges2_in (n : Nat) (hn : 1 ≤ n) (l Bs lo hi : Nat) (sv : Value) (E : List Ed) (hE : E.length ≤ 200) (hEb : ∀ e, e ∈ E → -1 ≤ e.2 ∧ e.2 ≤ 1) (hB1 : lo ≤ Bs) (hB2 : Bs < hi) (J Jx : List Ed → World → Prop)
  (W : World) (hhi : hi ≤ W.heap.size) (hJ : AbidesFrom W.heap.size J)
  (hY : ∀ pre x W, J pre W → pre.length < (grp E).length → x ∈ grp E → YieldAt Fence.wide (n - 1) Tryz.prog l #[.agg #[.int .i64 x.1, .int .i64 x.2]] W fun e W' =>
   (e = .returned (.bool true) ∧ J (pre ++ [x]) W' ∧ KeepB lo hi W W') ∨ (e = .returned (.bool false) ∧ Jx (pre ++ [x]) W'))
  (hc : W.cell? ⟨Bs, 0, none⟩ = some sv) (hr : IvRow W sv E) (hrb : 0 < E.length → ∀ k, sv.ownBlock = some k → lo ≤ k ∧ k < hi) (h0 : J [] W) :
  CallsIn Fence.wide n Tryz.prog 154 #[.func (.yield l) #[] #[], .pointer (some ⟨Bs, 0, none⟩)] W fun e W' => (∃ v, e = .returned v) ∧
   ((∃ ys, ys = grp E ∧ J ys W') ∨ (∃ pre, pre <+: grp E ∧ Jx pre W')) := by
 obtain ⟨a, cap, rfl, h1, h2, h3⟩ := hr
 have Heb := hide hEb; clear hEb
 refine callsIn_of_wp Tryz.func154 rfl trivial ?_ rfl
 simp only [Tryz.ntmps154, List.size_toArray, List.length_cons, List.length_nil, Nat.reduceAdd, Nat.reduceSub, Array.replicate_succ, Array.replicate_zero, List.push_toArray, List.append_toArray, List.nil_append, List.cons_append]
 gi_wp2
 gi_loopw [3] (fun i wr => ∃ (k : Nat) (pre : List Ed), k ≤ E.length ∧ i = .int .i64 k ∧ Hid (grp E = pre ++ grp (E.drop k)) ∧ J pre wr ∧ KeepB lo hi W wr) (fun i _ => E.length - (intOf i).toNat)
 case atStart => exact ⟨0, [], Nat.zero_le _, rfl, hide rfl, h0, KeepB.refl _ _ _⟩
 case round =>
  obtain ⟨k, pre, hk, rfl, Hg, hJs, hKB⟩ := hrel
  have hcb := (hKB.cell hB1 hB2 0).trans hc
  by_cases hlt : k < E.length
  ·obtain ⟨b, off, rfl, h4, h5, h6⟩ := h3 k hlt
   obtain ⟨hb1, hb2⟩ := hrb (by omega) b rfl
   have h5' := (hKB.cell hb1 hb2 (off + k * 2)).trans h5
   have h6' := (hKB.cell hb1 hb2 (off + k * 2 + 1)).trans h6
   clear h5 h6
   have hz := hKB.1
   have hbk := Heb.out _ (at_mem E k hlt)
   simp only at hbk
   have Hg' : Hid (grp E = pre ++ grp ((iLo E k, iHi E k) :: E.drop (k + 1))) := by
    have := Hg.out; rw [drop_at E k hlt] at this; exact this
   clear Hg
   gi_wp2
   obtain ⟨wo, hwo⟩ : ∃ wo : World, wo = wr := ⟨_, rfl⟩
   subst hwo
   gi_loopw [3] (fun i wi => ∃ (j : Nat) (by_ : Int), k < j ∧ j ≤ E.length ∧ i = .int .i64 j ∧ wi.cell? ⟨wo.heap.size, 0, none⟩ = some (.int .i64 (iLo E k)) ∧ wi.cell? ⟨wo.heap.size, 1, none⟩ = some (.int .i64 by_) ∧
     (∀ o, wi.frozen? ⟨wo.heap.size, o, none⟩ = false) ∧ wo.grownBy wi none ∧ wo.heap.size < wi.heap.size ∧ Hid (grp E = pre ++ grp ((iLo E k, by_) :: E.drop j)) ∧ -(j : Int) ≤ by_ ∧ by_ ≤ j) (fun i _ => E.length - (intOf i).toNat)
   case atStart => exact ⟨k + 1, iHi E k, by omega, by omega, by go_num, by simp, by simp, by simp, World.grownBy_alloc _ _ _, by simp, Hg', by omega, by omega⟩
   case round =>
    obtain ⟨j, y, hj1, hj2, rfl, g1, g2, g3, hgw, hzw, Hgj, hy1, hy2⟩ := hrel
    have hKB2 : KeepB lo hi W wr := hKB.trans (KeepB.grown hgw (by omega) (fun k h => by cases h))
    have hcb2 := (hKB2.cell hB1 hB2 0).trans hc
    clear hcb h5' h6'
    by_cases hjl : j < E.length
    ·obtain ⟨b', off', hbo, _, h8, h9⟩ := h3 j hjl
     simp only [Option.some.injEq, Addr.mk.injEq, and_true] at hbo
     obtain ⟨rfl, rfl⟩ := hbo
     have h8' := (hKB2.cell hb1 hb2 (off + j * 2)).trans h8
     have h9' := (hKB2.cell hb1 hb2 (off + j * 2 + 1)).trans h9
     have hbj := Heb.out _ (at_mem E j hjl)
     simp only at hbj
     clear h8 h9
     by_cases hat : iLo E j = iLo E k
     ·have hat' : (iLo E j == iLo E k) = true := by rw [beq_iff_eq]; exact hat
      have Hat := hide hat; clear hat
      gi_wp2
      gi_quiet (fail)
      gi_wp2
      gi_region
      gi_wp2
      go_roundw
      case rel =>
       have Hn : grp E = pre ++ grp ((iLo E k, y + iHi E j) :: E.drop (j + 1)) := by
        have := Hgj.out
        rw [drop_at E j hjl, Hat.out, grp_join] at this
        exact this
       exact ⟨j + 1, y + iHi E j, by omega, by omega, by go_num, by simp [go_sem, g1], by simp [go_sem, g2], fun o => by simpa [go_sem] using g3 o, grown_set (grown_drewNI hgw _) (Nat.le_refl _) _, by simp; omega, Hn, by omega, by omega⟩
      case measure => simp [intOf]; omega
     ·have hat' : (iLo E j == iLo E k) = false := by rw [beq_eq_false_iff_ne]; exact hat
      have Hnx := hide (grp_next Hgj.out (fun _ => hat))
      have Hat := hide hat; clear hat
      gi_wp2
      gi_quiet (fail)
      rename_i nq
      have hJ2 := hJ pre wo (wr.drewN nq) none hJs (grown_drewNI hgw nq) (fun r h => by cases h)
      obtain ⟨fn, tmps, assign, body, hy, hR⟩ := hY pre (iLo E k, y) (wr.drewN nq) hJ2 (grp_lt Hgj.out) (by rw [Hnx.out]; simp)
      dsimp only at hy
      gi_wp2
      refine hR.mono ?_
      rintro e W3 (⟨rfl, hJ3, hk3⟩ | ⟨rfl, hJx3⟩)
      ·gi_wp2
       go_roundw
       case rel => exact ⟨j, pre ++ [(iLo E k, y)], hj2, rfl, Hnx, hJ3, hKB2.trans hk3⟩
       case measure => simp [intOf]; omega
      ·gi_wp2
       refine bodyPost_ret (results_none rfl _ _ _) rfl ?_
       exact ⟨⟨_, rfl⟩, .inr ⟨pre ++ [(iLo E k, y)], ⟨_, Hnx.out.symm⟩, hJx3⟩⟩
    ·have Hnx := hide (grp_next Hgj.out (fun h => absurd h hjl))
     gi_wp2
     gi_quiet (fail)
     rename_i nq
     have hJ2 := hJ pre wo (wr.drewN nq) none hJs (grown_drewNI hgw nq) (fun r h => by cases h)
     obtain ⟨fn, tmps, assign, body, hy, hR⟩ := hY pre (iLo E k, y) (wr.drewN nq) hJ2 (grp_lt Hgj.out) (by rw [Hnx.out]; simp)
     dsimp only at hy
     gi_wp2
     refine hR.mono ?_
     rintro e W3 (⟨rfl, hJ3, hk3⟩ | ⟨rfl, hJx3⟩)
     ·gi_wp2
      go_roundw
      case rel => exact ⟨j, pre ++ [(iLo E k, y)], hj2, rfl, Hnx, hJ3, hKB2.trans hk3⟩
      case measure => simp [intOf]; omega
     ·gi_wp2
      refine bodyPost_ret (results_none rfl _ _ _) rfl ?_
      exact ⟨⟨_, rfl⟩, .inr ⟨pre ++ [(iLo E k, y)], ⟨_, Hnx.out.symm⟩, hJx3⟩⟩
  ·have hg := Hg.out
   rw [List.drop_eq_nil_of_le (by omega)] at hg
   gi_wp2
   go_end0
   exact ⟨⟨_, rfl⟩, .inl ⟨pre, by rw [hg]; simp [grp], hJs⟩⟩

abbrev BEd := { x : Ed // 0 ≤ x.1 ∧ x.1 ≤ 3000000000000001 ∧ -200 ≤ x.2 ∧ x.2 ≤ 200 }
theorem edges2_stops (n : Nat) (hn : 1 ≤ n) (Bs lo hi : Nat) (sv : Value) (E : List Ed) (hE : E.length ≤ 200) (hEb : ∀ e, e ∈ E → 0 ≤ e.1 ∧ e.1 ≤ 3000000000000001 ∧ -1 ≤ e.2 ∧ e.2 ≤ 1) (hB1 : lo ≤ Bs) (hB2 : Bs < hi) (w : World) (hhi : hi ≤ w.heap.size)
  (hc : w.cell? ⟨Bs, 0, none⟩ = some sv) (hr : IvRow w sv E) (hrb : 0 < E.length → ∀ k, sv.ownBlock = some k → lo ≤ k ∧ k < hi) :
  SeqStopsK Fence.wide n Tryz.prog 154 #[.pointer (some ⟨Bs, 0, none⟩)] (fun x : BEd => #[Value.agg #[.int .i64 x.1.1, .int .i64 x.1.2]]) (KeepB lo hi) (fun ys => ys.map (·.1) = grp E) (fun pre => pre.map (·.1) <+: grp E) (grp E).length w := by
 intro l J Jx W hW hJ hJx hY h0
 refine (edges2_in n hn l Bs lo hi sv E hE (fun e he => (hEb e he).2.2) hB1 hB2 (fun pre W => ∃ pre' : List BEd, pre'.map (·.1) = pre ∧ J pre' W) (fun pre W => ∃ pre' : List BEd, pre'.map (·.1) = pre ∧ Jx pre' W) W (Nat.le_trans hhi hW.size)
  (fun s A B row hs hg hr => by obtain ⟨p, h1, h2⟩ := hs; exact ⟨p, h1, hJ p A B row h2 hg hr⟩) ?_ ((hW.cell (p := ⟨Bs, 0, none⟩) (show Bs < w.heap.size by omega)).trans hc) (hr.below (Nat.le_refl _) hW) hrb ⟨[], rfl, h0⟩).mono ?_
 ·rintro pre x W1 ⟨pre', rfl, h1⟩ hlen hx
  have hg := grp_mem E hEb x hx
  obtain ⟨fn, tmps, assign, body, hy, hR⟩ := hY pre' ⟨x, by omega⟩ W1 h1 (by simpa using hlen)
  refine ⟨fn, tmps, assign, body, hy, hR.mono ?_⟩
  rintro e W' (⟨he, hJ', hk⟩ | ⟨he, hJ'⟩)
  ·exact .inl ⟨he, ⟨_, by simp, hJ'⟩, hk⟩
  ·exact .inr ⟨he, ⟨_, by simp, hJ'⟩⟩
 ·rintro e W' ⟨he, ⟨ys, rfl, ys', h1, h2⟩ | ⟨pre, h3, pre', rfl, h4⟩⟩
  ·exact ⟨he, .inl ⟨ys', h1, h2⟩⟩
  ·exact ⟨he, .inr ⟨pre', h3, h4⟩⟩
end Go.Proofs.YtlmcoollkmhanaaGreat
/- Package interval's Cover: the same post as the reference's. -/
namespace Go.Proofs.YtlmcoollkmhanaaGreat
open Go.RowKit Go.Shelf
attribute [local go_sem] Oper.semAt_some

set_option maxRecDepth 100000 in
set_option maxHeartbeats 400000 in
theorem enough_any (y d need : Int) (db nb : Nat) (W : World) (hd : W.cell? ⟨db, 0, none⟩ = some (.int .i64 d)) (hf : W.frozen? ⟨db, 0, none⟩ = false) (hn : W.cell? ⟨nb, 0, none⟩ = some (.int .i64 need)) (hne : db ≠ nb)
  (b1 : -1000000 ≤ d) (b2 : d ≤ 1000000) (b3 : -1000000 ≤ y) (b4 : y ≤ 1000000) :
  Calls Tryz.prog 127 #[.int .i64 y, .pointer (some ⟨db, 0, none⟩), .pointer (some ⟨nb, 0, none⟩)] W fun e w' =>
   e = .returned (.tuple #[.bool (decide (need ≤ d)), .bool (decide (need ≤ d + y))]) ∧ ∃ nq, w' = (W.setCell ⟨db, 0, none⟩ (.int .i64 (d + y))).drewN nq := by
 have hn2 : (W.setCell ⟨db, 0, none⟩ (.int .i64 (d + y))).cell? ⟨nb, 0, none⟩ = some (.int .i64 need) := (World.cell?_setCell_other _ _ _ _ (fun h => hne (by cases h; rfl))).trans hn
 have hd2 : (W.setCell ⟨db, 0, none⟩ (.int .i64 (d + y))).cell? ⟨db, 0, none⟩ = some (.int .i64 (d + y)) := World.cell?_setCell_same' _ _ _ (by rw [hd]; rfl)
 go_enter Tryz.func127, Tryz.ntmps127
 go_wp2
 go_quiet (fail)
 rename_i nq
 go_wp2
 go_ret2
 exact ⟨rfl, nq, rfl⟩
def CI (w w1 w2 : World) (need : Int) (pre : List BEd) (W : World) : Prop :=
 (∃ ov, W.cell? ⟨w1.heap.size, 0, none⟩ = some ov ∧ W.frozen? ⟨w1.heap.size, 0, none⟩ = false ∧ OwnIv W w2.heap.size ov (sweep need (pre.map (·.1))).2) ∧
 (W.cell? ⟨w1.heap.size + 1, 0, none⟩ = some (.int .i64 (sweep need (pre.map (·.1))).1) ∧ W.frozen? ⟨w1.heap.size + 1, 0, none⟩ = false) ∧
 W.cell? ⟨w.heap.size, 0, none⟩ = some (.int .i64 need) ∧
 W.cell? ⟨w1.heap.size + 1 + 1, 0, none⟩ = some (.func (.func 127) #[] #[.pointer (some ⟨w1.heap.size + 1, 0, none⟩), .pointer (some ⟨w.heap.size, 0, none⟩)]) ∧
 Below w.heap.size w W ∧ w2.heap.size ≤ W.heap.size
theorem ownP_kept {T : TypeId} {W W' : World} {base : Nat} {v : Value} {c : List Iv} {row : Option Nat} (h : OwnP T W base v c) (hg : W.grownBy W' row) (hr : ∀ r, row = some r → ∃ o : Obj, W.heap[r]? = some o ∧ o.isCells = false) : OwnP T W' base v c := by
 refine World.ownsRow.kept h hg ?_
 rcases h.2 with ⟨hv, _⟩ | ⟨g, cap, cur, hv, _, hc, _⟩
 ·left; rw [hv]; rfl
 ·right
  rw [hv]
  intro e
  obtain ⟨o, ho, hc2⟩ := hr g e.symm
  rw [hc] at ho; cases ho; cases hc2
theorem CI.own {w w1 w2 : World} {need : Int} (h1 : w.heap.size + 1 ≤ w1.heap.size) (h2 : w1.heap.size + 1 + 1 + 1 ≤ w2.heap.size) : OwnFrom w2.heap.size (fun pre W => CI w w1 w2 need pre W) := by
 rintro pre X Y row ⟨⟨ov, a1, a2, a3⟩, ⟨b1, b2⟩, c1, d1, e1, f1⟩ hg hr
 have hr' := fun r e => (hr r e).2
 exact ⟨⟨ov, cell_kept a1 hg hr', (frozen_kept a1 hg hr').trans a2, ownP_kept a3 hg hr'⟩, ⟨cell_kept b1 hg hr', (frozen_kept b1 hg hr').trans b2⟩, cell_kept c1 hg hr', cell_kept d1 hg hr', e1.grown hg e1.size (fun k e => by have := (hr k e).1; omega), Nat.le_trans f1 hg.size⟩
theorem CI.start {w w1 w2 : World} {need : Int} (d0 : w2.cell? ⟨w.heap.size, 0, none⟩ = some (.int .i64 need)) (d1 : w2.cell? ⟨w1.heap.size, 0, none⟩ = some (.slice none 0 0) ∧ w2.frozen? ⟨w1.heap.size, 0, none⟩ = false)
  (d2 : w2.cell? ⟨w1.heap.size + 1, 0, none⟩ = some (.int .i64 0) ∧ w2.frozen? ⟨w1.heap.size + 1, 0, none⟩ = false)
  (d3 : w2.cell? ⟨w1.heap.size + 1 + 1, 0, none⟩ = some (.func (.func 127) #[] #[.pointer (some ⟨w1.heap.size + 1, 0, none⟩), .pointer (some ⟨w.heap.size, 0, none⟩)])) (hB : Below w.heap.size w w2) : CI w w1 w2 need [] w2 :=
 ⟨⟨_, d1.1, d1.2, OwnP.nil _ _⟩, d2, d0, d3, hB, Nat.le_refl _⟩
structure Stp (ob db hi : Nat) (W V : World) : Prop where
 os : V.os = W.os
 tape : V.tape = W.tape
 output : V.output = W.output
 size : W.heap.size ≤ V.heap.size
 keep : ∀ k o, W.heap[k]? = some o → k ≠ ob → k ≠ db → (k < hi ∨ o.isCells = false) → V.heap[k]? = some o
theorem heap_at {W : World} {k : Nat} (h : k < W.heap.size) : ∃ o, W.heap[k]? = some o := ⟨W.heap[k], Array.getElem?_eq_getElem h⟩
theorem Stp.refl (ob db hi : Nat) (W : World) : Stp ob db hi W W := ⟨rfl, rfl, rfl, Nat.le_refl _, fun _ _ h _ _ _ => h⟩
theorem Stp.drewN {ob db hi : Nat} {A B : World} (h : Stp ob db hi A B) (n : Nat) : Stp ob db hi A (B.drewN n) := ⟨h.os, h.tape, h.output, h.size, h.keep⟩
theorem Stp.set {ob db hi : Nat} {A B : World} (h : Stp ob db hi A B) {p : Addr} (hp : p.block = ob ∨ p.block = db) (u : Value) : Stp ob db hi A (B.setCell p u) :=
 ⟨h.os, h.tape, h.output, by simpa [World.setCell] using h.size, fun k o h1 h2 h3 h4 => (Below.heap_setCell B p u k (by omega)).trans (h.keep k o h1 h2 h3 h4)⟩
theorem Stp.alloc {ob db hi : Nat} {A B : World} (h : Stp ob db hi A B) (o : Obj) : Stp ob db hi A (B.alloc o) :=
 ⟨h.os, h.tape, h.output, Nat.le_trans h.size (by simp), fun k o' h1 h2 h3 h4 => (Below.heap_alloc B o k (by have := (Array.getElem?_eq_some_iff.1 h1).1; have := h.size; omega)).trans (h.keep k o' h1 h2 h3 h4)⟩
theorem Stp.grown {ob db hi : Nat} {A B C : World} {row : Option Nat} (h : Stp ob db hi A B) (hg : B.grownBy C row) (hr : ∀ r, row = some r → hi ≤ r ∧ ∀ o, B.heap[r]? = some o → o.isCells = true) : Stp ob db hi A C :=
 ⟨hg.os.trans h.os, hg.tape.trans h.tape, hg.output.trans h.output, Nat.le_trans h.size hg.size, fun k o h1 h2 h3 h4 => by
  have h5 := h.keep k o h1 h2 h3 h4
  refine (hg.block k (Array.getElem?_eq_some_iff.1 h5).1 ?_).trans h5
  intro e
  have h6 := hr k e.symm
  rcases h4 with h4 | h4
  ·omega
  ·rw [h6.2 o h5] at h4; cases h4⟩
theorem Stp.row {ob db hi : Nat} {A B : World} (h : Stp ob db hi A B) {p : Addr} (hp : hi ≤ p.block) {v : Value} (hc : B.cell? p = some v) (u : Value) : Stp ob db hi A (B.setCell p u) :=
 ⟨h.os, h.tape, h.output, by simpa [World.setCell] using h.size, fun k o h1 h2 h3 h4 => by
  have h5 := h.keep k o h1 h2 h3 h4
  refine (Below.heap_setCell B p u k ?_).trans h5
  rintro rfl
  rcases h4 with h4 | h4
  ·omega
  ·obtain ⟨o', ho', hc'⟩ := cells_of_cell hc
   rw [h5] at ho'; cases ho'; rw [h4] at hc'; cases hc'⟩
theorem Stp.from {ob db hi : Nat} {A B : World} (h : Stp ob db hi A B) (h1 : ob < hi) (h2 : db < hi) : KeepsFrom hi A B := ⟨h.size, fun k o hB hk ho => h.keep k o hk (by omega) (by omega) (.inr ho)⟩
theorem Stp.keepB {ob db lo hi : Nat} {A B : World} (h : Stp ob db hi A B) (h1 : ob < lo) (h2 : db < lo) (hh : hi ≤ A.heap.size) : KeepB lo hi A B :=
 ⟨h.size, fun q q1 q2 => by obtain ⟨o, ho⟩ := heap_at (W := A) (k := q) (by omega); rw [ho]; exact h.keep q o ho (by omega) (by omega) (.inl q2)⟩
theorem Stp.below {ob db n hi : Nat} {A B : World} (h : Stp ob db hi A B) (h1 : n ≤ ob) (h2 : n ≤ db) (hh : n ≤ hi) (hA : n ≤ A.heap.size) : Below n A B :=
 ⟨h.os, h.tape, h.output, h.size, fun q q2 => by obtain ⟨o, ho⟩ := heap_at (W := A) (k := q) (by omega); rw [ho]; exact h.keep q o ho (by omega) (by omega) (.inl (by omega))⟩
theorem Stp.cell {ob db hi : Nat} {A B : World} (h : Stp ob db hi A B) {b o : Nat} {v : Value} (hc : A.cell? ⟨b, o, none⟩ = some v) (h1 : b ≠ ob) (h2 : b ≠ db) (h3 : b < hi) : B.cell? ⟨b, o, none⟩ = some v := by
 have hlt := World.block_lt_of_cell? _ _ hc
 obtain ⟨ob', ho⟩ := heap_at (W := A) (k := b) hlt
 exact (World.cell?_of_block (a := ⟨b, o, none⟩) ((h.keep b ob' ho h1 h2 (.inl h3)).trans ho.symm)).trans hc
theorem CI.next {w w1 w2 W V : World} {need : Int} {pre : List BEd} {x : BEd} (h1 : w.heap.size + 1 ≤ w1.heap.size) (h2 : w1.heap.size + 1 + 1 + 1 ≤ w2.heap.size) (h : CI w w1 w2 need pre W) (hs : Stp w1.heap.size (w1.heap.size + 1) w2.heap.size W V)
  {ov : Value} (ho : V.cell? ⟨w1.heap.size, 0, none⟩ = some ov ∧ V.frozen? ⟨w1.heap.size, 0, none⟩ = false) (hrow : OwnIv V w2.heap.size ov (swStep need (sweep need (pre.map (·.1))) x.1).2)
  (hd : V.cell? ⟨w1.heap.size + 1, 0, none⟩ = some (.int .i64 ((sweep need (pre.map (·.1))).1 + x.1.2)) ∧ V.frozen? ⟨w1.heap.size + 1, 0, none⟩ = false) :
  KeepsFrom w2.heap.size W V ∧ KeepB (w1.heap.size + 1 + 1 + 1) w2.heap.size W V ∧ CI w w1 w2 need (pre ++ [x]) V := by
 obtain ⟨_, _, c1, d1, e1, f1⟩ := h
 have e : sweep need ((pre ++ [x]).map (·.1)) = swStep need (sweep need (pre.map (·.1))) x.1 := by rw [List.map_append]; exact sweep_snoc _ _ _
 refine ⟨hs.from (by omega) (by omega), hs.keepB (by omega) (by omega) f1, ⟨ov, ho.1, ho.2, by rw [e]; exact hrow⟩, ⟨by rw [e]; exact hd.1, hd.2⟩, hs.cell c1 (by omega) (by omega) (by omega), hs.cell d1 (by omega) (by omega) (by omega), e1.trans (hs.below (by omega) (by omega) (by omega) (by omega)), Nat.le_trans f1 hs.size⟩
theorem own_cells {W : World} {base e size n : Nat} {v : Value} {xs : List Value} (h : W.ownsRow base e size v n xs) {r : Nat} (hr : v.ownBlock = some r) {o : Obj} (ho' : W.heap[r]? = some o) : o.isCells = true := by
 rcases h.2 with ⟨hv, _⟩ | ⟨g, cap, cur, hv, _, hc, _⟩
 ·rw [hv] at hr; cases hr
 ·rw [hv] at hr; cases hr
  rw [hc] at ho'; cases ho'; rfl
theorem encs_size (x : BEd) : (#[Value.agg #[.int .i64 x.1.1, .int .i64 x.1.2]] : Array Value).size = 1 := rfl

set_option maxRecDepth 100000 in
set_option maxHeartbeats 2000000 in
theorem Cover_ok (v : Value) (l : List Iv) (need : Int) (w : World) (hv : IvRow w v l) (hl : listB l = true) (hn1 : 1 ≤ need) (hn2 : need ≤ 64) :
  Calls Tryz.prog 105 #[v, .int .i64 need] w fun e w' => ∃ v c, e = .returned (.tuple #[v, .int .i64 0]) ∧ OwnIv w' w.heap.size v c ∧ CovSpec l need c ∧ Below w.heap.size w w' := by
 have hv' := hv
 obtain ⟨a, cap, rfl, h1, h2, h3⟩ := hv
 clear h3
 obtain ⟨i0, hi, hz0, hz1, hz2⟩ := info_parts infoIv
 refine (callsIn_wide (n := 3)).1 ?_
 refine callsIn_of_wp_marks Tryz.func105 rfl trivial ?_ rfl
 simp only [Tryz.ntmps105, List.size_toArray, List.length_cons, List.length_nil, Nat.reduceAdd, Nat.reduceSub, Array.replicate_succ, Array.replicate_zero, List.push_toArray, List.append_toArray, List.nil_append, List.cons_append]
 gi_wp2_with fail
 refine ⟨trivial, (callsIn_wide.2 (listed_any _ l _ (hv'.below (Nat.le_refl _) ((Below.refl _ _).alloc (Nat.le_refl _) _)))).mono ?_⟩
 rintro e w1 ⟨rfl, hb1⟩
 obtain ⟨c1, f1⟩ := bk hb1 w.heap.size (by simp)
 have hz1' := hb1.size
 simp only [World.size_alloc] at hz1'
 have hB1 : Below w.heap.size w w1 := (by ((repeat' (first | exact Below.refl _ _ | exact hb1 | refine Below.alloc ?_ ?_ _ | refine Below.setCell ?_ ?_ _ | refine Below.drew ?_ | refine below_drewN ?_ _ | refine Below.trans ?_ (hb1.mono ?_))) <;> (first | omega | (simp; done) | (simp; omega))))
 gi_wp2_with fail
 refine ⟨trivial, (callsIn_wide.2 (edges_any _ l _ (hv'.below (Nat.le_refl _) (by ((repeat' (first | exact Below.refl _ _ | exact hB1 | refine Below.alloc ?_ ?_ _ | refine Below.setCell ?_ ?_ _ | refine Below.drew ?_ | refine below_drewN ?_ _ | refine Below.trans ?_ (hB1.mono ?_))) <;> (first | omega | (simp; done) | (simp; omega))))) hl)).mono ?_⟩
 rintro e w2 ⟨rfl, hb2, sv, E, hlt2, hcB, hrE, hpE, hsE, hownE⟩
 simp only [World.size_alloc] at hlt2 hcB hownE
 have hz2' := hb2.size
 simp only [World.size_alloc] at hz2'
 have hB2 : Below w.heap.size w w2 := (by ((repeat' (first | exact Below.refl _ _ | exact hB1 | exact hb2 | refine Below.alloc ?_ ?_ _ | refine Below.setCell ?_ ?_ _ | refine Below.drew ?_ | refine below_drewN ?_ _ | refine Below.trans ?_ (hB1.mono ?_) | refine Below.trans ?_ (hb2.mono ?_))) <;> (first | omega | (simp; done) | (simp; omega))))
 have hEl : E.length = 2 * l.length := by rw [hpE.length_eq, edg_length]
 have hl64 := ((listB_iff l).1 hl).1
 have hmem : ∀ e, e ∈ E → 0 ≤ e.1 ∧ e.1 ≤ 3000000000000001 ∧ -1 ≤ e.2 ∧ e.2 ≤ 1 := fun e he => by
  have := edg_mem l ((listB_iff l).1 hl).2 l.length (Nat.le_refl _) e
  rw [List.take_length] at this
  exact this (hpE.mem_iff.1 he)
 have hN : (grp E).length ≤ 128 := Nat.le_trans (grp_length E) (by omega)
 have hrb : 0 < E.length → ∀ k, sv.ownBlock = some k → w1.heap.size + 1 + 1 + 1 ≤ k ∧ k < w2.heap.size := fun h0 k h => ⟨hownE k h, by
  obtain ⟨b, off, cap', rfl, _, _, hb, _⟩ := hrE.at0 h0
  cases h; exact hb⟩
 -- the boxes, in w2
 have d0 : w2.cell? ⟨w.heap.size, 0, none⟩ = some (.int .i64 need) := by
  rw [(bk hb2 w.heap.size (by first | omega | simp <;> omega)).1, (old1 _ _ (by first | omega | simp <;> omega) 0).1, (old2 w1 _ _ (by omega) 0).1, c1]; simp
 have d1 : w2.cell? ⟨w1.heap.size, 0, none⟩ = some (.slice none 0 0) ∧ w2.frozen? ⟨w1.heap.size, 0, none⟩ = false := by
  rw [(bk hb2 w1.heap.size (by first | omega | simp <;> omega)).1, (bk hb2 w1.heap.size (by first | omega | simp <;> omega)).2]; constructor <;> simp [go_sem]
 have d2 : w2.cell? ⟨w1.heap.size + 1, 0, none⟩ = some (.int .i64 0) ∧ w2.frozen? ⟨w1.heap.size + 1, 0, none⟩ = false := by
  rw [(bk hb2 (w1.heap.size + 1) (by first | omega | simp <;> omega)).1, (bk hb2 (w1.heap.size + 1) (by first | omega | simp <;> omega)).2]; constructor <;> simp [go_sem]
 have d3 : w2.cell? ⟨w1.heap.size + 1 + 1, 0, none⟩ = some (.func (.func 127) #[] #[.pointer (some ⟨w1.heap.size + 1, 0, none⟩), .pointer (some ⟨w.heap.size, 0, none⟩)]) := by
  rw [(bk hb2 (w1.heap.size + 1 + 1) (by first | omega | simp <;> omega)).1]; simp [go_sem]
 have hstop := edges2_stops 2 (by omega) (w1.heap.size + 1 + 1 + 1) (w1.heap.size + 1 + 1 + 1) w2.heap.size sv E (by omega) hmem (Nat.le_refl _) hlt2 w2 (Nat.le_refl _) hcB hrE hrb
 clear hb1 hb2 c1 f1
 have Hmem := hide hmem
 have HrE := hide hrE
 clear hmem hrE hownE hcB hrb
 gi_wp2_with fail
 refine wpIn_rangeFunc_ownH rfl (by omega) (gf := 154) (lb := #[.pointer (some ⟨w1.heap.size + 1 + 1 + 1, 0, none⟩)]) rfl trivial (enters_of Tryz.func154 (by kernel_rfl) rfl)
  hstop (fun h k => h.trans k) (fun W q o o' hq h1 h2 _ => KeepB.grown (grownBy_putObj' W q o') (by have := (Array.getElem?_eq_some_iff.1 h1).1; omega) (fun k e => by cases e; omega)) (Below.refl _ _) encs_size
  (fun pre W => CI w w1 w2 need pre W) (fun _ _ _ => False) (CI.own hz1' hz2') (fun _ _ _ _ _ hs _ _ => hs) (CI.start d0 d1 d2 d3 hB2)
  (fun x a' W => ∃ Bx, w2.heap.size ≤ Bx ∧ W.cell? ⟨Bx, 0, none⟩ = some (.int .i64 x.1.1) ∧ W.cell? ⟨Bx, 1, none⟩ = some (.int .i64 x.1.2) ∧ a' = { tmps := #[Value.slice a l.length cap, Value.int .i64 need, undef, Value.pointer (some ⟨w.heap.size, 0, none⟩), Value.slice none 0 0, Value.int .i64 0, Value.pointer (some ⟨w1.heap.size, 0, none⟩), Value.pointer (some ⟨w1.heap.size + 1, 0, none⟩), Value.pointer (some ⟨w1.heap.size + 1 + 1, 0, none⟩), Value.pointer (some ⟨Bx, 0, none⟩), undef, undef, Value.slice a l.length cap, Value.bool true, Value.bool false, Value.bool false, Value.int .i64 need, Value.bool (decide (need < 1)), Value.bool (decide (need < 1)), Value.bool (decide (need < 1)), Value.int .i64 need, Value.bool (decide (64 < need)), Value.bool (decide (need < 1) || decide (64 < need)), Value.func (Fn.func 127) #[] #[Value.pointer (some ⟨w1.heap.size + 1, 0, none⟩), Value.pointer (some ⟨w.heap.size, 0, none⟩)], Value.slice a l.length cap, Value.func (Fn.func 154) #[] #[Value.pointer (some ⟨w1.heap.size + 1 + 1 + 1, 0, none⟩)], Value.agg #[.int .i64 x.1.1, .int .i64 x.1.2], undef, undef, undef, undef, undef, undef, undef, undef, undef, undef, undef, undef, undef, undef, undef, undef, undef, undef, undef, undef, undef, undef, undef, undef, undef, undef, undef, undef, undef, undef, undef, undef, undef], defers := [] })
  (fun x a' _ X Y row hs hg hr => by obtain ⟨Bx, h1, h2, h3, h4⟩ := hs; exact ⟨Bx, h1, cell_kept h2 hg (fun r e => (hr r e).2), cell_kept h3 hg (fun r e => (hr r e).2), h4⟩)
  ?assign ?body ?done ?stop
 case assign =>
  rintro q pre x W K hI hK
  have hIn := CI.own hz1' hz2' pre W (W.alloc (.cells #[.int .i64 x.1.1, .int .i64 x.1.2] 163)) none hI (World.grownBy_alloc _ _ _) (fun r h => by cases h)
  have hsz : w2.heap.size ≤ W.heap.size := hI.2.2.2.2.2
  gi_wp2
  exact hK _ _ ((KeepsOthers.alloc _ _).from _) (KeepB.grown (World.grownBy_alloc _ _ none) (by omega) (fun k h => by cases h)) hIn ⟨W.heap.size, hsz, by simp, by simp, rfl⟩
 case body =>
  rintro q pre x a' W hq hrec hI ⟨Bx, hBx, x1, x2, rfl⟩ hlen
  have hI' := hide hI
  obtain ⟨⟨ov, a1, a2, a3⟩, ⟨b1, b2⟩, c1', d1', e1, f1⟩ := hI
  have hsafe := sweep_safe need hn1 (pre.map (·.1))
  have htot := sweep_tot need (pre.map (·.1))
  have hbd := tot_bd 200 (by omega) (by omega) (pre.map (·.1)) (by simp; omega) (fun e he => by obtain ⟨y, _, rfl⟩ := List.mem_map.1 he; exact y.2.2.2)
  rw [← htot] at hbd
  rw [List.length_map] at hbd
  have hx := x.2
  have hlc := hsafe.2
  rw [List.length_map] at hlc
  have hne := hsafe.1
  have hnx := fun V ov hs ho hrow hd => CI.next (V := V) (ov := ov) (x := x) hz1' hz2' hI'.out hs ho hrow hd
  simp only [swStep] at hnx
  generalize hdq : (sweep need (pre.map (·.1))).1 = d at *
  generalize hcq : (sweep need (pre.map (·.1))).2 = c at *
  have Hnx := hide hnx
  have HS := hide hne
  clear htot hsafe hne hnx hdq hcq d0 d1 d2 d3 hstop hpE hsE
  have hc128 : c.length ≤ 128 := by omega
  gi_wp2_with fail
  refine ⟨trivial, (CallsIn.inRound q (callsIn_wide.2 (enough_any _ _ _ _ _ W b1 b2 c1' (by omega) (by omega) (by omega) (by omega) (by omega)))).mono ?_⟩
  rintro e w3 ⟨rfl, nq, rfl⟩
  have v0 : Stp w1.heap.size (w1.heap.size + 1) w2.heap.size W ((W.setCell ⟨w1.heap.size + 1, 0, none⟩ (.int .i64 (d + x.1.2))).drewN nq) := (Stp.set (p := ⟨w1.heap.size + 1, 0, none⟩) (Stp.refl w1.heap.size (w1.heap.size + 1) w2.heap.size W) (.inr rfl) _).drewN nq
  have v1 : ((W.setCell ⟨w1.heap.size + 1, 0, none⟩ (.int .i64 (d + x.1.2))).drewN nq).cell? ⟨w1.heap.size, 0, none⟩ = some ov ∧ ((W.setCell ⟨w1.heap.size + 1, 0, none⟩ (.int .i64 (d + x.1.2))).drewN nq).frozen? ⟨w1.heap.size, 0, none⟩ = false :=
   ⟨(World.cell?_setCell_other _ _ _ _ (fun h => by simp at h)).trans a1, (World.frozen?_setCell _ _ _ _).trans a2⟩
  have v2 : ((W.setCell ⟨w1.heap.size + 1, 0, none⟩ (.int .i64 (d + x.1.2))).drewN nq).cell? ⟨w1.heap.size + 1, 0, none⟩ = some (.int .i64 (d + x.1.2)) ∧ ((W.setCell ⟨w1.heap.size + 1, 0, none⟩ (.int .i64 (d + x.1.2))).drewN nq).frozen? ⟨w1.heap.size + 1, 0, none⟩ = false :=
   ⟨World.cell?_setCell_same' _ _ _ (by rw [b1]; rfl), (World.frozen?_setCell _ _ _ _).trans b2⟩
  have v3 : ((W.setCell ⟨w1.heap.size + 1, 0, none⟩ (.int .i64 (d + x.1.2))).drewN nq).ownsRow w2.heap.size 53 2 ov c.length (encL c) := ownsRow_setCell_below a3 (by simp; omega) _
  have v5 : ((W.setCell ⟨w1.heap.size + 1, 0, none⟩ (.int .i64 (d + x.1.2))).drewN nq).cell? ⟨Bx, 0, none⟩ = some (.int .i64 x.1.1) := (World.cell?_setCell_other _ _ _ _ (fun h => by cases h; omega)).trans x1
  have vz : w2.heap.size ≤ ((W.setCell ⟨w1.heap.size + 1, 0, none⟩ (.int .i64 (d + x.1.2))).drewN nq).heap.size := Nat.le_trans f1 v0.size
  generalize (W.setCell ⟨w1.heap.size + 1, 0, none⟩ (.int .i64 (d + x.1.2))).drewN nq = V at *
  have vz1 : w1.heap.size < V.heap.size := by omega
  have V0 := hide v0
  have hlow := World.ownsRow.lt v3
  obtain ⟨v1a, v1b⟩ := v1
  have V2 := hide v2
  clear v0 v2 a1 a2 a3 b1 b2 c1' d1' x1 x2 e1
  obtain ⟨oa, ocap, hov, hoc1, hoc2⟩ := OwnP.val (c := c) v3
  subst hov
  by_cases hdn : need ≤ d <;> by_cases hyn : need ≤ d + x.1.2
  all_goals first | have tdn := decide_eq_true hdn | have tdn := decide_eq_false hdn
  all_goals first | have tyn := decide_eq_true hyn | have tyn := decide_eq_false hyn
  all_goals first | (have sdn : (!decide (need ≤ d)) = false := by simp [hdn]) | (have sdn : (!decide (need ≤ d)) = true := by simp [hdn])
  all_goals first | (have syn : (!decide (need ≤ d + x.1.2)) = false := by simp [hyn]) | (have syn : (!decide (need ≤ d + x.1.2)) = true := by simp [hyn])
  ·gi_wp2
   all_goals exact Hnx.out _ _ V0.out ⟨v1a, v1b⟩ (by rw [if_neg (by omega), if_neg (by omega)]; exact v3) V2.out
  ·have hcne := HS.out hdn
   rcases List.eq_nil_or_concat c with hc0 | ⟨dd, p, hcp⟩
   ·exact absurd hc0 hcne
   ·have hcd : c = dd ++ [p] := by rw [hcp]; simp
    clear hcp hcne HS
    subst hcd
    have hdl : (dd ++ [p]).length = dd.length + 1 := by simp
    obtain ⟨g, cap1, hov2, hg1, hg2, hg3, hg4, hcl1, hcl2, hfz, hst⟩ := OwnP.form (d := dd) (p := p) v3
    rw [hdl] at hov2 v1a v3 hoc1 hc128
    simp only [hdl] at *
    cases hov2
    have Hst := hide hst
    clear hst hdl
    gi_wp2
    have k0 : Stp w1.heap.size (w1.heap.size + 1) w2.heap.size W (V.setCell ⟨g, dd.length * 2 + 1, none⟩ (.int .i64 (x.1.1 - 1))) := V0.out.row (p := ⟨g, dd.length * 2 + 1, none⟩) hg1 hcl2 _
    refine Hnx.out _ _ k0 ⟨(World.cell?_setCell_other _ _ _ _ (fun h => by first | (simp at h; done) | (simp at h; omega))).trans v1a, (World.frozen?_setCell _ _ _ _).trans v1b⟩ ?_ ⟨(World.cell?_setCell_other _ _ _ _ (fun h => by first | (simp at h; done) | (simp at h; omega))).trans V2.out.1, (World.frozen?_setCell _ _ _ _).trans V2.out.2⟩
    rw [if_neg (by omega), if_pos ⟨hdn, hyn⟩]
    simpa using Hst.out (x.1.1 - 1)
  ·gi_wp2_with (gi_at_builtin; refine wpListIn_append_own _ rfl _ _ 46 rfl w2.heap.size 53 i0 (.agg #[.int .i64 0, .int .i64 0]) 2 16 Tryz.underlying46 hi hz0 hz1 hz2 rfl (by decide) _ c.length (encL c) rfl (World.ownsRow.alloc v3 _) ⟨V.heap.size, 0, none⟩ 1 1 [.int .i64 x.1.1, .int .i64 0] rfl rfl (cell_two_new _ _ _ _) (by simp [Value.oneCell']) (by unfold maxLen; omega) (by omega) (by simp; omega) ?_; intro v4 w4 hown4 hg4 _; obtain ⟨a4, cap4, rfl⟩ := ownsRow_val hown4; obtain ⟨q1, q2⟩ := grown_keeps hg4 (b := w1.heap.size) (by simp; omega) (fun h => (by have := hlow _ h.symm; omega)))
   all_goals
    have k0 : Stp w1.heap.size (w1.heap.size + 1) w2.heap.size W (w4.setCell ⟨w1.heap.size, 0, none⟩ (.slice a4 (c.length + 1) cap4)) := Stp.set (p := ⟨w1.heap.size, 0, none⟩) ((V0.out.alloc _).grown hg4 (fun r h => ⟨(hlow r h).1, fun o ho => own_cells (World.ownsRow.alloc v3 _) h ho⟩)) (.inl rfl) _
    refine Hnx.out _ _ k0 ⟨World.cell?_setCell_same' _ _ _ (by rw [q1, (old1 V _ (by omega) 0).1, v1a]; rfl), (World.frozen?_setCell _ _ _ _).trans ((q2 0).trans ((old1 V _ (by omega) 0).2.trans v1b))⟩ ?_ ?_
    ·rw [if_pos ⟨hyn, hdn⟩]
     exact ownsRow_setCell_below (OwnP.app hown4) (by first | omega | simp <;> omega) _
    ·obtain ⟨r1, r2⟩ := grown_keeps hg4 (b := w1.heap.size + 1) (by simp; omega) (fun h => (by have := hlow _ h.symm; omega))
     exact ⟨(World.cell?_setCell_other _ _ _ _ (fun h => by simp at h)).trans ((r1 0).trans ((old1 V _ (by omega) 0).1.trans V2.out.1)), (World.frozen?_setCell _ _ _ _).trans ((r2 0).trans ((old1 V _ (by omega) 0).2.trans V2.out.2))⟩
  ·gi_wp2
   all_goals exact Hnx.out _ _ V0.out ⟨v1a, v1b⟩ (by rw [if_neg (by omega), if_neg (by omega)]; exact v3) V2.out
 case done =>
  rintro D ys W hD hys hI hK
  have hfin : CovSpec l need (sweep need (ys.map (·.1))).2 := by
   rw [hys]
   exact Run.done hl hn1 hpE (Run.sweep hn1 (grp E) (grp_sorted E hsE) (fun g hg => by have := grp_mem E Hmem.out g hg; omega) (grp E) (List.prefix_refl _))
  obtain ⟨⟨ov, a1, a2, a3⟩, _, _, _, e1, f1⟩ := hI
  have Hfin := hide hfin
  clear hfin hys d0 d1 d2 d3 hstop hpE hsE
  have hDW := (Array.getElem?_eq_some_iff.1 hK).1
  gi_wp2
  refine ⟨by simp, .inl ⟨_, _, rfl, run_takeDeferred hK, ?_⟩⟩
  exact ⟨_, results_tmp2 rfl _ _ _, ov, _, rfl, World.ownsRow.mono (ownsRow_putObj a3 _ hK rfl) (by omega), Hfin.out, e1.grown (grownBy_putObj' W D (.deferred none)) (by omega) (fun k e => by cases e; omega)⟩
 case stop =>
  rintro D c pre W _ _ h _
  exact h.elim

set_option maxRecDepth 100000 in
set_option maxHeartbeats 1000000 in
theorem Cover_any (v : Value) (l : List Iv) (need : Int) (w : World) (hv : IvRow w v l) :
  Calls Tryz.prog 105 #[v, .int .i64 need] w (CovPost w.heap.size w l need) := by
 by_cases hok : coverOk l need = true
 ·have hfin : coverEr l need = 0 := by simp [coverEr, hok]
  have hok' := hok
  simp only [coverOk, Bool.and_eq_true, decide_eq_true_eq] at hok'
  refine (Cover_ok v l need w hv hok'.1 hok'.2.1 hok'.2.2).mono ?_
  rintro e w' ⟨v', c, he, ho, hc, hb⟩
  exact ⟨v', c, by rw [hfin]; exact he, ho, by unfold CovOut; rw [if_pos hok]; exact hc, hb⟩
 ·have hfin : coverEr l need = 1 := by simp [coverEr, hok]
  have hfin2 : CovOut l need [] := by unfold CovOut; rw [if_neg hok]
  have Hf := hide hfin; clear hfin
  have hv' := hv
  obtain ⟨a, cap, rfl, h1, h2, h3⟩ := hv
  clear h3
  have hB0 : ∀ o, Below w.heap.size w (w.alloc o) := fun o => (Below.refl _ _).alloc (Nat.le_refl _) _
  have hv2 := hv'.below (Nat.le_refl _) (hB0 (.cells #[.int .i64 need] 3))
  clear hB0
  by_cases hl : listB l = true
  ·have hn : ¬ (1 ≤ need ∧ need ≤ 64) := by
    intro h; apply hok; simp [coverOk, hl, h]
   by_cases hn1 : need < 1
   ·clear hok hn
    go_enter Tryz.func105, Tryz.ntmps105
    go_wp2_with (go_at_call 126; refine (listed_any _ l _ hv2).mono ?_; rintro e w0 ⟨rfl, hb0⟩; obtain ⟨c0, f0⟩ := bk hb0 w.heap.size (by simp))
    go_ret2
    exact ⟨_, [], by rw [Hf.out]; rfl, OwnP.nil _ _, hfin2, (by ((repeat' (first | exact Below.refl _ _ | exact hb0 | refine Below.alloc ?_ ?_ _ | refine Below.setCell ?_ ?_ _ | refine Below.drew ?_ | refine below_drewN ?_ _ | refine Below.trans ?_ (hb0.mono ?_))) <;> (first | omega | (simp; done) | (simp; omega))))⟩
   ·have hn2 : 64 < need := by omega
    clear hok hn
    go_enter Tryz.func105, Tryz.ntmps105
    go_wp2_with (go_at_call 126; refine (listed_any _ l _ hv2).mono ?_; rintro e w0 ⟨rfl, hb0⟩; obtain ⟨c0, f0⟩ := bk hb0 w.heap.size (by simp))
    go_ret2
    exact ⟨_, [], by rw [Hf.out]; rfl, OwnP.nil _ _, hfin2, (by ((repeat' (first | exact Below.refl _ _ | exact hb0 | refine Below.alloc ?_ ?_ _ | refine Below.setCell ?_ ?_ _ | refine Below.drew ?_ | refine below_drewN ?_ _ | refine Below.trans ?_ (hb0.mono ?_))) <;> (first | omega | (simp; done) | (simp; omega))))⟩
  ·clear hok
   go_enter Tryz.func105, Tryz.ntmps105
   go_wp2_with (go_at_call 126; refine (listed_any _ l _ hv2).mono ?_; rintro e w0 ⟨rfl, hb0⟩; obtain ⟨c0, f0⟩ := bk hb0 w.heap.size (by simp))
   go_ret2
   exact ⟨_, [], by rw [Hf.out]; rfl, OwnP.nil _ _, hfin2, (by ((repeat' (first | exact Below.refl _ _ | exact hb0 | refine Below.alloc ?_ ?_ _ | refine Below.setCell ?_ ?_ _ | refine Below.drew ?_ | refine below_drewN ?_ _ | refine Below.trans ?_ (hb0.mono ?_))) <;> (first | omega | (simp; done) | (simp; omega))))⟩
end Go.Proofs.YtlmcoollkmhanaaGreat
