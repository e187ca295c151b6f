
/- Parts SpP SpA SpB SpC SpD SpM SpQ of the proof, joined. -/
import Derived.Test.YtlmcoollkmhanaaGa
import Derived.Deep.LoopGhost
import Derived.IntWalk
import Derived.Lib.Small
import Derived.ChangeAlike
import Derived.RangeFuncNested
import Derived.RangeFuncBound
import Derived.RangeFuncCalls
import Derived.RangeFuncLeaves
import Derived.RangeFuncBox
import Derived.RangeFuncFrom
import Derived.Shelf.Abstract
import Derived.Shelf.AbstractIn
import Derived.Shelf.RegionOpen
import Derived.OwnWalkIn
import Derived.TacticsInMore
import Derived.LoopNIn
import Derived.LoopIn
import Derived.Sort.QuietIn
import Derived.Sort.BigQuietIn
import Derived.Sort.QuietTacIn
import Derived.BigRegionIn
import Derived.Laws.MakeOwn
/- Plain mathematics of package spread: the order of widths, and the greatest width. -/
namespace Go.Proofs.Ytlmcoollkmhanaa
open Go.RowKit

def inB (n lo hi : Int) : Bool := decide (lo ≤ n ∧ n ≤ hi)
def allW (l : List Int) : Nat → Bool
 | 0 => true
 | k + 1 => allW l k && inB (iAt l k) 0 1000000000000
def spA (l : List Int) (f lost : Int) : Bool := inB l.length 1 16 && allW l l.length && inB f 0 16 && inB lost 0 16
def spOk (l : List Int) (f lost : Int) : Bool := spA l f lost && decide (2 * f < l.length - lost)
def spEr (l : List Int) (f lost : Int) : Int := if spA l f lost = true then (if 2 * f < l.length - lost then 0 else 20) else 1
theorem allW_iff (l : List Int) : ∀ k, (allW l k = true ↔ ∀ j, j < k → 0 ≤ iAt l j ∧ iAt l j ≤ 1000000000000)
 | 0 => by simp [allW]
 | k + 1 => by
  simp only [allW, Bool.and_eq_true, allW_iff l k, inB, decide_eq_true_eq]
  constructor
  ·rintro ⟨h1, h2⟩ j hj
   rcases Nat.lt_or_ge j k with h | h
   ·exact h1 j h
   ·obtain rfl : j = k := by omega
    exact h2
  ·intro h; exact ⟨fun j hj => h j (by omega), h k (by omega)⟩
theorem allW_false (l : List Int) (k : Nat) (hv : inB (iAt l k) 0 1000000000000 = false) (n : Nat) (h : k < n) : allW l n = false := by
 cases hh : allW l n with
 | false => rfl
 | true =>
  have := (allW_iff l n).1 hh k h
  simp only [inB, decide_eq_false_iff_not] at hv
  exact absurd this hv
theorem spOk_iff (l : List Int) (f lost : Int) : spOk l f lost = true ↔ ((1 ≤ l.length ∧ l.length ≤ 16) ∧ (∀ j, j < l.length → 0 ≤ iAt l j ∧ iAt l j ≤ 1000000000000)) ∧ (0 ≤ f ∧ f ≤ 16) ∧ (0 ≤ lost ∧ lost ≤ 16) ∧ 2 * f < l.length - lost := by
 simp only [spOk, spA, Bool.and_eq_true, allW_iff, inB, decide_eq_true_eq]
 constructor
 ·rintro ⟨⟨⟨⟨h1, h2⟩, h3⟩, h4⟩, h5⟩; exact ⟨⟨by omega, h2⟩, h3, h4, h5⟩
 ·rintro ⟨⟨h1, h2⟩, h3, h4, h5⟩; exact ⟨⟨⟨⟨by omega, h2⟩, h3⟩, h4⟩, h5⟩
theorem spEr_ok {l : List Int} {f lost : Int} (h : spOk l f lost = true) : spEr l f lost = 0 := by
 simp only [spOk, Bool.and_eq_true, decide_eq_true_eq] at h
 unfold spEr; rw [if_pos h.1, if_pos h.2]
def insW (l : List Int) (x : Nat) : List Nat → List Nat
 | [] => [x]
 | y :: r => if iAt l y < iAt l x then x :: y :: r else y :: insW l x r
def ordTo (l : List Int) : Nat → List Nat
 | 0 => []
 | k + 1 => insW l k (ordTo l k)
def ordL (l : List Int) : List Nat := ordTo l l.length
def toI (o : List Nat) : List Int := o.map fun n : Nat => (n : Int)
def nAt (o : List Nat) (i : Nat) : Nat := o.getD i 0
theorem nAt_lt (o : List Nat) (i : Nat) (h : i < o.length) : nAt o i = o[i] := by simp [nAt, List.getD_eq_getElem?_getD, List.getElem?_eq_getElem h]
theorem nAt_mem {o : List Nat} {i : Nat} (h : i < o.length) : nAt o i ∈ o := by rw [nAt_lt o i h]; exact List.getElem_mem h
theorem toI_length (o : List Nat) : (toI o).length = o.length := by simp [toI]
theorem toI_at (o : List Nat) (i : Nat) (h : i < o.length) : iAt (toI o) i = (nAt o i : Int) := by
 rw [iAt_lt _ _ (by rw [toI_length]; exact h), nAt_lt o i h]; simp [toI]
theorem insW_perm (l : List Int) (x : Nat) : ∀ o, (insW l x o).Perm (x :: o)
 | [] => List.Perm.refl _
 | y :: r => by
  unfold insW
  split
  ·exact List.Perm.refl _
  ·exact ((insW_perm l x r).cons y).trans (List.Perm.swap x y r)
theorem insW_split (l : List Int) (x : Nat) : ∀ (A B : List Nat), (∀ a, a ∈ A → ¬ iAt l a < iAt l x) → (∀ b, b ∈ B → iAt l b < iAt l x) → insW l x (A ++ B) = A ++ x :: B
 | [], [], _, _ => rfl
 | [], b :: B, _, h => by
  show insW l x (b :: B) = x :: b :: B
  unfold insW; rw [if_pos (h b List.mem_cons_self)]
 | a :: A, B, h, h2 => by
  show insW l x (a :: (A ++ B)) = a :: (A ++ x :: B)
  unfold insW; rw [if_neg (h a List.mem_cons_self), insW_split l x A B (fun c hc => h c (List.mem_cons_of_mem _ hc)) h2]
def Fall (l : List Int) (o : List Nat) : Prop := o.Pairwise fun a b => iAt l b ≤ iAt l a
theorem insW_fall (l : List Int) (x : Nat) : ∀ o, Fall l o → Fall l (insW l x o)
 | [], _ => List.pairwise_singleton _ _
 | y :: r, h => by
  have h' := List.pairwise_cons.1 h
  unfold insW
  split
  ·rename_i hlt
   refine List.pairwise_cons.2 ⟨fun z hz => ?_, h⟩
   rcases List.mem_cons.1 hz with rfl | hz
   ·omega
   ·have := h'.1 z hz; omega
  ·rename_i hlt
   refine List.pairwise_cons.2 ⟨fun z hz => ?_, insW_fall l x r h'.2⟩
   rcases List.mem_cons.1 ((insW_perm l x r).mem_iff.1 hz) with rfl | hz
   ·omega
   ·exact h'.1 z hz
theorem ordTo_perm (l : List Int) : ∀ k, (ordTo l k).Perm (List.range k)
 | 0 => List.Perm.refl _
 | k + 1 => by
  rw [List.range_succ]
  exact (insW_perm l k _).trans (((ordTo_perm l k).cons k).trans (List.perm_append_comm (l₁ := [k])))
theorem ordTo_length (l : List Int) (k : Nat) : (ordTo l k).length = k := by rw [(ordTo_perm l k).length_eq, List.length_range]
theorem ordTo_fall (l : List Int) : ∀ k, Fall l (ordTo l k)
 | 0 => List.Pairwise.nil
 | k + 1 => insW_fall l k _ (ordTo_fall l k)
theorem ordTo_lt {l : List Int} {k x : Nat} (h : x ∈ ordTo l k) : x < k := List.mem_range.1 ((ordTo_perm l k).mem_iff.1 h)
def srt (l : List Int) : List Int := (ordL l).map fun i => iAt l i
theorem ordL_length (l : List Int) : (ordL l).length = l.length := ordTo_length l _
theorem srt_length (l : List Int) : (srt l).length = l.length := by simp [srt, ordL_length]
theorem srt_at (l : List Int) (i : Nat) (h : i < l.length) : iAt (srt l) i = iAt l (nAt (ordL l) i) := by
 have h1 : i < (ordL l).length := by rw [ordL_length]; exact h
 rw [iAt_lt _ _ (by rw [srt_length]; exact h), nAt_lt _ _ h1]; simp [srt]
theorem ordL_bd (l : List Int) (i : Nat) (h : i < l.length) : nAt (ordL l) i < l.length := ordTo_lt (nAt_mem (show i < (ordL l).length by rw [ordL_length]; exact h))
theorem srt_fall (l : List Int) {i j : Nat} (hij : i ≤ j) (hj : j < l.length) : iAt (srt l) j ≤ iAt (srt l) i := by
 rcases Nat.lt_or_ge i j with h | h
 ·rw [srt_at l i (by omega), srt_at l j hj, nAt_lt (ordL l) i (by rw [ordL_length]; omega), nAt_lt (ordL l) j (by rw [ordL_length]; omega)]
  exact List.pairwise_iff_getElem.1 (ordTo_fall l l.length) i j (by rw [ordTo_length]; omega) (by rw [ordTo_length]; omega) h
 ·obtain rfl : i = j := by omega
  exact Int.le_refl _
theorem map_range_self (l : List Int) : (List.range l.length).map (fun i => iAt l i) = l := by
 apply List.ext_getElem (by simp)
 intro i h1 h2
 simp only [List.getElem_map, List.getElem_range]
 exact iAt_lt l i h2
theorem srt_perm (l : List Int) : (srt l).Perm l := by
 have h := (ordTo_perm l l.length).map (fun i => iAt l i)
 rwa [map_range_self] at h
theorem srt_bd (l : List Int) (h : ∀ j, j < l.length → 0 ≤ iAt l j ∧ iAt l j ≤ 1000000000000) (i : Nat) : 0 ≤ iAt (srt l) i ∧ iAt (srt l) i ≤ 1000000000000 := by
 rcases Nat.lt_or_ge i l.length with hi | hi
 ·rw [srt_at l i hi]; exact h _ (ordL_bd l i hi)
 ·have : iAt (srt l) i = 0 := by simp [iAt, List.getD_eq_getElem?_getD, List.getElem?_eq_none (show (srt l).length ≤ i by rw [srt_length]; exact hi)]
  omega

def vJ (D : List Int) (k j : Nat) : Int := if 0 < j then mn (iAt D (k - 1) + iAt D (2 * k - j - 1)) (iAt D (j - 1)) else iAt D (k - 1) + iAt D (2 * k - j - 1)
def bst (D : List Int) (k j0 : Nat) : Nat → Int × Int
 | 0 => (-1, -1)
 | t + 1 => if vJ D k (j0 + t) > (bst D k j0 t).2 then (((j0 + t : Nat) : Int), vJ D k (j0 + t)) else bst D k j0 t
def jLo (m k : Nat) : Nat := 2 * k - m
def bestP (D : List Int) (m k : Nat) : Int × Int := bst D k (jLo m k) (k - jLo m k + 1)
theorem bst_max (D : List Int) (k j0 : Nat) : ∀ t, (∀ s, s < t → vJ D k (j0 + s) ≤ (bst D k j0 t).2) ∧ (0 < t → (∀ s, s < t → 0 ≤ vJ D k (j0 + s)) → ∃ s, s < t ∧ bst D k j0 t = (((j0 + s : Nat) : Int), vJ D k (j0 + s)) ∧ ∀ r, r < s → vJ D k (j0 + r) < vJ D k (j0 + s))
 | 0 => ⟨fun s h => by omega, fun h => by omega⟩
 | t + 1 => by
  obtain ⟨h1, h2⟩ := bst_max D k j0 t
  have e : bst D k j0 (t + 1) = if vJ D k (j0 + t) > (bst D k j0 t).2 then (((j0 + t : Nat) : Int), vJ D k (j0 + t)) else bst D k j0 t := rfl
  rw [e]
  by_cases h : vJ D k (j0 + t) > (bst D k j0 t).2
  ·rw [if_pos h]
   refine ⟨fun s hs => ?_, fun _ _ => ⟨t, by omega, rfl, fun r hr => by have := h1 r hr; omega⟩⟩
   rcases Nat.lt_or_ge s t with h3 | h3
   ·have := h1 s h3; show _ ≤ vJ D k (j0 + t); omega
   ·obtain rfl : s = t := by omega
    exact Int.le_refl _
  ·rw [if_neg h]
   refine ⟨fun s hs => ?_, fun _ hp => ?_⟩
   ·rcases Nat.lt_or_ge s t with h3 | h3
    ·exact h1 s h3
    ·obtain rfl : s = t := by omega
     omega
   ·rcases Nat.eq_zero_or_pos t with h0 | h0
    ·subst h0
     have := hp 0 (by omega)
     simp only [bst] at h
     omega
    ·obtain ⟨s, h3, h4, h5⟩ := h2 h0 (fun s hs => hp s (by omega))
     exact ⟨s, by omega, h4, h5⟩
def spM (l : List Int) (f lost : Int) : Nat := (l.length - lost - f).toNat
def spK (l : List Int) (f lost : Int) : Nat := (l.length - lost - 2 * f).toNat
theorem sp_mk {l : List Int} {f lost : Int} (h : spOk l f lost = true) : (spM l f lost : Int) = l.length - lost - f ∧ (spK l f lost : Int) = l.length - lost - 2 * f ∧ 1 ≤ spK l f lost ∧ spK l f lost ≤ spM l f lost ∧ spM l f lost ≤ l.length ∧ l.length ≤ 16 := by
 rw [spOk_iff] at h
 unfold spM spK
 omega
def worst (l : List Int) (f lost : Int) : Int := if spOk l f lost = true then (bestP (srt l) (spM l f lost) (spK l f lost)).2 else 0
end Go.Proofs.Ytlmcoollkmhanaa
/- Package spread: the checks of widths, and the stable sort of their indexes. -/
namespace Go.Proofs.Ytlmcoollkmhanaa
open Go.RowKit

set_option maxRecDepth 100000 in
set_option maxHeartbeats 400000 in
theorem within_any (n lo hi : Int) (w : World) : Calls Try.prog 53 #[.int .i64 n, .int .i64 lo, .int .i64 hi] w fun e w' => e = .returned (.bool (inB n lo hi)) ∧ w = w' := by
 go_enter Try.func53, Try.ntmps53
 go_wp2
 all_goals go_ret
 all_goals exact ⟨ret_bool (by unfold inB; rw [Bool.eq_iff_iff]; simp only [decide_eq_true_eq, Bool.false_eq_true, false_iff]; omega), rfl⟩
set_option maxRecDepth 100000 in
set_option maxHeartbeats 400000 in
theorem wrong_any (x : Int) (w : World) : Calls Try.prog 52 #[.int .i64 x] w fun e w' => e = .returned (.bool (!inB x 0 1000000000000)) ∧ w = w' := by
 go_enter Try.func52, Try.ntmps52
 go_wp2_with (go_at_call 53; refine (within_any _ _ _ _).mono ?_; rintro e w' ⟨rfl, rfl⟩)
 go_ret
 exact ⟨rfl, rfl⟩
set_option maxRecDepth 100000 in
set_option maxHeartbeats 400000 in
theorem IndexI_any (v : Value) (l : List Int) (w : World) (hv : IsRow w v l) :
  Calls Try.prog 50 #[v, .func (.func 52) #[] #[]] w fun e w' => (∃ r : Int, e = .returned (.int .i64 r) ∧ (r < 0 ∧ allW l l.length = true ∨ 0 ≤ r ∧ allW l l.length = false)) ∧ Below w.heap.size w w' := by
 obtain ⟨a, cap, rfl, h1, h2, h3⟩ := hv
 go_enter Try.func50, Try.ntmps50
 go_wp2
 go_loopw [8] (fun i wr => ∃ k : Nat, k ≤ l.length ∧ i = .int .i64 k ∧ allW l k = true ∧ Below w.heap.size w wr) (fun i _ => l.length - (intOf i).toNat)
 case atStart => exact ⟨0, Nat.zero_le _, rfl, rfl, Below.refl _ _⟩
 case round =>
  obtain ⟨k, hk, rfl, hall, hB⟩ := hrel
  have Hall := hide hall; clear hall
  by_cases hlt : k < l.length
  ·obtain ⟨b, off, rfl, h4, h5⟩ := h3 k hlt
   have h5' := (hB.cell (p := ⟨b, off + k, none⟩) h4).trans h5
   clear h5 h3
   have hz := hB.size
   by_cases hval : inB (iAt l k) 0 1000000000000 = true
   ·go_wp2_with (go_at_call 52; refine (wrong_any _ _).mono ?_; rintro e w' ⟨rfl, rfl⟩)
    go_roundw
    case rel => exact ⟨k + 1, by omega, by go_num, by simp [allW, Hall.out, hval], hB⟩
    case measure => simp [intOf]; omega
   ·have hval' : inB (iAt l k) 0 1000000000000 = false := by simpa using hval
    clear hval
    go_wp2_with (go_at_call 52; refine (wrong_any _ _).mono ?_; rintro e w' ⟨rfl, rfl⟩)
    go_ret
    exact ⟨⟨_, rfl, .inr ⟨by omega, allW_false l k hval' _ hlt⟩⟩, hB⟩
  ·go_wp2
   go_ret
   exact ⟨⟨_, rfl, .inl ⟨by omega, by rw [← Hall.out, show k = l.length by omega]⟩⟩, hB⟩
set_option maxRecDepth 100000 in
set_option maxHeartbeats 400000 in
theorem ContainsI_any (v : Value) (l : List Int) (w : World) (hv : IsRow w v l) :
  Calls Try.prog 34 #[v, .func (.func 52) #[] #[]] w fun e w' => e = .returned (.bool (!allW l l.length)) ∧ Below w.heap.size w w' := by
 go_enter Try.func34, Try.ntmps34
 go_wp2_with (go_at_call 50; refine (IndexI_any _ l _ hv).mono ?_; rintro e w' ⟨⟨r, rfl, hr⟩, hb⟩)
 go_ret
 refine ⟨ret_bool ?_, hb⟩
 rcases hr with ⟨h1, h2⟩ | ⟨h1, h2⟩ <;> simp [h2] <;> omega

set_option maxRecDepth 100000 in
set_option maxHeartbeats 400000 in
theorem isNaN_any (x : Int) (w : World) : Calls Try.prog 70 #[.int .i64 x] w fun e w' => e = .returned (.bool false) ∧ w' = w := by
 go_enter Try.func70, Try.ntmps70
 go_wp2
 all_goals go_ret
 all_goals exact ⟨ret_bool (by simp), rfl⟩
set_option maxRecDepth 100000 in
set_option maxHeartbeats 400000 in
theorem Compare_any (x y : Int) (w : World) : Calls Try.prog 56 #[.int .i64 x, .int .i64 y] w fun e w' => e = .returned (.int .i64 (Lib.compareInt x y)) ∧ w' = w := by
 go_enter Try.func56, Try.ntmps56
 go_wp2_with (go_at_call 70; refine (isNaN_any _ _).mono ?_; rintro e w' ⟨rfl, rfl⟩)
 all_goals go_ret
 all_goals exact ⟨ret_int (by unfold Lib.compareInt; split <;> first | rfl | omega | (split <;> first | rfl | omega)), rfl⟩
set_option maxRecDepth 100000 in
set_option maxHeartbeats 400000 in
theorem cmpW_any (i k : Nat) (xb : Nat) (v : Value) (l : List Int) (w : World) (hx : w.cell? ⟨xb, 0, none⟩ = some v) (hv : IsRow w v l) (hi : i < l.length) (hk : k < l.length) :
  Calls Try.prog 55 #[.int .i64 i, .int .i64 k, .pointer (some ⟨xb, 0, none⟩)] w fun e w' => e = .returned (.int .i64 (Lib.compareInt (iAt l k) (iAt l i))) ∧ ∃ n, w' = w.drewN n := by
 obtain ⟨a, cap, rfl, h1, h2, h3⟩ := hv
 obtain ⟨b, off, rfl, h4, h5⟩ := h3 i hi
 obtain ⟨b', off', hb, h4', h5'⟩ := h3 k hk
 cases hb
 clear h3
 go_enter Try.func55, Try.ntmps55
 go_wp2
 go_quiet ((go_at_call 56; exact Calls.quiet_of_same ((Compare_any _ _ _).mono (by rintro e w' ⟨rfl, rfl⟩; exact ⟨rfl, rfl⟩))))
 go_wp2
 go_ret
 exact ⟨rfl, _, rfl⟩
theorem compare_neg (x y : Int) : decide (Lib.compareInt x y < 0) = decide (x < y) := by
 unfold Lib.compareInt
 by_cases h1 : x < y
 ·simp [h1]
 ·by_cases h2 : y < x <;> simp [h1, h2]

def Hold (W : World) (b off : Nat) (o : List Nat) : Prop := (∀ i, i < o.length → W.cell? ⟨b, off + i, none⟩ = some (.int .i64 (nAt o i))) ∧ (∀ i, W.frozen? ⟨b, i, none⟩ = false)
theorem nAt_left (A B : List Nat) (i : Nat) (h : i < A.length) : nAt (A ++ B) i = nAt A i := by simp [nAt, List.getD_eq_getElem?_getD, List.getElem?_append_left h]
theorem nAt_mid (A B : List Nat) (x : Nat) : nAt (A ++ x :: B) A.length = x := by simp [nAt, List.getD_eq_getElem?_getD]
theorem nAt_right (A B : List Nat) (i : Nat) (h : A.length ≤ i) : nAt (A ++ B) i = nAt B (i - A.length) := by simp [nAt, List.getD_eq_getElem?_getD, List.getElem?_append_right h]
theorem Hold.swap {W : World} {b off : Nat} {A B : List Nat} {x y : Nat} (h : Hold W b off (A ++ y :: x :: B)) :
  Hold ((W.setCell ⟨b, off + (A.length + 1), none⟩ (.int .i64 y)).setCell ⟨b, off + A.length, none⟩ (.int .i64 x)) b off (A ++ x :: y :: B) := by
 have hl : (A ++ y :: x :: B).length = (A ++ x :: y :: B).length := by simp
 have l0 : A.length < (A ++ y :: x :: B).length := by simp
 have l1 : A.length + 1 < (A ++ y :: x :: B).length := by simp
 have c0 := h.1 A.length l0
 have c1 := h.1 (A.length + 1) l1
 refine ⟨fun i hi => ?_, fun i => by rw [World.frozen?_setCell, World.frozen?_setCell]; exact h.2 i⟩
 by_cases e0 : i = A.length
 ·subst e0
  rw [nAt_mid]
  exact World.cell?_setCell_same' _ _ _ (by simp [World.cell?_setCell_other, c0])
 ·rw [World.cell?_setCell_other _ _ _ _ (fun e => by (simp at e) <;> omega)]
  by_cases e1 : i = A.length + 1
  ·subst e1
   rw [World.cell?_setCell_same' _ _ _ (by simp [c1]), show A ++ x :: y :: B = (A ++ [x]) ++ y :: B by simp]
   have := nAt_mid (A ++ [x]) B y
   rw [List.length_append] at this
   rw [show A.length + 1 = A.length + [x].length from rfl, this]
  ·rw [World.cell?_setCell_other _ _ _ _ (fun e => by (simp at e) <;> omega), h.1 i (by omega)]
   congr 3
   rcases Nat.lt_or_ge i A.length with h3 | h3
   ·rw [nAt_left _ _ _ h3, nAt_left _ _ _ h3]
   ·rw [nAt_right _ _ _ h3, nAt_right _ _ _ h3]
    obtain ⟨d, hd⟩ : ∃ d, i - A.length = d + 2 := ⟨i - A.length - 2, by omega⟩
    rw [hd]
    simp [nAt]

def Srt (w : World) (b off : Nat) (o : List Nat) (W : World) : Prop := Hold W b off o ∧ w.grownBy W (some b)
theorem Hold.below {W : World} {b off : Nat} {o : List Nat} (h : Hold W b off o) (n : Nat) : Hold (W.drewN n) b off o := h
theorem grown_cell {w W : World} {b : Nat} (hg : w.grownBy W (some b)) {q : Nat} (hq : q < w.heap.size) (hne : q ≠ b) (o : Nat) : W.cell? ⟨q, o, none⟩ = w.cell? ⟨q, o, none⟩ :=
 World.cell?_of_block (a := ⟨q, o, none⟩) (hg.block q hq (by simpa using hne))
theorem grown_drewN {a w : World} {row : Option Nat} (h : a.grownBy w row) (n : Nat) : a.grownBy (w.drewN n) row := ⟨h.os, h.tape, h.output, h.size, h.block⟩
theorem grown_setRow {a w : World} {b : Nat} (h : a.grownBy w (some b)) (o : Nat) (u : Value) : a.grownBy (w.setCell ⟨b, o, none⟩ u) (some b) :=
 ⟨h.os, h.tape, h.output, by simpa [World.setCell] using h.size, fun i hi hne => (Below.heap_setCell w ⟨b, o, none⟩ u i (by simpa using hne)).trans (h.block i hi hne)⟩
theorem isrow_grown {w W : World} {b : Nat} {v : Value} {l : List Int} (h : IsRow w v l) (hg : w.grownBy W (some b)) (hne : ∀ q, v.ownBlock = some q → q ≠ b) : IsRow W v l := by
 obtain ⟨a, cap, rfl, h1, h2, h3⟩ := h
 refine ⟨a, cap, rfl, h1, h2, fun i hi => ?_⟩
 obtain ⟨q, off, rfl, h4, h5⟩ := h3 i hi
 exact ⟨q, off, rfl, Nat.lt_of_lt_of_le h4 hg.size, (grown_cell hg h4 (hne q rfl) _).trans h5⟩

theorem range_drop (n k : Nat) (h : k < n) : (List.range n).drop k = k :: (List.range n).drop (k + 1) := by
 rw [List.drop_eq_getElem_cons (by simpa using h)]; simp
theorem Hold.cong {W : World} {b off : Nat} {o p : List Nat} (h : Hold W b off o) (e : o = p) : Hold W b off p := e ▸ h
theorem ins_done {l : List Int} {k : Nat} {A B : List Nat} (e : A ++ B = ordTo l k) (hB : ∀ b, b ∈ B → iAt l b < iAt l k) (hA : A = [] ∨ ∃ A' y, A = A' ++ [y] ∧ ¬ iAt l y < iAt l k) : A ++ k :: B = ordTo l (k + 1) := by
 show _ = insW l k (ordTo l k)
 rw [← e, insW_split l k A B ?_ hB]
 intro a ha
 rcases hA with rfl | ⟨A', y, rfl, hy⟩
 ·cases ha
 ·rcases List.mem_append.1 ha with h | h
  ·have hf := ordTo_fall l k
   rw [← e] at hf
   have h1 := (List.pairwise_append.1 (List.pairwise_append.1 hf).1).2.2 a h y (by simp)
   omega
  ·rw [List.mem_singleton] at h; subst h; exact hy
set_option maxRecDepth 100000 in
set_option maxHeartbeats 2000000 in
theorem insert_any (l : List Int) (xb b off cap : Nat) (v : Value) (w : World) (hx : w.cell? ⟨xb, 0, none⟩ = some v) (hv : IsRow w v l) (hxb : xb ≠ b) (hvb : ∀ q, v.ownBlock = some q → q ≠ b) (_hb : b < w.heap.size) (hn1 : 1 ≤ l.length) (hnl : l.length ≤ 1000) (_hcap : l.length ≤ cap)
  (hh : Hold w b off (List.range l.length)) :
  Calls Try.prog 84 #[.slice (some ⟨b, off, none⟩) l.length cap, .int .i64 0, .int .i64 l.length, .func (.func 55) #[] #[.pointer (some ⟨xb, 0, none⟩)]] w fun e w' =>
   e = .returned (.tuple #[]) ∧ Srt w b off (ordL l) w' := by
 have hxl := World.block_lt_of_cell? _ _ hx
 have Hvb := hide hvb
 clear hvb
 go_enter Try.func84, Try.ntmps84
 go_wp2
 go_loopw [8] (fun i wr => ∃ k : Nat, 1 ≤ k ∧ k ≤ l.length ∧ i = .int .i64 k ∧ Hid (Hold wr b off (ordTo l k ++ (List.range l.length).drop k)) ∧ w.grownBy wr (some b)) (fun i _ => l.length + 1 - (intOf i).toNat)
 case atStart =>
  refine ⟨1, Nat.le_refl _, hn1, rfl, hide (hh.cong ?_), World.grownBy.refl _ _⟩
  have := range_drop l.length 0 (by omega)
  rw [List.drop_zero] at this
  rw [this]; rfl
 case round =>
  obtain ⟨k, hk1, hk2, rfl, Hh, hg⟩ := hrel
  by_cases hlt : k < l.length
  ·have hol := ordTo_length l k
   have Hr := hide (range_drop l.length k hlt)
   go_wp2
   obtain ⟨wo, hwo⟩ : ∃ wo : World, wo = wr := ⟨_, rfl⟩
   subst hwo
   go_loopw [9] (fun j wi => ∃ (A B : List Nat), A.length ≤ k ∧ j = .int .i64 A.length ∧ Hid (A ++ B = ordTo l k) ∧ Hid (∀ b, b ∈ B → iAt l b < iAt l k) ∧ Hid (Hold wi b off (A ++ k :: (B ++ (List.range l.length).drop (k + 1)))) ∧ w.grownBy wi (some b)) (fun j _ => (intOf j).toNat)
   case atStart =>
    refine ⟨ordTo l k, [], by omega, by rw [hol], hide (by simp), hide (fun b hb => by cases hb), hide (Hh.out.cong ?_), hg⟩
    rw [Hr.out]; simp
   case round =>
    obtain ⟨A, B, hAk, rfl, HA, HB, HH, hgi⟩ := hrel
    have hxi := (grown_cell hgi hxl hxb 0).trans hx
    have hvi := isrow_grown hv hgi Hvb.out
    rcases List.eq_nil_or_concat A with hA | ⟨A', y, hA⟩
    ·subst hA
     go_wp2
     go_quiet (fail)
     go_wp2
     go_roundw
     case rel =>
      have hd := ins_done (l := l) (k := k) (A := []) HA.out HB.out (.inl rfl)
      refine ⟨k + 1, by omega, by omega, by go_num, hide ((HH.out.below _).cong ?_), grown_drewN hgi _⟩
      rw [← hd]; simp
     case measure => simp [intOf]; omega
    ·have hA2 : A = A' ++ [y] := by rw [hA]; simp
     clear hA
     subst hA2
     have hAl : (A' ++ [y]).length = A'.length + 1 := by simp
     have hyk : y < k := ordTo_lt (l := l) (by rw [← HA.out]; simp)
     have hsh : (A' ++ [y]) ++ k :: (B ++ (List.range l.length).drop (k + 1)) = A' ++ y :: k :: (B ++ (List.range l.length).drop (k + 1)) := by simp
     have HH2 := hide (HH.out.cong hsh)
     have c0 : wr.cell? ⟨b, off + A'.length, none⟩ = some (.int .i64 y) := by
      rw [HH2.out.1 A'.length (by simp), nAt_mid]
     have c1 : wr.cell? ⟨b, off + (A'.length + 1), none⟩ = some (.int .i64 k) := by
      have := HH.out.1 (A'.length + 1) (by simp)
      rw [this]
      have e := nAt_mid (A' ++ [y]) (B ++ (List.range l.length).drop (k + 1)) k
      rw [hAl] at e
      rw [e]
     have fz := HH.out.2
     have ww1 : IntKind.i64.wrap ((A'.length : Int) + 1 - 1) = A'.length := by rw [IntWalk.i64_in _ (by omega)]; omega
     have ww2 : ((A'.length : Int) + 1).toNat = A'.length + 1 := by omega
     have hlen1 : A'.length + 1 < l.length := by omega
     have hlen2 : A'.length < l.length := by omega
     have Hsh := hide hsh
     clear hsh HH
     have HAl := hide hAl
     rw [hAl]
     clear hAl
     by_cases hlt2 : iAt l y < iAt l k
     ·have hcmp : decide (Lib.compareInt (iAt l y) (iAt l k) < 0) = true := by rw [compare_neg]; exact decide_eq_true hlt2
      go_wp2
      go_quiet ((go_at_call 55; exact Calls.quiet_of (cmpW_any k y xb v l _ hxi hvi (by omega) (by omega))))
      rename_i nq
      go_wp2
      have HV := hide (HH2.out.below nq)
      have gV := grown_drewN hgi nq
      have d0 : (wr.drewN nq).cell? ⟨b, off + A'.length, none⟩ = some (.int .i64 y) := c0
      have d1 : (wr.drewN nq).cell? ⟨b, off + (A'.length + 1), none⟩ = some (.int .i64 k) := c1
      have dz : ∀ i, (wr.drewN nq).frozen? ⟨b, i, none⟩ = false := fz
      clear c0 c1 fz HH2 hgi hxi hvi
      generalize wr.drewN nq = V at *
      go_region
      go_wp2
      go_roundw
      case rel =>
       refine ⟨A', y :: B, by have := HAl.out; omega, by go_num, hide (by rw [← HA.out]; simp), hide (fun c hc => ?_), hide (HV.out.swap), ?_⟩
       ·rcases List.mem_cons.1 hc with rfl | hc
        ·exact hlt2
        ·exact HB.out c hc
       ·exact grown_setRow (grown_setRow (grown_drewN gV 1) _ _) _ _
      case measure => simp [intOf]
     ·have hcmp : decide (Lib.compareInt (iAt l y) (iAt l k) < 0) = false := by rw [compare_neg]; exact decide_eq_false hlt2
      go_wp2
      go_quiet ((go_at_call 55; exact Calls.quiet_of (cmpW_any k y xb v l _ hxi hvi (by omega) (by omega))))
      go_wp2
      go_roundw
      case rel =>
       have hd := ins_done (l := l) (k := k) HA.out HB.out (.inr ⟨A', y, rfl, by omega⟩)
       refine ⟨k + 1, by omega, by omega, by go_num, hide ((HH2.out.below _).cong ?_), grown_drewN hgi _⟩
       rw [← hd]; simp
      case measure => simp [intOf]; omega
  ·obtain rfl : k = l.length := by omega
   have hfin := Hh.out
   go_wp2
   go_end0
   refine ⟨rfl, hfin.cong ?_, hg⟩
   rw [List.drop_of_length_le (by simp)]; simp [ordL]

set_option maxRecDepth 100000 in
set_option maxHeartbeats 400000 in
theorem stable_any (l : List Int) (xb b off cap : Nat) (v : Value) (w : World) (hx : w.cell? ⟨xb, 0, none⟩ = some v) (hv : IsRow w v l) (hxb : xb ≠ b) (hvb : ∀ q, v.ownBlock = some q → q ≠ b) (hb : b < w.heap.size) (hn1 : 1 ≤ l.length) (hnl : l.length ≤ 16) (hcap : l.length ≤ cap)
  (hh : Hold w b off (List.range l.length)) :
  Calls Try.prog 69 #[.slice (some ⟨b, off, none⟩) l.length cap, .int .i64 l.length, .func (.func 55) #[] #[.pointer (some ⟨xb, 0, none⟩)]] w fun e w' =>
   e = .returned (.tuple #[]) ∧ Srt w b off (ordL l) w' := by
 have Hvb := hide hvb
 have Hh := hide hh
 clear hvb hh
 go_enter Try.func69, Try.ntmps69
 go_wp2
 refine wp_loop_rounds 1 ?_
 rw [rounds_succ]
 go_wp2_with fail
 refine (insert_any l xb b off cap v _ hx hv hxb Hvb.out hb hn1 (by omega) hcap Hh.out).mono ?_
 rintro e w1 ⟨rfl, hs⟩
 go_wp2_with fail
 refine wp_loop_rounds 1 ?_
 rw [rounds_succ]
 go_wp2_with fail
 go_end0
 exact ⟨rfl, hs⟩
set_option maxRecDepth 100000 in
set_option maxHeartbeats 400000 in
theorem sortS_any (l : List Int) (xb b off cap : Nat) (v : Value) (w : World) (hx : w.cell? ⟨xb, 0, none⟩ = some v) (hv : IsRow w v l) (hxb : xb ≠ b) (hvb : ∀ q, v.ownBlock = some q → q ≠ b) (hb : b < w.heap.size) (hn1 : 1 ≤ l.length) (hnl : l.length ≤ 16) (hcap : l.length ≤ cap)
  (hh : Hold w b off (List.range l.length)) :
  Calls Try.prog 54 #[.slice (some ⟨b, off, none⟩) l.length cap, .func (.func 55) #[] #[.pointer (some ⟨xb, 0, none⟩)]] w fun e w' =>
   e = .returned (.tuple #[]) ∧ Srt w b off (ordL l) w' := by
 have Hvb := hide hvb
 have Hh := hide hh
 clear hvb hh
 go_enter Try.func54, Try.ntmps54
 go_wp2_with fail
 refine (stable_any l xb b off cap v _ hx hv hxb Hvb.out hb hn1 hnl hcap Hh.out).mono ?_
 rintro e w1 ⟨rfl, hs⟩
 go_wp2_with fail
 go_end0
 exact ⟨rfl, hs⟩
end Go.Proofs.Ytlmcoollkmhanaa
/- Package spread: a game, and the i-th width of the right ones. -/
namespace Go.Proofs.Ytlmcoollkmhanaa
open Go.RowKit
attribute [local go_sem ↓] run_max_mx run_min_mn

theorem infoIs : (Try.prog.info? 3).map (fun i => (i.zero, i.size, i.bytes)) = some (some (.int .i64 0), 1, 8) := by kernel_rfl
structure GameAt (W : World) (gb : Nat) (l : List Int) (m k : Nat) (f : Int) : Prop where
 wv : ∃ v, W.cell? ⟨gb, 0, none⟩ = some v ∧ IsRow W v l
 ov : ∃ b off cap, W.cell? ⟨gb, 1, none⟩ = some (.slice (some ⟨b, off, none⟩) l.length cap) ∧ l.length ≤ cap ∧ cap ≤ 9223372036854775807 ∧ b < W.heap.size ∧ ∀ i, i < l.length → W.cell? ⟨b, off + i, none⟩ = some (.int .i64 (nAt (ordL l) i))
 m : W.cell? ⟨gb, 2, none⟩ = some (.int .i64 m)
 k : W.cell? ⟨gb, 3, none⟩ = some (.int .i64 k)
 f : W.cell? ⟨gb, 4, none⟩ = some (.int .i64 f)
 lt : gb < W.heap.size
theorem GameAt.below {W V : World} {gb : Nat} {l : List Int} {m k : Nat} {f : Int} (h : GameAt W gb l m k f) {B : Nat} (hB : W.heap.size ≤ B) (hb : Below B W V) : GameAt V gb l m k f := by
 obtain ⟨⟨v, h1, h2⟩, ⟨b, off, cap, h3, h4, h5, h6, h7⟩, h8, h9, h10, h11⟩ := h
 have hg := fun o => hb.cell (p := ⟨gb, o, none⟩) (Nat.lt_of_lt_of_le h11 hB)
 exact ⟨⟨v, (hg 0).trans h1, h2.below hB hb⟩, ⟨b, off, cap, (hg 1).trans h3, h4, h5, Nat.lt_of_lt_of_le h6 hb.size, fun i hi => (hb.cell (p := ⟨b, off + i, none⟩) (Nat.lt_of_lt_of_le h6 hB)).trans (h7 i hi)⟩,
  (hg 2).trans h8, (hg 3).trans h9, (hg 4).trans h10, Nat.lt_of_lt_of_le h11 hb.size⟩
set_option maxRecDepth 100000 in
set_option maxHeartbeats 400000 in
theorem w_any (gb i : Nat) (l : List Int) (m k : Nat) (f : Int) (w : World) (h : GameAt w gb l m k f) (hi1 : 1 ≤ i) (him : i ≤ m) (hml : m ≤ l.length) (hl : l.length ≤ 1000) :
  Calls Try.prog 72 #[.pointer (some ⟨gb, 0, none⟩), .int .i64 i] w fun e w' => e = .returned (.int .i64 (iAt (srt l) (i - 1))) ∧ ∃ n, w' = w.drewN n := by
 obtain ⟨⟨v, h1, a, cap', rfl, q1, q2, q3⟩, ⟨b, off, cap, h3, h4, h5, h6, h7⟩, h8, h9, h10, h11⟩ := h
 obtain ⟨j, rfl⟩ : ∃ j, i = j + 1 := ⟨i - 1, by omega⟩
 have hc := h7 j (by omega)
 have ho := ordL_bd l j (by omega)
 obtain ⟨b2, off2, rfl, r1, r2⟩ := q3 (nAt (ordL l) j) ho
 have hs := hide (srt_at l j (by omega))
 generalize hx : nAt (ordL l) j = x at *
 clear h7 q3 hx
 have ww : IntKind.i64.wrap ((j : Int) + 1 - 1) = j := by rw [IntWalk.i64_in _ (by omega)]; omega
 have hjm : j < m := by omega
 have hmc : m ≤ cap := by omega
 go_enter Try.func72, Try.ntmps72
 go_wp2
 go_quiet (fail)
 go_wp2
 go_ret
 exact ⟨by rw [show j + 1 - 1 = j by omega, hs.out]; rfl, _, rfl⟩

theorem spA_false {l : List Int} {f lost : Int} (h : spA l f lost = false) : spEr l f lost = 1 := by unfold spEr; rw [if_neg (by simp [h])]
set_option maxRecDepth 100000 in
set_option maxHeartbeats 400000 in
theorem newGame_bad (v : Value) (l : List Int) (f lost : Int) (w : World) (hv : IsRow w v l) (hA : spA l f lost = false) :
  Calls Try.prog 36 #[v, .int .i64 f, .int .i64 lost] w fun e w' => e = .returned (.tuple #[.pointer none, .int .i64 1]) ∧ Below w.heap.size w w' := by
 have hv2 : ∀ o, IsRow (w.alloc o) v l := fun o => hv.below (Nat.le_refl _) ((Below.refl _ _).alloc (Nat.le_refl _) o)
 obtain ⟨a, cap, rfl, h1, h2, h3⟩ := hv
 clear h3
 by_cases p1 : inB l.length 1 16 = true
 case neg =>
  have p1' : inB l.length 1 16 = false := by simpa using p1
  clear p1 hA
  go_enter Try.func36, Try.ntmps36
  go_wp2_with (go_at_call 53; refine (within_any _ _ _ _).mono ?_; rintro e w' ⟨rfl, rfl⟩)
  go_ret2
  exact ⟨rfl, (by ((repeat' (first | exact Below.refl _ _ | refine Below.alloc ?_ ?_ _ | refine Below.setCell ?_ ?_ _ | refine Below.drew ?_ | refine below_drewN ?_ _)) <;> (first | omega | (simp; done) | (simp; omega))))⟩
 by_cases p2 : allW l l.length = true
 case neg =>
  have p2' : allW l l.length = false := by simpa using p2
  clear p2 hA
  go_enter Try.func36, Try.ntmps36
  go_wp2_with (first | (go_at_call 53; refine (within_any _ _ _ _).mono ?_; rintro e w' ⟨rfl, rfl⟩) | (go_at_call 34; refine (ContainsI_any _ l _ (hv2 _)).mono ?_; rintro e w1 ⟨rfl, b1⟩))
  go_ret2
  exact ⟨rfl, (by ((repeat' (first | exact Below.refl _ _ | exact b1 | refine Below.alloc ?_ ?_ _ | refine Below.setCell ?_ ?_ _ | refine Below.drew ?_ | refine below_drewN ?_ _ | refine Below.trans ?_ (b1.mono ?_))) <;> (first | omega | (simp; done) | (simp; omega))))⟩
 by_cases p3 : inB f 0 16 = true
 case neg =>
  have p3' : inB f 0 16 = false := by simpa using p3
  clear p3 hA
  go_enter Try.func36, Try.ntmps36
  go_wp2_with (first | (go_at_call 53; refine (within_any _ _ _ _).mono ?_; rintro e w' ⟨rfl, rfl⟩) | (go_at_call 34; refine (ContainsI_any _ l _ (hv2 _)).mono ?_; rintro e w1 ⟨rfl, b1⟩))
  go_ret2
  exact ⟨rfl, (by ((repeat' (first | exact Below.refl _ _ | exact b1 | refine Below.alloc ?_ ?_ _ | refine Below.setCell ?_ ?_ _ | refine Below.drew ?_ | refine below_drewN ?_ _ | refine Below.trans ?_ (b1.mono ?_))) <;> (first | omega | (simp; done) | (simp; omega))))⟩
 have p4' : inB lost 0 16 = false := by simpa [spA, p1, p2, p3] using hA
 clear hA
 go_enter Try.func36, Try.ntmps36
 go_wp2_with (first | (go_at_call 53; refine (within_any _ _ _ _).mono ?_; rintro e w' ⟨rfl, rfl⟩) | (go_at_call 34; refine (ContainsI_any _ l _ (hv2 _)).mono ?_; rintro e w1 ⟨rfl, b1⟩))
 go_ret2
 exact ⟨rfl, (by ((repeat' (first | exact Below.refl _ _ | exact b1 | refine Below.alloc ?_ ?_ _ | refine Below.setCell ?_ ?_ _ | refine Below.drew ?_ | refine below_drewN ?_ _ | refine Below.trans ?_ (b1.mono ?_))) <;> (first | omega | (simp; done) | (simp; omega))))⟩
set_option maxRecDepth 100000 in
set_option maxHeartbeats 400000 in
theorem newGame_few (v : Value) (l : List Int) (f lost : Int) (w : World) (hv : IsRow w v l) (hA : spA l f lost = true) (hf : ¬ 2 * f < l.length - lost) :
  Calls Try.prog 36 #[v, .int .i64 f, .int .i64 lost] w fun e w' => e = .returned (.tuple #[.pointer none, .int .i64 20]) ∧ Below w.heap.size w w' := by
 have hv2 : ∀ o, IsRow (w.alloc o) v l := fun o => hv.below (Nat.le_refl _) ((Below.refl _ _).alloc (Nat.le_refl _) o)
 obtain ⟨a, cap, rfl, h1, h2, h3⟩ := hv
 simp only [spA, Bool.and_eq_true] at hA
 obtain ⟨⟨⟨p1, p2⟩, p3⟩, p4⟩ := hA
 have b1 := p1
 have b2 := p3
 have b3 := p4
 simp only [inB, decide_eq_true_eq] at b1 b2 b3
 have hle : (l.length : Int) - lost ≤ 2 * f := by omega
 clear h3 hf
 go_enter Try.func36, Try.ntmps36
 go_wp2_with (first | (go_at_call 53; refine (within_any _ _ _ _).mono ?_; rintro e w' ⟨rfl, rfl⟩) | (go_at_call 34; refine (ContainsI_any _ l _ (hv2 _)).mono ?_; rintro e w1 ⟨rfl, hb1⟩; obtain ⟨c1, f1⟩ := bk hb1 w.heap.size (by simp); have hz1 := hb1.size; simp only [World.size_alloc] at hz1))
 go_ret2
 exact ⟨rfl, (by ((repeat' (first | exact Below.refl _ _ | exact hb1 | refine Below.alloc ?_ ?_ _ | refine Below.setCell ?_ ?_ _ | refine Below.drew ?_ | refine below_drewN ?_ _ | refine Below.trans ?_ (hb1.mono ?_))) <;> (first | omega | (simp; done) | (simp; omega))))⟩

theorem toI_range (k : Nat) : toI (List.range (k + 1)) = toI (List.range k) ++ [(k : Int)] := by unfold toI; rw [List.range_succ]; simp
theorem own_hold {W : World} {base : Nat} {o : List Nat} {v : Value} (h : OwnIs W base v (toI o)) (h0 : 0 < o.length) : ∃ b cap, v = .slice (some ⟨b, 0, none⟩) o.length cap ∧ base ≤ b ∧ b < W.heap.size ∧ o.length ≤ cap ∧ cap ≤ 9223372036854775807 ∧ Hold W b 0 o := by
 have hl := toI_length o
 obtain ⟨a1, cap1, hv, q1, q2⟩ := h.val
 obtain ⟨g, cap, hv2, hb, hlt⟩ := World.ownsRow.form h (by omega)
 rw [hv] at hv2
 simp only [Value.slice.injEq] at hv2
 obtain ⟨rfl, -, rfl⟩ := hv2
 subst hv
 refine ⟨g, cap1, by rw [hl], hb, hlt, by omega, q2, fun i hi => ?_, fun i => World.ownsRow.frozenAt h i⟩
 have := (World.ownsRow.cellAt h i (by rw [Nat.mul_one]; omega)).trans (encI_at (toI o) i (by omega))
 rw [Nat.zero_add, this, toI_at o i hi]
set_option maxRecDepth 100000 in
set_option maxHeartbeats 1000000 in
theorem newGame_ok (v : Value) (l : List Int) (f lost : Int) (w : World) (hv : IsRow w v l) (hok : spOk l f lost = true) :
  Calls Try.prog 36 #[v, .int .i64 f, .int .i64 lost] w fun e w' => ∃ gb, e = .returned (.tuple #[.pointer (some ⟨gb, 0, none⟩), .int .i64 0]) ∧ w.heap.size ≤ gb ∧ GameAt w' gb l (spM l f lost) (spK l f lost) f ∧ Below w.heap.size w w' := by
 have hv2 : ∀ o, IsRow (w.alloc o) v l := fun o => hv.below (Nat.le_refl _) ((Below.refl _ _).alloc (Nat.le_refl _) o)
 have hv' := hv
 obtain ⟨a, cap, rfl, h1, h2, h3⟩ := hv
 have hok' := hok
 simp only [spOk, spA, Bool.and_eq_true, decide_eq_true_eq] at hok'
 obtain ⟨⟨⟨⟨p1, p2⟩, p3⟩, p4⟩, p5⟩ := hok'
 have b1 := p1
 have b2 := p3
 have b3 := p4
 simp only [inB, decide_eq_true_eq] at b1 b2 b3
 obtain ⟨m1, m2, m3, m4, m5, m6⟩ := sp_mk hok
 have hle : ¬ (l.length : Int) - lost ≤ 2 * f := by omega
 have hown0 : ∀ q, (Value.slice a l.length cap).ownBlock = some q → q < w.heap.size := by
  obtain ⟨b, off, rfl, h4, _⟩ := h3 0 (by omega)
  intro q hq; cases hq; exact h4
 have Hown0 := hide hown0
 have M1 := hide m1
 have M2 := hide m2
 obtain ⟨i0, hi, hz0, hz1, hz2⟩ := info_parts infoIs
 clear h3 hok hown0 m1 m2
 go_enter Try.func36, Try.ntmps36
 go_wp2_with (first | (go_at_call 53; refine (within_any _ _ _ _).mono ?_; rintro e w' ⟨rfl, rfl⟩) | (go_at_call 34; refine (ContainsI_any _ l _ (hv2 _)).mono ?_; rintro e w1 ⟨rfl, hb1⟩; obtain ⟨c1, f1⟩ := bk hb1 w.heap.size (by simp); have hz1' := hb1.size; simp only [World.size_alloc] at hz1'; have hz2' : w.heap.size < w1.heap.size := hz1'))
 have x1 : (w1.alloc (.cells #[.slice a l.length cap, .slice none 0 0, .int .i64 (l.length - lost - f), .int .i64 (l.length - lost - 2 * f), .int .i64 f] 96)).cell? ⟨w.heap.size, 0, none⟩ = some (.slice a l.length cap) := by
  rw [(old1 w1 _ (by omega) 0).1, c1]; simp
 have x2 : Below w.heap.size w (w1.alloc (.cells #[.slice a l.length cap, .slice none 0 0, .int .i64 (l.length - lost - f), .int .i64 (l.length - lost - 2 * f), .int .i64 f] 96)) := (by ((repeat' (first | exact Below.refl _ _ | exact hb1 | refine Below.alloc ?_ ?_ _ | refine Below.setCell ?_ ?_ _ | refine Below.drew ?_ | refine below_drewN ?_ _ | refine Below.trans ?_ (hb1.mono ?_))) <;> (first | omega | (simp; done) | (simp; omega))))
 go_loopw [52] (fun i wr => ∃ (k : Nat) (ov : Value), k ≤ l.length ∧ i = .int .i64 k ∧ wr.cell? ⟨w1.heap.size, 1, none⟩ = some ov ∧ OwnIs wr (w1.heap.size + 1) ov (toI (List.range k)) ∧
   (wr.cell? ⟨w1.heap.size, 0, none⟩ = some (.slice a l.length cap) ∧ wr.cell? ⟨w1.heap.size, 2, none⟩ = some (.int .i64 (l.length - lost - f)) ∧ wr.cell? ⟨w1.heap.size, 3, none⟩ = some (.int .i64 (l.length - lost - 2 * f)) ∧ wr.cell? ⟨w1.heap.size, 4, none⟩ = some (.int .i64 f)) ∧
   (∀ o, wr.frozen? ⟨w1.heap.size, o, none⟩ = false) ∧ wr.cell? ⟨w.heap.size, 0, none⟩ = some (.slice a l.length cap) ∧ w1.heap.size < wr.heap.size ∧ Below w.heap.size w wr) (fun i _ => l.length - (intOf i).toNat)
 case atStart => exact ⟨0, _, Nat.zero_le _, rfl, by simp, OwnIs.nil _ _, ⟨by simp, by simp, by simp, by simp⟩, by simp, x1, by simp, x2⟩
 case round =>
  obtain ⟨k, ov, hk, rfl, y1, hown, ⟨y0, y2, y3, y4⟩, yf, yx, hzr, hB⟩ := hrel
  have hlk := toI_length (List.range k)
  rw [List.length_range] at hlk
  by_cases hlt : k < l.length
  ·obtain ⟨oa, ocap, hov, ho1, ho2⟩ := hown.val
   have hlow := World.ownsRow.lt hown
   unfold OwnIs at hown
   rw [hlk] at hown hov
   subst hov
   have Hlk := hide hlk
   clear hlk
   go_wp2_with (at_builtin; refine wpList_append_own _ rfl _ _ 25 rfl (w1.heap.size + 1) 3 i0 (.int .i64 0) 1 8 Try.underlying25 hi hz0 hz1 hz2 rfl (by decide) _ k (encI (toI (List.range k))) rfl (World.ownsRow.alloc hown _) ⟨wr.heap.size, 0, none⟩ 1 1 [.int .i64 k] rfl rfl (cells_new wr [.int .i64 k] _) (by simp [Value.oneCell']) (by unfold maxLen; omega) (by omega) (by simp; omega) ?_; intro v3 w3 hown3 hg3 _; obtain ⟨c3, f3⟩ := grown_keeps hg3 (b := w1.heap.size) (by simp; omega) (fun h => (by have := hlow _ h.symm; omega)); obtain ⟨d3, _⟩ := grown_keeps hg3 (b := w.heap.size) (by simp; omega) (fun h => (by have := hlow _ h.symm; omega)); obtain ⟨a3, cap3, rfl⟩ := ownsRow_val hown3)
   have hz3 := hg3.size
   simp only [World.size_alloc] at hz3
   go_roundw
   case rel =>
    have o1 := fun o => (old1 wr (.cells #[.int .i64 k] 3) hzr o).1
    have e1 := fun o => (c3 o).trans (o1 o)
    refine ⟨k + 1, .slice a3 (k + 1) cap3, by omega, by go_num, World.cell?_setCell_same' _ _ _ (by rw [e1, y1]; rfl), ?_, ⟨?_, ?_, ?_, ?_⟩, fun o => ?_, ?_, by simp; omega, ?_⟩
    ·refine ownsRow_setCell_below ?_ (by first | omega | simp) _
     rw [toI_range]
     exact OwnIs.app (by rw [Hlk.out]; exact hown3)
    ·exact (World.cell?_setCell_other _ _ _ _ (fun e => by simp at e)).trans ((e1 0).trans y0)
    ·exact (World.cell?_setCell_other _ _ _ _ (fun e => by simp at e)).trans ((e1 2).trans y2)
    ·exact (World.cell?_setCell_other _ _ _ _ (fun e => by simp at e)).trans ((e1 3).trans y3)
    ·exact (World.cell?_setCell_other _ _ _ _ (fun e => by simp at e)).trans ((e1 4).trans y4)
    ·rw [World.frozen?_setCell, f3, (old1 wr _ hzr o).2]; exact yf o
    ·refine (World.cell?_setCell_other _ _ _ _ (fun e => by (simp at e) <;> omega)).trans ((d3 0).trans (((old1 wr _ (by omega) 0).1).trans yx))
    ·exact Below.setCell (((hB.alloc (by omega) _).grown hg3 (by first | omega | (simp; omega)) (fun r h => by have := hlow r h; omega))) (by show w.heap.size ≤ w1.heap.size; omega) _
   case measure => simp [intOf]; omega
  ·obtain rfl : k = l.length := by omega
   obtain ⟨b, ocap, rfl, g1, g2, g3, g4, g5⟩ := own_hold hown (by simp; omega)
   rw [List.length_range] at y1 g3
   have hv3 := hv'.below (Nat.le_refl _) hB
   clear hown hlk hv'
   go_wp2_with fail
   refine (sortS_any l w.heap.size b 0 ocap _ _ yx hv3 (by omega) (fun q hq => by have := Hown0.out q hq; omega) g2 (by omega) (by omega) g3 g5).mono ?_
   rintro e w3 ⟨rfl, hs⟩
   go_wp2_with fail
   go_ret2
   have hgc := fun o => grown_cell hs.2 (q := w1.heap.size) hzr (by omega) o
   have hv4 := isrow_grown hv3 hs.2 (fun q hq => by have := Hown0.out q hq; omega)
   have hsz := hs.2.size
   refine ⟨w1.heap.size, rfl, by omega, ⟨⟨_, (hgc 0).trans y0, hv4⟩, ⟨b, 0, ocap, (hgc 1).trans y1, g3, g4, by omega, fun i hi => hs.1.1 i (by rw [ordL_length]; exact hi)⟩, ?_, ?_, (hgc 4).trans y4, by omega⟩, ?_⟩
   ·rw [hgc 2, y2, M1.out]
   ·rw [hgc 3, y3, M2.out]
   ·exact hB.grown hs.2 hB.size (fun q e => by cases e; omega)
end Go.Proofs.Ytlmcoollkmhanaa
/- Package spread: the iterator over the possible numbers. -/
namespace Go.Proofs.Ytlmcoollkmhanaa
open Go.RowKit Go.Shelf
attribute [local go_sem] Oper.semAt_some
attribute [local go_sem ↓] run_max_mx run_min_mn

def KeepS (S : Nat → Prop) (A B : World) : Prop := A.heap.size ≤ B.heap.size ∧ ∀ q, S q → B.heap[q]? = A.heap[q]?
theorem KeepS.refl (S : Nat → Prop) (A : World) : KeepS S A A := ⟨Nat.le_refl _, fun _ _ => rfl⟩
theorem KeepS.trans {S : Nat → Prop} {A B C : World} (h : KeepS S A B) (k : KeepS S B C) : KeepS S A C := ⟨Nat.le_trans h.1 k.1, fun q h1 => (k.2 q h1).trans (h.2 q h1)⟩
theorem KeepS.cell {S : Nat → Prop} {A B : World} (h : KeepS S A B) {b : Nat} (h1 : S b) (o : Nat) : B.cell? ⟨b, o, none⟩ = A.cell? ⟨b, o, none⟩ := World.cell?_of_block (a := ⟨b, o, none⟩) (h.2 b h1)
theorem KeepS.drewN {S : Nat → Prop} {A B : World} (h : KeepS S A B) (n : Nat) : KeepS S A (B.drewN n) := h
theorem isrow_same {w V : World} {v : Value} {l : List Int} (h : IsRow w v l) (hs : w.heap.size ≤ V.heap.size) (hb : ∀ q, q < w.heap.size → V.heap[q]? = w.heap[q]?) : IsRow V v l := by
 obtain ⟨a, cap, rfl, h1, h2, h3⟩ := h
 refine ⟨a, cap, rfl, h1, h2, fun i hi => ?_⟩
 obtain ⟨b, off, rfl, h4, h5⟩ := h3 i hi
 exact ⟨b, off, rfl, by omega, (World.cell?_of_block (a := ⟨b, off + i, none⟩) (hb b h4)).trans h5⟩
theorem GameAt.same {w V : World} {gb : Nat} {l : List Int} {m k : Nat} {f : Int} (h : GameAt w gb l m k f) (hs : w.heap.size ≤ V.heap.size) (hb : ∀ q, q < w.heap.size → V.heap[q]? = w.heap[q]?) : GameAt V gb l m k f := by
 obtain ⟨⟨v, h1, h2⟩, ⟨b, off, cap, h3, h4, h5, h6, h7⟩, h8, h9, h10, h11⟩ := h
 have hg := fun o => World.cell?_of_block (a := ⟨gb, o, none⟩) (hb gb h11)
 exact ⟨⟨v, (hg 0).trans h1, isrow_same h2 hs hb⟩, ⟨b, off, cap, (hg 1).trans h3, h4, h5, by omega, fun i hi => (World.cell?_of_block (a := ⟨b, off + i, none⟩) (hb b h6)).trans (h7 i hi)⟩,
  (hg 2).trans h8, (hg 3).trans h9, (hg 4).trans h10, by omega⟩
def upto (D : List Int) (k j0 t : Nat) : List (Int × Int) := (List.range t).map fun s => (((j0 + s : Nat) : Int), vJ D k (j0 + s))
theorem upto_succ (D : List Int) (k j0 t : Nat) : upto D k j0 (t + 1) = upto D k j0 t ++ [(((j0 + t : Nat) : Int), vJ D k (j0 + t))] := by unfold upto; rw [List.range_succ]; simp
theorem upto_length (D : List Int) (k j0 t : Nat) : (upto D k j0 t).length = t := by simp [upto]
theorem upto_prefix (D : List Int) (k j0 : Nat) {s t : Nat} (h : s ≤ t) : upto D k j0 s <+: upto D k j0 t := by
 obtain ⟨d, rfl⟩ : ∃ d, t = s + d := ⟨t - s, by omega⟩
 refine ⟨(List.range d).map fun i => (((j0 + (s + i) : Nat) : Int), vJ D k (j0 + (s + i))), ?_⟩
 unfold upto
 rw [List.range_add, List.map_append, List.map_map]; rfl
set_option maxRecDepth 100000 in
set_option maxHeartbeats 2000000 in
theorem values_in (n : Nat) (hn : 2 ≤ n) (l Bn gb : Nat) (ws : List Int) (m k : Nat) (f : Int) (w0 : World) (hG : GameAt w0 gb ws m k f) (hk1 : 1 ≤ k) (hkm : k ≤ m) (hml : m ≤ ws.length) (hl16 : ws.length ≤ 16) (hwd : ∀ i, 0 ≤ iAt (srt ws) i ∧ iAt (srt ws) i ≤ 1000000000000)
  (_hBn : w0.heap.size ≤ Bn) (J Jx : List (Int × Int) → World → Prop) (W : World) (hs0 : w0.heap.size ≤ W.heap.size) (hb0 : ∀ q, q < w0.heap.size → W.heap[q]? = w0.heap[q]?) (hJ : AbidesFrom W.heap.size J)
  (hY : ∀ pre x W1, J pre W1 → pre.length < k - jLo m k + 1 → YieldAt Fence.wide (n - 1) Try.prog l #[.int .i64 x.1, .int .i64 x.2] W1 fun e W' =>
   (e = .returned (.bool true) ∧ J (pre ++ [x]) W' ∧ KeepS (fun q => q < w0.heap.size ∨ q = Bn) W1 W') ∨ (e = .returned (.bool false) ∧ Jx (pre ++ [x]) W'))
  (hc : W.cell? ⟨Bn, 0, none⟩ = some (.pointer (some ⟨gb, 0, none⟩))) (h0 : J [] W) :
  CallsIn Fence.wide n Try.prog 71 #[.func (.yield l) #[] #[], .pointer (some ⟨Bn, 0, none⟩)] W fun e W' => (∃ v, e = .returned v) ∧
   ((∃ ys, ys = upto (srt ws) k (jLo m k) (k - jLo m k + 1) ∧ J ys W') ∨ (∃ pre, pre <+: upto (srt ws) k (jLo m k) (k - jLo m k + 1) ∧ Jx pre W')) := by
 have hn1 : 1 ≤ n := by omega
 have hBW := World.block_lt_of_cell? _ _ hc
 have hG0 := hG.same hs0 hb0
 have g2 := hG0.m
 have g3 := hG0.k
 have ww1 : IntKind.i64.wrap (2 * (k : Int)) = 2 * k := IntWalk.i64_in _ (by omega)
 have ww2 : IntKind.i64.wrap (2 * (k : Int) - m) = 2 * k - m := IntWalk.i64_in _ (by omega)
 have hj0 : mx 0 (2 * (k : Int) - m) = (jLo m k : Nat) := by unfold jLo; have := mx_spec 0 (2 * (k : Int) - m); omega
 have hjk : jLo m k ≤ k := by unfold jLo; omega
 have hjm : 2 * k - m ≤ jLo m k := by unfold jLo; omega
 generalize jLo m k = j0 at *
 refine callsIn_of_wp Try.func71 rfl trivial ?_ rfl
 simp only [Try.ntmps71, List.size_toArray, List.length_cons, List.length_nil, Nat.reduceAdd, Nat.reduceSub, Array.replicate_succ, Array.replicate_zero, List.push_toArray, List.append_toArray, List.nil_append, List.cons_append]
 gi_wp2
 gi_quiet (fail)
 gi_wp2
 have Hj0 := hide hj0
 have Ww2 := hide ww2
 clear hj0 g2 g3 ww2
 gi_loopw [3] (fun i wr => ∃ (t : Nat) (pre : List (Int × Int)), t ≤ k - j0 + 1 ∧ i = .int .i64 ((j0 + t : Nat) : Int) ∧ Hid (pre = upto (srt ws) k j0 t) ∧ J pre wr ∧ KeepS (fun q => q < w0.heap.size ∨ q = Bn) W wr) (fun i _ => k + 1 - (intOf i).toNat)
 case atStart => exact ⟨0, [], Nat.zero_le _, congrArg (Value.int .i64) (by simp), hide rfl, hJ [] W _ none h0 (grown_drewN (World.grownBy.refl _ _) _) (fun r h => by cases h), (KeepS.refl _ _).drewN _⟩
 case round =>
  obtain ⟨t, pre, ht, rfl, Hp, hJs, hK⟩ := hrel
  have hcr := (hK.cell (b := Bn) (.inr rfl) 0).trans hc
  have hGr := hG.same (V := wr) (Nat.le_trans hs0 hK.1) (fun q hq => (hK.2 q (.inl hq)).trans (hb0 q hq))
  have g3 := hGr.k
  obtain ⟨j, hj⟩ : ∃ j, j = j0 + t := ⟨_, rfl⟩
  rw [← hj]
  by_cases hlt : t < k - j0 + 1
  ·have hjk2 : j ≤ k := by omega
   obtain ⟨q, hq⟩ : ∃ q, q = 2 * k - j := ⟨_, rfl⟩
   have hq1 : 1 ≤ q := by omega
   have hq2 : q ≤ m := by omega
   have ww3 : IntKind.i64.wrap (2 * (k : Int) - j) = q := by rw [IntWalk.i64_in _ (by omega)]; omega
   have d1 := hwd (k - 1)
   have d2 := hwd (q - 1)
   have ww4 : IntKind.i64.wrap (iAt (srt ws) (k - 1) + iAt (srt ws) (q - 1)) = iAt (srt ws) (k - 1) + iAt (srt ws) (q - 1) := IntWalk.i64_in _ (by omega)
   have Hv : Hid (vJ (srt ws) k j = if 0 < j then mn (iAt (srt ws) (k - 1) + iAt (srt ws) (q - 1)) (iAt (srt ws) (j - 1)) else iAt (srt ws) (k - 1) + iAt (srt ws) (q - 1)) := by
    show vJ (srt ws) k j = _
    unfold vJ; rw [← hq]
   have Hpn : Hid (pre ++ [((j : Int), vJ (srt ws) k j)] = upto (srt ws) k j0 (t + 1)) := by
    show _ = _
    rw [Hp.out, upto_succ, ← hj]
   have Hq := hide hq
   have Hj := hide hj
   clear hq hj
   by_cases hjp : 0 < j
   ·have hv1 : vJ (srt ws) k j = mn (iAt (srt ws) (k - 1) + iAt (srt ws) (q - 1)) (iAt (srt ws) (j - 1)) := by rw [Hv.out, if_pos hjp]
    have Hv1 := hide hv1
    clear hv1
    gi_wp2
    refine wpIn_wide.2 ?_
    go_quiet ((go_at_call 72; exact Calls.quiet_of (w_any gb _ ws m k f _ (hGr.below (Nat.le_refl _) (below_drewN (Below.refl _ _) _)) (by omega) (by omega) hml (by omega))))
    gi_wp2_with fail
    refine ⟨trivial, (callsIn_wide.2 (w_any gb j ws m k f _ (hGr.below (Nat.le_refl _) (below_drewN (Below.refl _ _) _)) (by omega) (by omega) hml (by omega))).mono ?_⟩
    rintro e w' ⟨rfl, n2, rfl⟩
    have hJ2 := hJ pre wr (wr.drewN (nq + n2)) none hJs (grown_drewN (World.grownBy.refl _ _) _) (fun r h => by cases h)
    obtain ⟨fn, tmps, assign, body, hy, hR⟩ := hY pre ((j : Int), vJ (srt ws) k j) (wr.drewN (nq + n2)) hJ2 (by rw [Hp.out, upto_length]; omega)
    rw [Hv1.out] at hy
    dsimp only at hy
    gi_wp2
    refine hR.mono ?_
    rintro e W3 (⟨rfl, hJ3, hk3⟩ | ⟨rfl, hJx3⟩)
    ·gi_wp2
     go_roundw
     case rel =>
      have := Hj.out
      exact ⟨t + 1, _, by omega, congrArg (Value.int .i64) (by omega), Hpn, hJ3, hK.trans ((KeepS.drewN (KeepS.refl _ _) _).trans hk3)⟩
     case measure => simp [intOf]; omega
    ·gi_wp2
     refine bodyPost_ret (results_none rfl _ _ _) rfl ?_
     exact ⟨⟨_, rfl⟩, .inr ⟨_, by rw [Hpn.out]; exact upto_prefix _ _ _ (by omega), hJx3⟩⟩
   ·have hv1 : vJ (srt ws) k j = iAt (srt ws) (k - 1) + iAt (srt ws) (q - 1) := by rw [Hv.out, if_neg hjp]
    have Hv1 := hide hv1
    have hj00 : j = 0 := by omega
    have Hj00 := hide hj00
    have hjz : decide (0 < j) = false := decide_eq_false hjp
    have hjz2 : decide ((0 : Int) < j) = false := decide_eq_false (by omega)
    clear hv1 hj00
    gi_wp2
    refine wpIn_wide.2 ?_
    go_quiet ((go_at_call 72; exact Calls.quiet_of (w_any gb _ ws m k f _ (hGr.below (Nat.le_refl _) (below_drewN (Below.refl _ _) _)) (by omega) (by omega) hml (by omega))))
    have hJ2 := hJ pre wr (wr.drewN nq) none hJs (grown_drewN (World.grownBy.refl _ _) _) (fun r h => by cases h)
    obtain ⟨fn, tmps, assign, body, hy, hR⟩ := hY pre ((j : Int), vJ (srt ws) k j) (wr.drewN nq) hJ2 (by rw [Hp.out, upto_length]; omega)
    rw [Hv1.out] at hy
    dsimp only at hy
    gi_wp2
    refine hR.mono ?_
    rintro e W3 (⟨rfl, hJ3, hk3⟩ | ⟨rfl, hJx3⟩)
    ·gi_wp2
     go_roundw
     case rel =>
      have := Hj.out
      exact ⟨t + 1, _, by omega, congrArg (Value.int .i64) (by omega), Hpn, hJ3, hK.trans ((KeepS.drewN (KeepS.refl _ _) _).trans hk3)⟩
     case measure => simp [intOf]; omega
    ·gi_wp2
     refine bodyPost_ret (results_none rfl _ _ _) rfl ?_
     exact ⟨⟨_, rfl⟩, .inr ⟨_, by rw [Hpn.out]; exact upto_prefix _ _ _ (by omega), hJx3⟩⟩
  ·gi_wp2
   go_end0
   exact ⟨⟨_, rfl⟩, .inl ⟨pre, by rw [Hp.out, show t = k - j0 + 1 by omega], hJs⟩⟩
end Go.Proofs.Ytlmcoollkmhanaa
/- Package spread: the best number, and Worst. -/
namespace Go.Proofs.Ytlmcoollkmhanaa
open Go.RowKit Go.Shelf
attribute [local go_sem] Oper.semAt_some
attribute [local go_sem ↓] run_max_mx run_min_mn

theorem KeepS.set {S : Nat → Prop} {A B : World} (h : KeepS S A B) {p : Addr} (hp : ¬ S p.block) (u : Value) : KeepS S A (B.setCell p u) :=
 ⟨by simpa [World.setCell] using h.1, fun q hq => (Below.heap_setCell B p u q (fun e => hp (e ▸ hq))).trans (h.2 q hq)⟩
theorem KeepS.put {S : Nat → Prop} {W : World} {l : Nat} (hl : ¬ S l) (_hlt : l < W.heap.size) (o : Obj) : KeepS S W (W.putObj l o) :=
 ⟨(grownBy_putObj' W l o).size, fun q hq => by
  rcases Nat.lt_or_ge q W.heap.size with h | h
  ·exact (grownBy_putObj' W l o).block q h (by rintro e; cases e; exact hl hq)
  ·have hs : (W.putObj l o).heap.size = W.heap.size := by simp [World.putObj]
   rw [Array.getElem?_eq_none h, Array.getElem?_eq_none (by omega)]⟩
theorem values_stops (n : Nat) (hn : 2 ≤ n) (Bn gb : Nat) (ws : List Int) (m k : Nat) (f : Int) (w0 w : World) (hG : GameAt w0 gb ws m k f) (hk1 : 1 ≤ k) (hkm : k ≤ m) (hml : m ≤ ws.length) (hl16 : ws.length ≤ 16) (hwd : ∀ i, 0 ≤ iAt (srt ws) i ∧ iAt (srt ws) i ≤ 1000000000000)
  (hBn : w0.heap.size ≤ Bn) (hs0 : w0.heap.size ≤ w.heap.size) (hb0 : ∀ q, q < w0.heap.size → w.heap[q]? = w0.heap[q]?) (hc : w.cell? ⟨Bn, 0, none⟩ = some (.pointer (some ⟨gb, 0, none⟩))) :
  SeqStopsK Fence.wide n Try.prog 71 #[.pointer (some ⟨Bn, 0, none⟩)] (fun x : Int × Int => #[Value.int .i64 x.1, Value.int .i64 x.2]) (KeepS (fun q => q < w0.heap.size ∨ q = Bn))
   (fun ys => ys = upto (srt ws) k (jLo m k) (k - jLo m k + 1)) (fun pre => pre <+: upto (srt ws) k (jLo m k) (k - jLo m k + 1)) (k - jLo m k + 1) w := by
 intro l J Jx W hW hJ hJx hY h0
 have hlt := World.block_lt_of_cell? _ _ hc
 exact values_in n hn l Bn gb ws m k f w0 hG hk1 hkm hml hl16 hwd hBn J Jx W (Nat.le_trans hs0 hW.size) (fun q hq => (hW.block q (Nat.lt_of_lt_of_le hq hs0)).trans (hb0 q hq)) hJ hY ((hW.cell (p := ⟨Bn, 0, none⟩) hlt).trans hc) h0
def bstOf (pre : List (Int × Int)) : Int × Int := pre.foldl (fun p x => if x.2 > p.2 then x else p) (-1, -1)
theorem bstOf_snoc (pre : List (Int × Int)) (x : Int × Int) : bstOf (pre ++ [x]) = if x.2 > (bstOf pre).2 then x else bstOf pre := by simp [bstOf]
theorem bstOf_upto (D : List Int) (k j0 : Nat) : ∀ t, bstOf (upto D k j0 t) = bst D k j0 t
 | 0 => rfl
 | t + 1 => by rw [upto_succ, bstOf_snoc, bstOf_upto D k j0 t]; rfl
set_option maxRecDepth 100000 in
set_option maxHeartbeats 400000 in
theorem values_any (gb : Nat) (w : World) : Calls Try.prog 57 #[.pointer (some ⟨gb, 0, none⟩)] w fun e w' =>
  e = .returned (.func (.func 71) #[] #[.pointer (some ⟨w.heap.size, 0, none⟩)]) ∧ w' = w.alloc (.cells #[.pointer (some ⟨gb, 0, none⟩)] 75) := by
 go_enter Try.func57, Try.ntmps57
 go_wp2
 go_ret
 exact ⟨rfl, rfl⟩
def BI (w : World) (pre : List (Int × Int)) (W : World) : Prop :=
 (W.cell? ⟨w.heap.size, 0, none⟩ = some (.int .i64 (bstOf pre).1) ∧ W.frozen? ⟨w.heap.size, 0, none⟩ = false) ∧ (W.cell? ⟨w.heap.size + 1, 0, none⟩ = some (.int .i64 (bstOf pre).2) ∧ W.frozen? ⟨w.heap.size + 1, 0, none⟩ = false) ∧ Below w.heap.size w W
set_option maxRecDepth 100000 in
set_option maxHeartbeats 2000000 in
theorem best_any (gb : Nat) (ws : List Int) (m k : Nat) (f : Int) (w : World) (hG : GameAt w gb ws m k f) (hk1 : 1 ≤ k) (hkm : k ≤ m) (hml : m ≤ ws.length) (hl16 : ws.length ≤ 16) (hwd : ∀ i, 0 ≤ iAt (srt ws) i ∧ iAt (srt ws) i ≤ 1000000000000) :
  Calls Try.prog 37 #[.pointer (some ⟨gb, 0, none⟩)] w fun e w' => e = .returned (.tuple #[.int .i64 (bestP (srt ws) m k).1, .int .i64 (bestP (srt ws) m k).2]) ∧ Below w.heap.size w w' := by
 refine (callsIn_wide (n := 4)).1 ?_
 refine callsIn_of_wp_marks Try.func37 rfl trivial ?_ rfl
 simp only [Try.ntmps37, List.size_toArray, List.length_cons, List.length_nil, Nat.reduceAdd, Nat.reduceSub, Array.replicate_succ, Array.replicate_zero, List.push_toArray, List.append_toArray, List.nil_append, List.cons_append]
 gi_wp2_with fail
 refine ⟨trivial, (callsIn_wide.2 (values_any _ _)).mono ?_⟩
 rintro e w1 ⟨rfl, rfl⟩
 simp only [World.size_alloc]
 have x0 : (((w.alloc (.cells #[.int .i64 (-1)] 3)).alloc (.cells #[.int .i64 (-1)] 3)).alloc (.cells #[.pointer (some ⟨gb, 0, none⟩)] 75)).cell? ⟨w.heap.size + 1 + 1, 0, none⟩ = some (.pointer (some ⟨gb, 0, none⟩)) := by simp [go_sem]
 have x1 : BI w [] (((w.alloc (.cells #[.int .i64 (-1)] 3)).alloc (.cells #[.int .i64 (-1)] 3)).alloc (.cells #[.pointer (some ⟨gb, 0, none⟩)] 75)) := by
  refine ⟨⟨?_, ?_⟩, ⟨?_, ?_⟩, (by ((repeat' (first | exact Below.refl _ _ | refine Below.alloc ?_ ?_ _ | refine Below.setCell ?_ ?_ _ | refine Below.drew ?_ | refine below_drewN ?_ _)) <;> (first | omega | (simp; done) | (simp; omega))))⟩ <;> simp [go_sem, bstOf]
 have x2 : (((w.alloc (.cells #[.int .i64 (-1)] 3)).alloc (.cells #[.int .i64 (-1)] 3)).alloc (.cells #[.pointer (some ⟨gb, 0, none⟩)] 75)).heap.size = w.heap.size + 3 := by simp
 have x3 := fun q hq => x1.2.2.block q hq
 gi_wp2_with fail
 generalize ((w.alloc (.cells #[.int .i64 (-1)] 3)).alloc (.cells #[.int .i64 (-1)] 3)).alloc (.cells #[.pointer (some ⟨gb, 0, none⟩)] 75) = W0 at *
 refine wpIn_rangeFunc_ownF rfl (by omega) (gf := 71) (lb := #[.pointer (some ⟨w.heap.size + 1 + 1, 0, none⟩)]) rfl trivial (enters_of Try.func71 (by kernel_rfl) rfl)
  (values_stops 3 (by omega) (w.heap.size + 1 + 1) gb ws m k f w W0 hG hk1 hkm hml hl16 hwd (by omega) (by omega) x3 x0) (fun h k => h.trans k) (fun W q o o' hq h1 _ _ => KeepS.put (by rintro (h | h) <;> omega) (Array.getElem?_eq_some_iff.1 h1).1 _) (Below.refl _ _) (fun _ => rfl)
  (fun pre W => BI w pre W) (fun _ _ _ => False)
  (by
   rintro pre X Y row ⟨⟨a1, a2⟩, ⟨b1, b2⟩, e1⟩ hg hr
   have hr' := fun r e => (hr r e).2
   exact ⟨⟨cell_kept a1 hg hr', (frozen_kept a1 hg hr').trans a2⟩, ⟨cell_kept b1 hg hr', (frozen_kept b1 hg hr').trans b2⟩, e1.grown hg e1.size (fun k e => by have := (hr k e).1; omega)⟩)
  (fun _ _ _ _ _ hs _ _ => hs) x1
  (fun x => { tmps := #[.pointer (some ⟨gb, 0, none⟩), undef, .pointer (some ⟨w.heap.size, 0, none⟩), .pointer (some ⟨w.heap.size + 1, 0, none⟩), .int .i64 x.1, .int .i64 x.2, .pointer (some ⟨gb, 0, none⟩), .func (.func 71) #[] #[.pointer (some ⟨w.heap.size + 1 + 1, 0, none⟩)], .int .i64 x.1, .int .i64 x.2, undef, undef, undef, undef, undef, undef, undef], defers := [] }) ?assign ?body ?done ?stop
 case assign =>
  intro l x W K hK
  gi_wp2
  exact hK
 case body =>
  rintro l pre x W ⟨⟨a1, a2⟩, ⟨b1, b2⟩, e1⟩ _
  by_cases hx : (bstOf pre).2 < x.2
  ·gi_wp2
   refine ⟨(KeepsOthers.setCell _ _ _).trans (KeepsOthers.setCell _ _ _), ((KeepS.refl _ _).set (p := ⟨w.heap.size, 0, none⟩) (by show ¬ (w.heap.size < w.heap.size ∨ w.heap.size = w.heap.size + 1 + 1); omega) _).set (p := ⟨w.heap.size + 1, 0, none⟩) (by show ¬ (w.heap.size + 1 < w.heap.size ∨ w.heap.size + 1 = w.heap.size + 1 + 1); omega) _, ?_⟩
   show BI w (pre ++ [x]) _
   unfold BI
   rw [bstOf_snoc, if_pos hx]
   exact ⟨⟨(World.cell?_setCell_other _ _ _ _ (fun e => by simp at e)).trans (World.cell?_setCell_same' _ _ _ (by rw [a1]; rfl)), by rw [World.frozen?_setCell, World.frozen?_setCell]; exact a2⟩,
    ⟨World.cell?_setCell_same' _ _ _ (by rw [World.cell?_setCell_other _ _ _ _ (fun e => by simp at e), b1]; rfl), by rw [World.frozen?_setCell, World.frozen?_setCell]; exact b2⟩,
    (e1.setCell (p := ⟨w.heap.size, 0, none⟩) (Nat.le_refl _) _).setCell (p := ⟨w.heap.size + 1, 0, none⟩) (by show w.heap.size ≤ w.heap.size + 1; omega) _⟩
  ·gi_wp2
   refine ⟨KeepsOthers.refl _, KeepS.refl _ _, ?_⟩
   show BI w (pre ++ [x]) _
   unfold BI
   rw [bstOf_snoc, if_neg (by omega)]
   exact ⟨⟨a1, a2⟩, ⟨b1, b2⟩, e1⟩
 case done =>
  rintro D ys W hD hys ⟨⟨a1, a2⟩, ⟨b1, b2⟩, e1⟩ hK
  have hb : bstOf ys = bestP (srt ws) m k := by rw [hys]; exact bstOf_upto _ _ _ _
  rw [hb] at a1 b1
  clear hys hb
  generalize hbp : bestP (srt ws) m k = bp at *
  have Hbp := hide hbp
  clear hbp
  gi_wp2
  refine wpIn_wide.2 ?_
  go_region
  gi_wp2
  have hKV := ((KeepsOthers.drew W).trans ((KeepsOthers.setCell (W.drew) ⟨w.heap.size, 0, none⟩ (.int .i64 bp.1)).trans (KeepsOthers.setCell _ ⟨w.heap.size + 1, 0, none⟩ (.int .i64 bp.2)))).same D _ hK rfl
  have d0 : ((W.setCell ⟨w.heap.size, 0, none⟩ (.int .i64 bp.1)).setCell ⟨w.heap.size + 1, 0, none⟩ (.int .i64 bp.2)).drew.cell? ⟨w.heap.size, 0, none⟩ = some (.int .i64 bp.1) :=
   (World.cell?_setCell_other _ _ _ _ (fun e => by simp at e)).trans (World.cell?_setCell_same' _ _ _ (by rw [a1]; rfl))
  have d1 : ((W.setCell ⟨w.heap.size, 0, none⟩ (.int .i64 bp.1)).setCell ⟨w.heap.size + 1, 0, none⟩ (.int .i64 bp.2)).drew.cell? ⟨w.heap.size + 1, 0, none⟩ = some (.int .i64 bp.2) :=
   World.cell?_setCell_same' _ _ _ (by rw [World.cell?_setCell_other _ _ _ _ (fun e => by simp at e), b1]; rfl)
  have d2 : Below w.heap.size w ((W.setCell ⟨w.heap.size, 0, none⟩ (.int .i64 bp.1)).setCell ⟨w.heap.size + 1, 0, none⟩ (.int .i64 bp.2)).drew :=
   ((e1.setCell (p := ⟨w.heap.size, 0, none⟩) (Nat.le_refl _) _).setCell (p := ⟨w.heap.size + 1, 0, none⟩) (by show w.heap.size ≤ w.heap.size + 1; omega) _).drew
  have hKV2 : ((W.setCell ⟨w.heap.size, 0, none⟩ (.int .i64 bp.1)).setCell ⟨w.heap.size + 1, 0, none⟩ (.int .i64 bp.2)).drew.heap[D]? = some (.deferred (some [])) := hKV
  clear hKV
  generalize ((W.setCell ⟨w.heap.size, 0, none⟩ (.int .i64 bp.1)).setCell ⟨w.heap.size + 1, 0, none⟩ (.int .i64 bp.2)).drew = V at *
  have c0 := cell_kept d0 (grownBy_putObj' V D (.deferred none)) (fun r e => by cases e; exact ⟨_, hKV2, rfl⟩)
  have c1 := cell_kept d1 (grownBy_putObj' V D (.deferred none)) (fun r e => by cases e; exact ⟨_, hKV2, rfl⟩)
  refine ⟨by simp, .inl ⟨_, _, rfl, run_takeDeferred hKV2, ?_⟩⟩
  have e3 : Below w.heap.size w (V.putObj D (.deferred none)) := d2.grown (grownBy_putObj' V D (.deferred none)) d2.size (fun q e => by cases e; omega)
  generalize V.putObj D (.deferred none) = U at *
  refine ⟨.tuple #[.int .i64 bp.1, .int .i64 bp.2], by simp [results, Try.results37, go_sem, c0, c1], by rw [Hbp.out], e3⟩
 case stop =>
  rintro D c pre W _ _ h _
  exact h.elim

theorem worst_no {l : List Int} {f lost : Int} (h : spOk l f lost = false) : worst l f lost = 0 := by unfold worst; rw [if_neg (by simp [h])]
theorem worst_ok {l : List Int} {f lost : Int} (h : spOk l f lost = true) : worst l f lost = (bestP (srt l) (spM l f lost) (spK l f lost)).2 := by unfold worst; rw [if_pos h]
theorem sp_ways (l : List Int) (f lost : Int) : (spOk l f lost = true ∧ spEr l f lost = 0) ∨ (spA l f lost = false ∧ spOk l f lost = false ∧ spEr l f lost = 1) ∨ (spA l f lost = true ∧ (¬ 2 * f < l.length - lost) ∧ spOk l f lost = false ∧ spEr l f lost = 20) := by
 cases hA : spA l f lost with
 | false => exact .inr (.inl ⟨rfl, by simp [spOk, hA], spA_false hA⟩)
 | true =>
  by_cases h : 2 * f < (l.length : Int) - lost
  ·have hok : spOk l f lost = true := by simp [spOk, hA, h]
   exact .inl ⟨hok, spEr_ok hok⟩
  ·exact .inr (.inr ⟨rfl, h, by simp [spOk, hA]; omega, by unfold spEr; rw [if_pos hA, if_neg h]⟩)
set_option maxRecDepth 100000 in
set_option maxHeartbeats 400000 in
theorem Worst_any (v : Value) (l : List Int) (f lost : Int) (w : World) (hv : IsRow w v l) :
  Calls Try.prog 17 #[v, .int .i64 f, .int .i64 lost] w fun e w' => e = .returned (.tuple #[.int .i64 (worst l f lost), .int .i64 (spEr l f lost)]) ∧ Below w.heap.size w w' := by
 rcases sp_ways l f lost with ⟨q1, q2⟩ | ⟨q1, q2, q3⟩ | ⟨q1, q2, q3, q4⟩
 ·rw [q2, worst_ok q1]
  have hi := (spOk_iff l f lost).1 q1
  have hm := sp_mk q1
  have hd := srt_bd l hi.1.2
  have Q1 := hide q1
  have Hd := hide hd
  have Hm := hide hm
  clear q1 q2 hi hd hm
  go_enter Try.func17, Try.ntmps17
  go_wp2_with fail
  refine (newGame_ok v l f lost _ hv Q1.out).mono ?_
  rintro e w1 ⟨gb, rfl, hgb, hG, b1⟩
  go_wp2_with fail
  refine (best_any gb l _ _ f _ hG Hm.out.2.2.1 Hm.out.2.2.2.1 Hm.out.2.2.2.2.1 Hm.out.2.2.2.2.2 Hd.out).mono ?_
  rintro e w2 ⟨rfl, b2⟩
  have z1 := b1.size
  go_wp2_with fail
  go_ret2
  exact ⟨rfl, (by ((repeat' (first | exact Below.refl _ _ | exact b1 | exact b2 | refine Below.alloc ?_ ?_ _ | refine Below.setCell ?_ ?_ _ | refine Below.drew ?_ | refine below_drewN ?_ _ | refine Below.trans ?_ (b1.mono ?_) | refine Below.trans ?_ (b2.mono ?_))) <;> (first | omega | (simp; done) | (simp; omega))))⟩
 ·rw [q3, worst_no q2]
  go_enter Try.func17, Try.ntmps17
  go_wp2_with fail
  refine (newGame_bad v l f lost _ hv q1).mono ?_
  rintro e w1 ⟨rfl, b1⟩
  go_wp2_with fail
  go_ret2
  exact ⟨rfl, b1⟩
 ·rw [q4, worst_no q3]
  have Q2 := hide q2
  clear q2
  go_enter Try.func17, Try.ntmps17
  go_wp2_with fail
  refine (newGame_few v l f lost _ hv q1 (by have := Q2.out; omega)).mono ?_
  rintro e w1 ⟨rfl, b1⟩
  go_wp2_with fail
  go_ret2
  exact ⟨rfl, b1⟩
end Go.Proofs.Ytlmcoollkmhanaa
/- Plain mathematics of package spread's Place; a row of intervals that a call makes. -/
namespace Go.Proofs.Ytlmcoollkmhanaa
open Go.RowKit
theorem bestP_bd {D : List Int} (hwd : ∀ i, 0 ≤ iAt D i ∧ iAt D i ≤ 1000000000000) (m k : Nat) (_hk : 1 ≤ k) (_hkm : k ≤ m) : 0 ≤ (bestP D m k).1 ∧ (bestP D m k).1 ≤ k ∧ 0 ≤ (bestP D m k).2 ∧ (bestP D m k).2 ≤ 2000000000000 := by
 have hv : ∀ j, 0 ≤ vJ D k j ∧ vJ D k j ≤ 2000000000000 := fun j => by
  have a := hwd (k - 1)
  have b := hwd (2 * k - j - 1)
  have c := hwd (j - 1)
  have m := mn_spec (iAt D (k - 1) + iAt D (2 * k - j - 1)) (iAt D (j - 1))
  unfold vJ; split <;> omega
 obtain ⟨s, h1, h2, _⟩ := (bst_max D k (jLo m k) (k - jLo m k + 1)).2 (by omega) (fun s _ => (hv _).1)
 have hj : jLo m k ≤ k := by unfold jLo; omega
 have := hv (jLo m k + s)
 show 0 ≤ (bst D k (jLo m k) (k - jLo m k + 1)).1 ∧ (bst D k (jLo m k) (k - jLo m k + 1)).1 ≤ k ∧ 0 ≤ (bst D k (jLo m k) (k - jLo m k + 1)).2 ∧ (bst D k (jLo m k) (k - jLo m k + 1)).2 ≤ 2000000000000
 rw [h2]
 simp only
 omega
end Go.Proofs.Ytlmcoollkmhanaa
/- Plain mathematics of package spread: the i-th width by counting, and how the greatest width changes. -/
namespace Go.Proofs.Ytlmcoollkmhanaa
open Go.RowKit

def cge (x : Int) (l : List Int) : Nat := l.countP fun a => decide (x ≤ a)
theorem cge_cons (x a : Int) (l : List Int) : cge x (a :: l) = cge x l + if x ≤ a then 1 else 0 := by
 unfold cge; rw [List.countP_cons]; simp
theorem cge_append (x : Int) (l r : List Int) : cge x (l ++ r) = cge x l + cge x r := by unfold cge; rw [List.countP_append]
theorem cge_perm {l r : List Int} (h : l.Perm r) (x : Int) : cge x l = cge x r := h.countP_eq _
theorem cge_none {x : Int} : ∀ {l : List Int}, (∀ a, a ∈ l → a < x) → cge x l = 0
 | [], _ => rfl
 | a :: l, h => by
  rw [cge_cons, if_neg (by have := h a List.mem_cons_self; omega), cge_none (fun b hb => h b (List.mem_cons_of_mem _ hb))]
theorem cge_le_of {l r : List Int} {x y : Int} (h : l.length = r.length) (hp : ∀ i, i < l.length → x ≤ iAt l i → y ≤ iAt r i) : cge x l ≤ cge y r := by
 induction l generalizing r with
 | nil => exact Nat.zero_le _
 | cons a l ih =>
  cases r with
  | nil => simp at h
  | cons b r =>
   rw [cge_cons, cge_cons]
   have h1 := ih (r := r) (by simpa using h) (fun i hi => by have := hp (i + 1) (by simpa using hi); simpa [iAt] using this)
   have h2 := hp 0 (by simp)
   simp only [iAt, List.getD_cons_zero] at h2
   split
   ·rw [if_pos (h2 (by assumption))]; omega
   ·omega
theorem fall_cge : ∀ (D : List Int), D.Pairwise (fun a b => b ≤ a) → ∀ (x : Int) (i : Nat), i < D.length → (x ≤ iAt D i ↔ i < cge x D)
 | [], _, _, _, h => by simp at h
 | a :: r, hD, x, i, hi => by
  have h := List.pairwise_cons.1 hD
  rw [cge_cons]
  by_cases hx : x ≤ a
  ·rw [if_pos hx]
   cases i with
   | zero => simp [iAt, hx]
   | succ i =>
    have := fall_cge r h.2 x i (by simpa using hi)
    have e : iAt (a :: r) (i + 1) = iAt r i := by simp [iAt]
    rw [e, this]; omega
  ·rw [if_neg hx]
   have h0 : cge x r = 0 := cge_none fun b hb => by have := h.1 b hb; omega
   rw [h0]
   constructor
   ·intro h1
    exfalso
    cases i with
    | zero => simp [iAt] at h1; omega
    | succ i =>
     have hi' : i < r.length := by simpa using hi
     have e : iAt (a :: r) (i + 1) = r[i] := by rw [iAt_lt _ _ hi]; rfl
     have := h.1 r[i] (List.getElem_mem _)
     omega
   ·intro h1; omega
theorem srt_pw (l : List Int) : (srt l).Pairwise (fun a b => b ≤ a) := List.pairwise_map.2 (ordTo_fall l l.length)
theorem srt_cge (l : List Int) (x : Int) (i : Nat) (h : i < l.length) : x ≤ iAt (srt l) i ↔ i < cge x l := by
 rw [fall_cge _ (srt_pw l) x i (by rw [srt_length]; exact h), cge_perm (srt_perm l)]
theorem srt_le {l r : List Int} (hl : l.length = r.length) (i : Nat) (hi : i < l.length) (h : cge (iAt (srt l) i) l ≤ cge (iAt (srt l) i) r) : iAt (srt l) i ≤ iAt (srt r) i := by
 rw [srt_cge r _ i (by omega)]
 have := (srt_cge l _ i hi).1 (Int.le_refl _)
 omega
theorem srt_of_perm {l r : List Int} (h : l.Perm r) : srt l = srt r := by
 have hl := h.length_eq
 refine ints_ext (by rw [srt_length, srt_length, hl]) fun i hi => ?_
 rw [srt_length] at hi
 have h1 := srt_le hl i hi (Nat.le_of_eq (cge_perm h _))
 have h2 := srt_le hl.symm i (by omega) (Nat.le_of_eq (cge_perm h.symm _))
 omega
theorem srt_pointwise {l r : List Int} (hl : l.length = r.length) (h : ∀ i, i < l.length → iAt l i ≤ iAt r i) (i : Nat) (hi : i < l.length) : iAt (srt l) i ≤ iAt (srt r) i :=
 srt_le hl i hi (cge_le_of hl fun j hj hx => by have := h j hj; omega)
theorem best_ge (D : List Int) (m k j : Nat) (h1 : jLo m k ≤ j) (h2 : j ≤ k) : vJ D k j ≤ (bestP D m k).2 := by
 have := (bst_max D k (jLo m k) (k - jLo m k + 1)).1 (j - jLo m k) (by omega)
 rwa [show jLo m k + (j - jLo m k) = j by omega] at this
theorem vJ_nn {D : List Int} (hwd : ∀ i, 0 ≤ iAt D i ∧ iAt D i ≤ 1000000000000) (k j : Nat) : 0 ≤ vJ D k j := by
 have a := hwd (k - 1)
 have b := hwd (2 * k - j - 1)
 have c := hwd (j - 1)
 have m := mn_spec (iAt D (k - 1) + iAt D (2 * k - j - 1)) (iAt D (j - 1))
 unfold vJ; split <;> omega
theorem best_at {D : List Int} (hwd : ∀ i, 0 ≤ iAt D i ∧ iAt D i ≤ 1000000000000) (m k : Nat) (hkm : k ≤ m) : ∃ j, jLo m k ≤ j ∧ j ≤ k ∧ bestP D m k = ((j : Int), vJ D k j) := by
 have hj : jLo m k ≤ k := by unfold jLo; omega
 obtain ⟨s, h1, h2, _⟩ := (bst_max D k (jLo m k) (k - jLo m k + 1)).2 (by omega) (fun s _ => vJ_nn hwd k _)
 exact ⟨jLo m k + s, by omega, by omega, h2⟩
theorem worst_at {l : List Int} {f lost : Int} (hok : spOk l f lost = true) : ∃ j, jLo (spM l f lost) (spK l f lost) ≤ j ∧ j ≤ spK l f lost ∧ worst l f lost = vJ (srt l) (spK l f lost) j := by
 have hm := sp_mk hok
 have hd := srt_bd l ((spOk_iff l f lost).1 hok).1.2
 obtain ⟨j, h1, h2, h3⟩ := best_at hd (spM l f lost) (spK l f lost) hm.2.2.2.1
 exact ⟨j, h1, h2, by rw [worst_ok hok, h3]⟩
theorem worst_ge {l : List Int} {f lost : Int} (hok : spOk l f lost = true) (j : Nat) (h1 : jLo (spM l f lost) (spK l f lost) ≤ j) (h2 : j ≤ spK l f lost) : vJ (srt l) (spK l f lost) j ≤ worst l f lost := by
 rw [worst_ok hok]; exact best_ge _ _ _ _ h1 h2
theorem vJ_spec (D : List Int) (k j : Nat) : vJ D k j ≤ iAt D (k - 1) + iAt D (2 * k - j - 1) ∧ (0 < j → vJ D k j ≤ iAt D (j - 1)) ∧ (∀ x, x ≤ iAt D (k - 1) + iAt D (2 * k - j - 1) → (0 < j → x ≤ iAt D (j - 1)) → x ≤ vJ D k j) := by
 have m := mn_spec (iAt D (k - 1) + iAt D (2 * k - j - 1)) (iAt D (j - 1))
 unfold vJ
 split
 ·rename_i h
  exact ⟨by omega, fun _ => by omega, fun x h1 h2 => by have := h2 h; omega⟩
 ·rename_i h
  exact ⟨Int.le_refl _, fun h' => absurd h' h, fun x h1 _ => h1⟩
theorem vJ_le {D E : List Int} {n k j : Nat} (h : ∀ i, i < n → iAt D i ≤ iAt E i) (hk : 1 ≤ k) (hkn : k ≤ n) (hj : j ≤ k) (h2 : 2 * k - j ≤ n) : vJ D k j ≤ vJ E k j := by
 have a := vJ_spec D k j
 have b := h (k - 1) (by omega)
 have c := h (2 * k - j - 1) (by omega)
 refine (vJ_spec E k j).2.2 _ (by omega) (fun h0 => ?_)
 have d := h (j - 1) (by omega)
 have := a.2.1 h0
 omega
theorem worst_mono {l r : List Int} {f lost : Int} (hl : l.length = r.length) (h : ∀ i, i < l.length → iAt l i ≤ iAt r i) (h1 : spOk l f lost = true) (h2 : spOk r f lost = true) : worst l f lost ≤ worst r f lost := by
 have e1 : spM r f lost = spM l f lost := by unfold spM; rw [hl]
 have e2 : spK r f lost = spK l f lost := by unfold spK; rw [hl]
 have hm := sp_mk h1
 obtain ⟨j, j1, j2, j3⟩ := worst_at h1
 have hg := worst_ge h2 j (by rw [e1, e2]; exact j1) (by rw [e2]; exact j2)
 rw [e2] at hg
 rw [j3]
 refine Int.le_trans (vJ_le (n := l.length) (srt_pointwise hl h) hm.2.2.1 (by omega) j2 ?_) hg
 unfold jLo at j1; omega
end Go.Proofs.Ytlmcoollkmhanaa
