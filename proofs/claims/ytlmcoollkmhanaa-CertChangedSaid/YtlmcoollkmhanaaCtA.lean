
/- Package cert: isList, common, and slices.Clone of a list that may be empty, walked. -/
import Derived.Test.YtlmcoollkmhanaaCtP
import Derived.Test.YtlmcoollkmhanaaCli
import Derived.Test.YtlmcoollkmhanaaApp
import Derived.Test.YtlmcoollkmhanaaGe
namespace Go.Proofs.Ytlmcoollkmhanaa
open Go.RowKit
attribute [local go_sem] Oper.semAt_some

set_option maxRecDepth 100000 in
set_option maxHeartbeats 1000000 in
theorem CloneW_any (v : Value) (c : List Int) (w : World) (hv : IsRow w v c) (h2 : c.length ≤ 1000) :
  Calls Try.prog 22 #[v] w fun e w' => ∃ v', e = .returned v' ∧ OwnIs w' w.heap.size v' c ∧ Below w.heap.size w w' := by
 obtain ⟨i0, hi0, hz0, hz1, hz2⟩ := info_parts infoInt
 obtain ⟨a, cap, rfl, g1, g2, g3⟩ := id hv
 cases a with
 | none =>
  have hnil : ∀ W : World, (binOp .eql 25 (.slice none c.length cap) (.slice none 0 0)).run Try.prog W = .ok (.bool true) W := fun W => Lib.run_eql_slice_nil W _ _ _ _ _ _ _ Try.underlying25
  have h0 : c = [] := by
   refine List.eq_nil_of_length_eq_zero (Nat.eq_zero_of_not_pos fun h => ?_)
   obtain ⟨b, off, e, -⟩ := g3 0 h
   cases e
  clear g3 hv
  subst h0
  simp only [List.length_nil] at hnil ⊢
  go_enter Try.func22, Try.ntmps22
  go_wp2_with fail
  go_ret
  exact ⟨_, rfl, OwnIs.nil _ _, Below.refl _ _⟩
 | some ad =>
  have hnil : ∀ W : World, (binOp .eql 25 (.slice (some ad) c.length cap) (.slice none 0 0)).run Try.prog W = .ok (.bool false) W := fun W => Lib.run_eql_slice_nil W _ _ _ _ _ _ _ Try.underlying25
  have Hs := hide (fun (V : World) (hV : Below w.heap.size w V) => src_is (hv.below (Nat.le_refl _) hV))
  clear g3 hv
  go_enter Try.func22, Try.ntmps22
  go_wp2_with (at_builtin; refine wpList_append_src _ rfl _ _ 25 rfl w.heap.size 3 i0 (.int .i64 0) 1 8 Try.underlying25 hi0 hz0 hz1 hz2 rfl (by decide) _ 0 [] rfl (owns_newI (base := w.heap.size) (World.alloc_heap_new w _) (Nat.le_refl _)) _ c.length (encI c) rfl (Hs.out _ ((Below.refl _ _).alloc (Nat.le_refl _) _)) (encI_one c) (by unfold maxLen; omega) (by omega) (by simp) ?_; intro v3 w3 hown3 hg3 _)
  go_ret
  refine ⟨_, rfl, ?_, ((Below.refl _ _).alloc (Nat.le_refl _) _).grown hg3 (by simp) (fun r h => by cases h; exact Nat.le_refl _)⟩
  rw [Nat.zero_add, List.nil_append] at hown3
  exact hown3
theorem isB_no {l : List Int} {k : Int} {n j : Nat} (hj : j < l.length) (h : ¬ (0 ≤ iAt l j ∧ iAt l j < n) ∨ iAt l j ≤ (if j = 0 then -1 else iAt l (j - 1))) : isB l k n = false := by
 cases hb : isB l k n with
 | false => rfl
 | true =>
  obtain ⟨h1, h2, -⟩ := (isB_iff _ _ _).1 hb
  have h3 := h1 j hj
  have h4 := h2 j hj
  omega
def IsTo (l : List Int) (n k : Nat) : Prop := ∀ j, j < k → (0 ≤ iAt l j ∧ iAt l j < n) ∧ (if j = 0 then -1 else iAt l (j - 1)) < iAt l j
theorem isB_end {l : List Int} {n : Nat} (h : IsTo l n l.length) (k : Int) : isB l k n = decide ((l.length : Int) = k) := by
 rw [Bool.eq_iff_iff, isB_iff, decide_eq_true_eq]
 exact ⟨fun g => g.2.2, fun g => ⟨fun j hj => (h j hj).1, fun j hj => (h j hj).2, g⟩⟩
theorem IsTo.step {l : List Int} {n k : Nat} (h : IsTo l n k) (h1 : 0 ≤ iAt l k ∧ iAt l k < n) (h2 : (if k = 0 then -1 else iAt l (k - 1)) < iAt l k) : IsTo l n (k + 1) := by
 intro j hj
 rcases Nat.lt_or_ge j k with h3 | h3
 ·exact h j h3
 ·obtain rfl : j = k := by omega
  exact ⟨h1, h2⟩
set_option maxRecDepth 100000 in
set_option maxHeartbeats 1000000 in
theorem isList_any (v : Value) (l : List Int) (k : Int) (n : Nat) (w : World) (hv : IsRow w v l) :
  Calls Try.prog 26 #[v, .int .i64 k, .int .i64 n] w fun e w' => e = .returned (.bool (isB l k n)) ∧ w = w' := by
 obtain ⟨a, cap, rfl, g1, g2, g3⟩ := hv
 obtain ⟨N, hN⟩ : ∃ N : Int, N = n := ⟨_, rfl⟩
 rw [← hN]
 have HN := hide hN
 clear hN
 go_enter Try.func26, Try.ntmps26
 go_wp2_with fail
 go_loopw [11] (fun s11 wr => ∃ j : Nat, j ≤ l.length ∧ s11 = .int .i64 j ∧ Hid (IsTo l n j) ∧ w = wr) (fun s11 _ => l.length - (intOf s11).toNat)
 case atStart => exact ⟨0, Nat.zero_le _, rfl, hide (fun j hj => by omega), rfl⟩
 case round =>
  obtain ⟨j, hj, rfl, Hr, rfl⟩ := hrel
  by_cases hlt : j < l.length
  ·obtain ⟨b, off, rfl, h4, h5⟩ := g3 j hlt
   have I1 : (0 : Int) ≤ (j : Int) := by omega
   have I2 : (j : Int) < (l.length : Int) := by omega
   by_cases c1 : iAt l j < 0
   ·have d1 : decide (iAt l j < 0) = true := decide_eq_true c1
    have hb := isB_no (k := k) (n := n) hlt (.inl (by omega))
    have Hb := hide hb
    clear g3 hb c1
    generalize iAt l j = q at *
    go_wp2_with fail
    go_ret
    exact ⟨by rw [Hb.out]; rfl, rfl⟩
   ·by_cases c2 : N ≤ iAt l j
    ·have d1 : decide (iAt l j < 0) = false := decide_eq_false c1
     have d2 : decide (N ≤ iAt l j) = true := decide_eq_true c2
     have hb := isB_no (k := k) (n := n) hlt (.inl (by have := HN.out; omega))
     have Hb := hide hb
     clear g3 hb c1 c2
     generalize iAt l j = q at *
     go_wp2_with fail
     go_ret
     exact ⟨by rw [Hb.out]; rfl, rfl⟩
    ·have d1 : decide (iAt l j < 0) = false := decide_eq_false c1
     have d2 : decide (N ≤ iAt l j) = false := decide_eq_false c2
     by_cases hj0 : j = 0
     ·have d3 : decide ((0 : Int) < (j : Int)) = false := decide_eq_false (by omega)
      have d3' : decide (0 < j) = false := decide_eq_false (by omega)
      have d3n : ¬ (0 < j) := by omega
      have hs := Hr.out.step (by have := HN.out; omega) (by rw [if_pos hj0]; omega)
      have Hs := hide hs
      clear g3 hs c1 c2 Hr hj0
      generalize iAt l j = q at *
      go_wp2_with fail
      go_roundw
      case rel => exact ⟨j + 1, by omega, by go_num, Hs, by first | rfl | trivial⟩
      case measure => simp [intOf]; omega
     ·obtain ⟨b', off', e, h6, h7⟩ := g3 (j - 1) (by omega)
      cases e
      have I3 : (0 : Int) ≤ ((j - 1 : Nat) : Int) := by omega
      have I4 : ((j - 1 : Nat) : Int) < (l.length : Int) := by omega
      have d3 : decide ((0 : Int) < (j : Int)) = true := decide_eq_true (by omega)
      have wj : IntKind.i64.wrap ((j : Int) - 1) = ((j - 1 : Nat) : Int) := by
       rw [show (j : Int) - 1 = ((j - 1 : Nat) : Int) by omega]; exact IntWalk.i64_in _ (by omega)
      by_cases c3 : iAt l j ≤ iAt l (j - 1)
      ·have d4 : decide (iAt l j ≤ iAt l (j - 1)) = true := decide_eq_true c3
       have hb := isB_no (k := k) (n := n) hlt (.inr (by rw [if_neg hj0]; exact c3))
       have Hb := hide hb
       clear g3 hb c1 c2 c3
       generalize iAt l j = q at *
       generalize iAt l (j - 1) = q' at *
       generalize j - 1 = jp at *
       go_wp2_with fail
       go_ret
       exact ⟨by rw [Hb.out]; rfl, rfl⟩
      ·have d4 : decide (iAt l j ≤ iAt l (j - 1)) = false := decide_eq_false c3
       have hs := Hr.out.step (by have := HN.out; omega) (by rw [if_neg hj0]; omega)
       have Hs := hide hs
       clear g3 hs c1 c2 c3 Hr
       generalize iAt l j = q at *
       generalize iAt l (j - 1) = q' at *
       generalize j - 1 = jp at *
       go_wp2_with fail
       go_roundw
       case rel => exact ⟨j + 1, by omega, by go_num, Hs, by first | rfl | trivial⟩
       case measure => simp [intOf]; omega
  ·obtain rfl : j = l.length := by omega
   have hb := isB_end Hr.out k
   have Hb := hide hb
   clear g3 hb
   go_wp2_with fail
   go_ret
   exact ⟨by rw [Hb.out]; rfl, rfl⟩
set_option maxRecDepth 100000 in
set_option maxHeartbeats 400000 in
theorem common1_any (x : Int) (c : Nat) (bv : Value) (b : List Int) (w : World) (hc : w.cell? ⟨c, 0, none⟩ = some bv) (hb : IsRow w bv b) :
  Calls Try.prog 41 #[.int .i64 x, .pointer (some ⟨c, 0, none⟩)] w fun e w' => e = .returned (.bool (decide (x ∈ b))) ∧ w = w' := by
 obtain ⟨a, cap, rfl, g1, g2, g3⟩ := id hb
 have Hb := hide hb
 clear g3 hb
 go_enter Try.func41, Try.ntmps41
 go_wp2_with (go_at_call 28; refine (ContainsN_any _ b x _ Hb.out).mono ?_; rintro e w' ⟨rfl, rfl⟩)
 go_ret
 exact ⟨rfl, rfl⟩
set_option maxRecDepth 100000 in
set_option maxHeartbeats 1000000 in
theorem IndexFuncI_any (v : Value) (l : List Int) (c : Nat) (bv : Value) (b : List Int) (w : World) (hv : IsRow w v l) (hc : w.cell? ⟨c, 0, none⟩ = some bv) (hb : IsRow w bv b) :
  Calls Try.prog 50 #[v, .func (.func 41) #[] #[.pointer (some ⟨c, 0, none⟩)]] w fun e w' => (∃ r : Int, e = .returned (.int .i64 r) ∧ (r < 0 ∧ cmB l b = false ∨ 0 ≤ r ∧ cmB l b = true)) ∧ w = w' := by
 obtain ⟨a, cap, rfl, h1, h2, h3⟩ := hv
 have HC := hide (fun x => common1_any x c bv b w hc hb)
 clear hc hb
 go_enter Try.func50, Try.ntmps50
 go_wp2_with fail
 go_loopw [8] (fun s8 wr => ∃ k : Nat, k ≤ l.length ∧ s8 = .int .i64 k ∧ Hid (∀ j, j < k → iAt l j ∉ b) ∧ w = wr) (fun s8 _ => l.length - (intOf s8).toNat)
 case atStart => exact ⟨0, Nat.zero_le _, rfl, hide (fun j hj => by omega), rfl⟩
 case round =>
  obtain ⟨k, hk, rfl, Hall, rfl⟩ := hrel
  by_cases hlt : k < l.length
  ·obtain ⟨b', off, rfl, h4, h5⟩ := h3 k hlt
   have hm := iAt_mem hlt
   clear h3
   by_cases hx : iAt l k ∈ b
   ·have d1 : decide (iAt l k ∈ b) = true := decide_eq_true hx
    have hcm : cmB l b = true := by
     cases e : cmB l b with
     | true => rfl
     | false => exact absurd hx ((cmB_iff l b).1 e _ hm)
    have Hcm := hide hcm
    clear hm hcm hx
    generalize iAt l k = q at *
    go_wp2_with ((refine (HC.out _).mono ?_); rintro e w' ⟨rfl, rfl⟩; rw [d1])
    go_ret
    exact ⟨⟨_, rfl, .inr ⟨by omega, Hcm.out⟩⟩, rfl⟩
   ·have d1 : decide (iAt l k ∈ b) = false := decide_eq_false hx
    have hn : ∀ j, j < k + 1 → iAt l j ∉ b := fun j hj => by
     rcases Nat.lt_or_ge j k with h | h
     ·exact Hall.out j h
     ·obtain rfl : j = k := by omega
      exact hx
    have Hn := hide hn
    clear hm hx hn
    generalize iAt l k = q at *
    go_wp2_with ((refine (HC.out _).mono ?_); rintro e w' ⟨rfl, rfl⟩; rw [d1])
    go_roundw
    case rel => exact ⟨k + 1, by omega, by go_num, Hn, by first | rfl | trivial⟩
    case measure => simp [intOf]; omega
  ·clear h3
   obtain rfl : k = l.length := by omega
   have hcm : cmB l b = false := (cmB_iff l b).2 fun x hx => by
    obtain ⟨j, hj, rfl⟩ := List.mem_iff_getElem.1 hx
    rw [← iAt_lt l j hj]
    exact Hall.out j hj
   have Hcm := hide hcm
   clear hcm
   go_wp2_with fail
   go_ret
   exact ⟨⟨_, rfl, .inl ⟨by omega, Hcm.out⟩⟩, rfl⟩
set_option maxRecDepth 100000 in
set_option maxHeartbeats 400000 in
theorem ContainsFuncI_any (v : Value) (l : List Int) (c : Nat) (bv : Value) (b : List Int) (w : World) (hv : IsRow w v l) (hc : w.cell? ⟨c, 0, none⟩ = some bv) (hb : IsRow w bv b) :
  Calls Try.prog 34 #[v, .func (.func 41) #[] #[.pointer (some ⟨c, 0, none⟩)]] w fun e w' => e = .returned (.bool (cmB l b)) ∧ w = w' := by
 obtain ⟨a, cap, rfl, -⟩ := id hv
 have HI := hide (IndexFuncI_any _ l c bv b w hv hc hb)
 clear hv hc hb
 go_enter Try.func34, Try.ntmps34
 go_wp2_with (go_at_call 50; refine HI.out.mono ?_; rintro e w' ⟨⟨r, rfl, hr⟩, rfl⟩; have Hr := hide hr; clear hr)
 go_ret
 refine ⟨ret_bool ?_, rfl⟩
 rcases Hr.out with ⟨h1, h2⟩ | ⟨h1, h2⟩ <;> simp [h2] <;> omega
set_option maxRecDepth 100000 in
set_option maxHeartbeats 400000 in
theorem common_any (v : Value) (l : List Int) (bv : Value) (b : List Int) (w : World) (hv : IsRow w v l) (hb : IsRow w bv b) :
  Calls Try.prog 27 #[v, bv] w fun e w' => e = .returned (.bool (cmB l b)) ∧ Below w.heap.size w w' := by
 obtain ⟨a, cap, rfl, -⟩ := id hv
 obtain ⟨a', cap', rfl, -⟩ := id hb
 have bW : Below w.heap.size w (w.alloc (.cells #[.slice a' b.length cap'] 25)) := (by ((with_reducible repeat' first | exact .refl _ _ | refine .alloc ?_ ?_ _ | refine .setCell ?_ ?_ _ | refine .drew ?_ | refine below_drewN ?_ _) <;> first | omega | simp <;> omega))
 have HI := hide (ContainsFuncI_any _ l w.heap.size _ b (w.alloc (.cells #[.slice a' b.length cap'] 25)) (hv.below (Nat.le_refl _) bW) (by simp) (hb.below (Nat.le_refl _) bW))
 have HB := hide bW
 clear hv hb bW
 go_enter Try.func27, Try.ntmps27
 go_wp2_with (go_at_call 34; refine HI.out.mono ?_; rintro e w' ⟨rfl, rfl⟩)
 go_ret
 exact ⟨rfl, HB.out⟩
end Go.Proofs.Ytlmcoollkmhanaa
