
/- The reference of cert: its small functions. -/
import Derived.Test.YtlmcoollkmhanaaGreatCtI
namespace Go.Proofs.YtlmcoollkmhanaaGreat
open Go.RowKit

set_option maxRecDepth 100000 in
set_option maxHeartbeats 400000 in
theorem R31Has_any (v : Value) (l : List Int) (x : Int) (w : World) (hv : IsRow w v l) :
  Calls Tryz.prog 20 #[v, .int .i64 x] w fun e w' => e = .returned (.bool (decide (x ∈ l))) ∧ w = w' := by
 obtain ⟨a, cap, rfl, h1, h2, h3⟩ := hv
 go_enter Tryz.func20, Tryz.ntmps20
 go_wp2
 go_loop [5] (fun i => ∃ k : Nat, k ≤ l.length ∧ i = .int .i64 k ∧ Hid (∀ j, j < k → iAt l j ≠ x)) (fun i => l.length - (intOf i).toNat)
 case atStart => exact ⟨0, Nat.zero_le _, rfl, hide (fun j hj => by omega)⟩
 case round =>
  obtain ⟨k, hk, rfl, Hall⟩ := hrel
  by_cases hlt : k < l.length
  ·obtain ⟨b, off, rfl, h4, h5⟩ := h3 k hlt
   have hm := iAt_mem hlt
   clear h3
   by_cases hb : iAt l k = x
   ·rw [hb] at h5 hm
    have hd : decide (x ∈ l) = true := decide_eq_true hm
    have Hd := hide hd
    have d1 : (x == x) = true := by simp
    clear hm hb hd
    go_wp2
    go_ret
    exact ⟨ret_bool Hd.out.symm, rfl⟩
   ·have d1 : (iAt l k == x) = false := by rw [beq_eq_false_iff_ne]; exact hb
    have Hb := hide hb
    clear hb hm
    go_wp2
    go_round
    case rel => exact ⟨k + 1, by omega, by go_num, hide (fun j hj => by
     rcases Nat.lt_or_ge j k with h | h
     ·exact Hall.out j h
     ·obtain rfl : j = k := by omega
      exact Hb.out)⟩
    case measure => simp [intOf]; omega
  ·clear h3
   have hd : decide (x ∈ l) = false := decide_eq_false fun hx => by
    obtain ⟨j, hj, e⟩ := List.mem_iff_getElem.1 hx
    exact Hall.out j (by omega) (by rw [iAt_lt l j hj]; exact e)
   have Hd := hide hd
   clear hd
   go_wp2
   go_ret
   exact ⟨ret_bool Hd.out.symm, rfl⟩
def wouL (l o : List Int) : List Int := l.filter fun x => !decide (x ∈ o)
theorem wouL_snoc_in {l o : List Int} {k : Nat} (hk : k < l.length) (h : iAt l k ∈ o) : wouL (l.take (k + 1)) o = wouL (l.take k) o := by
 have e : l.take (k + 1) = l.take k ++ [iAt l k] := by rw [iAt_lt l k hk]; simp
 rw [e]; unfold wouL; rw [List.filter_append]; simp [h]
theorem wouL_snoc_out {l o : List Int} {k : Nat} (hk : k < l.length) (h : ¬ iAt l k ∈ o) : wouL (l.take (k + 1)) o = wouL (l.take k) o ++ [iAt l k] := by
 have e : l.take (k + 1) = l.take k ++ [iAt l k] := by rw [iAt_lt l k hk]; simp
 rw [e]; unfold wouL; rw [List.filter_append]; simp [h]
theorem wouL_len (l o : List Int) (k : Nat) : (wouL (l.take k) o).length ≤ k := by
 unfold wouL
 have h1 := List.length_filter_le (fun x => !decide (x ∈ o)) (l.take k)
 have h2 := List.length_take_le k l
 omega
set_option maxRecDepth 100000 in
set_option maxHeartbeats 1000000 in
theorem R31Without_any (v : Value) (l : List Int) (ov : Value) (o : List Int) (w : World) (hv : IsRow w v l) (ho : IsRow w ov o) (hn : l.length ≤ 1000) :
  Calls Tryz.prog 42 #[v, ov] w fun e w' => ∃ v', e = .returned v' ∧ OwnIs w' w.heap.size v' (wouL l o) ∧ Below w.heap.size w w' := by
 obtain ⟨i0, hi0, hz0, hz1, hz2⟩ := info_parts infoInt
 have HR := hide (fun (W : World) (hW : Below w.heap.size w W) => (And.intro (hv.below (Nat.le_refl _) hW) (ho.below (Nat.le_refl _) hW) : IsRow W v l ∧ IsRow W ov o))
 obtain ⟨va, vc, rfl, p1, p2, -⟩ := id hv
 clear hv ho
 go_enter Tryz.func42, Tryz.ntmps42
 go_wp2
 go_loopw [5, 6] (fun s5 s6 wx => ∃ k : Nat, k ≤ l.length ∧ s6 = .int .i64 k ∧ OwnIs wx w.heap.size s5 (wouL (l.take k) o) ∧ Below w.heap.size w wx) (fun _ s6 _ => l.length - (intOf s6).toNat)
 case atStart => exact ⟨0, Nat.zero_le _, rfl, ⟨by simp [wouL, encI], .inl ⟨rfl, rfl⟩⟩, Below.refl _ _⟩
 case round =>
  obtain ⟨k, hk, rfl, hown, hB⟩ := hrel
  by_cases hlt : k < l.length
  ·obtain ⟨L, hL⟩ : ∃ L, L = wouL (l.take k) o := ⟨_, rfl⟩
   have hlk : L.length ≤ k := by rw [hL]; exact wouL_len l o k
   rw [← hL] at hown
   have hown' := hown
   unfold OwnIs at hown'
   have Hlow := hide (World.ownsRow.lt hown')
   have HB := hide hB
   have hzB := hB.size
   have Hown := hide hown
   obtain ⟨a', cap', hv', -, -, h3⟩ := (HR.out _ hB).1
   cases hv'
   obtain ⟨b, off, rfl, h4, h5⟩ := h3 k hlt
   obtain ⟨x, hx⟩ : ∃ x, x = iAt l k := ⟨_, rfl⟩
   rw [← hx] at h5
   clear h3 hown hB
   by_cases hm : x ∈ o
   ·have hsn := wouL_snoc_in (o := o) hlt (by rw [← hx]; exact hm)
    rw [← hL] at hsn
    have Hsn := hide hsn
    have hd : decide (x ∈ o) = true := decide_eq_true hm
    clear hsn hL hx hm hown'
    go_wp2_with (go_at_call 20; (with_reducible refine (R31Has_any _ o _ _ (HR.out _ HB.out).2).mono ?_); rintro e w1 ⟨rfl, rfl⟩; rw [hd])
    go_roundw
    case rel => exact ⟨k + 1, by omega, by go_num, by rw [Hsn.out]; exact Hown.out, HB.out⟩
    case measure => simp [intOf]; omega
   ·have hsn := wouL_snoc_out (o := o) hlt (by rw [← hx]; exact hm)
    rw [← hL, ← hx] at hsn
    have Hsn := hide hsn
    have hd : decide (x ∈ o) = false := decide_eq_false hm
    clear hsn hL hx hm
    go_wp2_with (first | (go_at_call 20; (with_reducible refine (R31Has_any _ o _ _ (HR.out _ HB.out).2).mono ?_); rintro e w1 ⟨rfl, rfl⟩; rw [hd]) | (at_builtin; refine wpList_append_own _ rfl _ _ 25 rfl w.heap.size 3 i0 (.int .i64 0) 1 8 Tryz.underlying25 hi0 hz0 hz1 hz2 rfl (by decide) _ L.length (encI L) rfl (World.ownsRow.alloc hown' _) ⟨wr.heap.size, 0, none⟩ 1 1 [.int .i64 x] rfl rfl (cells_new wr [.int .i64 x] _) (by simp [Value.oneCell']) (by unfold maxLen; omega) (by omega) (by simp; omega) ?_; intro v3 w3 hown3 hg3 _))
    have hB3 : Below w.heap.size w w3 := Below.grown (by ((with_reducible repeat' first | exact .refl _ _ | exact HB.out | refine .alloc ?_ ?_ _ | refine .setCell ?_ ?_ _ | refine .drew ?_ | refine below_drewN ?_ _ | refine Below.trans ?_ (HB.out.mono ?_)) <;> first | omega | simp <;> omega)) hg3 (by simp; omega) (fun r h => (Hlow.out r h).1)
    have hown4 : OwnIs w3 w.heap.size v3 (L ++ [x]) := OwnIs.app hown3
    go_roundw
    case rel => exact ⟨k + 1, by omega, by go_num, by rw [Hsn.out]; exact hown4, hB3⟩
    case measure => simp [intOf]; omega
  ·obtain rfl : k = l.length := by omega
   rw [List.take_length] at hown
   go_wp2
   go_ret
   exact ⟨_, rfl, hown, hB⟩
end Go.Proofs.YtlmcoollkmhanaaGreat
