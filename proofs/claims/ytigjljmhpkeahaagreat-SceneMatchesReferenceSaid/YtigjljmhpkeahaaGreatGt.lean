
/- Parts SpS SpT SpU of the proof, joined. -/
import Derived.Test.YtigjljmhpkeahaaGreatGf
import Derived.Test.YtigjljmhpkeahaaGreatGs
import Derived.Deep.RegionHeld3
/- The reference of layer 15: rising, Pick. -/
namespace Go.Proofs.YtigjljmhpkeahaaGreat
open Go.RowKit Go.Shelf
attribute [local go_sem ↓] run_max_mx run_min_mn
def risI (l : List Int) (x : Int) : Nat → List Int
 | 0 => []
 | k + 1 => if iAt l k = x then risI l x k ++ [x] else risI l x k
def risO (l : List Int) : Nat → List Int
 | 0 => []
 | i + 1 => risO l i ++ risI l (i : Int) l.length
theorem risI_length (l : List Int) (x : Int) : ∀ k, (risI l x k).length ≤ k
 | 0 => Nat.le_refl _
 | k + 1 => by have := risI_length l x k; unfold risI; split <;> simp <;> omega
theorem risO_length (l : List Int) : ∀ i, (risO l i).length ≤ i * l.length
 | 0 => by simp [risO]
 | i + 1 => by
  have := risO_length l i
  have := risI_length l (i : Int) l.length
  rw [risO, List.length_append, Nat.add_mul, Nat.one_mul]; omega
theorem risI_mem (l : List Int) (x : Int) : ∀ k y, y ∈ risI l x k → y = x
 | 0, y, h => by simp [risI] at h
 | k + 1, y, h => by
  unfold risI at h
  split at h
  ·rcases List.mem_append.1 h with h | h
   ·exact risI_mem l x k y h
   ·simpa using h
  ·exact risI_mem l x k y h
theorem risI_count (l : List Int) (x : Int) : ∀ k, k ≤ l.length → (risI l x k).count x = (l.take k).count x
 | 0, _ => by simp [risI]
 | k + 1, h => by
  have e : risI l x (k + 1) = if iAt l k = x then risI l x k ++ [x] else risI l x k := rfl
  rw [take_snoc_is l k h, List.count_append, ← risI_count l x k (by omega), e]
  by_cases hx : iAt l k = x
  ·rw [if_pos hx, List.count_append, hx]
  ·rw [if_neg hx, List.count_cons, List.count_nil]
   simp [hx]
theorem risI_count_ne (l : List Int) {x y : Int} (h : y ≠ x) (k : Nat) : (risI l x k).count y = 0 :=
 List.count_eq_zero.2 fun hm => h (risI_mem l x k y hm)
theorem risO_count (l : List Int) (y : Int) : ∀ i, (risO l i).count y = if 0 ≤ y ∧ y < i then l.count y else 0
 | 0 => by simp [risO]; omega
 | i + 1 => by
  rw [risO, List.count_append, risO_count l y i]
  by_cases e : y = i
  ·subst e
   have := risI_count l (i : Int) l.length (Nat.le_refl _)
   rw [List.take_length] at this
   rw [this, if_neg (by omega), if_pos (by omega)]; omega
  ·rw [risI_count_ne l e]
   by_cases h : 0 ≤ y ∧ y < i
   ·rw [if_pos h, if_pos (by omega)]; rfl
   ·rw [if_neg h, if_neg (by omega)]
theorem risO_mem (l : List Int) : ∀ i y, y ∈ risO l i → y < i
 | 0, y, h => by simp [risO] at h
 | i + 1, y, h => by
  rw [risO] at h
  rcases List.mem_append.1 h with h | h
  ·have := risO_mem l i y h; omega
  ·have := risI_mem l _ _ y h; omega
theorem risI_pw (l : List Int) (x : Int) (k : Nat) : (risI l x k).Pairwise (fun a b => a ≤ b) := by
 apply List.pairwise_of_forall_mem_list
 intro a ha b hb
 rw [risI_mem l x k a ha, risI_mem l x k b hb]; exact Int.le_refl _
theorem risO_pw (l : List Int) : ∀ i, (risO l i).Pairwise (fun a b => a ≤ b)
 | 0 => List.Pairwise.nil
 | i + 1 => by
  refine List.pairwise_append.2 ⟨risO_pw l i, risI_pw l _ _, fun a ha b hb => ?_⟩
  have := risO_mem l i a ha
  have := risI_mem l _ _ b hb
  omega
theorem risO_srtI {l : List Int} (h : ∀ y, y ∈ l → 0 ≤ y ∧ y < 16) : risO l 16 = srtI l := by
 refine List.Perm.eq_of_pairwise (le := fun a b => a ≤ b) (fun a b _ _ h1 h2 => by omega) (risO_pw l 16) ?_ ?_
 ·have := List.pairwise_mergeSort (le := fun x y : Int => decide (x ≤ y)) (fun a b c h1 h2 => by simp at *; omega) (fun a b => by simp; omega) l
  exact this.imp fun h => by simpa using h
 ·refine List.Perm.trans ?_ (List.mergeSort_perm l _).symm
  rw [List.perm_iff_count]
  intro y
  rw [risO_count]
  by_cases hy : 0 ≤ y ∧ y < ((16 : Nat) : Int)
  ·rw [if_pos hy]
  ·rw [if_neg hy]
   exact (List.count_eq_zero.2 fun hm => hy (by have := h y hm; omega)).symm
theorem pieceI_mem {l : List Int} {lo n : Nat} (hl : l.length ≤ 16) : ∀ y, y ∈ pieceI l lo n → 0 ≤ y ∧ y < 16 := by
 intro y hy
 have h1 := List.mem_of_mem_drop (List.mem_of_mem_take hy)
 obtain ⟨q, hq, rfl⟩ := List.mem_map.1 h1
 have := ordTo_lt (l := l) (k := l.length) hq
 omega
set_option maxRecDepth 100000 in
set_option maxHeartbeats 1000000 in
theorem Rrising_any (v : Value) (l : List Int) (w : World) (hv : IsRow w v l) (hl : l.length ≤ 1000) :
  Calls Tryz.prog 93 #[v] w fun e w' => ∃ ov, e = .returned ov ∧ OwnIs w' w.heap.size ov (risO l 16) ∧ Below w.heap.size w w' := by
 obtain ⟨a, cap, rfl, h1, h2, h3⟩ := hv
 obtain ⟨i0, hi0, hz0, hz1, hz2⟩ := info_parts infoIs
 go_enter Tryz.func93, Tryz.ntmps93
 go_wp2
 go_loopw [3, 4] (fun s3 s4 wr => ∃ i : Nat, i ≤ 16 ∧ s4 = .int .i64 i ∧ OwnIs wr w.heap.size s3 (risO l i) ∧ Below w.heap.size w wr) (fun _ s4 _ => 16 - (intOf s4).toNat)
 case atStart => exact ⟨0, by omega, rfl, OwnIs.nil _ _, Below.refl _ _⟩
 case round =>
  obtain ⟨i, hi, rfl, hown, hB⟩ := hrel
  by_cases hlt : i < 16
  ·have hd : decide ((i : Int) < 16) = true := decide_eq_true (by omega)
   go_wp2
   obtain ⟨wo, hwo⟩ : ∃ wo : World, wo = wr := ⟨_, rfl⟩
   subst hwo
   go_loopw [3, 5] (fun s3 s5 wx => ∃ k : Nat, k ≤ l.length ∧ s5 = .int .i64 k ∧ OwnIs wx w.heap.size s3 (risO l i ++ risI l (i : Int) k) ∧ Below w.heap.size w wx) (fun _ s5 _ => l.length - (intOf s5).toNat)
   case atStart => exact ⟨0, by omega, rfl, by rw [risI, List.append_nil]; exact hown, hB⟩
   case round =>
    obtain ⟨k, hk, rfl, hownk, hBk⟩ := hrel
    have hz := hBk.size
    have hlo := risO_length l i
    have hli := risI_length l (i : Int) k
    have hm : i * l.length ≤ 16 * 1000 := Nat.mul_le_mul (by omega) hl
    by_cases hkl : k < l.length
    ·obtain ⟨b, off, rfl, h4, h5⟩ := h3 k hkl
     have h5' := (hBk.cell (p := ⟨b, off + k, none⟩) h4).trans h5
     clear h5 h3
     have Hs := hide (show risI l (i : Int) (k + 1) = if iAt l k = i then risI l (i : Int) k ++ [(i : Int)] else risI l (i : Int) k from rfl)
     by_cases he : iAt l k = i
     ·have he2 : (iAt l k == (i : Int)) = true := by rw [beq_iff_eq]; exact he
      have Hs2 := hide (Hs.out.trans (if_pos he))
      obtain ⟨oa, ocap, hov, ho1, ho2⟩ := hownk.val
      have hlow := World.ownsRow.lt hownk
      have hown' := hownk
      unfold OwnIs at hown'
      have hlen : (risO l i ++ risI l (i : Int) k).length = (risO l i).length + (risI l (i : Int) k).length := by simp
      rw [hlen] at hown' hov
      subst hov
      have Hlen := hide hlen
      clear he hlen hownk
      go_wp2_with (at_builtin; refine wpList_append_own _ rfl _ _ 25 rfl w.heap.size 3 i0 (.int .i64 0) 1 8 Tryz.underlying25 hi0 hz0 hz1 hz2 rfl (by decide) _ ((risO l i).length + (risI l (i : Int) k).length) (encI (risO l i ++ risI l (i : Int) k)) rfl (World.ownsRow.alloc hown' _) ⟨wr.heap.size, 0, none⟩ 1 1 [.int .i64 i] rfl rfl (cells_new wr [.int .i64 i] _) (by simp [Value.oneCell']) (by unfold maxLen; omega) (by omega) (by simp; omega) ?_; intro v3 w3 hown3 hg3 _)
      go_roundw
      case rel =>
       refine ⟨k + 1, by omega, by go_num, by rw [Hs2.out, ← List.append_assoc]; exact OwnIs.app (by rw [Hlen.out]; exact hown3), ?_⟩
       exact (hBk.alloc (by omega) _).grown hg3 (by simp; omega) (fun r h => (hlow r h).1)
      case measure => simp [intOf]; omega
     ·have he2 : (iAt l k == (i : Int)) = false := by rw [beq_eq_false_iff_ne]; exact he
      have Hs2 := hide (Hs.out.trans (if_neg he))
      clear he
      go_wp2
      go_roundw
      case rel => exact ⟨k + 1, by omega, by go_num, by rw [Hs2.out]; exact hownk, hBk⟩
      case measure => simp [intOf]; omega
    ·obtain rfl : k = l.length := by omega
     go_wp2
     go_roundw
     case rel => exact ⟨i + 1, by omega, by go_num, hownk, hBk⟩
     case measure => simp [intOf]; omega
  ·obtain rfl : i = 16 := by omega
   clear h3
   go_wp2
   go_ret
   exact ⟨_, rfl, hown, hB⟩
theorem own_form0 {w : World} {base : Nat} {v : Value} {l : List Int} (h : OwnIs w base v (toI (ordL l))) (hl : 0 < l.length) : ∃ g cap, v = .slice (some ⟨g, 0, none⟩) l.length cap ∧ g < w.heap.size ∧ l.length ≤ cap ∧ cap ≤ 9223372036854775807 ∧ ∀ i, i < l.length → w.cell? ⟨g, 0 + i, none⟩ = some (.int .i64 (nAt (ordL l) i)) := by
 obtain ⟨b, cap, e, h1, h2, h3, h4, h5⟩ := own_hold (o := ordL l) h (by rw [ordL_length]; exact hl)
 rw [ordL_length] at e h3
 exact ⟨b, cap, e, h2, h3, h4, fun i hi => h5.1 i (by rw [ordL_length]; exact hi)⟩
set_option maxRecDepth 100000 in
set_option maxHeartbeats 2000000 in
theorem RPick_ok (v : Value) (l : List Int) (f : Nat) (lost : Int) (w : World) (hv : IsRow w v l) (hok : spOk l f lost = true) :
  Calls Tryz.prog 43 #[v, .int .i64 f, .int .i64 lost] w fun e w' => ∃ v1 v2, e = .returned (.tuple #[v1, v2, .int .i64 0]) ∧ OwnIs w' w.heap.size v1 (pickL l f lost) ∧ OwnIs w' w.heap.size v2 (goneL l f lost) ∧ Below w.heap.size w w' := by
 have hv' := hv
 obtain ⟨a, cap0, rfl, h1, h2, h3⟩ := hv
 obtain ⟨m1, m2, m3, m4, m5, m6⟩ := sp_mk hok
 have he := spEr_ok hok
 have hb := (spOk_iff l f lost).1 hok
 have hb1 := hb.2.1
 have hb2 := hb.2.2.1
 have hl0 := hb.1.1.1
 have He := hide he
 have hp : Hid (pickL l f lost = risO (pieceI l (spM l f lost) f) 16) := by show _ = _; unfold pickL; rw [if_pos hok, risO_srtI (pieceI_mem m6)]; simp
 have hg : Hid (goneL l f lost = risO (pieceI l (spM l f lost + f) (l.length - (spM l f lost + f))) 16) := by show _ = _; unfold goneL; rw [if_pos hok, risO_srtI (pieceI_mem m6)]; simp
 generalize spM l f lost = m at *
 clear hok he hb h3 m2 m3 m4
 obtain ⟨r, hr⟩ : ∃ r, m + f = r := ⟨_, rfl⟩
 obtain ⟨n2, hn2⟩ : ∃ n2, l.length - r = n2 := ⟨_, rfl⟩
 rw [hr, hn2] at hg
 have hmm : (l.length : Int) - lost - f = m := m1.symm
 have hrl : r ≤ l.length := by omega
 have hmr : m ≤ r := by omega
 have hww : IntKind.i64.wrap ((m : Int) + f) = (r : Nat) := by rw [IntWalk.i64_in _ (by omega)]; omega
 have hww2 : (m : Int) + f = (r : Nat) := by omega
 have hsub : r - m = f := by omega
 have Hr := hide hr
 have Hn2 := hide hn2
 have M1 := hide m1
 clear hr hn2 m1
 go_enter Tryz.func43, Tryz.ntmps43
 go_wp2_with fail
 refine (Rcheck_any _ l f lost _ hv' (by omega)).mono ?_
 rintro e w1 ⟨rfl, b1⟩
 rw [He.out]
 go_wp2_with fail
 refine (ROrder_any _ l _ (hv'.below (Nat.le_refl _) b1) (by omega)).mono ?_
 rintro e w2 ⟨ov, rfl, ho, b2⟩
 have z1 := b1.size
 have B2 : Below w.heap.size w w2 := (by ((repeat' (first | exact Below.refl _ _ | exact b1 | exact b2 | refine Below.alloc ?_ ?_ _ | refine Below.setCell ?_ ?_ _ | refine Below.drew ?_ | refine below_drewN ?_ _ | refine Below.trans ?_ (b1.mono ?_) | refine Below.trans ?_ (b2.mono ?_))) <;> (first | omega | (simp; done) | (simp; omega))))
 have z2 := B2.size
 obtain ⟨g, cap, rfl, g1, g2, g3, g4⟩ := own_form0 ho (by omega)
 clear ho b1 b2
 go_upto_region 6 with fail
 by_cases hcap1 : m = cap
 ·have hf0 : f = 0 := by omega
  have hn0 : n2 = 0 := by have := Hn2.out; omega
  have hrm : r = m := by omega
  subst hf0 hn0
  subst hrm
  subst hcap1
  have hwm : IntKind.i64.wrap (r : Int) = r := IntWalk.i64_in _ (by omega)
  have hp0 : IsRow w2 (.slice (some ⟨g, 0, none⟩) 0 0) [] := ⟨some ⟨g, 0, none⟩, 0, rfl, Nat.le_refl _, by omega, fun i hi => by simp at hi⟩
  have hq1 : pieceI l r 0 = [] := by simp [pieceI]
  have hn2' : l.length - r = 0 := Hn2.out
  have hrr : r - r = 0 := by omega
  have I1 : (0 : Int) ≤ (r : Int) := by omega
  have I4 : (r : Int) ≤ (l.length : Int) := by omega
  have I5 : (l.length : Int) ≤ (r : Int) := by omega
  rw [hq1] at hp hg
  clear g4
  have tok1 : True := trivial
  have tok2 : True := trivial
  go_region_held3 (fun w' => IsRow w' (.slice (some ⟨g, 0, none⟩) 0 0) []) (first | exact hp0.below (Nat.le_refl _) ((Below.refl _ _).drew) | exact hp0.below (Nat.le_refl _) ((Below.refl _ _).drew.trans (b1.mono (by simp))) | exact hp0.below (Nat.le_refl _) (((Below.refl _ _).drew.trans (b1.mono (by simp))).trans (b2.mono (by have := b1.size; simp at this; omega)))) (first | (go_at_call 93; have _t := tok1; (with_reducible refine (Rrising_any (.slice (some ⟨g, 0, none⟩) 0 0) [] _ (hp0.below (Nat.le_refl _) ((Below.refl _ _).drew)) (by simp)).mono ?_); rintro e w3 ⟨ov1, rfl, o1, b1⟩; clear tok1) | (go_at_call 93; have _t := tok2; (with_reducible refine (Rrising_any (.slice (some ⟨g, 0, none⟩) 0 0) [] _ (hp0.below (Nat.le_refl _) ((Below.refl _ _).drew.trans (b1.mono (by simp)))) (by simp)).mono ?_); rintro e w4 ⟨ov2, rfl, o2, b2⟩; clear tok2))
  all_goals go_wp2_with fail
  all_goals go_ret3
  all_goals
   have s1 := b1.size
   have s2 := b2.size
   simp only [World.size_drew] at s1 s2
   have p1 : OwnIs w4 w.heap.size ov1 (risO [] 16) := World.ownsRow.mono (o1.below (Nat.le_refl _) b2) (by simp; omega)
   have p2 : OwnIs w4 w.heap.size ov2 (risO [] 16) := World.ownsRow.mono o2 (by omega)
   refine ⟨_, _, rfl, ?_, ?_, (B2.drew.trans (b1.mono (by simp; omega))).trans (b2.mono (by omega))⟩
   ·rw [hp.out]; first | exact p1 | exact p2
   ·rw [hg.out]; first | exact p2 | exact p1
 ·have hmc : m < cap := by omega
  by_cases hcap2 : r = cap
  ·have hn0 : n2 = 0 := by have := Hn2.out; omega
   subst hn0
   subst hcap2
   have hrz : r - r = 0 := by omega
   have hlr : l.length = r := by omega
   have hww3 : IntKind.i64.wrap (r : Int) = r := IntWalk.i64_in _ (by omega)
   have Hlr := hide hlr
   clear hlr
   have I1 : (0 : Int) ≤ (m : Int) := by omega
   have I2 : (m : Int) ≤ (r : Int) := by omega
   have I3 : (r : Int) ≤ (r : Int) := by omega
   have I4 : (r : Int) ≤ (l.length : Int) := by omega
   have I5 : (l.length : Int) ≤ (r : Int) := by omega
   have I6 : (0 : Int) ≤ (r : Int) := by omega
   have J1 : ¬ r = m := by omega
   have hp1 : IsRow w2 (.slice (some ⟨g, m, none⟩) f f) (pieceI l m f) := by have := piece_row (w := w2) (lo := m) (n := f) (c2 := f) g4 g1 (by omega) (by omega) (by omega); rwa [Nat.zero_add] at this
   have hp2 : IsRow w2 (.slice (some ⟨g, 0, none⟩) 0 0) (pieceI l r 0) := ⟨some ⟨g, 0, none⟩, 0, by simp [pieceI], by simp [pieceI], by omega, fun i hi => by simp [pieceI] at hi⟩
   have hl1 : (pieceI l m f).length ≤ 1000 := by rw [pieceI_length _ _ _ (by omega)]; omega
   have hl2 : (pieceI l r 0).length ≤ 1000 := by simp [pieceI]
   have hn2' : l.length - r = 0 := Hn2.out
   clear g4
   go_region_held3 (fun w' => IsRow w' (.slice (some ⟨g, m, none⟩) f f) (pieceI l m f) ∧ IsRow w' (.slice (some ⟨g, 0, none⟩) 0 0) (pieceI l r 0)) (first | exact ⟨hp1.below (Nat.le_refl _) ((Below.refl _ _).drew), hp2.below (Nat.le_refl _) ((Below.refl _ _).drew)⟩ | exact ⟨hp1.below (Nat.le_refl _) ((Below.refl _ _).drew.trans (b1.mono (by simp))), hp2.below (Nat.le_refl _) ((Below.refl _ _).drew.trans (b1.mono (by simp)))⟩ | exact ⟨hp1.below (Nat.le_refl _) ((Below.refl _ _).drew.trans (b2.mono (by simp))), hp2.below (Nat.le_refl _) ((Below.refl _ _).drew.trans (b2.mono (by simp)))⟩ | exact ⟨hp1.below (Nat.le_refl _) (((Below.refl _ _).drew.trans (b1.mono (by simp))).trans (b2.mono (by have := b1.size; simp at this; omega))), hp2.below (Nat.le_refl _) (((Below.refl _ _).drew.trans (b1.mono (by simp))).trans (b2.mono (by have := b1.size; simp at this; omega)))⟩ | exact ⟨hp1.below (Nat.le_refl _) (((Below.refl _ _).drew.trans (b2.mono (by simp))).trans (b1.mono (by have := b2.size; simp at this; omega))), hp2.below (Nat.le_refl _) (((Below.refl _ _).drew.trans (b2.mono (by simp))).trans (b1.mono (by have := b2.size; simp at this; omega)))⟩) (first | (go_at_call 93; (with_reducible refine (Rrising_any (.slice (some ⟨g, m, none⟩) f f) (pieceI l m f) _ (hp1.below (Nat.le_refl _) (by first | exact (Below.refl _ _).drew | exact (Below.refl _ _).drew.trans (b2.mono (by simp)))) hl1).mono ?_); rintro e w3 ⟨ov1, rfl, o1, b1⟩) | (go_at_call 93; (with_reducible refine (Rrising_any (.slice (some ⟨g, 0, none⟩) 0 0) (pieceI l r 0) _ (hp2.below (Nat.le_refl _) (by first | exact (Below.refl _ _).drew | exact (Below.refl _ _).drew.trans (b1.mono (by simp)))) hl2).mono ?_); rintro e w4 ⟨ov2, rfl, o2, b2⟩))
   all_goals go_wp2_with fail
   all_goals go_ret3
   all_goals
    have s1 := b1.size
    have s2 := b2.size
    simp only [World.size_drew] at s1 s2
    refine ⟨_, _, rfl, ?_, ?_, ?_⟩
    ·rw [hp.out]
     first | exact World.ownsRow.mono (o1.below (Nat.le_refl _) b2) (by simp; omega) | exact World.ownsRow.mono o1 (by simp; omega) | exact World.ownsRow.mono o1 (by omega)
    ·rw [hg.out]
     first | exact World.ownsRow.mono (o2.below (Nat.le_refl _) b1) (by simp; omega) | exact World.ownsRow.mono o2 (by simp; omega) | exact World.ownsRow.mono o2 (by omega)
    ·first | exact (B2.drew.trans (b1.mono (by simp; omega))).trans (b2.mono (by omega)) | exact (B2.drew.trans (b2.mono (by simp; omega))).trans (b1.mono (by omega))
  ·have hrc : r < cap := by omega
   have hrc' : r ≤ cap := by omega
   have hww3 : IntKind.i64.wrap (r : Int) = r := IntWalk.i64_in _ (by omega)
   have I1 : (0 : Int) ≤ (m : Int) := by omega
   have I2 : (m : Int) ≤ (r : Int) := by omega
   have I3 : (r : Int) ≤ (cap : Int) := by omega
   have I4 : (r : Int) ≤ (l.length : Int) := by omega
   have I5 : (l.length : Int) ≤ (cap : Int) := by omega
   have I6 : (0 : Int) ≤ (r : Int) := by omega
   have J1 : ¬ cap = m := by omega
   have J2 : ¬ cap = r := by omega
   have J3 : ¬ r = cap := by omega
   have hp1 : IsRow w2 (.slice (some ⟨g, m, none⟩) f (cap - m)) (pieceI l m f) := by have := piece_row (w := w2) (lo := m) (n := f) (c2 := cap - m) g4 g1 (by omega) (by omega) (by omega); rwa [Nat.zero_add] at this
   have hp2 : IsRow w2 (.slice (some ⟨g, r, none⟩) n2 (cap - r)) (pieceI l r n2) := by have := piece_row (w := w2) (lo := r) (n := n2) (c2 := cap - r) g4 g1 (by have := Hn2.out; omega) (by have := Hn2.out; omega) (by omega); rwa [Nat.zero_add] at this
   have hl1 : (pieceI l m f).length ≤ 1000 := by rw [pieceI_length _ _ _ (by omega)]; omega
   have hl2 : (pieceI l r n2).length ≤ 1000 := by rw [pieceI_length _ _ _ (by have := Hn2.out; omega)]; have := Hn2.out; omega
   have hn2' : l.length - r = n2 := Hn2.out
   clear g4
   go_region_held3 (fun w' => IsRow w' (.slice (some ⟨g, m, none⟩) f (cap - m)) (pieceI l m f) ∧ IsRow w' (.slice (some ⟨g, r, none⟩) n2 (cap - r)) (pieceI l r n2)) (first | exact ⟨hp1.below (Nat.le_refl _) ((Below.refl _ _).drew), hp2.below (Nat.le_refl _) ((Below.refl _ _).drew)⟩ | exact ⟨hp1.below (Nat.le_refl _) ((Below.refl _ _).drew.trans (b1.mono (by simp))), hp2.below (Nat.le_refl _) ((Below.refl _ _).drew.trans (b1.mono (by simp)))⟩ | exact ⟨hp1.below (Nat.le_refl _) ((Below.refl _ _).drew.trans (b2.mono (by simp))), hp2.below (Nat.le_refl _) ((Below.refl _ _).drew.trans (b2.mono (by simp)))⟩ | exact ⟨hp1.below (Nat.le_refl _) (((Below.refl _ _).drew.trans (b1.mono (by simp))).trans (b2.mono (by have := b1.size; simp at this; omega))), hp2.below (Nat.le_refl _) (((Below.refl _ _).drew.trans (b1.mono (by simp))).trans (b2.mono (by have := b1.size; simp at this; omega)))⟩ | exact ⟨hp1.below (Nat.le_refl _) (((Below.refl _ _).drew.trans (b2.mono (by simp))).trans (b1.mono (by have := b2.size; simp at this; omega))), hp2.below (Nat.le_refl _) (((Below.refl _ _).drew.trans (b2.mono (by simp))).trans (b1.mono (by have := b2.size; simp at this; omega)))⟩) (first | (go_at_call 93; (with_reducible refine (Rrising_any (.slice (some ⟨g, m, none⟩) f (cap - m)) (pieceI l m f) _ (hp1.below (Nat.le_refl _) (by first | exact (Below.refl _ _).drew | exact (Below.refl _ _).drew.trans (b2.mono (by simp)))) hl1).mono ?_); rintro e w3 ⟨ov1, rfl, o1, b1⟩) | (go_at_call 93; (with_reducible refine (Rrising_any (.slice (some ⟨g, r, none⟩) n2 (cap - r)) (pieceI l r n2) _ (hp2.below (Nat.le_refl _) (by first | exact (Below.refl _ _).drew | exact (Below.refl _ _).drew.trans (b1.mono (by simp)))) hl2).mono ?_); rintro e w4 ⟨ov2, rfl, o2, b2⟩))
   all_goals go_wp2_with fail
   all_goals go_ret3
   all_goals
    have s1 := b1.size
    have s2 := b2.size
    simp only [World.size_drew] at s1 s2
    refine ⟨_, _, rfl, ?_, ?_, ?_⟩
    ·rw [hp.out]
     first | exact World.ownsRow.mono (o1.below (Nat.le_refl _) b2) (by simp; omega) | exact World.ownsRow.mono o1 (by simp; omega) | exact World.ownsRow.mono o1 (by omega)
    ·rw [hg.out]
     first | exact World.ownsRow.mono (o2.below (Nat.le_refl _) b1) (by simp; omega) | exact World.ownsRow.mono o2 (by simp; omega) | exact World.ownsRow.mono o2 (by omega)
    ·first | exact (B2.drew.trans (b1.mono (by simp; omega))).trans (b2.mono (by omega)) | exact (B2.drew.trans (b2.mono (by simp; omega))).trans (b1.mono (by omega))
end Go.Proofs.YtigjljmhpkeahaaGreat
/- The reference of layer 15: Place. -/
namespace Go.Proofs.YtigjljmhpkeahaaGreat
open Go.RowKit
attribute [local go_sem ↓] run_max_mx run_min_mn
theorem own_formT {w : World} {base : Nat} {v : Value} {l : List Int} (h : OwnIs w base v (toI (ordL l))) (hl : 0 < l.length) : ∃ g cap, v = .slice (some ⟨g, 0, none⟩) l.length cap ∧ g < w.heap.size ∧ l.length ≤ cap ∧ cap ≤ 9223372036854775807 ∧ ∀ i, i < l.length → w.cell? ⟨g, i, none⟩ = some (.int .i64 (nAt (ordL l) i)) := by
 obtain ⟨b, cap, e, h1, h2, h3, h4, h5⟩ := own_hold (o := ordL l) h (by rw [ordL_length]; exact hl)
 rw [ordL_length] at e h3
 exact ⟨b, cap, e, h2, h3, h4, fun i hi => by have := h5.1 i (by rw [ordL_length]; exact hi); rwa [Nat.zero_add] at this⟩
theorem own_formD {w : World} {base : Nat} {v : Value} {D : List Int} (h : OwnIs w base v D) (hl : 0 < D.length) : ∃ g cap, v = .slice (some ⟨g, 0, none⟩) D.length cap ∧ g < w.heap.size ∧ D.length ≤ cap ∧ cap ≤ 9223372036854775807 ∧ ∀ i, i < D.length → w.cell? ⟨g, i, none⟩ = some (.int .i64 (iAt D i)) := by
 obtain ⟨g, cap, e, hb, hlt⟩ := World.ownsRow.form h hl
 subst e
 obtain ⟨h1, h2⟩ : D.length ≤ cap ∧ cap ≤ 9223372036854775807 := by
  rcases h.2 with ⟨hv, _⟩ | ⟨g', cap', cur, hv, hg, hc, hn, hm, _⟩
  ·simp at hv
  ·simp only [Value.slice.injEq] at hv; obtain ⟨-, -, rfl⟩ := hv; exact ⟨hn, hm⟩
 exact ⟨g, cap, rfl, hlt, h1, h2, fun i hi => (World.ownsRow.cellAt h i (by rw [Nat.mul_one]; exact hi)).trans (encI_at D i hi)⟩
set_option maxRecDepth 100000 in
set_option maxHeartbeats 4000000 in
theorem RPlace_ok (v : Value) (l : List Int) (f : Nat) (lost x : Int) (w : World) (hv : IsRow w v l) (hok : spOk l f lost = true) (hx : 0 ≤ x ∧ x ≤ 3000000000000000) :
  Calls Tryz.prog 44 #[v, .int .i64 f, .int .i64 lost, .int .i64 x] w fun e w' => ∃ ov, e = .returned (.tuple #[ov, .int .i64 (placeEr l f lost x)]) ∧ OwnIv w' w.heap.size ov (placeL l f lost x) ∧ Below w.heap.size w w' := by
 have hv' := hv
 obtain ⟨a, cap, rfl, h1, h2, h3⟩ := hv
 obtain ⟨m1, m2, m3, m4, m5, m6⟩ := sp_mk hok
 have hi := (spOk_iff l f lost).1 hok
 have hb1 := hi.2.1
 have hb2 := hi.2.2.1
 have hl0 := hi.1.1.1
 have hwd := srt_bd l hi.1.2
 have hbb := bestP_bd hwd (spM l f lost) (spK l f lost) m3 m4
 have hax := plAll_bd hwd (spM l f lost) (spK l f lost) x m3 m4
 have hlb := fun t => plLeft_bd hwd (spM l f lost) (spK l f lost) t m3 m4
 have hin : inB x 0 3000000000000000 = true := by simp [inB]; omega
 have her : placeEr l f lost x = if (plAll l (spM l f lost) (spK l f lost) x (spM l f lost)).1 < 0 ∨ 3000000000000000 < (plAll l (spM l f lost) (spK l f lost) x (spM l f lost)).2 then 3 else 0 := by unfold placeEr; rw [if_pos hok, if_pos hin]
 have hpl : placeL l f lost x = if placeEr l f lost x = 0 then plLie l (spM l f lost) (spK l f lost) x f else [] := by unfold placeL; simp
 have hbt := bestP_take (srt l) (spM l f lost) (spK l f lost) m3 m4 (by rw [srt_length]; exact m5)
 have hml : ((srt l).take (spM l f lost)).length = spM l f lost := by rw [List.length_take, srt_length]; omega
 have hwd2 : ∀ i, 0 ≤ iAt ((srt l).take (spM l f lost)) i ∧ iAt ((srt l).take (spM l f lost)) i ≤ 1000000000000 := fun i => by
  rcases Nat.lt_or_ge i (spM l f lost) with h | h
  ·rw [take_at _ _ _ h]; exact hwd i
  ·have : iAt ((srt l).take (spM l f lost)) i = 0 := by simp [iAt, List.getD_eq_getElem?_getD, List.getElem?_take, show ¬ i < spM l f lost by omega]
   omega
 have hat := fun i (hi : i < spM l f lost) => take_at (srt l) (spM l f lost) i hi
 have he := spEr_ok hok
 obtain ⟨i0, hi0, hz0, hz1, hz2⟩ := info_parts infoIv2
 have He := hide he
 have Hok := hide hok
 have Her := hide her
 have Hpl := hide hpl
 have Hwd := hide hwd
 have Hax := hide hax
 have Hlb := hide hlb
 have Hbt := hide hbt
 have Hml := hide hml
 have Hwd2 := hide hwd2
 have Hat := hide hat
 have HD := hide (show (srt l).take (spM l f lost) = (srt l).take (spM l f lost) from rfl)
 have mf : spM l f lost + f ≤ l.length := by omega
 have hk : (l.length : Int) - lost - 2 * f = (spK l f lost : Nat) := m2.symm
 have hk1 : IntKind.i64.wrap (2 * (f : Int)) = 2 * f := IntWalk.i64_in _ (by omega)
 generalize hDq : (srt l).take (spM l f lost) = D at *
 generalize hmq : spM l f lost = m at *
 generalize hkq : spK l f lost = k at *
 have HDq := hide hDq
 have HM := hide m1
 have Hmq := hide hmq
 clear hok her hpl hi hwd hax hlb h3 hbt hml hwd2 hat he m1 m2 hDq hmq hkq HD
 go_enter Tryz.func44, Tryz.ntmps44
 go_wp2_with fail
 refine (Rcheck_any _ l f lost _ hv' (by omega)).mono ?_
 rintro e w1 ⟨rfl, b1⟩
 rw [He.out]
 go_wp2_with fail
 refine (ROrder_any _ l _ (hv'.below (Nat.le_refl _) b1) (by omega)).mono ?_
 rintro e w2 ⟨ov, rfl, ho, b2⟩
 have z1 := b1.size
 have B2 : Below w.heap.size w w2 := (by ((repeat' (first | exact Below.refl _ _ | exact b1 | exact b2 | refine Below.alloc ?_ ?_ _ | refine Below.setCell ?_ ?_ _ | refine Below.drew ?_ | refine below_drewN ?_ _ | refine Below.trans ?_ (b1.mono ?_) | refine Below.trans ?_ (b2.mono ?_))) <;> (first | omega | (simp; done) | (simp; omega))))
 have z2 := B2.size
 obtain ⟨g, gcap, rfl, g1, g2, g3, g4⟩ := own_formT ho (by omega)
 clear ho b1 b2
 go_wp2_with fail
 refine (Rright_any _ l f lost _ (hv'.below (Nat.le_refl _) B2) Hok.out).mono ?_
 rintro e w3 ⟨dv, rfl, hd, b3⟩
 rw [Hmq.out, HDq.out] at hd
 have z3 := b3.size
 have hdr := hd.row
 obtain ⟨q, qcap, rfl, q1, q2, q3, q4⟩ := own_formD hd (by rw [Hml.out]; omega)
 rw [Hml.out] at q2 q4 hdr
 rw [Hml.out]
 have B3 : Below w.heap.size w w3 := (by ((repeat' (first | exact Below.refl _ _ | exact B2 | exact b3 | refine Below.alloc ?_ ?_ _ | refine Below.setCell ?_ ?_ _ | refine Below.drew ?_ | refine below_drewN ?_ _ | refine Below.trans ?_ (B2.mono ?_) | refine Below.trans ?_ (b3.mono ?_))) <;> (first | omega | (simp; done) | (simp; omega))))
 clear hd
 go_wp2_with fail
 refine (RBest_any _ D k _ hdr m3 (by rw [Hml.out]; exact m4) (by rw [Hml.out]; omega) Hwd2.out).mono ?_
 rintro e w4 ⟨rfl, b4⟩
 rw [Hbt.out]
 obtain ⟨j, hj⟩ : ∃ j : Nat, (bestP (srt l) m k).1 = j := ⟨(bestP (srt l) m k).1.toNat, by omega⟩
 have hjk : j ≤ k := by omega
 rw [hj]
 have z4 := b4.size
 have B4 : Below w.heap.size w w4 := (by ((repeat' (first | exact Below.refl _ _ | exact B3 | exact b4 | refine Below.alloc ?_ ?_ _ | refine Below.setCell ?_ ?_ _ | refine Below.drew ?_ | refine below_drewN ?_ _ | refine Below.trans ?_ (B3.mono ?_) | refine Below.trans ?_ (b4.mono ?_))) <;> (first | omega | (simp; done) | (simp; omega))))
 have o4 : ∀ i, i < l.length → w4.cell? ⟨g, i, none⟩ = some (.int .i64 (nAt (ordL l) i)) := fun i hi => (b4.cell (p := ⟨g, i, none⟩) (by show g < w3.heap.size; omega)).trans ((b3.cell (p := ⟨g, i, none⟩) g1).trans (g4 i hi))
 have e4 : ∀ i, i < m → w4.cell? ⟨q, i, none⟩ = some (.int .i64 (iAt (srt l) i)) := fun i hi => (b4.cell (p := ⟨q, i, none⟩) q1).trans (by rw [q4 i hi, Hat.out i hi])
 have O4 := hide o4
 have E4 := hide e4
 have hg4 : g < w4.heap.size := by omega
 have hq4 : q < w4.heap.size := by omega
 obtain ⟨i1, hi1⟩ : ∃ i1, k - 1 = i1 := ⟨_, rfl⟩
 have ec := e4 i1 (by omega)
 have hwk : IntKind.i64.wrap ((k : Int) - 1) = i1 := by rw [IntWalk.i64_in _ (by omega)]; omega
 have hwk2 : (k : Int) - 1 = i1 := by omega
 have hi1m : i1 < m := by omega
 have HX : Hid (mn (iAt (srt l) i1) (bestP (srt l) m k).2 = plX l m k) := by show _ = _; rw [← hi1]; rfl
 have Hi1 := hide hi1
 clear o4 e4 g4 q4 b3 b4 hdr hi1
 have hmk : ∀ W : World, (Instr.makeSlice 74 (.int .i64 l.length) (.int .i64 l.length)).run Tryz.prog W = .ok (.slice (some ⟨W.heap.size, 0, none⟩) l.length l.length) (W.alloc (.cells (madeCells #[.int .i64 0, .int .i64 0] (l.length * 2)) 41)) := fun W => by
  have := run_makeSlice (P := Tryz.prog) W 74 41 i0 (.agg #[.int .i64 0, .int .i64 0]) Tryz.underlying74 hi0 hz0 .i64 .i64 l.length l.length (by omega) (Int.le_refl _) (by rw [hz1]; omega) (by rw [hz2]; omega) (by omega)
  rw [hz1] at this
  simpa [Value.cells] using this
 have ho0 := (ownIv_made w4 w4.heap.size l.length (Nat.le_refl _) (by omega))
 have hb0 : Below w4.heap.size w4 (w4.alloc (.cells (madeCells #[.int .i64 0, .int .i64 0] (l.length * 2)) 41)) := (by ((repeat' (first | exact Below.refl _ _ | refine Below.alloc ?_ ?_ _ | refine Below.setCell ?_ ?_ _ | refine Below.drew ?_ | refine below_drewN ?_ _)) <;> (first | omega | (simp; done) | (simp; omega))))
 have Hmk := hide (hmk w4)
 have hmk4 := hmk w4
 clear hmk Hmk
 go_upto_region 14 with fail
 rw [HX.out]
 clear hmk4 hwk hwk2 ec
 generalize w4.alloc (.cells (madeCells #[.int .i64 0, .int .i64 0] (l.length * 2)) 41) = W0 at *
 go_wp2_with fail
 go_loopw [18, 19, 20] (fun s18 s19 s20 wr => ∃ (t : Nat) (c : List Iv), t ≤ m ∧ s20 = .int .i64 (t : Int) ∧ s18 = .int .i64 (plAll l m k x t).1 ∧ s19 = .int .i64 (plAll l m k x t).2 ∧ Hid (c = plOut l m k x t) ∧ OwnIv wr w4.heap.size (.slice (some ⟨w4.heap.size, 0, none⟩) c.length l.length) c ∧ Below w4.heap.size w4 wr) (fun _ _ s20 _ => m - (intOf s20).toNat)
 case atStart => exact ⟨0, List.replicate l.length (0, 0), Nat.zero_le _, by go_num, rfl, rfl, hide rfl, by rw [List.length_replicate]; exact ho0, hb0⟩
 case round =>
  obtain ⟨t, c, ht, rfl, rfl, rfl, Hc, hown, hB⟩ := hrel
  have hz := hB.size
  have hcl : c.length = l.length := by rw [Hc.out]; exact plOut_length l m k x t
  by_cases hlt : t < m
  ·have hD := Hwd.out t
   have hL0 := Hlb.out t
   have hAx := Hax.out t
   have eD := (hB.cell (p := ⟨q, t, none⟩) hq4).trans (E4.out t hlt)
   have eO := (hB.cell (p := ⟨g, t, none⟩) hg4).trans (O4.out t (by omega))
   have hqb := ordL_bd l t (by omega)
   obtain ⟨y, hy⟩ : ∃ y, y = nAt (ordL l) t := ⟨_, rfl⟩
   rw [← hy] at eO hqb
   have Hy := hide hy
   have f0 := World.ownsRow.frozenAt hown (y * 2)
   have f1 := World.ownsRow.frozenAt hown (y * 2 + 1)
   obtain ⟨u0, k0⟩ : ∃ u, wr.cell? ⟨w4.heap.size, y * 2, none⟩ = some u := ⟨_, (World.ownsRow.cellAt hown (y * 2) (by omega)).trans (List.getElem?_eq_getElem (by rw [encL_length]; omega))⟩
   obtain ⟨u1, k1⟩ : ∃ u, wr.cell? ⟨w4.heap.size, y * 2 + 1, none⟩ = some u := ⟨_, (World.ownsRow.cellAt hown (y * 2 + 1) (by omega)).trans (List.getElem?_eq_getElem (by rw [encL_length]; omega))⟩
   have Hcl := hide hcl
   clear hy hcl
   have HLd : Hid (plLeft l m k t = if (t : Int) + 1 ≤ (j : Int) then plX l m k else if t + 1 ≤ k then iAt (srt l) t else 0) := by show _ = _; unfold plLeft; rw [hj]
   have Hj := hide hj
   clear hj
   generalize hdt : iAt (srt l) t = dt at *
   have hP : plP l m k x t = (x - plLeft l m k t, x - plLeft l m k t + dt) := by unfold plP; rw [hdt]
   have HP := hide hP
   have Hdt := hide hdt
   generalize plLeft l m k t = L at *
   clear hP hdt
   go_upto_if 75 with fail
   go_cut [21] (fun s21 wx => s21 = .int .i64 L ∧ wr = wx)
   case first =>
    by_cases hA : t < j
    ·have hL : L = plX l m k := by rw [HLd.out, if_pos (by omega)]
     have HL := hide hL
     have hA2 : decide ((t : Int) < j) = true := decide_eq_true (by omega)
     have hA3 : decide (t < j) = true := decide_eq_true hA
     clear hL
     go_wp2_with fail
     go_meet
     exact ⟨by rw [HL.out], rfl⟩
    ·have hA2 : decide ((t : Int) < j) = false := decide_eq_false (by omega)
     have hA3 : decide (t < j) = false := decide_eq_false hA
     by_cases hK : t < k
     ·have hL : L = dt := by rw [HLd.out, if_neg (by omega), if_pos (by omega)]
      have HL := hide hL
      have hK3 : decide (t < k) = true := decide_eq_true hK
      clear hL
      go_wp2_with fail
      go_meet
      exact ⟨by rw [HL.out], rfl⟩
     ·have hL : L = 0 := by rw [HLd.out, if_neg (by omega), if_neg (by omega)]
      have HL := hide hL
      have hK3 : decide (t < k) = false := decide_eq_false hK
      clear hL
      go_wp2_with fail
      go_meet
      exact ⟨by rw [HL.out], rfl⟩
   case rest =>
    obtain ⟨rfl, rfl⟩ := hcut
    have wwt : IntKind.i64.wrap (t : Int) = t := IntWalk.i64_in _ (by omega)
    have ww1 : IntKind.i64.wrap (x - L) = x - L := IntWalk.i64_in _ (by omega)
    have ww2 : IntKind.i64.wrap (x - L + dt) = x - L + dt := IntWalk.i64_in _ (by omega)
    have htl : t < l.length := by omega
    go_upto_region 22 with fail
    go_still_tail 18, (by kernel_rfl)
    change wpList _ _ _ _ _ wr.drew
    have bd : Below wr.heap.size wr wr.drew := (Below.refl _ _).drew
    have hof := hown.below (Nat.le_refl _) bd
    have f0' : wr.drew.frozen? ⟨w4.heap.size, y * 2, none⟩ = false := f0
    have f1' : wr.drew.frozen? ⟨w4.heap.size, y * 2 + 1, none⟩ = false := f1
    have k0' : wr.drew.cell? ⟨w4.heap.size, y * 2, none⟩ = some u0 := k0
    have k1' : wr.drew.cell? ⟨w4.heap.size, y * 2 + 1, none⟩ = some u1 := k1
    have eD' : wr.drew.cell? ⟨q, t, none⟩ = some (.int .i64 dt) := eD
    have hBd : Below w4.heap.size w4 wr.drew := hB.drew
    clear f0 f1 k0 k1 eD eO bd hown hB
    generalize wr.drew = V2 at *
    go_upto_region 23 with fail
    have hql : y < c.length := by rw [Hcl.out]; exact hqb
    have hX := OwnP.set hof y hql (x - L, x - L + dt)
    have HXl : Hid (c.set y (x - L, x - L + dt) = plOut l m k x (t + 1)) := by show _ = _; rw [plOut, ← Hy.out, Hc.out, HP.out]
    have eX := (cell_two (V := V2) (b := w4.heap.size) (i := y * 2) (j := y * 2 + 1) (u := .int .i64 (x - L)) (v := .int .i64 (x - L + dt)) (p := q) (by omega) t).trans eD'
    have xB : Below w4.heap.size w4 ((V2.setCell ⟨w4.heap.size, y * 2, none⟩ (.int .i64 (x - L))).setCell ⟨w4.heap.size, y * 2 + 1, none⟩ (.int .i64 (x - L + dt))) := (hBd.setCell (p := ⟨w4.heap.size, y * 2, none⟩) (Nat.le_refl _) _).setCell (p := ⟨w4.heap.size, y * 2 + 1, none⟩) (Nat.le_refl _) _
    have HA : Hid (plAll l m k x (t + 1) = (mn (plAll l m k x t).1 (x - L), mx (plAll l m k x t).2 (x - L + dt))) := by show _ = _; rw [plAll, HP.out]
    clear eD' hBd k0' k1' f0' f1' hof hql
    generalize (V2.setCell ⟨w4.heap.size, y * 2, none⟩ (.int .i64 (x - L))).setCell ⟨w4.heap.size, y * 2 + 1, none⟩ (.int .i64 (x - L + dt)) = X at *
    generalize c.set y (x - L, x - L + dt) = c2 at *
    go_wp2_with fail
    go_roundw
    case rel => exact ⟨t + 1, c2, by omega, by go_num, by rw [HA.out], by rw [HA.out], HXl, hX, xB⟩
    case measure => simp [intOf]; omega
  ·obtain rfl : m = t := by omega
   have z4' := B4.size
   clear hlt ht
   by_cases her : (plAll l m k x m).1 < 0 ∨ 3000000000000000 < (plAll l m k x m).2
   ·have Hpe : Hid (placeEr l f lost x = 3) := by show _ = _; rw [Her.out, if_pos her]
    have Hpl2 : Hid (placeL l f lost x = []) := by show _ = _; rw [Hpl.out, if_neg (by rw [Hpe.out]; omega)]
    by_cases h0 : (plAll l m k x m).1 < 0
    ·clear her
     have d0 : decide ((plAll l m k x m).1 < 0) = true := decide_eq_true h0
     go_wp2_with fail
     go_ret2
     exact ⟨_, by rw [Hpe.out]; rfl, by rw [Hpl2.out]; exact OwnP.nil _ _, B4.trans (hB.mono z4')⟩
    ·have h2 : 3000000000000000 < (plAll l m k x m).2 := by omega
     have d0 : decide ((plAll l m k x m).1 < 0) = false := decide_eq_false h0
     have d2 : decide (3000000000000000 < (plAll l m k x m).2) = true := decide_eq_true h2
     clear her
     go_wp2_with fail
     go_ret2
     exact ⟨_, by rw [Hpe.out]; rfl, by rw [Hpl2.out]; exact OwnP.nil _ _, B4.trans (hB.mono z4')⟩
   ·have h1' : ¬ (plAll l m k x m).1 < 0 := by omega
    have h2' : ¬ 3000000000000000 < (plAll l m k x m).2 := by omega
    have d0 : decide ((plAll l m k x m).1 < 0) = false := decide_eq_false h1'
    have d2 : decide (3000000000000000 < (plAll l m k x m).2) = false := decide_eq_false h2'
    have Hpe : Hid (placeEr l f lost x = 0) := by show _ = _; rw [Her.out, if_neg her]
    have Hpl2 : Hid (placeL l f lost x = plLie l m k x f) := by show _ = _; rw [Hpl.out, if_pos Hpe.out]
    clear her
    go_wp2_with fail
    clear d0 d2
    go_loopw [22] (fun s22 wx => ∃ (s : Nat) (d : List Iv), s ≤ f ∧ s22 = .int .i64 ((m + s : Nat) : Int) ∧ Hid (d = plLie l m k x s) ∧ OwnIv wx w4.heap.size (.slice (some ⟨w4.heap.size, 0, none⟩) d.length l.length) d ∧ Below w4.heap.size w4 wx) (fun s22 _ => m + f - (intOf s22).toNat)
    case atStart => exact ⟨0, c, Nat.zero_le _, by go_num, Hc, hown, hB⟩
    case round =>
     obtain ⟨s, d, hs, rfl, Hd, hod, hBx⟩ := hrel
     have hdl : d.length = l.length := by rw [Hd.out]; exact plLie_length l m k x s
     obtain ⟨n, hn⟩ : ∃ n, m + s = n := ⟨_, rfl⟩
     rw [hn]
     have wwn : IntKind.i64.wrap ((m : Int) + f) = m + f := IntWalk.i64_in _ (by omega)
     by_cases hsf : s < f
     ·have hnf : (n : Int) < m + f := by omega
      have hnl : n < l.length := by omega
      have hqb := ordL_bd l n hnl
      have c5 := (hBx.cell (p := ⟨g, n, none⟩) hg4).trans (O4.out n hnl)
      have hsn : plLie l m k x (s + 1) = d.set (nAt (ordL l) n) (plAll l m k x m) := by rw [plLie, Hd.out, hn]
      have Hsn := hide hsn
      generalize nAt (ordL l) n = y at *
      have f0 := World.ownsRow.frozenAt hod (y * 2)
      have f1 := World.ownsRow.frozenAt hod (y * 2 + 1)
      obtain ⟨u0, k0⟩ : ∃ u, wr.cell? ⟨w4.heap.size, y * 2, none⟩ = some u := ⟨_, (World.ownsRow.cellAt hod (y * 2) (by omega)).trans (List.getElem?_eq_getElem (by rw [encL_length]; omega))⟩
      obtain ⟨u1, k1⟩ : ∃ u, wr.cell? ⟨w4.heap.size, y * 2 + 1, none⟩ = some u := ⟨_, (World.ownsRow.cellAt hod (y * 2 + 1) (by omega)).trans (List.getElem?_eq_getElem (by rw [encL_length]; omega))⟩
      have Hdl := hide hdl
      have Hn := hide hn
      have hnm : n < m + f := by omega
      clear hsn hdl hn
      go_wp2_with fail
      go_roundw
      case rel =>
       refine ⟨s + 1, d.set y (plAll l m k x m), by omega, congrArg (Value.int .i64) (by have := Hn.out; omega), hide Hsn.out.symm, OwnP.set hod y (by rw [Hdl.out]; exact hqb) _, (hBx.setCell (p := ⟨w4.heap.size, y * 2, none⟩) (Nat.le_refl _) _).setCell (p := ⟨w4.heap.size, y * 2 + 1, none⟩) (Nat.le_refl _) _⟩
      case measure => simp [intOf]; omega
     ·obtain rfl : f = s := by omega
      have ho4 := hod
      rw [hdl, Hd.out] at ho4
      have hnf : ¬ (n : Int) < m + f := by omega
      have hnm : ¬ n < m + f := by omega
      rw [hdl] at hod
      clear hdl hn
      go_wp2_with fail
      go_ret2
      exact ⟨_, by rw [Hpe.out]; rfl, by rw [Hpl2.out]; exact World.ownsRow.mono ho4 z4', B4.trans (hBx.mono z4')⟩
end Go.Proofs.YtigjljmhpkeahaaGreat
/- The reference of layer 15: Pick and Place at whatever arguments. -/
namespace Go.Proofs.YtigjljmhpkeahaaGreat
open Go.RowKit
attribute [local go_sem ↓] run_max_mx run_min_mn
set_option maxRecDepth 100000 in
set_option maxHeartbeats 400000 in
theorem RPick_any (v : Value) (l : List Int) (f lost : Int) (w : World) (hv : IsRow w v l) (hl : l.length ≤ 1000000) :
  Calls Tryz.prog 43 #[v, .int .i64 f, .int .i64 lost] w (PickPost w l f lost) := by
 cases hok : spOk l f lost with
 | true =>
  have hf := ((spOk_iff l f lost).1 hok).2.1
  obtain ⟨n, rfl⟩ : ∃ n : Nat, f = n := ⟨f.toNat, by omega⟩
  exact (RPick_ok v l n lost w hv hok).mono fun e w' ⟨v1, v2, he, h1, h2, h3⟩ => ⟨v1, v2, by rw [spEr_ok hok]; exact he, h1, h2, h3⟩
 | false =>
  have hne : (spEr l f lost == 0) = false := by rw [beq_eq_false_iff_ne]; rcases spEr_no hok with h | h <;> omega
  have hne2 : (spEr l f lost != 0) = true := by rw [bne_iff_ne]; rcases spEr_no hok with h | h <;> omega
  have Hok := hide hok
  clear hok
  go_enter Tryz.func43, Tryz.ntmps43
  go_wp2_with fail
  refine (Rcheck_any _ l f lost _ hv hl).mono ?_
  rintro e w1 ⟨rfl, b1⟩
  go_wp2_with fail
  go_ret3
  exact PickPost.no Hok.out rfl b1
set_option maxRecDepth 100000 in
set_option maxHeartbeats 400000 in
theorem RPlace_any (v : Value) (l : List Int) (f lost x : Int) (w : World) (hv : IsRow w v l) (hl : l.length ≤ 1000000) :
  Calls Tryz.prog 44 #[v, .int .i64 f, .int .i64 lost, .int .i64 x] w (PlacePost w l f lost x) := by
 cases hok : spOk l f lost with
 | true =>
  by_cases hx : 0 ≤ x ∧ x ≤ 3000000000000000
  ·have hf := ((spOk_iff l f lost).1 hok).2.1
   obtain ⟨n, rfl⟩ : ∃ n : Nat, f = n := ⟨f.toNat, by omega⟩
   exact (RPlace_ok v l n lost x w hv hok hx).mono fun e w' h => h
  ·have hin : inB x 0 3000000000000000 = false := by simp [inB]; omega
   have HP := hide (show placeEr l f lost x = 1 by unfold placeEr; rw [if_pos hok, if_neg (by simp [hin])])
   have He := hide (spEr_ok hok)
   clear hok hin
   by_cases h0 : x < 0
   ·have d0 : decide (x < 0) = true := decide_eq_true h0
    go_enter Tryz.func44, Tryz.ntmps44
    go_wp2_with fail
    refine (Rcheck_any _ l f lost _ hv hl).mono ?_
    rintro e w1 ⟨rfl, b1⟩
    rw [He.out]
    go_wp2_with fail
    go_ret2
    exact PlacePost.no HP.out (by omega) b1
   ·have d0 : decide (x < 0) = false := decide_eq_false h0
    have d1 : decide (3000000000000000 < x) = true := decide_eq_true (by omega)
    clear hx
    go_enter Tryz.func44, Tryz.ntmps44
    go_wp2_with fail
    refine (Rcheck_any _ l f lost _ hv hl).mono ?_
    rintro e w1 ⟨rfl, b1⟩
    rw [He.out]
    go_wp2_with fail
    go_ret2
    exact PlacePost.no HP.out (by omega) b1
 | false =>
  have hne : (spEr l f lost == 0) = false := by rw [beq_eq_false_iff_ne]; rcases spEr_no hok with h | h <;> omega
  have hne2 : (spEr l f lost != 0) = true := by rw [bne_iff_ne]; rcases spEr_no hok with h | h <;> omega
  have hne3 := hide (show spEr l f lost ≠ 0 by rcases spEr_no hok with h | h <;> omega)
  have HP := hide (placeEr_no (x := x) hok)
  clear hok
  go_enter Tryz.func44, Tryz.ntmps44
  go_wp2_with fail
  refine (Rcheck_any _ l f lost _ hv hl).mono ?_
  rintro e w1 ⟨rfl, b1⟩
  go_wp2_with fail
  go_ret2
  exact PlacePost.no HP.out hne3.out b1
end Go.Proofs.YtigjljmhpkeahaaGreat
