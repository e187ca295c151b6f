/- The reference of layer 15: rising, Pick. -/
import Derived.Test.YtcpfifbchijleaaSpL
import Derived.Test.YtcpfifbchijleaaSpH
import Derived.Deep.RegionHeld3
namespace Go.Proofs.Ytcpfifbchijleaa
open Go.RowKit Go.Shelf
attribute [local go_sem ↓] run_max_mx run_min_mn
def risI (l : List Int) (x : Int) : Nat → List Int
  | 0 => []
  | k + 1 => if iAt l k = x then risI l x k ++ [x] else risI l x k
def risO (l : List Int) : Nat → List Int
  | 0 => []
  | i + 1 => risO l i ++ risI l (i : Int) l.length
theorem risI_length (l : List Int) (x : Int) : ∀ k, (risI l x k).length ≤ k
  | 0 => Nat.le_refl _
  | k + 1 => by have := risI_length l x k; unfold risI; split <;> simp <;> omega
theorem risO_length (l : List Int) : ∀ i, (risO l i).length ≤ i * l.length
  | 0 => by simp [risO]
  | i + 1 => by
    have := risO_length l i
    have := risI_length l (i : Int) l.length
    rw [risO, List.length_append, Nat.add_mul, Nat.one_mul]; omega
theorem risI_mem (l : List Int) (x : Int) : ∀ k y, y ∈ risI l x k → y = x
  | 0, y, h => by simp [risI] at h
  | k + 1, y, h => by
    unfold risI at h
    split at h
    · rcases List.mem_append.1 h with h | h
      · exact risI_mem l x k y h
      · simpa using h
    · exact risI_mem l x k y h
theorem risI_count (l : List Int) (x : Int) : ∀ k, k ≤ l.length → (risI l x k).count x = (l.take k).count x
  | 0, _ => by simp [risI]
  | k + 1, h => by
    have e : risI l x (k + 1) = if iAt l k = x then risI l x k ++ [x] else risI l x k := rfl
    rw [take_snoc_is l k h, List.count_append, ← risI_count l x k (by omega), e]
    by_cases hx : iAt l k = x
    · rw [if_pos hx, List.count_append, hx]
    · rw [if_neg hx, List.count_cons, List.count_nil]
      simp [hx]
theorem risI_count_ne (l : List Int) {x y : Int} (h : y ≠ x) (k : Nat) : (risI l x k).count y = 0 :=
  List.count_eq_zero.2 fun hm => h (risI_mem l x k y hm)
theorem risO_count (l : List Int) (y : Int) : ∀ i, (risO l i).count y = if 0 ≤ y ∧ y < i then l.count y else 0
  | 0 => by simp [risO]; omega
  | i + 1 => by
    rw [risO, List.count_append, risO_count l y i]
    by_cases e : y = i
    · subst e
      have := risI_count l (i : Int) l.length (Nat.le_refl _)
      rw [List.take_length] at this
      rw [this, if_neg (by omega), if_pos (by omega)]; omega
    · rw [risI_count_ne l e]
      by_cases h : 0 ≤ y ∧ y < i
      · rw [if_pos h, if_pos (by omega)]; rfl
      · rw [if_neg h, if_neg (by omega)]
theorem risO_mem (l : List Int) : ∀ i y, y ∈ risO l i → y < i
  | 0, y, h => by simp [risO] at h
  | i + 1, y, h => by
    rw [risO] at h
    rcases List.mem_append.1 h with h | h
    · have := risO_mem l i y h; omega
    · have := risI_mem l _ _ y h; omega
theorem risI_pw (l : List Int) (x : Int) (k : Nat) : (risI l x k).Pairwise (fun a b => a ≤ b) := by
  apply List.pairwise_of_forall_mem_list
  intro a ha b hb
  rw [risI_mem l x k a ha, risI_mem l x k b hb]; exact Int.le_refl _
theorem risO_pw (l : List Int) : ∀ i, (risO l i).Pairwise (fun a b => a ≤ b)
  | 0 => List.Pairwise.nil
  | i + 1 => by
    refine List.pairwise_append.2 ⟨risO_pw l i, risI_pw l _ _, fun a ha b hb => ?_⟩
    have := risO_mem l i a ha
    have := risI_mem l _ _ b hb
    omega
theorem risO_srtI {l : List Int} (h : ∀ y, y ∈ l → 0 ≤ y ∧ y < 16) : risO l 16 = srtI l := by
  refine List.Perm.eq_of_pairwise (le := fun a b => a ≤ b) (fun a b _ _ h1 h2 => by omega) (risO_pw l 16) ?_ ?_
  · have := List.pairwise_mergeSort (le := fun x y : Int => decide (x ≤ y)) (fun a b c h1 h2 => by simp at *; omega) (fun a b => by simp; omega) l
    exact this.imp fun h => by simpa using h
  · refine List.Perm.trans ?_ (List.mergeSort_perm l _).symm
    rw [List.perm_iff_count]
    intro y
    rw [risO_count]
    by_cases hy : 0 ≤ y ∧ y < ((16 : Nat) : Int)
    · rw [if_pos hy]
    · rw [if_neg hy]
      exact (List.count_eq_zero.2 fun hm => hy (by have := h y hm; omega)).symm
theorem pieceI_mem {l : List Int} {lo n : Nat} (hl : l.length ≤ 16) : ∀ y, y ∈ pieceI l lo n → 0 ≤ y ∧ y < 16 := by
  intro y hy
  have h1 := List.mem_of_mem_drop (List.mem_of_mem_take hy)
  obtain ⟨q, hq, rfl⟩ := List.mem_map.1 h1
  have := ordTo_lt (l := l) (k := l.length) hq
  omega
set_option maxRecDepth 100000 in
set_option maxHeartbeats 1000000 in
theorem Rrising_any (v : Value) (l : List Int) (w : World) (hv : IsRow w v l) (hl : l.length ≤ 1000) :
    Calls Try.prog 29 #[v] w fun e w' => ∃ ov, e = .returned ov ∧ OwnIs w' w.heap.size ov (risO l 16) ∧ Below w.heap.size w w' := by
  obtain ⟨a, cap, rfl, h1, h2, h3⟩ := hv
  obtain ⟨i0, hi0, hz0, hz1, hz2⟩ := info_parts infoIs
  go_enter Try.func29, Try.ntmps29
  go_wp2
  go_loopw [3, 4] (fun s3 s4 wr => ∃ i : Nat, i ≤ 16 ∧ s4 = .int .i64 i ∧ OwnIs wr w.heap.size s3 (risO l i) ∧ Below w.heap.size w wr) (fun _ s4 _ => 16 - (intOf s4).toNat)
  case atStart => exact ⟨0, by omega, rfl, OwnIs.nil _ _, Below.refl _ _⟩
  case round =>
    obtain ⟨i, hi, rfl, hown, hB⟩ := hrel
    by_cases hlt : i < 16
    · have hd : decide ((i : Int) < 16) = true := decide_eq_true (by omega)
      go_wp2
      obtain ⟨wo, hwo⟩ : ∃ wo : World, wo = wr := ⟨_, rfl⟩
      subst hwo
      go_loopw [3, 5] (fun s3 s5 wx => ∃ k : Nat, k ≤ l.length ∧ s5 = .int .i64 k ∧ OwnIs wx w.heap.size s3 (risO l i ++ risI l (i : Int) k) ∧ Below w.heap.size w wx) (fun _ s5 _ => l.length - (intOf s5).toNat)
      case atStart => exact ⟨0, by omega, rfl, by rw [risI, List.append_nil]; exact hown, hB⟩
      case round =>
        obtain ⟨k, hk, rfl, hownk, hBk⟩ := hrel
        have hz := hBk.size
        have hlo := risO_length l i
        have hli := risI_length l (i : Int) k
        have hm : i * l.length ≤ 16 * 1000 := Nat.mul_le_mul (by omega) hl
        by_cases hkl : k < l.length
        · obtain ⟨b, off, rfl, h4, h5⟩ := h3 k hkl
          have h5' := (hBk.cell (p := ⟨b, off + k, none⟩) h4).trans h5
          clear h5 h3
          have Hs := hide (show risI l (i : Int) (k + 1) = if iAt l k = i then risI l (i : Int) k ++ [(i : Int)] else risI l (i : Int) k from rfl)
          by_cases he : iAt l k = i
          · have he2 : (iAt l k == (i : Int)) = true := by rw [beq_iff_eq]; exact he
            have Hs2 := hide (Hs.out.trans (if_pos he))
            obtain ⟨oa, ocap, hov, ho1, ho2⟩ := hownk.val
            have hlow := World.ownsRow.lt hownk
            have hown' := hownk
            unfold OwnIs at hown'
            have hlen : (risO l i ++ risI l (i : Int) k).length = (risO l i).length + (risI l (i : Int) k).length := by simp
            rw [hlen] at hown' hov
            subst hov
            have Hlen := hide hlen
            clear he hlen hownk
            go_wp2_with (at_builtin; refine wpList_append_own _ rfl _ _ 22 rfl w.heap.size 3 i0 (.int .i64 0) 1 8 Try.underlying22 hi0 hz0 hz1 hz2 rfl (by decide) _ ((risO l i).length + (risI l (i : Int) k).length) (encI (risO l i ++ risI l (i : Int) k)) rfl (World.ownsRow.alloc hown' _) ⟨wr.heap.size, 0, none⟩ 1 1 [.int .i64 i] rfl rfl (cells_new wr [.int .i64 i] _) (by simp [Value.oneCell']) (by unfold maxLen; omega) (by omega) (by simp; omega) ?_; intro v3 w3 hown3 hg3 _)
            go_roundw
            case rel =>
              refine ⟨k + 1, by omega, by go_num, by rw [Hs2.out, ← List.append_assoc]; exact OwnIs.app (by rw [Hlen.out]; exact hown3), ?_⟩
              exact (hBk.alloc (by omega) _).grown hg3 (by simp; omega) (fun r h => (hlow r h).1)
            case measure => simp [intOf]; omega
          · have he2 : (iAt l k == (i : Int)) = false := by rw [beq_eq_false_iff_ne]; exact he
            have Hs2 := hide (Hs.out.trans (if_neg he))
            clear he
            go_wp2
            go_roundw
            case rel => exact ⟨k + 1, by omega, by go_num, by rw [Hs2.out]; exact hownk, hBk⟩
            case measure => simp [intOf]; omega
        · obtain rfl : k = l.length := by omega
          go_wp2
          go_roundw
          case rel => exact ⟨i + 1, by omega, by go_num, hownk, hBk⟩
          case measure => simp [intOf]; omega
    · obtain rfl : i = 16 := by omega
      clear h3
      go_wp2
      go_ret
      exact ⟨_, rfl, hown, hB⟩
theorem own_form0 {w : World} {base : Nat} {v : Value} {l : List Int} (h : OwnIs w base v (toI (ordL l))) (hl : 0 < l.length) : ∃ g cap, v = .slice (some ⟨g, 0, none⟩) l.length cap ∧ g < w.heap.size ∧ l.length ≤ cap ∧ cap ≤ 9223372036854775807 ∧ ∀ i, i < l.length → w.cell? ⟨g, 0 + i, none⟩ = some (.int .i64 (nAt (ordL l) i)) := by
  obtain ⟨b, cap, e, h1, h2, h3, h4, h5⟩ := own_hold (o := ordL l) h (by rw [ordL_length]; exact hl)
  rw [ordL_length] at e h3
  exact ⟨b, cap, e, h2, h3, h4, fun i hi => h5.1 i (by rw [ordL_length]; exact hi)⟩
set_option maxRecDepth 100000 in
set_option maxHeartbeats 2000000 in
theorem RPick_ok (v : Value) (l : List Int) (f : Nat) (lost : Int) (w : World) (hv : IsRow w v l) (hok : spOk l f lost = true) :
    Calls Try.prog 14 #[v, .int .i64 f, .int .i64 lost] w fun e w' => ∃ v1 v2, e = .returned (.tuple #[v1, v2, .int .i64 0]) ∧ OwnIs w' w.heap.size v1 (pickL l f lost) ∧ OwnIs w' w.heap.size v2 (goneL l f lost) ∧ Below w.heap.size w w' := by
  have hv' := hv
  obtain ⟨a, cap0, rfl, h1, h2, h3⟩ := hv
  obtain ⟨m1, m2, m3, m4, m5, m6⟩ := sp_mk hok
  have he := spEr_ok hok
  have hb := (spOk_iff l f lost).1 hok
  have hb1 := hb.2.1
  have hb2 := hb.2.2.1
  have hl0 := hb.1.1.1
  have He := hide he
  have hp : Hid (pickL l f lost = risO (pieceI l (spM l f lost) f) 16) := by show _ = _; unfold pickL; rw [if_pos hok, risO_srtI (pieceI_mem m6)]; simp
  have hg : Hid (goneL l f lost = risO (pieceI l (spM l f lost + f) (l.length - (spM l f lost + f))) 16) := by show _ = _; unfold goneL; rw [if_pos hok, risO_srtI (pieceI_mem m6)]; simp
  generalize spM l f lost = m at *
  clear hok he hb h3 m2 m3 m4
  obtain ⟨r, hr⟩ : ∃ r, m + f = r := ⟨_, rfl⟩
  obtain ⟨n2, hn2⟩ : ∃ n2, l.length - r = n2 := ⟨_, rfl⟩
  rw [hr, hn2] at hg
  have hmm : (l.length : Int) - lost - f = m := m1.symm
  have hrl : r ≤ l.length := by omega
  have hmr : m ≤ r := by omega
  have hww : IntKind.i64.wrap ((m : Int) + f) = (r : Nat) := by rw [IntWalk.i64_in _ (by omega)]; omega
  have hww2 : (m : Int) + f = (r : Nat) := by omega
  have hsub : r - m = f := by omega
  have Hr := hide hr
  have Hn2 := hide hn2
  have M1 := hide m1
  clear hr hn2 m1
  go_enter Try.func14, Try.ntmps14
  go_wp2_with fail
  refine (Rcheck_any _ l f lost _ hv' (by omega)).mono ?_
  rintro e w1 ⟨rfl, b1⟩
  rw [He.out]
  go_wp2_with fail
  refine (ROrder_any _ l _ (hv'.below (Nat.le_refl _) b1) (by omega)).mono ?_
  rintro e w2 ⟨ov, rfl, ho, b2⟩
  have z1 := b1.size
  have B2 : Below w.heap.size w w2 := (by ((repeat' (first | exact Below.refl _ _ | exact b1 | exact b2 | refine Below.alloc ?_ ?_ _ | refine Below.setCell ?_ ?_ _ | refine Below.drew ?_ | refine below_drewN ?_ _ | refine Below.trans ?_ (b1.mono ?_) | refine Below.trans ?_ (b2.mono ?_))) <;> (first | omega | (simp; done) | (simp; omega))))
  have z2 := B2.size
  obtain ⟨g, cap, rfl, g1, g2, g3, g4⟩ := own_form0 ho (by omega)
  clear ho b1 b2
  go_upto_region 6 with fail
  by_cases hcap1 : m = cap
  · have hf0 : f = 0 := by omega
    have hn0 : n2 = 0 := by have := Hn2.out; omega
    have hrm : r = m := by omega
    subst hf0 hn0
    subst hrm
    subst hcap1
    have hwm : IntKind.i64.wrap (r : Int) = r := IntWalk.i64_in _ (by omega)
    have hp0 : IsRow w2 (.slice (some ⟨g, 0, none⟩) 0 0) [] := ⟨some ⟨g, 0, none⟩, 0, rfl, Nat.le_refl _, by omega, fun i hi => by simp at hi⟩
    have hq1 : pieceI l r 0 = [] := by simp [pieceI]
    have hn2' : l.length - r = 0 := Hn2.out
    have hrr : r - r = 0 := by omega
    have I1 : (0 : Int) ≤ (r : Int) := by omega
    have I4 : (r : Int) ≤ (l.length : Int) := by omega
    have I5 : (l.length : Int) ≤ (r : Int) := by omega
    rw [hq1] at hp hg
    clear g4
    have tok1 : True := trivial
    have tok2 : True := trivial
    go_region_held3 (fun w' => IsRow w' (.slice (some ⟨g, 0, none⟩) 0 0) []) (first | exact hp0.below (Nat.le_refl _) ((Below.refl _ _).drew) | exact hp0.below (Nat.le_refl _) ((Below.refl _ _).drew.trans (b1.mono (by simp))) | exact hp0.below (Nat.le_refl _) (((Below.refl _ _).drew.trans (b1.mono (by simp))).trans (b2.mono (by have := b1.size; simp at this; omega)))) (first | (go_at_call 29; have _t := tok1; (with_reducible refine (Rrising_any (.slice (some ⟨g, 0, none⟩) 0 0) [] _ (hp0.below (Nat.le_refl _) ((Below.refl _ _).drew)) (by simp)).mono ?_); rintro e w3 ⟨ov1, rfl, o1, b1⟩; clear tok1) | (go_at_call 29; have _t := tok2; (with_reducible refine (Rrising_any (.slice (some ⟨g, 0, none⟩) 0 0) [] _ (hp0.below (Nat.le_refl _) ((Below.refl _ _).drew.trans (b1.mono (by simp)))) (by simp)).mono ?_); rintro e w4 ⟨ov2, rfl, o2, b2⟩; clear tok2))
    all_goals go_wp2_with fail
    all_goals go_ret3
    all_goals
      have s1 := b1.size
      have s2 := b2.size
      simp only [World.size_drew] at s1 s2
      have p1 : OwnIs w4 w.heap.size ov1 (risO [] 16) := World.ownsRow.mono (o1.below (Nat.le_refl _) b2) (by simp; omega)
      have p2 : OwnIs w4 w.heap.size ov2 (risO [] 16) := World.ownsRow.mono o2 (by omega)
      refine ⟨_, _, rfl, ?_, ?_, (B2.drew.trans (b1.mono (by simp; omega))).trans (b2.mono (by omega))⟩
      · rw [hp.out]; first | exact p1 | exact p2
      · rw [hg.out]; first | exact p2 | exact p1
  · have hmc : m < cap := by omega
    by_cases hcap2 : r = cap
    · have hn0 : n2 = 0 := by have := Hn2.out; omega
      subst hn0
      subst hcap2
      have hrz : r - r = 0 := by omega
      have hlr : l.length = r := by omega
      have hww3 : IntKind.i64.wrap (r : Int) = r := IntWalk.i64_in _ (by omega)
      have Hlr := hide hlr
      clear hlr
      have I1 : (0 : Int) ≤ (m : Int) := by omega
      have I2 : (m : Int) ≤ (r : Int) := by omega
      have I3 : (r : Int) ≤ (r : Int) := by omega
      have I4 : (r : Int) ≤ (l.length : Int) := by omega
      have I5 : (l.length : Int) ≤ (r : Int) := by omega
      have I6 : (0 : Int) ≤ (r : Int) := by omega
      have J1 : ¬ r = m := by omega
      have hp1 : IsRow w2 (.slice (some ⟨g, m, none⟩) f f) (pieceI l m f) := by have := piece_row (w := w2) (lo := m) (n := f) (c2 := f) g4 g1 (by omega) (by omega) (by omega); rwa [Nat.zero_add] at this
      have hp2 : IsRow w2 (.slice (some ⟨g, 0, none⟩) 0 0) (pieceI l r 0) := ⟨some ⟨g, 0, none⟩, 0, by simp [pieceI], by simp [pieceI], by omega, fun i hi => by simp [pieceI] at hi⟩
      have hl1 : (pieceI l m f).length ≤ 1000 := by rw [pieceI_length _ _ _ (by omega)]; omega
      have hl2 : (pieceI l r 0).length ≤ 1000 := by simp [pieceI]
      have hn2' : l.length - r = 0 := Hn2.out
      clear g4
      go_region_held3 (fun w' => IsRow w' (.slice (some ⟨g, m, none⟩) f f) (pieceI l m f) ∧ IsRow w' (.slice (some ⟨g, 0, none⟩) 0 0) (pieceI l r 0)) (first | exact ⟨hp1.below (Nat.le_refl _) ((Below.refl _ _).drew), hp2.below (Nat.le_refl _) ((Below.refl _ _).drew)⟩ | exact ⟨hp1.below (Nat.le_refl _) ((Below.refl _ _).drew.trans (b1.mono (by simp))), hp2.below (Nat.le_refl _) ((Below.refl _ _).drew.trans (b1.mono (by simp)))⟩ | exact ⟨hp1.below (Nat.le_refl _) ((Below.refl _ _).drew.trans (b2.mono (by simp))), hp2.below (Nat.le_refl _) ((Below.refl _ _).drew.trans (b2.mono (by simp)))⟩ | exact ⟨hp1.below (Nat.le_refl _) (((Below.refl _ _).drew.trans (b1.mono (by simp))).trans (b2.mono (by have := b1.size; simp at this; omega))), hp2.below (Nat.le_refl _) (((Below.refl _ _).drew.trans (b1.mono (by simp))).trans (b2.mono (by have := b1.size; simp at this; omega)))⟩ | exact ⟨hp1.below (Nat.le_refl _) (((Below.refl _ _).drew.trans (b2.mono (by simp))).trans (b1.mono (by have := b2.size; simp at this; omega))), hp2.below (Nat.le_refl _) (((Below.refl _ _).drew.trans (b2.mono (by simp))).trans (b1.mono (by have := b2.size; simp at this; omega)))⟩) (first | (go_at_call 29; (with_reducible refine (Rrising_any (.slice (some ⟨g, m, none⟩) f f) (pieceI l m f) _ (hp1.below (Nat.le_refl _) (by first | exact (Below.refl _ _).drew | exact (Below.refl _ _).drew.trans (b2.mono (by simp)))) hl1).mono ?_); rintro e w3 ⟨ov1, rfl, o1, b1⟩) | (go_at_call 29; (with_reducible refine (Rrising_any (.slice (some ⟨g, 0, none⟩) 0 0) (pieceI l r 0) _ (hp2.below (Nat.le_refl _) (by first | exact (Below.refl _ _).drew | exact (Below.refl _ _).drew.trans (b1.mono (by simp)))) hl2).mono ?_); rintro e w4 ⟨ov2, rfl, o2, b2⟩))
      all_goals go_wp2_with fail
      all_goals go_ret3
      all_goals
        have s1 := b1.size
        have s2 := b2.size
        simp only [World.size_drew] at s1 s2
        refine ⟨_, _, rfl, ?_, ?_, ?_⟩
        · rw [hp.out]
          first | exact World.ownsRow.mono (o1.below (Nat.le_refl _) b2) (by simp; omega) | exact World.ownsRow.mono o1 (by simp; omega) | exact World.ownsRow.mono o1 (by omega)
        · rw [hg.out]
          first | exact World.ownsRow.mono (o2.below (Nat.le_refl _) b1) (by simp; omega) | exact World.ownsRow.mono o2 (by simp; omega) | exact World.ownsRow.mono o2 (by omega)
        · first | exact (B2.drew.trans (b1.mono (by simp; omega))).trans (b2.mono (by omega)) | exact (B2.drew.trans (b2.mono (by simp; omega))).trans (b1.mono (by omega))
    · have hrc : r < cap := by omega
      have hrc' : r ≤ cap := by omega
      have hww3 : IntKind.i64.wrap (r : Int) = r := IntWalk.i64_in _ (by omega)
      have I1 : (0 : Int) ≤ (m : Int) := by omega
      have I2 : (m : Int) ≤ (r : Int) := by omega
      have I3 : (r : Int) ≤ (cap : Int) := by omega
      have I4 : (r : Int) ≤ (l.length : Int) := by omega
      have I5 : (l.length : Int) ≤ (cap : Int) := by omega
      have I6 : (0 : Int) ≤ (r : Int) := by omega
      have J1 : ¬ cap = m := by omega
      have J2 : ¬ cap = r := by omega
      have J3 : ¬ r = cap := by omega
      have hp1 : IsRow w2 (.slice (some ⟨g, m, none⟩) f (cap - m)) (pieceI l m f) := by have := piece_row (w := w2) (lo := m) (n := f) (c2 := cap - m) g4 g1 (by omega) (by omega) (by omega); rwa [Nat.zero_add] at this
      have hp2 : IsRow w2 (.slice (some ⟨g, r, none⟩) n2 (cap - r)) (pieceI l r n2) := by have := piece_row (w := w2) (lo := r) (n := n2) (c2 := cap - r) g4 g1 (by have := Hn2.out; omega) (by have := Hn2.out; omega) (by omega); rwa [Nat.zero_add] at this
      have hl1 : (pieceI l m f).length ≤ 1000 := by rw [pieceI_length _ _ _ (by omega)]; omega
      have hl2 : (pieceI l r n2).length ≤ 1000 := by rw [pieceI_length _ _ _ (by have := Hn2.out; omega)]; have := Hn2.out; omega
      have hn2' : l.length - r = n2 := Hn2.out
      clear g4
      go_region_held3 (fun w' => IsRow w' (.slice (some ⟨g, m, none⟩) f (cap - m)) (pieceI l m f) ∧ IsRow w' (.slice (some ⟨g, r, none⟩) n2 (cap - r)) (pieceI l r n2)) (first | exact ⟨hp1.below (Nat.le_refl _) ((Below.refl _ _).drew), hp2.below (Nat.le_refl _) ((Below.refl _ _).drew)⟩ | exact ⟨hp1.below (Nat.le_refl _) ((Below.refl _ _).drew.trans (b1.mono (by simp))), hp2.below (Nat.le_refl _) ((Below.refl _ _).drew.trans (b1.mono (by simp)))⟩ | exact ⟨hp1.below (Nat.le_refl _) ((Below.refl _ _).drew.trans (b2.mono (by simp))), hp2.below (Nat.le_refl _) ((Below.refl _ _).drew.trans (b2.mono (by simp)))⟩ | exact ⟨hp1.below (Nat.le_refl _) (((Below.refl _ _).drew.trans (b1.mono (by simp))).trans (b2.mono (by have := b1.size; simp at this; omega))), hp2.below (Nat.le_refl _) (((Below.refl _ _).drew.trans (b1.mono (by simp))).trans (b2.mono (by have := b1.size; simp at this; omega)))⟩ | exact ⟨hp1.below (Nat.le_refl _) (((Below.refl _ _).drew.trans (b2.mono (by simp))).trans (b1.mono (by have := b2.size; simp at this; omega))), hp2.below (Nat.le_refl _) (((Below.refl _ _).drew.trans (b2.mono (by simp))).trans (b1.mono (by have := b2.size; simp at this; omega)))⟩) (first | (go_at_call 29; (with_reducible refine (Rrising_any (.slice (some ⟨g, m, none⟩) f (cap - m)) (pieceI l m f) _ (hp1.below (Nat.le_refl _) (by first | exact (Below.refl _ _).drew | exact (Below.refl _ _).drew.trans (b2.mono (by simp)))) hl1).mono ?_); rintro e w3 ⟨ov1, rfl, o1, b1⟩) | (go_at_call 29; (with_reducible refine (Rrising_any (.slice (some ⟨g, r, none⟩) n2 (cap - r)) (pieceI l r n2) _ (hp2.below (Nat.le_refl _) (by first | exact (Below.refl _ _).drew | exact (Below.refl _ _).drew.trans (b1.mono (by simp)))) hl2).mono ?_); rintro e w4 ⟨ov2, rfl, o2, b2⟩))
      all_goals go_wp2_with fail
      all_goals go_ret3
      all_goals
        have s1 := b1.size
        have s2 := b2.size
        simp only [World.size_drew] at s1 s2
        refine ⟨_, _, rfl, ?_, ?_, ?_⟩
        · rw [hp.out]
          first | exact World.ownsRow.mono (o1.below (Nat.le_refl _) b2) (by simp; omega) | exact World.ownsRow.mono o1 (by simp; omega) | exact World.ownsRow.mono o1 (by omega)
        · rw [hg.out]
          first | exact World.ownsRow.mono (o2.below (Nat.le_refl _) b1) (by simp; omega) | exact World.ownsRow.mono o2 (by simp; omega) | exact World.ownsRow.mono o2 (by omega)
        · first | exact (B2.drew.trans (b1.mono (by simp; omega))).trans (b2.mono (by omega)) | exact (B2.drew.trans (b2.mono (by simp; omega))).trans (b1.mono (by omega))
end Go.Proofs.Ytcpfifbchijleaa
