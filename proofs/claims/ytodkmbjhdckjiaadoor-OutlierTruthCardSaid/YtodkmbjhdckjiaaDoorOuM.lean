/- The reference of package outlier: Sets, Sure. -/
import Derived.Test.YtodkmbjhdckjiaaDoorOuK
namespace Go.Proofs.YtodkmbjhdckjiaaDoor
open Go.RowKit Go.Shelf
attribute [local go_sem ↓] run_max_mx run_min_mn
set_option maxRecDepth 100000 in
set_option maxHeartbeats 1000000 in
theorem RSets_any (v : Value) (l : List Iv) (w : World) (hv : IvRow w v l) :
    Calls Tryd.prog 13 #[v] w fun e w' => ∃ sv, e = .returned (.tuple #[sv, .int .i64 (ouEr l)]) ∧ RrRow w' sv (setsL l) ∧ Below w.heap.size w w' := by
  cases hok : ouOk l with
  | true =>
    have hpos := ((ouOk_iff l).1 hok).1
    have he : ouEr l = 0 := by simp [ouEr, hok]; omega
    have Hok := hide hok
    have hv0 := hv
    obtain ⟨a, cap, rfl, h1, h2, h3⟩ := hv
    clear hok
    go_enter Tryd.func13, Tryd.ntmps13
    go_wp2_with (go_at_call 28; refine (Rcheck16_any _ l _ hv0).mono ?_; rintro e w1 ⟨rfl, b1⟩; rw [he])
    refine (Rleast_any _ l _ (hv0.below (Nat.le_refl _) b1) hpos.2).mono ?_
    rintro e w2 ⟨rfl, b2⟩
    have z1 := b1.size
    have z2 := b2.size
    have B2 : Below w.heap.size w w2 := (by ((repeat' (first | exact Below.refl _ _ | exact b1 | exact b2 | refine Below.alloc ?_ ?_ _ | refine Below.setCell ?_ ?_ _ | refine Below.drew ?_ | refine below_drewN ?_ _ | refine Below.trans ?_ (b1.mono ?_) | refine Below.trans ?_ (b2.mono ?_))) <;> (first | omega | (simp; done) | (simp; omega))))
    go_wp2_with fail
    go_loopw [6, 7] (fun out i wr => ∃ k : Nat, k ≤ l.length ∧ i = .int .i64 k ∧ RrRow wr out (stTo l (lst l) k) ∧ Below w.heap.size w wr) (fun _ i _ => l.length - (intOf i).toNat)
    case atStart => exact ⟨0, Nat.zero_le _, rfl, RrRow.nil _, B2⟩
    case round =>
      obtain ⟨k, hk, rfl, hr, hB⟩ := hrel
      have hz := hB.size
      obtain ⟨hst1, hst2, _⟩ := stTo_spec l (lst l) k
      have Hst1 := hide hst1
      have Hr := hide hr
      obtain ⟨oa, ocap, rfl, _, _, _⟩ := hr
      clear hst1
      by_cases hlt : k < l.length
      · obtain ⟨b, off, rfl, h4, h5, h6⟩ := h3 k hlt
        have h5' := (hB.cell (p := ⟨b, off + k * 2, none⟩) h4).trans h5
        clear h5 h6 h3
        go_wp2_with fail
        refine (RWithout_any _ l (iLo l k) _ (hv0.below (Nat.le_refl _) hB) (by omega)).mono ?_
        rintro e w3 ⟨ov, rfl, ho, b3⟩
        have hor := ho.row
        have hr3 := Hr.out.below (Nat.le_refl _) b3
        have z3 := b3.size
        obtain ⟨xa, xcap, rfl, _, _⟩ := ho.val
        by_cases hd : ((woL l (iLo l k)).length : Int) = lst l
        · have hd' : (((woL l (iLo l k)).length : Int) == lst l) = true := by rw [beq_iff_eq]; exact hd
          have Hn := hide (show stTo l (lst l) (k + 1) = insD (woL l (iLo l k)) (stTo l (lst l) k) by rw [stTo, if_pos hd])
          clear hd
          go_wp2_with fail
          refine (with_any _ _ _ _ _ hr3 hor Hst1.out (by omega)).mono ?_
          rintro e w4 ⟨rv, rfl, hrv, b4⟩
          have Hrv := hide hrv
          obtain ⟨ra, rcap, rfl, _, _, _⟩ := hrv
          go_wp2_with fail
          go_roundw
          case rel => exact ⟨k + 1, by omega, by go_num, by rw [Hn.out]; exact Hrv.out, (by ((repeat' (first | exact Below.refl _ _ | exact hB | exact b3 | exact b4 | refine Below.alloc ?_ ?_ _ | refine Below.setCell ?_ ?_ _ | refine Below.drew ?_ | refine below_drewN ?_ _ | refine Below.trans ?_ (hB.mono ?_) | refine Below.trans ?_ (b3.mono ?_) | refine Below.trans ?_ (b4.mono ?_))) <;> (first | omega | (simp; done) | (simp; omega))))⟩
          case measure => simp [intOf]; omega
        · have hd' : (((woL l (iLo l k)).length : Int) == lst l) = false := by rw [beq_eq_false_iff_ne]; exact hd
          have Hn := hide (show stTo l (lst l) (k + 1) = stTo l (lst l) k by rw [stTo, if_neg hd])
          clear hd
          go_wp2_with fail
          go_roundw
          case rel => exact ⟨k + 1, by omega, by go_num, by rw [Hn.out]; exact hr3, (by ((repeat' (first | exact Below.refl _ _ | exact hB | exact b3 | refine Below.alloc ?_ ?_ _ | refine Below.setCell ?_ ?_ _ | refine Below.drew ?_ | refine below_drewN ?_ _ | refine Below.trans ?_ (hB.mono ?_) | refine Below.trans ?_ (b3.mono ?_))) <;> (first | omega | (simp; done) | (simp; omega))))⟩
          case measure => simp [intOf]; omega
      · obtain rfl : k = l.length := by omega
        clear h3
        go_wp2_with fail
        first | go_ret2 | go_ret3
        refine ⟨_, by rw [he]; rfl, ?_, hB⟩
        have : setsL l = stTo l (lst l) l.length := by unfold setsL; rw [if_pos Hok.out]
        rw [this]; exact Hr.out
  | false =>
    have hne : ouEr l ≠ 0 := by unfold ouEr; split <;> simp [hok]
    have hne' : (ouEr l != 0) = true := by simpa using hne
    have Hok := hide hok
    clear hne hok
    go_enter Tryd.func13, Tryd.ntmps13
    go_wp2_with (go_at_call 28; refine (Rcheck16_any _ l _ hv).mono ?_; rintro e w1 ⟨rfl, b1⟩)
    refine bodyPost_ret (v := .tuple #[.slice none 0 0, .int .i64 (ouEr l)]) (by simp [results, Tryd.results13, go_sem]) rfl ⟨_, rfl, by rw [setsL_no Hok.out]; exact RrRow.nil _, ?_⟩
    ((repeat' (first | exact Below.refl _ _ | exact b1 | refine Below.alloc ?_ ?_ _ | refine Below.setCell ?_ ?_ _ | refine Below.drew ?_ | refine below_drewN ?_ _ | refine Below.trans ?_ (b1.mono ?_))) <;> (first | omega | (simp; done) | (simp; omega)))
def allH (sets : List (List Int)) (z : Int) : Nat → Bool
  | 0 => true
  | k + 1 => allH sets z k && decide (z ∈ rAt sets k)
theorem allH_iff (sets : List (List Int)) (z : Int) : ∀ k, (allH sets z k = true ↔ ∀ j, j < k → z ∈ rAt sets j)
  | 0 => by simp [allH]
  | k + 1 => by
    simp only [allH, Bool.and_eq_true, allH_iff sets z k, decide_eq_true_eq]
    constructor
    · rintro ⟨h1, h2⟩ j hj
      rcases Nat.lt_or_ge j k with h | h
      · exact h1 j h
      · obtain rfl : j = k := by omega
        exact h2
    · intro h; exact ⟨fun j hj => h j (by omega), h k (by omega)⟩
theorem allH_all (sets : List (List Int)) (z : Int) : allH sets z sets.length = sets.all fun y => y.contains z := by
  rw [Bool.eq_iff_iff, allH_iff, List.all_eq_true]
  constructor
  · intro h y hy
    obtain ⟨j, hj, rfl⟩ := List.getElem_of_mem hy
    have := h j hj
    rw [rAt_lt _ _ hj] at this
    simpa using this
  · intro h j hj
    have := h _ (rAt_mem hj)
    simpa using this
set_option maxRecDepth 100000 in
set_option maxHeartbeats 1000000 in
theorem RSure_any (v : Value) (l : List Iv) (w : World) (hv : IvRow w v l) :
    Calls Tryd.prog 16 #[v] w fun e w' => ∃ sv, e = .returned (.tuple #[sv, .int .i64 (ouEr l)]) ∧ IsRow w' sv (sureL l) ∧ Below w.heap.size w w' := by
  obtain ⟨i0, hi, hz0, hz1, hz2⟩ := info_parts infoInt
  cases hok : ouOk l with
  | true =>
    have hpos := ((ouOk_iff l).1 hok).1
    have he : ouEr l = 0 := by simp [ouEr, hok]; omega
    have Hok := hide hok
    have hv0 := hv
    obtain ⟨a, cap, rfl, h1, h2, h3⟩ := hv
    clear hok h3
    go_enter Tryd.func16, Tryd.ntmps16
    go_wp2_with fail
    refine (RSets_any _ l _ hv0).mono ?_
    rintro e w1 ⟨sv, rfl, hsv, b1⟩
    rw [he]
    have z1 := b1.size
    have hsl := setsL_length l
    obtain ⟨sa, scap, rfl, q1, q2, q3⟩ := hsv
    go_wp2_with fail
    go_loopw [6, 7] (fun out i wr => ∃ k : Nat, k ≤ l.length ∧ i = .int .i64 k ∧ OwnIs wr w1.heap.size out (suTo (setsL l) k) ∧ Below w1.heap.size w1 wr) (fun _ i _ => l.length - (intOf i).toNat)
    case atStart => exact ⟨0, Nat.zero_le _, rfl, OwnIs.nil _ _, Below.refl _ _⟩
    case round =>
      obtain ⟨k, hk, rfl, hown, hB⟩ := hrel
      have hz := hB.size
      have hsu := suTo_length (setsL l) k
      obtain ⟨oa, ocap, rfl, hc1, hc2⟩ := hown.val
      by_cases hlt : k < l.length
      · go_wp2_with fail
        obtain ⟨wo, hwo⟩ : ∃ wo : World, wo = wr := ⟨_, rfl⟩
        subst hwo
        go_loopw [8, 9] (fun s j wi => ∃ m : Nat, m ≤ (setsL l).length ∧ j = .int .i64 m ∧ s = .bool (allH (setsL l) k m) ∧ wi = wo) (fun _ j _ => (setsL l).length - (intOf j).toNat)
        case atStart => exact ⟨0, Nat.zero_le _, rfl, rfl, rfl⟩
        case round =>
          obtain ⟨m, hm, rfl, rfl, rfl⟩ := hrel
          by_cases hmt : m < (setsL l).length
          · obtain ⟨b, off, u, rfl, h4, h5, h6⟩ := q3 m hmt
            have g5 := (hB.cell (p := ⟨b, off + m, none⟩) h4).trans h5
            have g6 := h6.below (Nat.le_refl _) hB
            obtain ⟨ua, ucap, rfl, _, _, _⟩ := h6
            have hca := RHas16_any _ _ (k : Int) _ g6
            have Hn := hide (show allH (setsL l) k (m + 1) = (allH (setsL l) k m && decide ((k : Int) ∈ rAt (setsL l) m)) from rfl)
            clear q3 g6 h5
            generalize decide ((k : Int) ∈ rAt (setsL l) m) = q at *
            cases ha : allH (setsL l) k m with
            | true =>
              rw [ha] at Hn
              go_wp2_with (go_at_call 23; refine hca.mono ?_; rintro e w' ⟨rfl, rfl⟩)
              go_roundw
              case rel => exact ⟨m + 1, by omega, by go_num, by rw [Hn.out]; simp, by first | rfl | trivial⟩
              case measure => simp [intOf]; omega
            | false =>
              rw [ha] at Hn
              go_wp2_with (go_at_call 23; refine hca.mono ?_; rintro e w' ⟨rfl, rfl⟩)
              go_roundw
              case rel => exact ⟨m + 1, by omega, by go_num, by rw [Hn.out]; simp, by first | rfl | trivial⟩
              case measure => simp [intOf]; omega
          · obtain rfl : m = (setsL l).length := by omega
            have Ha := hide (allH_all (setsL l) (k : Int))
            clear q3
            cases ha : allH (setsL l) k (setsL l).length with
            | true =>
              have Hn := hide (show suTo (setsL l) (k + 1) = suTo (setsL l) k ++ [(k : Int)] by rw [suTo, if_pos (by rw [← Ha.out]; exact ha)])
              have hown' := hown
              unfold OwnIs at hown'
              have hlow := World.ownsRow.lt hown'
              go_wp2_with (at_builtin; refine wpList_append_own _ rfl _ _ 31 rfl w1.heap.size 3 i0 (.int .i64 0) 1 8 Tryd.underlying31 hi hz0 hz1 hz2 rfl (by decide) _ _ (encI (suTo (setsL l) k)) rfl (World.ownsRow.alloc hown' _) ⟨_, 0, none⟩ 1 1 [.int .i64 k] rfl rfl (cells_new _ [.int .i64 k] _) (by simp [Value.oneCell']) (by unfold maxLen; omega) (by omega) (by simp; omega) ?_; intro v3 w3 hown3 hg3 _)
              go_roundw
              case rel => exact ⟨k + 1, by omega, by go_num, by rw [Hn.out]; exact OwnIs.app hown3, ((hB.alloc (by omega) _).grown hg3 (by simp; omega) (fun r h => (hlow r h).1))⟩
              case measure => simp [intOf]; omega
            | false =>
              have Hn := hide (show suTo (setsL l) (k + 1) = suTo (setsL l) k by rw [suTo, if_neg (by rw [← Ha.out, ha]; simp)])
              go_wp2_with fail
              go_roundw
              case rel => exact ⟨k + 1, by omega, by go_num, by rw [Hn.out]; exact hown, hB⟩
              case measure => simp [intOf]; omega
      · obtain rfl : k = l.length := by omega
        clear q3
        have hr := hown.row
        have Hr := hide hr
        clear hr
        go_wp2_with fail
        first | go_ret2 | go_ret3
        refine ⟨_, by first | rfl | (rw [he]; rfl), ?_, (by ((repeat' (first | exact Below.refl _ _ | exact b1 | exact hB | refine Below.alloc ?_ ?_ _ | refine Below.setCell ?_ ?_ _ | refine Below.drew ?_ | refine below_drewN ?_ _ | refine Below.trans ?_ (b1.mono ?_) | refine Below.trans ?_ (hB.mono ?_))) <;> (first | omega | (simp; done) | (simp; omega))))⟩
        have : sureL l = suTo (setsL l) l.length := by unfold sureL; rw [if_pos Hok.out]
        rw [this]; exact Hr.out
  | false =>
    have hne : ouEr l ≠ 0 := by unfold ouEr; split <;> simp [hok]
    have hne' : (ouEr l != 0) = true := by simpa using hne
    have Hok := hide hok
    clear hne hok
    go_enter Tryd.func16, Tryd.ntmps16
    go_wp2_with fail
    refine (RSets_any _ l _ hv).mono ?_
    rintro e w1 ⟨sv, rfl, ⟨sa, scap, rfl, _⟩, b1⟩
    go_wp2_with fail
    refine bodyPost_ret (v := .tuple #[.slice none 0 0, .int .i64 (ouEr l)]) (by simp [results, Tryd.results16, go_sem]) rfl ⟨_, rfl, by rw [sureL_no Hok.out]; exact IsRow.nil _, ?_⟩
    ((repeat' (first | exact Below.refl _ _ | exact b1 | refine Below.alloc ?_ ?_ _ | refine Below.setCell ?_ ?_ _ | refine Below.drew ?_ | refine below_drewN ?_ _ | refine Below.trans ?_ (b1.mono ?_))) <;> (first | omega | (simp; done) | (simp; omega)))
end Go.Proofs.YtodkmbjhdckjiaaDoor
