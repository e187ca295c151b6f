/- SpreadAttained: for every list of widths and numbers the statement answers true and leaves its arguments as they were. No condition. -/
import Derived.Test.YtcpfifbchijleaaSpZ6
import Derived.Test.YtcpfifbchijleaaSpYb
namespace Go.Proofs.Ytcpfifbchijleaa
open Go.RowKit
theorem placeL_length {l : List Int} {f lost x : Int} (h : placeEr l f lost x = 0) : (placeL l f lost x).length = l.length := by rw [(place_ok h).2.2.2.2, plLie_length]
set_option maxRecDepth 100000 in
set_option maxHeartbeats 4000000 in
theorem SpAttained_any (w : World) (v : Value) (l : List Int) (hv : IsRow w v l) (_wl : WfI l) (f : Int) (lost : Int) (x : Int) :
    Calls Try.prog 9 #[v, .int .i64 f, .int .i64 lost, .int .i64 x] w fun e w' => e = .returned (.bool true) ∧ Below w.heap.size w w' := by
  have hmm := @run_makeMap Try.prog
  by_cases her : placeEr l f lost x = 0
  case neg =>
    have hne : (placeEr l f lost x != 0) = true := by rw [bne_iff_ne]; exact her
    clear her
    go_enter Try.func9, Try.ntmps9
    go_wp2_with fail
    refine (head_any _).mono ?_
    rintro e w1 ⟨rfl, b1⟩
    have hv1 := hv.below (Nat.le_refl _) b1
    go_wp2_with fail
    refine (Place_any _ l _ _ _ _ hv1).mono ?_
    rintro e w2 ⟨ov, rfl, o1, b2⟩
    have hv2 := hv1.below (Nat.le_refl _) b2
    go_wp2_with fail
    refine (Worst_any _ l _ _ _ hv2).mono ?_
    rintro e w3 ⟨rfl, b3⟩
    have hv3 := hv2.below (Nat.le_refl _) b3
    go_wp2_with fail
    refine (Pick_any _ l _ _ _ hv3).mono ?_
    rintro e w4 ⟨v1, v2, rfl, o2, o3, b4⟩
    have z1 := b1.size
    have z2 := b2.size
    have z3 := b3.size
    have B4 : Below w.heap.size w w4 := (by ((repeat' (first | with_reducible exact Below.refl _ _ | with_reducible exact b4 | with_reducible exact b3 | with_reducible exact b2 | with_reducible exact b1 | with_reducible refine Below.alloc ?_ ?_ _ | with_reducible refine Below.setCell ?_ ?_ _ | with_reducible refine Below.drew ?_ | with_reducible refine below_drewN ?_ _ | with_reducible refine Below.trans ?_ (b4.mono ?_) | with_reducible refine Below.trans ?_ (b3.mono ?_) | with_reducible refine Below.trans ?_ (b2.mono ?_) | with_reducible refine Below.trans ?_ (b1.mono ?_))) <;> (first | omega | (simp; done) | (simp; omega))))
    clear b1 b2 b3 b4 o1 o2 o3 hv1 hv2 hv3
    go_wp2_with fail
    go_ret
    exact ⟨rfl, B4⟩
  case pos =>
    have hpo := place_ok her
    have hok := hpo.1
    have hx := hpo.2.1
    have he := spEr_ok hok
    have hi := (spOk_iff l f lost).1 hok
    have hlen := hi.1.1
    have hAl := placeL_length her
    have HAl := hide hAl
    have Her := hide her
    have Hok := hide hok
    obtain ⟨b, off, cap, rfl, g1, g2, g4, g5, g7⟩ := hv.at0 (by omega)
    obtain ⟨i0, hi0, hz0, hz1, hz2⟩ := info_parts infoIv2
    clear hpo hi hok g7 g5 hAl
    go_enter Try.func9, Try.ntmps9
    go_wp2_with fail
    refine (head_any _).mono ?_
    rintro e w1 ⟨rfl, b1⟩
    have hv1 := hv.below (Nat.le_refl _) b1
    go_wp2_with fail
    refine (Place_any _ l _ _ _ _ hv1).mono ?_
    rintro e w2 ⟨ov, rfl, o1, b2⟩
    rw [Her.out]
    have hv2 := hv1.below (Nat.le_refl _) b2
    go_wp2_with fail
    refine (Worst_any _ l _ _ _ hv2).mono ?_
    rintro e w3 ⟨rfl, b3⟩
    rw [he]
    have hv3 := hv2.below (Nat.le_refl _) b3
    go_wp2_with fail
    refine (Pick_any _ l _ _ _ hv3).mono ?_
    rintro e w4 ⟨v1, v2, rfl, o2, o3, b4⟩
    rw [he]
    have hv4 := hv3.below (Nat.le_refl _) b4
    have z1 := b1.size
    have z2 := b2.size
    have z3 := b3.size
    have z4 := b4.size
    have B4 : Below w.heap.size w w4 := (by ((repeat' (first | with_reducible exact Below.refl _ _ | with_reducible exact b4 | with_reducible exact b3 | with_reducible exact b2 | with_reducible exact b1 | with_reducible refine Below.alloc ?_ ?_ _ | with_reducible refine Below.setCell ?_ ?_ _ | with_reducible refine Below.drew ?_ | with_reducible refine below_drewN ?_ _ | with_reducible refine Below.trans ?_ (b4.mono ?_) | with_reducible refine Below.trans ?_ (b3.mono ?_) | with_reducible refine Below.trans ?_ (b2.mono ?_) | with_reducible refine Below.trans ?_ (b1.mono ?_))) <;> (first | omega | (simp; done) | (simp; omega))))
    have hA4 : IvRow w4 ov (placeL l f lost x) := (o1.row.below (Nat.le_refl _) b3).below (Nat.le_refl _) b4
    have hP4 := o2.row
    have hG4 := o3.row
    obtain ⟨aA, cA, rfl, hcA1, hcA2, -⟩ := id hA4
    obtain ⟨aP, cP, rfl, hcP1, hcP2, -⟩ := id hP4
    obtain ⟨aG, cG, rfl, hcG1, hcG2, -⟩ := id hG4
    rw [HAl.out] at hcA1
    have hlP := picks_len Hok.out
    have hfb : f ≤ 16 ∧ lost ≤ 16 := by have := (spOk_iff l f lost).1 Hok.out; omega
    have hnP : (pickL l f lost).length ≤ 16 := by omega
    have hnG : (goneL l f lost).length ≤ 16 := by omega
    have HA4 := hide hA4
    have HP4 := hide hP4
    have HG4 := hide hG4
    have Hv4 := hide hv4
    have hmap := ownM_made w4
    rw [HAl.out]
    clear b1 b2 b3 b4 o1 o2 o3 hv1 hv2 hv3 hv4 hA4 hP4 hG4 hv hlP hfb
    go_wp2_with fail
    go_loopw [91] (fun s91 wx => ∃ j n : Nat, j ≤ (pickL l f lost).length ∧ s91 = .int .i64 j ∧ n ≤ j ∧ OwnM wx w4.heap.size n (gf ((pickL l f lost).take j) 1 fun _ => 0) ∧ Below w4.heap.size w4 wx) (fun s91 _ => (pickL l f lost).length - (intOf s91).toNat)
    case atStart => exact ⟨0, 0, Nat.zero_le _, rfl, Nat.le_refl _, by rw [List.take_zero, gf_nil]; exact hmap, (by ((repeat' (first | with_reducible exact Below.refl _ _ | with_reducible refine Below.alloc ?_ ?_ _ | with_reducible refine Below.setCell ?_ ?_ _ | with_reducible refine Below.drew ?_ | with_reducible refine below_drewN ?_ _)) <;> (first | omega | (simp; done) | (simp; omega))))⟩
    case round =>
      clear hmap
      obtain ⟨j, n, hj, rfl, hn, hM, hB⟩ := hrel
      have HM := hide hM
      clear hM
      by_cases hjl : j < (pickL l f lost).length
      · have hr := (picks_rising Hok.out).1.1 j hjl
        obtain ⟨q, hq⟩ : ∃ q : Nat, iAt (pickL l f lost) j = q := ⟨(iAt (pickL l f lost) j).toNat, by omega⟩
        obtain ⟨zb, zo, zc, e, y1, y2, y3, -, y5⟩ := (HP4.out.below (Nat.le_refl _) hB).at0 (by omega)
        simp only [Value.slice.injEq, true_and] at e
        obtain ⟨rfl, rfl⟩ := e
        have hcj := y5 j hjl
        have Hst := hide (gf_step 1 (fun _ => 0) j hjl)
        rw [hq] at hcj hr Hst
        have I1 : (0 : Int) ≤ (j : Int) := by omega
        have I2 : (j : Int) < ((pickL l f lost).length : Int) := by omega
        clear y5 hq
        go_wp2_with (at_mapUpdate; refine wpList_set_ownM _ rfl _ _ _ rfl w4.heap.size n _ rfl HM.out (by unfold maxLen; omega) _ 1 rfl rfl (WalkArith.wf_i64 (by omega)) (WalkArith.wf_i64 (by omega)) ?_; intro w5 hM5 hg5; have HM5 := hide hM5; clear hM5)
        go_roundw
        case rel => exact ⟨j + 1, n + 1, by omega, by go_num, by omega, by rw [← Hst.out]; exact HM5.out, hB.grown hg5 hB.size (fun r h => by have := Option.some.inj h; omega)⟩
        case measure => simp [intOf]; omega
      · obtain rfl : j = (pickL l f lost).length := by omega
        rw [List.take_length] at HM
        obtain ⟨wo, hwo⟩ : ∃ wo : World, wo = wr := ⟨_, rfl⟩
        subst hwo
        go_wp2_with fail
        go_loopw [100] (fun s100 wx => ∃ j m : Nat, j ≤ (goneL l f lost).length ∧ s100 = .int .i64 j ∧ m ≤ n + j ∧ OwnM wx w4.heap.size m (gf ((goneL l f lost).take j) 2 (gf (pickL l f lost) 1 fun _ => 0)) ∧ Below w4.heap.size w4 wx) (fun s100 _ => (goneL l f lost).length - (intOf s100).toNat)
        case atStart => exact ⟨0, n, Nat.zero_le _, rfl, Nat.le_refl _, by rw [List.take_zero, gf_nil]; exact HM.out, hB⟩
        case round =>
          clear hB HM
          obtain ⟨j, m, hj, rfl, hm, hM, hB⟩ := hrel
          have HM := hide hM
          clear hM
          by_cases hjl : j < (goneL l f lost).length
          · have hr := (picks_rising Hok.out).2.1 j hjl
            obtain ⟨q, hq⟩ : ∃ q : Nat, iAt (goneL l f lost) j = q := ⟨(iAt (goneL l f lost) j).toNat, by omega⟩
            obtain ⟨zb, zo, zc, e, y1, y2, y3, -, y5⟩ := (HG4.out.below (Nat.le_refl _) hB).at0 (by omega)
            simp only [Value.slice.injEq, true_and] at e
            obtain ⟨rfl, rfl⟩ := e
            have hcj := y5 j hjl
            have Hst := hide (gf_step 2 (gf (pickL l f lost) 1 fun _ => 0) j hjl)
            rw [hq] at hcj hr Hst
            have I1 : (0 : Int) ≤ (j : Int) := by omega
            have I2 : (j : Int) < ((goneL l f lost).length : Int) := by omega
            clear y5 hq
            go_wp2_with (at_mapUpdate; refine wpList_set_ownM _ rfl _ _ _ rfl w4.heap.size m _ rfl HM.out (by unfold maxLen; omega) _ 2 rfl rfl (WalkArith.wf_i64 (by omega)) (WalkArith.wf_i64 (by omega)) ?_; intro w5 hM5 hg5; have HM5 := hide hM5; clear hM5)
            go_roundw
            case rel => exact ⟨j + 1, m + 1, by omega, by go_num, by omega, by rw [← Hst.out]; exact HM5.out, hB.grown hg5 hB.size (fun r h => by have := Option.some.inj h; omega)⟩
            case measure => simp [intOf]; omega
          · obtain rfl : j = (goneL l f lost).length := by omega
            rw [List.take_length, gf_role] at HM
            have hMlt := HM.out.lt
            obtain ⟨wo, hwo⟩ : ∃ wo : World, wo = wr := ⟨_, rfl⟩
            subst hwo
            have HBo := hide hB
            clear hB
            go_wp2_with fail
            go_loopw [22, 109] (fun s22 s109 wx => ∃ i : Nat, i ≤ l.length ∧ s109 = .int .i64 i ∧ OwnM wx w4.heap.size m (roleP (pickL l f lost) (goneL l f lost)) ∧ OwnIv wx (w4.heap.size + 1) s22 (attTo (placeL l f lost x) (pickL l f lost) (goneL l f lost) i) ∧ Below w4.heap.size w4 wx) (fun _ s109 _ => l.length - (intOf s109).toNat)
            case atStart => exact ⟨0, Nat.zero_le _, rfl, HM.out, OwnP.nil _ _, HBo.out⟩
            case round =>
              clear HM HBo hMlt
              obtain ⟨i, hi, rfl, hM, hown, hB⟩ := hrel
              obtain ⟨s22, hs22⟩ : ∃ v : Value, v = u22 := ⟨_, rfl⟩
              subst hs22
              by_cases hil : i < l.length
              · have Hlen := hide (show (attTo (placeL l f lost x) (pickL l f lost) (goneL l f lost) i).length ≤ i by rw [attTo_length]; exact cnt_le _ _)
                have hal := att_right Her.out i hil
                have hwi := ((spOk_iff l f lost).1 Hok.out).1.2 i hil
                have hrl : roleP (pickL l f lost) (goneL l f lost) i = 0 ∨ roleP (pickL l f lost) (goneL l f lost) i = 1 ∨ roleP (pickL l f lost) (goneL l f lost) i = 2 := by
                  unfold roleP
                  split
                  · exact .inr (.inr rfl)
                  · split
                    · exact .inr (.inl rfl)
                    · exact .inl rfl
                have Hatt : Hid (attTo (placeL l f lost x) (pickL l f lost) (goneL l f lost) (i + 1) = if roleP (pickL l f lost) (goneL l f lost) i < 2 then attTo (placeL l f lost x) (pickL l f lost) (goneL l f lost) i ++ [(iLo (placeL l f lost x) i, iHi (placeL l f lost x) i)] else attTo (placeL l f lost x) (pickL l f lost) (goneL l f lost) i) := hide rfl
                have Hlow := hide (fun k h => Nat.le_trans (Nat.le_succ _) (hown.lt k h).1)
                have Hnb := hide (show some w4.heap.size ≠ Value.ownBlock s22 from fun h => by have := (hown.lt _ h.symm).1; omega)
                have Hlook := hide (fun (W : World) (h : OwnM W w4.heap.size m (roleP (pickL l f lost) (goneL l f lost))) (N : Nat) => (h.below (below_drewN (Below.refl (w4.heap.size + 1) W) N) (Nat.lt_succ_self _)).look i (WalkArith.wf_i64 (by omega)))
                have Hcells := hide (show ∀ W, Below w4.heap.size w4 W → W.cell? ⟨b, off + i, none⟩ = some (.int .i64 (iAt l i)) from fun W hW => by
                  obtain ⟨b', off', cap', e, y1, y2, y3, -, y5⟩ := (Hv4.out.below (Nat.le_refl _) hW).at0 (by omega)
                  simp only [Value.slice.injEq, Option.some.injEq, Addr.mk.injEq, and_true, true_and] at e
                  obtain ⟨⟨rfl, rfl⟩, rfl⟩ := e
                  exact y5 i hil)
                obtain ⟨zb, zo, zc, e, y1, y2, y3, -, -, y5⟩ := (HA4.out.below (Nat.le_refl _) hB).at0 (by rw [HAl.out]; omega)
                simp only [Value.slice.injEq, HAl.out, true_and] at e
                obtain ⟨rfl, rfl⟩ := e
                obtain ⟨y6, y7⟩ := y5 i (by rw [HAl.out]; exact hil)
                clear y5
                have hM1 := hM.kept (World.grownBy_alloc wr (.cells #[.int .i64 (iLo (placeL l f lost x) i), .int .i64 (iHi (placeL l f lost x) i)] 46) none) (by simp)
                have hL := hM1.look i (WalkArith.wf_i64 (by omega))
                have hL2 := Hlook.out _ hM1
                have I1 : (0 : Int) ≤ (i : Int) := by omega
                have I2 : (i : Int) < (l.length : Int) := by omega
                have HM := hide hM
                have Hown := hide hown
                have HB := hide hB
                have HM1 := hide hM1
                clear hM hown hB hM1
                rcases hrl with hr | hr | hr
                · rw [hr] at hL hL2
                  obtain ⟨q1, q2, q3⟩ := hal hr
                  have d1 : decide (x < iLo (placeL l f lost x) i) = false := decide_eq_false (Int.not_lt.2 q1)
                  have d2 : decide (iHi (placeL l f lost x) i < x) = false := decide_eq_false (Int.not_lt.2 q2)
                  have q4 : iHi (placeL l f lost x) i - iLo (placeL l f lost x) i = iAt l i := q3
                  have ew : wrap64 (iAt l i) = iAt l i := by first | exact IntWalk.i64_in _ (by omega) | (unfold wrap64; omega)
                  clear hal hL2 q1 q2 q3
                  have hA2 : attTo (placeL l f lost x) (pickL l f lost) (goneL l f lost) (i + 1) = (attTo (placeL l f lost x) (pickL l f lost) (goneL l f lost) i) ++ [(iLo (placeL l f lost x) i, iHi (placeL l f lost x) i)] := by rw [Hatt.out, hr, if_pos (by omega)]
                  have HA2 := hide hA2
                  clear hA2
                  have zA : (wr.alloc (.cells #[.int .i64 (iLo (placeL l f lost x) i), .int .i64 (iHi (placeL l f lost x) i)] 46)).heap.size = wr.heap.size + 1 := by simp
                  have Hnw := hide (show ∀ j u, ([.int .i64 (iLo (placeL l f lost x) i), .int .i64 (iHi (placeL l f lost x) i)] : List Value)[j]? = some u → ((wr.alloc (.cells #[.int .i64 (iLo (placeL l f lost x) i), .int .i64 (iHi (placeL l f lost x) i)] 46)).alloc (.cells #[.int .i64 (iLo (placeL l f lost x) i), .int .i64 (iHi (placeL l f lost x) i)] 46)).cell? ((⟨wr.heap.size + 1, 0, none⟩ : Addr).add j) = some u from by rw [← zA]; exact cells_new (wr.alloc (.cells #[.int .i64 (iLo (placeL l f lost x) i), .int .i64 (iHi (placeL l f lost x) i)] 46)) [.int .i64 (iLo (placeL l f lost x) i), .int .i64 (iHi (placeL l f lost x) i)] _)
                  have hk0 : ((wr.alloc (.cells #[.int .i64 (iLo (placeL l f lost x) i), .int .i64 (iHi (placeL l f lost x) i)] 46)).alloc (.cells #[.int .i64 (iLo (placeL l f lost x) i), .int .i64 (iHi (placeL l f lost x) i)] 46)).heap[wr.heap.size]? = some (.cells #[.int .i64 (iLo (placeL l f lost x) i), .int .i64 (iHi (placeL l f lost x) i)] 46) := ((World.grownBy_alloc (wr.alloc (.cells #[.int .i64 (iLo (placeL l f lost x) i), .int .i64 (iHi (placeL l f lost x) i)] 46)) (.cells #[.int .i64 (iLo (placeL l f lost x) i), .int .i64 (iHi (placeL l f lost x) i)] 46) none).block wr.heap.size (by simp) (by simp)).trans (World.alloc_heap_new wr (.cells #[.int .i64 (iLo (placeL l f lost x) i), .int .i64 (iHi (placeL l f lost x) i)] 46))
                  have Hk0 := hide hk0
                  clear zA hk0
                  have Hbig := hide (show (attTo (placeL l f lost x) (pickL l f lost) (goneL l f lost) i).length + 1 ≤ 16 by have := Hlen.out; omega)
                  go_wp2_with (at_builtin; refine wpList_append_own _ rfl _ _ 30 rfl (w4.heap.size + 1) 46 i0 (.agg #[.int .i64 0, .int .i64 0]) 2 16 Try.underlying30 hi0 hz0 hz1 hz2 rfl (by decide) _ (attTo (placeL l f lost x) (pickL l f lost) (goneL l f lost) i).length (encL (attTo (placeL l f lost x) (pickL l f lost) (goneL l f lost) i)) rfl (World.ownsRow.alloc (World.ownsRow.alloc Hown.out _) _) ⟨wr.heap.size + 1, 0, none⟩ 1 1 [.int .i64 (iLo (placeL l f lost x) i), .int .i64 (iHi (placeL l f lost x) i)] rfl rfl Hnw.out (by simp [Value.oneCell']) (by have := Hbig.out; unfold maxLen; omega) (by have := Hbig.out; omega) (by have := HB.out.size; simp; omega) ?_; intro v3 w3 hown3 hg3 _; have HM3 := hide ((HM1.out.kept (World.grownBy_alloc _ _ none) (by simp)).kept hg3 Hnb.out); have HB3 := hide (((HB.out.alloc HB.out.size _).alloc (by have := HB.out.size; simp; omega) _).grown hg3 (by have := HB.out.size; simp; omega) Hlow.out); have hk3 := (hg3.block wr.heap.size (by simp; omega) (fun h => by have := (Hown.out.lt _ h.symm).2; omega)).trans Hk0.out; have hL3 := Hlook.out _ HM3.out; rw [hr] at hL3; have kl : w3.cell? ⟨wr.heap.size, 0, none⟩ = some (.int .i64 (iLo (placeL l f lost x) i)) := (by simp [World.cell?, hk3]); have kh : w3.cell? ⟨wr.heap.size, 1, none⟩ = some (.int .i64 (iHi (placeL l f lost x) i)) := (by simp [World.cell?, hk3]); have kw := Hcells.out _ HB3.out; have HO3 := hide hown3; clear hk3 hg3 hown3)
                  go_quiet (fail)
                  go_wp2_with fail
                  go_roundw
                  case rel => exact ⟨i + 1, by omega, by go_num, HM3.out.below (below_drewN (Below.refl (w4.heap.size + 1) _) _) (Nat.lt_succ_self _), by rw [HA2.out]; exact (OwnP.app HO3.out).below (Nat.le_refl _) (below_drewN (Below.refl _ _) _), below_drewN HB3.out _⟩
                  case measure => simp [intOf]; omega
                · rw [hr] at hL hL2
                  clear hal hL2
                  have hA2 : attTo (placeL l f lost x) (pickL l f lost) (goneL l f lost) (i + 1) = (attTo (placeL l f lost x) (pickL l f lost) (goneL l f lost) i) ++ [(iLo (placeL l f lost x) i, iHi (placeL l f lost x) i)] := by rw [Hatt.out, hr, if_pos (by omega)]
                  have HA2 := hide hA2
                  clear hA2
                  have zA : (wr.alloc (.cells #[.int .i64 (iLo (placeL l f lost x) i), .int .i64 (iHi (placeL l f lost x) i)] 46)).heap.size = wr.heap.size + 1 := by simp
                  have Hnw := hide (show ∀ j u, ([.int .i64 (iLo (placeL l f lost x) i), .int .i64 (iHi (placeL l f lost x) i)] : List Value)[j]? = some u → ((wr.alloc (.cells #[.int .i64 (iLo (placeL l f lost x) i), .int .i64 (iHi (placeL l f lost x) i)] 46)).alloc (.cells #[.int .i64 (iLo (placeL l f lost x) i), .int .i64 (iHi (placeL l f lost x) i)] 46)).cell? ((⟨wr.heap.size + 1, 0, none⟩ : Addr).add j) = some u from by rw [← zA]; exact cells_new (wr.alloc (.cells #[.int .i64 (iLo (placeL l f lost x) i), .int .i64 (iHi (placeL l f lost x) i)] 46)) [.int .i64 (iLo (placeL l f lost x) i), .int .i64 (iHi (placeL l f lost x) i)] _)
                  have hk0 : ((wr.alloc (.cells #[.int .i64 (iLo (placeL l f lost x) i), .int .i64 (iHi (placeL l f lost x) i)] 46)).alloc (.cells #[.int .i64 (iLo (placeL l f lost x) i), .int .i64 (iHi (placeL l f lost x) i)] 46)).heap[wr.heap.size]? = some (.cells #[.int .i64 (iLo (placeL l f lost x) i), .int .i64 (iHi (placeL l f lost x) i)] 46) := ((World.grownBy_alloc (wr.alloc (.cells #[.int .i64 (iLo (placeL l f lost x) i), .int .i64 (iHi (placeL l f lost x) i)] 46)) (.cells #[.int .i64 (iLo (placeL l f lost x) i), .int .i64 (iHi (placeL l f lost x) i)] 46) none).block wr.heap.size (by simp) (by simp)).trans (World.alloc_heap_new wr (.cells #[.int .i64 (iLo (placeL l f lost x) i), .int .i64 (iHi (placeL l f lost x) i)] 46))
                  have Hk0 := hide hk0
                  clear zA hk0
                  have Hbig := hide (show (attTo (placeL l f lost x) (pickL l f lost) (goneL l f lost) i).length + 1 ≤ 16 by have := Hlen.out; omega)
                  go_wp2_with (at_builtin; refine wpList_append_own _ rfl _ _ 30 rfl (w4.heap.size + 1) 46 i0 (.agg #[.int .i64 0, .int .i64 0]) 2 16 Try.underlying30 hi0 hz0 hz1 hz2 rfl (by decide) _ (attTo (placeL l f lost x) (pickL l f lost) (goneL l f lost) i).length (encL (attTo (placeL l f lost x) (pickL l f lost) (goneL l f lost) i)) rfl (World.ownsRow.alloc (World.ownsRow.alloc Hown.out _) _) ⟨wr.heap.size + 1, 0, none⟩ 1 1 [.int .i64 (iLo (placeL l f lost x) i), .int .i64 (iHi (placeL l f lost x) i)] rfl rfl Hnw.out (by simp [Value.oneCell']) (by have := Hbig.out; unfold maxLen; omega) (by have := Hbig.out; omega) (by have := HB.out.size; simp; omega) ?_; intro v3 w3 hown3 hg3 _; have HM3 := hide ((HM1.out.kept (World.grownBy_alloc _ _ none) (by simp)).kept hg3 Hnb.out); have HB3 := hide (((HB.out.alloc HB.out.size _).alloc (by have := HB.out.size; simp; omega) _).grown hg3 (by have := HB.out.size; simp; omega) Hlow.out); have hk3 := (hg3.block wr.heap.size (by simp; omega) (fun h => by have := (Hown.out.lt _ h.symm).2; omega)).trans Hk0.out; have hL3 := Hlook.out _ HM3.out; rw [hr] at hL3; have kl : w3.cell? ⟨wr.heap.size, 0, none⟩ = some (.int .i64 (iLo (placeL l f lost x) i)) := (by simp [World.cell?, hk3]); have kh : w3.cell? ⟨wr.heap.size, 1, none⟩ = some (.int .i64 (iHi (placeL l f lost x) i)) := (by simp [World.cell?, hk3]); have kw := Hcells.out _ HB3.out; have HO3 := hide hown3; clear hk3 hg3 hown3)
                  go_quiet (fail)
                  go_wp2_with fail
                  go_roundw
                  case rel => exact ⟨i + 1, by omega, by go_num, HM3.out.below (below_drewN (Below.refl (w4.heap.size + 1) _) _) (Nat.lt_succ_self _), by rw [HA2.out]; exact (OwnP.app HO3.out).below (Nat.le_refl _) (below_drewN (Below.refl _ _) _), below_drewN HB3.out _⟩
                  case measure => simp [intOf]; omega
                · rw [hr] at hL hL2
                  have hA2 : attTo (placeL l f lost x) (pickL l f lost) (goneL l f lost) (i + 1) = attTo (placeL l f lost x) (pickL l f lost) (goneL l f lost) i := by rw [Hatt.out, hr, if_neg (by omega)]
                  clear hal
                  go_wp2_with fail
                  go_quiet (fail)
                  go_wp2_with fail
                  go_roundw
                  case rel => exact ⟨i + 1, by omega, by go_num, HM1.out.below (below_drewN (Below.refl (w4.heap.size + 1) _) _) (Nat.lt_succ_self _), by rw [hA2]; exact Hown.out.below (Nat.le_refl _) (below_drewN ((Below.refl _ _).alloc (Nat.le_refl _) _) _), below_drewN (HB.out.alloc HB.out.size _) _⟩
                  case measure => simp [intOf]; omega
              · obtain rfl : i = l.length := by omega
                have hal := att_law Her.out
                simp only at hal
                have hrow := hown.row
                generalize attTo (placeL l f lost x) (pickL l f lost) (goneL l f lost) l.length = L at *
                clear hM hown
                obtain ⟨aL, cL, rfl, hc1, hc2, hc3⟩ := id hrow
                clear hc3
                obtain ⟨l1, l2, l3, l4, l5⟩ := hal
                go_wp2_with fail
                refine (Combine_any _ L _ _ hrow).mono ?_
                rintro e w8 ⟨rfl, b8⟩
                have hs : ((L.length : Int) == IntKind.i64.wrap ((l.length : Int) - lost)) = true := by rw [IntWalk.i64_in _ (by omega), beq_iff_eq]; omega
                have ew : wrap64 (worst l f lost) = worst l f lost := by have := worst_bd Hok.out; first | exact IntWalk.i64_in _ (by omega) | (unfold wrap64; omega)
                have e5 : decide (cbLo L f ≤ x) = true := decide_eq_true l4
                have e6 : decide (x ≤ cbHi L f) = true := decide_eq_true l5
                rw [l2]
                have B8 : Below w4.heap.size w4 w8 := hB.trans (b8.mono hB.size)
                go_wp2_with fail
                go_ret
                exact ⟨by first | rfl | exact ret_bool (by simp), (B4.trans (B8.mono B4.size)).alloc (Nat.le_trans B4.size B8.size) _⟩
set_option maxRecDepth 100000 in
theorem spreadAttained_holds : Rows.SpreadAttainedSaid :=
  OpenClaim.holds_of_wide 9 Try.f9 rfl rfl rfl rfl rfl rfl rfl ⟨rfl, rfl, rfl, rfl, rfl⟩ rfl rfl rfl rfl rfl (by kernel_rfl) Try.func9 (by kernel_rfl)
    (of_decide_eq_true (by kernel_rfl)) (by unfold Func.isWrapper; rw [if_neg (of_decide_eq_false (by kernel_rfl))]; exact ⟨rfl, rfl⟩)
    (fun os started H enc _ => law_lifted started 9 Try.f9 Try.func9 (by kernel_rfl) Rows.spreadAttainedSpec rfl rfl
      (fun ds h => by match ds, h with | [_, _, _, _], _ => exact ⟨rfl, rfl, rfl⟩)
      (fun t h => by
        rw [Try.params9] at h
        simp only [List.mem_cons, List.not_mem_nil, or_false] at h
        rcases h with rfl | rfl | rfl | rfl <;> exact ⟨by kernel_rfl, of_decide_eq_true (by kernel_rfl)⟩)
      (ChangeSpec.witness6 (enc := enc) (C := Try.checked) false ⟨#[], #[.slice none 0 0, .int .i64 0, .int .i64 0, .int .i64 0], []⟩ 8 (by kernel_rfl) (by kernel_rfl) (by kernel_rfl) (by kernel_rfl))
      (fun W base args ds p hA hok => by
        rw [Try.params9] at hA hok
        obtain ⟨v0, vs0, d0, ds0, p0, q0, hargs, rfl, rfl, h0, r0⟩ := ChangeShapes.trodAll_cons hA
        obtain ⟨v1, vs1, d1, ds1, p1, q1, rfl, rfl, rfl, h1, r1⟩ := ChangeShapes.trodAll_cons r0
        obtain ⟨v2, vs2, d2, ds2, p2, q2, rfl, rfl, rfl, h2, r2⟩ := ChangeShapes.trodAll_cons r1
        obtain ⟨v3, vs3, d3, ds3, p3, q3, rfl, rfl, rfl, h3, r3⟩ := ChangeShapes.trodAll_cons r2
        obtain ⟨rfl, rfl, rfl⟩ := ChangeShapes.trodAll_nil r3
        obtain rfl : args = #[v0, v1, v2, v3] := by rw [← Array.toArray_toList (xs := args), hargs]
        obtain ⟨l0, hl0, wl0⟩ := open_is (hok 0 _ v0 rfl rfl) h0
        obtain ⟨x1, rfl, hx1⟩ := open_i64 Try.underlying3 (hok 1 _ v1 rfl rfl) h1
        obtain ⟨x2, rfl, hx2⟩ := open_i64 Try.underlying3 (hok 2 _ v2 rfl rfl) h2
        obtain ⟨x3, rfl, hx3⟩ := open_i64 Try.underlying3 (hok 3 _ v3 rfl rfl) h3
        exact SpAttained_any W v0 l0 hl0 wl0 x1 x2 x3))
end Go.Proofs.Ytcpfifbchijleaa
