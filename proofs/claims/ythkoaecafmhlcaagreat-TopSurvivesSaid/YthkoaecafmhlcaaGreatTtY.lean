/- Package journal: Recover. -/
import Derived.Test.YthkoaecafmhlcaaGreatTtV
import Derived.Test.YthkoaecafmhlcaaGreatTsU
namespace Go.Proofs.YthkoaecafmhlcaaGreat
open Go.RowKit
attribute [local simp] size_drewT
theorem topTs_take {D : List Tx} {k : Nat} (h : k < D.length) : topTs (D.take (k + 1)) = (txAt D k).ts := by
 rw [List.take_succ_eq_append_getElem h, topTs_snoc, txAt_lt h]
set_option maxHeartbeats 4000000 in
set_option maxRecDepth 100000 in
set_option maxHeartbeats 400000 in
theorem Recover_any (v : Value) (D : List Tx) (w : World) (h : BRow w v (logB D)) (hG : GoodD D) (hD : D.length ≤ 50) :
  Calls Tryz.prog 13 #[v] w fun e w' => (∃ sv, e = .returned (.tuple #[valL sv (.slice none 0 0) (topTs D), .int .i64 (logB D).length, .int .i64 0]) ∧ Owns 64 encVr 4 w' w.heap.size sv (stV (evs D))) ∧ Below w.heap.size w w' := by
 have hlen := logB_len D (fun x hx => (hG.2 x hx).1)
 have HLo := hide (fun (V : World) (hV : Below w.heap.size w V) => Load_any v D [] 0 V (by rw [List.take_zero, List.append_nil]; exact h.below (Nat.le_refl _) hV) hG (by omega) okL_nil (frm_pos _) (by rw [List.take_zero, List.append_nil]; omega))
 have HSt := hide (fun k j hk hj => @sh_step (ldOf D 0) (ldOf_vl hG (by omega) 0) k j hk hj)
 have HG := hide hG
 have e0 : (ldOf D 0).opn = D := rfl
 have e1 : (ldOf D 0).st = [] := rfl
 rw [e0, e1] at HSt
 obtain ⟨va, vc, rfl, -⟩ := h.len
 obtain ⟨M, hM⟩ : ∃ M, M = (logB D).length := ⟨_, rfl⟩
 rw [← hM] at HLo ⊢
 clear h hG e0 e1 hlen hM
 obtain ⟨W, hW⟩ : ∃ V, V = w.alloc (.cells #[.int .i64 0, .slice none 0 0, .slice none 0 0] 38) := ⟨_, rfl⟩
 have hb : BxC W w.heap.size [.int .i64 0, .slice none 0 0, .slice none 0 0] := by rw [hW]; exact BxC.made w _ _
 have hB : Below w.heap.size w W := by rw [hW]; ((with_reducible repeat' first | exact .refl _ _ | refine .alloc ?_ ?_ _ | refine .setCell ?_ ?_ _ | refine .drew ?_ | refine below_drewN ?_ _) <;> first | omega | simp <;> omega)
 have zW : W.heap.size = w.heap.size + 1 := by rw [hW]; simp
 go_enter Tryz.func13, Tryz.ntmps13
 go_upto_region 1 with fail
 rw [← hW]
 clear hW
 go_upto_region 4 with (go_at_call 9; (with_reducible refine (HLo.out _ hB).mono ?_); rintro e w1 ⟨⟨lv, rfl, o1⟩, k1⟩; have hrow := o1.ty.row; obtain ⟨la, lc, rfl, -, -⟩ := hrow.len; have z1 := k1.size; have t_ := hb.below hb.2.2 k1; clear hb; have hb := t_; clear t_; have t_ := hB.trans (k1.mono hB.size); clear hB; have hB := t_; clear t_ k1 o1)
 obtain ⟨W2, hW2⟩ : ∃ V, V = w1.alloc (.cells #[.int .i64 0, .slice none 0 0, .slice none 0 0] 38) := ⟨_, rfl⟩
 have hb8 : BxC W2 w1.heap.size [.int .i64 0, .slice none 0 0, .slice none 0 0] := by rw [hW2]; exact BxC.made w1 _ _
 have hB2 : Below w1.heap.size w1 W2 := by rw [hW2]; ((with_reducible repeat' first | exact .refl _ _ | refine .alloc ?_ ?_ _ | refine .setCell ?_ ?_ _ | refine .drew ?_ | refine below_drewN ?_ _) <;> first | omega | simp <;> omega)
 go_upto_region 5 with fail
 rw [← hW2]
 clear hW2
 have HB := hide hB
 have HRow := hide (fun (V : World) (hV : Below w1.heap.size w1 V) => hrow.below (Nat.le_refl _) hV)
 have HBr := hide (fun (V : World) (hV : Below w1.heap.size w1 V) => hb.below hb.2.2 hV)
 clear hB hrow hb
 go_wp2_with fail
 go_loopw [27] (fun s27 wx => ∃ (k : Nat) (sv : Value), k ≤ D.length ∧ s27 = .int .i64 k ∧ Hid (BxC wx w1.heap.size [.int .i64 (topTs (D.take k)), sv, .slice none 0 0]) ∧ Hid (Owns 64 encVr 4 wx (w1.heap.size + 1) sv (stF [] (ShV D k 0))) ∧ Below w1.heap.size w1 wx) (fun s27 _ => D.length - (intOf s27).toNat)
 case atStart => exact ⟨0, _, Nat.zero_le _, rfl, hide hb8, hide (Owns.nil _ _), hB2⟩
 case round =>
  clear hb8 hB2
  obtain ⟨k, sv, hk, rfl, HX, HO, hB⟩ := hrel
  by_cases hlt : k < D.length
  ·obtain ⟨b, off, cap', rv, wv, hbv, hlt0, x0', x1', x2', x3', hrd⟩ := TxR.at_ (HRow.out _ (Below.refl _ _)) (i := k) hlt
   cases hbv
   have x0 := (hB.cell (p := ⟨_, _, none⟩) hlt0).trans x0'
   have x1 := (hB.cell (p := ⟨_, _, none⟩) hlt0).trans x1'
   have x2 := (hB.cell (p := ⟨_, _, none⟩) hlt0).trans x2'
   have x3 := (hB.cell (p := ⟨_, _, none⟩) hlt0).trans x3'
   clear x0' x1' x2' x3'
   have hfm8 : (txAt D k).wr.length ≤ 8 := (HG.out.2 _ (txAt_mem hlt)).1.2.2.2.2.2
   have HStk := hide (fun j hj => HSt.out k j hlt hj)
   have HNx := hide (shV_next (O := D) (k := k) hlt)
   have HTp := hide (topTs_take hlt)
   obtain ⟨TP, hTP⟩ : ∃ x, x = topTs (D.take k) := ⟨_, rfl⟩
   rw [← hTP] at HX
   obtain ⟨ar, cr, rfl, -⟩ := id hrd.1
   obtain ⟨aw, cw, rfl, -⟩ := id hrd.2
   have hvl : (vers (txAt D k)).length = (txAt D k).wr.length := vers_length _
   have hvat : ∀ j, j < (txAt D k).wr.length → vAt (vers (txAt D k)) j = verW (txAt D k).ts (wAt (txAt D k).wr j) := fun j hj => by
    rw [vAt_lt (by rw [hvl]; exact hj), wAt_lt hj]
    simp [vers]
   have HVa := hide hvat
   generalize hDD : vers (txAt D k) = DV at *
   generalize htx : txAt D k = T at *
   obtain ⟨ti, tt, rl, wl⟩ := T
   dsimp only at *
   have I1 : (0 : Int) ≤ (k : Int) := by omega
   have I2 : (k : Int) < (D.length : Int) := by omega
   have hz := hB.size
   have hw1 := bx_lt HX.out
   have HRd := hide (fun (V : World) (hV : Below w1.heap.size w1 V) => hrd.2.below (Nat.le_refl _) hV)
   obtain ⟨W3, hW3⟩ : ∃ V, V = wr.alloc (.cells #[.int .i64 ti, .int .i64 tt, .slice ar rl.length cr, .slice aw wl.length cw] 28) := ⟨_, rfl⟩
   have hb3 : BxC W3 wr.heap.size [.int .i64 ti, .int .i64 tt, .slice ar rl.length cr, .slice aw wl.length cw] := by rw [hW3]; exact BxC.made wr _ _
   have hB3 : Below wr.heap.size wr W3 := by rw [hW3]; ((with_reducible repeat' first | exact .refl _ _ | refine .alloc ?_ ?_ _ | refine .setCell ?_ ?_ _ | refine .drew ?_ | refine below_drewN ?_ _) <;> first | omega | simp <;> omega)
   have HX3 := hide (HX.out.below hw1 hB3)
   have HO3 := hide (HO.out.below (Nat.le_refl _) hB3)
   have HB3 := hide (hB.trans (hB3.mono hz))
   have z3 := hB3.size
   go_upto_region 8 with fail
   rw [← hW3]
   clear hW3 hrd htx hDD hvat HX HO x0 x1 x2 x3
   have c3 := hb3.1 3 _ rfl
   go_wp2_with fail
   clear c3
   have HVl := hide hvl
   clear hvl
   have hB3n := HB3.out
   obtain ⟨B10, hB10⟩ : ∃ b, b = wr.heap.size := ⟨_, rfl⟩
   rw [← hB10]
   rw [← hB10] at hb3
   have h10 : w1.heap.size + 1 ≤ B10 := by omega
   clear hB10
   go_loopw [34] (fun s34 wx => ∃ (j : Nat) (sv : Value), j ≤ wl.length ∧ s34 = .int .i64 j ∧ Hid (BxC wx w1.heap.size [.int .i64 TP, sv, .slice none 0 0]) ∧ Hid (Owns 64 encVr 4 wx (w1.heap.size + 1) sv (stF [] (ShV D k j))) ∧ Hid (BxC wx B10 [.int .i64 ti, .int .i64 tt, .slice ar rl.length cr, .slice aw wl.length cw]) ∧ Below w1.heap.size w1 wx) (fun s34 _ => wl.length - (intOf s34).toNat)
   case atStart => exact ⟨0, _, Nat.zero_le _, rfl, HX3, HO3, hide hb3, hB3n⟩
   case round =>
    clear HX3 HO3 hb3 hB3 hB3n HB3 z3 hw1 hB hz
    obtain ⟨j, sv2, hj, rfl, HX, HO, HT3, hB6⟩ := hrel
    by_cases hjl : j < wl.length
    ·obtain ⟨b', off', cap3, hbv, hlt1, y0, y1, y2⟩ := WRow.at_ (HRd.out _ hB6) (i := j) hjl
     cases hbv
     obtain ⟨st1, st2, st3, st4, st5⟩ := HStk.out j (by rw [HVl.out]; exact hjl)
     obtain ⟨sa, sc, rfl, -, -⟩ := HO.out.val
     obtain ⟨ST, hST⟩ : ∃ X, X = stF [] (ShV D k j) := ⟨_, rfl⟩
     rw [← hST] at HX HO st1 st3 st4 st5
     have hva := HVa.out j hjl
     rw [hva] at st2 st3 st5
     generalize wAt wl j = ww at *
     obtain ⟨ek, ex, eg⟩ := ww
     dsimp only [verW] at st2 st3 st5 y0 y1 y2
     have HPt := hide (fun (V : World) (hV : Below wr.heap.size wr V) => Put_any (.slice sa ST.length sc) ST ⟨ek, tt, ex, eg⟩ V (Rws.below (HO.out.row encVr_length ver0 (by omega)) (Nat.le_refl _) hV) st1 st2 st3 st4)
     dsimp only [valV] at HPt
     have HS5 := hide st5
     have J1 : (0 : Int) ≤ (j : Int) := by omega
     have J2 : (j : Int) < (wl.length : Int) := by omega
     have hz6 := hB6.size
     have hx8 := HX.out
     have hx3 := HT3.out
     have chx8_0 := hx8.1 0 _ rfl; have chx8_1 := hx8.1 1 _ rfl; have chx8_2 := hx8.1 2 _ rfl; have fhx8 := hx8.2.1; have zhx8 := hx8.2.2
     have chx3_0 := hx3.1 0 _ rfl; have chx3_1 := hx3.1 1 _ rfl; have chx3_2 := hx3.1 2 _ rfl; have chx3_3 := hx3.1 3 _ rfl; have fhx3 := hx3.2.1; have zhx3 := hx3.2.2
     have HW0 := hide (And.intro hx8 hx3)
     clear hST st1 st2 st3 st4 st5 hva HX HT3 HO
     go_wp2_with (go_at_call 36; (with_reducible refine (HPt.out _ (by ((with_reducible repeat' first | exact .refl _ _ | refine .alloc ?_ ?_ _ | refine .setCell ?_ ?_ _ | refine .drew ?_ | refine below_drewN ?_ _) <;> first | omega | simp <;> omega))).mono ?_); rintro e w7 ⟨v7, rfl, ho7, k7⟩; have K7 : Below wr.heap.size wr w7 := (by ((with_reducible repeat' first | exact .refl _ _ | exact k7 | refine .alloc ?_ ?_ _ | refine .setCell ?_ ?_ _ | refine .drew ?_ | refine below_drewN ?_ _ | refine Below.trans ?_ (k7.mono ?_)) <;> first | omega | simp <;> omega)); obtain ⟨va7, vc7, rfl, -, -⟩ := ho7.val; have hp7 : Owns 64 encVr 4 w7 (w1.heap.size + 1) (.slice va7 (putV ST ⟨ek, tt, ex, eg⟩).length vc7) (putV ST ⟨ek, tt, ex, eg⟩) := ho7.mono (Nat.le_trans (show w1.heap.size + 1 ≤ wr.heap.size from HW0.out.1.2.2) (Below.size (show Below wr.heap.size wr _ from (by ((with_reducible repeat' first | exact .refl _ _ | refine .alloc ?_ ?_ _ | refine .setCell ?_ ?_ _ | refine .drew ?_ | refine below_drewN ?_ _) <;> first | omega | simp <;> omega))))); have H7 := hide hp7; clear hp7; clear ho7 k7; clear chx8_0 chx8_1 chx8_2 fhx8 zhx8 hx8; clear chx3_0 chx3_1 chx3_2 chx3_3 fhx3 zhx3 hx3; have hx8 := HW0.out.1.below HW0.out.1.2.2 K7; have hx3 := HW0.out.2.below HW0.out.2.2.2 K7; have chx8_0 := hx8.1 0 _ rfl; have chx8_1 := hx8.1 1 _ rfl; have chx8_2 := hx8.1 2 _ rfl; have fhx8 := hx8.2.1; have zhx8 := hx8.2.2; have chx3_0 := hx3.1 0 _ rfl; have chx3_1 := hx3.1 1 _ rfl; have chx3_2 := hx3.1 2 _ rfl; have chx3_3 := hx3.1 3 _ rfl; have fhx3 := hx3.2.1; have zhx3 := hx3.2.2)
     have hw18 := HW0.out.1.2.2
     go_roundw
     case rel => exact ⟨j + 1, _, by omega, by go_num, hide (hx8.set 1 _ (by simp)), hide (by
      rw [← HS5.out]
      refine own_other_ H7.out (grown_set _ _ _ _) fun r hr e => ?_
      cases e
      have h_ := (World.ownsRow.lt H7.out _ hr).1
      omega), hide (hx3.setNe (p := ⟨w1.heap.size, 1, none⟩) (by dsimp only; omega) _), (hB6.trans (K7.mono hz6)).setCell (p := ⟨w1.heap.size, 1, none⟩) (Nat.le_refl _) _⟩
     case measure => simp [intOf]; omega
    ·obtain rfl : j = wl.length := by omega
     have hx8 := HX.out
     have hx3 := HT3.out
     have chx8_0 := hx8.1 0 _ rfl; have chx8_1 := hx8.1 1 _ rfl; have chx8_2 := hx8.1 2 _ rfl; have fhx8 := hx8.2.1; have zhx8 := hx8.2.2
     have chx3_0 := hx3.1 0 _ rfl; have chx3_1 := hx3.1 1 _ rfl; have chx3_2 := hx3.1 2 _ rfl; have chx3_3 := hx3.1 3 _ rfl; have fhx3 := hx3.2.1; have zhx3 := hx3.2.2
     have HO9 := HO
     rw [← HVl.out, HNx.out] at HO9
     have hw18 := HX.out.2.2
     clear HX HT3 HO
     go_wp2_with fail
     go_roundw
     case rel => exact ⟨k + 1, sv2, by omega, by go_num, hide (by rw [HTp.out]; exact hx8.set 0 _ (by simp)), hide (by
      refine own_other_ HO9.out (grown_set _ _ _ _) fun r hr e => ?_
      cases e
      have h_ := (World.ownsRow.lt HO9.out _ hr).1
      omega), hB6.setCell (p := ⟨w1.heap.size, 0, none⟩) (Nat.le_refl _) _⟩
     case measure => simp [intOf]; omega
  ·obtain rfl : k = D.length := by omega
   have hx8 := HX.out
   have hb2 := HBr.out _ hB
   have chx8_0 := hx8.1 0 _ rfl; have chx8_1 := hx8.1 1 _ rfl; have chx8_2 := hx8.1 2 _ rfl; have fhx8 := hx8.2.1; have zhx8 := hx8.2.2
   have chb2_0 := hb2.1 0 _ rfl; have chb2_1 := hb2.1 1 _ rfl; have chb2_2 := hb2.1 2 _ rfl; have fhb2 := hb2.2.1; have zhb2 := hb2.2.2
   obtain ⟨sa, sc, hsv, -, -⟩ := HO.out.val
   have he : stF [] (ShV D D.length 0) = stV (evs D) := by rw [shV_zero, List.take_length]; rfl
   rw [List.take_length] at chx8_0
   have h_ := HO.out
   rw [he] at h_ hsv
   obtain ⟨TP, hTP⟩ : ∃ x, x = topTs D := ⟨_, rfl⟩
   rw [← hTP] at chx8_0
   obtain ⟨ST, hST⟩ : ∃ x, x = stV (evs D) := ⟨_, rfl⟩
   rw [← hST] at h_ hsv
   have HEq := hide (And.intro hTP hST)
   clear hST
   obtain ⟨NS, hNS⟩ : ∃ n, n = ST.length := ⟨_, rfl⟩
   rw [← hNS] at hsv
   subst hsv
   have hlo := World.ownsRow.lt h_
   have HO2 := hide h_
   have Hlo := hide hlo
   have HB2 := hide hb2
   have bW : Below w.heap.size w wr := HB.out.trans (hB.mono (by omega))
   have HBW := hide bW
   have z9 : w.heap.size + 1 ≤ w1.heap.size := by omega
   clear HO he hTP hNS h_ hlo hb2 bW HSt hx8 HX HG HRow
   go_wp2_with fail
   have hfin : Owns 64 encVr 4 (((wr.setCell ⟨w.heap.size, 0, none⟩ (.int .i64 TP)).setCell ⟨w.heap.size, 1, none⟩ (.slice sa NS sc)).setCell ⟨w.heap.size, 2, none⟩ (.slice none 0 0)) (w1.heap.size + 1) (.slice sa NS sc) ST := by
    refine own_other_ (own_other_ (own_other_ HO2.out (grown_set _ _ _ _) fun r hr e => ?_) (grown_set _ _ _ _) fun r hr e => ?_) (grown_set _ _ _ _) fun r hr e => ?_
    all_goals
     cases e
     have := (Hlo.out _ hr).1
     omega
   have bV := ((HBW.out.setCell (p := ⟨w.heap.size, 0, none⟩) (Nat.le_refl _) (.int .i64 TP)).setCell (p := ⟨w.heap.size, 1, none⟩) (Nat.le_refl _) (.slice sa NS sc)).setCell (p := ⟨w.heap.size, 2, none⟩) (Nat.le_refl _) (.slice none 0 0)
   have e2 := ((HB2.out.set 0 (.int .i64 TP) (by simp)).set 1 (.slice sa NS sc) (by simp)).set 2 (.slice none 0 0) (by simp)
   dsimp only [List.set] at e2
   generalize ((wr.setCell ⟨w.heap.size, 0, none⟩ (.int .i64 TP)).setCell ⟨w.heap.size, 1, none⟩ (.slice sa NS sc)).setCell ⟨w.heap.size, 2, none⟩ (.slice none 0 0) = V at *
   have q0 := e2.1 0 _ rfl
   have q1 := e2.1 1 _ rfl
   have q2 := e2.1 2 _ rfl
   have HF := hide hfin
   clear hfin
   exact bodyPost_ret (v := .tuple #[valL (.slice sa NS sc) (.slice none 0 0) TP, .int .i64 M, .int .i64 0]) (by simp [results, Tryz.results13, go_sem, q0, q1, q2]) rfl ⟨⟨.slice sa NS sc, by rw [← HEq.out.1], by rw [← HEq.out.2]; exact HF.out.mono (by omega)⟩, bV⟩
end Go.Proofs.YthkoaecafmhlcaaGreat
