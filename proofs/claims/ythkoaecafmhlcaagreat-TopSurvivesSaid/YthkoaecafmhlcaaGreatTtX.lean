/- Package journal: Append. -/
import Derived.Test.YthkoaecafmhlcaaGreatTtV
import Derived.Test.YthkoaecafmhlcaaGreatJ39
namespace Go.Proofs.YthkoaecafmhlcaaGreat
open Go.RowKit
attribute [local simp] size_drewT
set_option maxHeartbeats 2000000 in
set_option maxRecDepth 100000 in
set_option maxHeartbeats 400000 in
theorem Append_any (v : Value) (D : List Tx) (rv wv : Value) (t : Tx) (w : World) (h : BRow w v (logB D)) (hG : GoodD D) (hD : D.length ≤ 50) (ht : TvRd w rv wv t) (hf : Fm t) (h1 : 1 ≤ t.ts) (hlt : topTs D < t.ts) :
  Calls Tryz.prog 8 #[v, valT rv wv t] w fun e w' => (∃ ov, e = .returned (.tuple #[ov, .int .i64 0]) ∧ OwnBy w' w.heap.size ov (logB (D ++ [t]))) ∧ Below w.heap.size w w' := by
 have hlen := logB_len D (fun x hx => (hG.2 x hx).1)
 have hub := frm_ub hf
 have HLo := hide (fun (V : World) (hV : Below w.heap.size w V) => Load_any v D [] 0 V (by rw [List.take_zero, List.append_nil]; exact h.below (Nat.le_refl _) hV) hG (by omega) okL_nil (frm_pos _) (by rw [List.take_zero, List.append_nil]; omega))
 have HFo := hide (fun (V : World) (hV : Below w.heap.size w V) => jformed_any rv wv t V (ht.below (Nat.le_refl _) hV) hf h1)
 have HIn := hide (fun (V : World) (hV : Below w.heap.size w V) => ints_any rv wv t V (ht.below (Nat.le_refl _) hV) hf.2.2.2.2.1 hf.2.2.2.2.2)
 have HFr := hide (fun (V : World) (iv : Value) (hi : IsRow V iv (itx t)) => Frame_any iv (itx t) V hi (by have := itx_len t hf.2.2.2.2.1 hf.2.2.2.2.2; omega) (sml_itx hf))
 have HBR := hide (fun (V : World) (hV : Below w.heap.size w V) => h.below (Nat.le_refl _) hV)
 have HTop := hide (topTs_ge hG)
 obtain ⟨va, vc, rfl, -⟩ := h.len
 obtain ⟨ra, rc, rfl, -⟩ := id ht.1
 obtain ⟨wa, wc, rfl, -⟩ := id ht.2
 rw [logB_snoc]
 obtain ⟨M, hM⟩ : ∃ M, M = (logB D).length := ⟨_, rfl⟩
 obtain ⟨F, hF⟩ : ∃ F, F = (frm (itx t)).length := ⟨_, rfl⟩
 rw [← hM] at HLo hlen
 rw [← hF] at hub
 have hFp : 1 ≤ F := by rw [hF]; exact frm_pos _
 have HMF := hide (And.intro hM hF)
 generalize hX : frm (itx t) = X at *
 clear hX
 obtain ⟨ti, tt, rl, wl⟩ := t
 dsimp only [valT] at *
 have HLt := hide hlt
 have d1 : decide ((100000 : Int) < ((M + F : Nat) : Int)) = false := decide_eq_false (by omega)
 have w2 : IntKind.i64.wrap ((M : Int) + (F : Int)) = ((M + F : Nat) : Int) := by rw [IntKind.wrap_i64]; omega
 rw [← hM] at HBR ⊢
 clear h hG ht hf h1 hlt hM hF
 obtain ⟨W, hW⟩ : ∃ V, V = w.alloc (.cells #[.int .i64 ti, .int .i64 tt, .slice ra rl.length rc, .slice wa wl.length wc] 28) := ⟨_, rfl⟩
 have hb : BxC W w.heap.size [.int .i64 ti, .int .i64 tt, .slice ra rl.length rc, .slice wa wl.length wc] := by rw [hW]; exact BxC.made w _ _
 have hB : Below w.heap.size w W := by rw [hW]; ((with_reducible repeat' first | exact .refl _ _ | refine .alloc ?_ ?_ _ | refine .setCell ?_ ?_ _ | refine .drew ?_ | refine below_drewN ?_ _) <;> first | omega | simp <;> omega)
 have chb_0 := hb.1 0 _ rfl; have chb_1 := hb.1 1 _ rfl; have chb_2 := hb.1 2 _ rfl; have chb_3 := hb.1 3 _ rfl; have fhb := hb.2.1; have zhb := hb.2.2
 have zW := hB.size
 go_enter Tryz.func8, Tryz.ntmps8
 go_upto_region 1 with fail
 rw [← hW]
 clear hW
 go_upto_region 8 with (first
  | (go_at_call 9; (with_reducible refine (HLo.out _ hB).mono ?_); rintro e w1 ⟨⟨lv, rfl, o1⟩, k1⟩; obtain ⟨la, lc, rfl, -, -⟩ := o1.ty.row.len; have kk : Below W.heap.size W w1 := (by ((with_reducible repeat' first | exact .refl _ _ | exact k1 | refine .alloc ?_ ?_ _ | refine .setCell ?_ ?_ _ | refine .drew ?_ | refine below_drewN ?_ _ | refine Below.trans ?_ (k1.mono ?_)) <;> first | omega | simp <;> omega)); have t_ := hb.below hb.2.2 kk; clear chb_0 chb_1 chb_2 chb_3 fhb zhb hb; have hb := t_; clear t_; have chb_0 := hb.1 0 _ rfl; have chb_1 := hb.1 1 _ rfl; have chb_2 := hb.1 2 _ rfl; have chb_3 := hb.1 3 _ rfl; have fhb := hb.2.1; have zhb := hb.2.2; have t_ := hB.trans (kk.mono hB.size); clear hB; have hB := t_; clear t_ kk k1)
  | (go_at_call 19; (with_reducible refine (HFo.out _ hB).mono ?_); rintro e w2 ⟨rfl, k2⟩; have kk : Below w1.heap.size w1 w2 := (by ((with_reducible repeat' first | exact .refl _ _ | exact k2 | refine .alloc ?_ ?_ _ | refine .setCell ?_ ?_ _ | refine .drew ?_ | refine below_drewN ?_ _ | refine Below.trans ?_ (k2.mono ?_)) <;> first | omega | simp <;> omega)); have o2 := o1.below (Nat.le_refl _) kk; clear o1; have t_ := hb.below hb.2.2 kk; clear chb_0 chb_1 chb_2 chb_3 fhb zhb hb; have hb := t_; clear t_; have chb_0 := hb.1 0 _ rfl; have chb_1 := hb.1 1 _ rfl; have chb_2 := hb.1 2 _ rfl; have chb_3 := hb.1 3 _ rfl; have fhb := hb.2.1; have zhb := hb.2.2; have t_ := hB.trans (kk.mono hB.size); clear hB; have hB := t_; clear t_ kk k2))
 have hRow := o2.ty.row
 have HO2 := hide o2
 clear o2
 have mixed : Tryz.prog.follows Departure.mixedOrders = true := by kernel_rfl
 have HPost := hide (fun (V : World) (hV : Below w.heap.size w V) (iv : Value) (hi : IsRow V iv (itx ⟨ti, tt, rl, wl⟩)) => HFr.out V iv hi)
 have HBx := hide (fun (V : World) (hV : Below w2.heap.size w2 V) => hb.below hb.2.2 hV)
 rcases Nat.eq_zero_or_pos D.length with h0 | h0
 ·have e0 : (D.length : Int) = 0 := by omega
  rw [h0, e0] at *
  clear h0 e0
  go_quiet (fail)
  obtain ⟨W5, hW5⟩ : ∃ V, V = w2.drewN nq := ⟨_, rfl⟩
  have k5 : Below w2.heap.size w2 W5 := by rw [hW5]; exact below_drewN (.refl _ _) _
  have z5 : W5.heap.size = w2.heap.size := by rw [hW5]; rfl
  clear chb_0 chb_1 chb_2 chb_3 fhb zhb hb
  have hb := HBx.out W5 k5
  have chb_0 := hb.1 0 _ rfl; have chb_1 := hb.1 1 _ rfl; have chb_2 := hb.1 2 _ rfl; have chb_3 := hb.1 3 _ rfl; have fhb := hb.2.1; have zhb := hb.2.2
  have t_ := hB.trans (k5.mono hB.size)
  clear hB
  have hB := t_
  clear t_ k5
  rw [← hW5]
  clear hW5
  go_wp2_with (first
   | (go_at_call 21; (with_reducible refine (HIn.out _ hB).mono ?_); rintro e w6 ⟨⟨iv, rfl, o6⟩, k6⟩; have HF6 := hide (HPost.out w6 (hB.trans (k6.mono hB.size)) iv o6.row); obtain ⟨ia, ic, rfl⟩ := ownsRow_val o6; clear o6; have t_ := hB.trans (k6.mono hB.size); clear hB; have hB := t_; clear t_ k6 z5; clear chb_0 chb_1 chb_2 chb_3 fhb zhb hb)
   | (go_at_call 20; (with_reducible refine HF6.out.mono ?_); rintro e w7 ⟨⟨fv, rfl, o7⟩, k7⟩; have hr7 := o7.row encB_length 0 (by omega); obtain ⟨fa, fc, hfv⟩ : ∃ a c, fv = .slice a F c := (by have h_ := ownsRow_val o7; rwa [← HMF.out.2] at h_); subst hfv; clear o7; have t_ := hB.trans (k7.mono hB.size); clear hB; have hB := t_; clear t_ k7; have z7 := hB.size)
   | (go_at_call 22; (with_reducible refine (Concat_any w7.heap.size 2 (.slice va M vc) (.slice fa F fc) (logB D) X _ (by simp) (by simp [go_sem]) (by simp [go_sem]) (HBR.out _ (by ((with_reducible repeat' first | exact .refl _ _ | exact hB | refine .alloc ?_ ?_ _ | refine .setCell ?_ ?_ _ | refine .drew ?_ | refine below_drewN ?_ _ | refine Below.trans ?_ (hB.mono ?_)) <;> first | omega | simp <;> omega))) (hr7.below (Nat.le_refl _) (by ((with_reducible repeat' first | exact .refl _ _ | refine .alloc ?_ ?_ _ | refine .setCell ?_ ?_ _ | refine .drew ?_ | refine below_drewN ?_ _) <;> first | omega | simp <;> omega))) (by rw [← HMF.out.2]; exact hFp) (by rw [← HMF.out.1, ← HMF.out.2]; omega)).mono ?_); rintro e w8 ⟨cv, rfl, o8, k8⟩; have k78 : Below w7.heap.size w7 w8 := (by ((with_reducible repeat' first | exact .refl _ _ | exact k8 | refine .alloc ?_ ?_ _ | refine .setCell ?_ ?_ _ | refine .drew ?_ | refine below_drewN ?_ _ | refine Below.trans ?_ (k8.mono ?_)) <;> first | omega | simp <;> omega))))
  have B8 : Below w.heap.size w w8 := hB.trans (k78.mono hB.size)
  exact bodyPost_ret (v := .tuple #[cv, .int .i64 0]) (by simp [results, Tryz.results8, go_sem]) rfl ⟨⟨_, rfl, o8.mono (by simp; omega)⟩, B8⟩
 ·obtain ⟨b, off, cap', rv', wv', hbv, hlt0, x0, x1, -, -, -⟩ := TxR.at_ hRow (i := D.length - 1) (by omega)
  have htl : (txAt D (D.length - 1)).ts < tt := Int.lt_of_le_of_lt (HTop.out _ (txAt_mem (by omega))) HLt.out
  obtain ⟨kx, hkx⟩ : ∃ k, k = D.length - 1 := ⟨_, rfl⟩
  rw [← hkx] at x1 htl
  cases hbv
  generalize (txAt D kx).ts = tl at x1 htl
  have I0 : (0 : Int) < (D.length : Int) := by omega
  have w3 : IntKind.i64.wrap ((D.length : Int) - 1) = (kx : Int) := by rw [IntKind.wrap_i64]; omega
  have I1 : (0 : Int) ≤ (kx : Int) := by omega
  have I2 : (kx : Int) < (D.length : Int) := by omega
  have d2 : decide (tt ≤ tl) = false := decide_eq_false (by omega)
  clear x0 hkx
  go_quiet (fail)
  obtain ⟨W5, hW5⟩ : ∃ V, V = w2.drewN nq := ⟨_, rfl⟩
  have k5 : Below w2.heap.size w2 W5 := by rw [hW5]; exact below_drewN (.refl _ _) _
  have z5 : W5.heap.size = w2.heap.size := by rw [hW5]; rfl
  clear chb_0 chb_1 chb_2 chb_3 fhb zhb hb
  have hb := HBx.out W5 k5
  have chb_0 := hb.1 0 _ rfl; have chb_1 := hb.1 1 _ rfl; have chb_2 := hb.1 2 _ rfl; have chb_3 := hb.1 3 _ rfl; have fhb := hb.2.1; have zhb := hb.2.2
  have t_ := hB.trans (k5.mono hB.size)
  clear hB
  have hB := t_
  clear t_ k5
  rw [← hW5]
  clear hW5 x1
  go_wp2_with (first
   | (go_at_call 21; (with_reducible refine (HIn.out _ hB).mono ?_); rintro e w6 ⟨⟨iv, rfl, o6⟩, k6⟩; have HF6 := hide (HPost.out w6 (hB.trans (k6.mono hB.size)) iv o6.row); obtain ⟨ia, ic, rfl⟩ := ownsRow_val o6; clear o6; have t_ := hB.trans (k6.mono hB.size); clear hB; have hB := t_; clear t_ k6 z5; clear chb_0 chb_1 chb_2 chb_3 fhb zhb hb)
   | (go_at_call 20; (with_reducible refine HF6.out.mono ?_); rintro e w7 ⟨⟨fv, rfl, o7⟩, k7⟩; have hr7 := o7.row encB_length 0 (by omega); obtain ⟨fa, fc, hfv⟩ : ∃ a c, fv = .slice a F c := (by have h_ := ownsRow_val o7; rwa [← HMF.out.2] at h_); subst hfv; clear o7; have t_ := hB.trans (k7.mono hB.size); clear hB; have hB := t_; clear t_ k7; have z7 := hB.size)
   | (go_at_call 22; (with_reducible refine (Concat_any w7.heap.size 2 (.slice va M vc) (.slice fa F fc) (logB D) X _ (by simp) (by simp [go_sem]) (by simp [go_sem]) (HBR.out _ (by ((with_reducible repeat' first | exact .refl _ _ | exact hB | refine .alloc ?_ ?_ _ | refine .setCell ?_ ?_ _ | refine .drew ?_ | refine below_drewN ?_ _ | refine Below.trans ?_ (hB.mono ?_)) <;> first | omega | simp <;> omega))) (hr7.below (Nat.le_refl _) (by ((with_reducible repeat' first | exact .refl _ _ | refine .alloc ?_ ?_ _ | refine .setCell ?_ ?_ _ | refine .drew ?_ | refine below_drewN ?_ _) <;> first | omega | simp <;> omega))) (by rw [← HMF.out.2]; exact hFp) (by rw [← HMF.out.1, ← HMF.out.2]; omega)).mono ?_); rintro e w8 ⟨cv, rfl, o8, k8⟩; have k78 : Below w7.heap.size w7 w8 := (by ((with_reducible repeat' first | exact .refl _ _ | exact k8 | refine .alloc ?_ ?_ _ | refine .setCell ?_ ?_ _ | refine .drew ?_ | refine below_drewN ?_ _ | refine Below.trans ?_ (k8.mono ?_)) <;> first | omega | simp <;> omega))))
  have B8 : Below w.heap.size w w8 := hB.trans (k78.mono hB.size)
  exact bodyPost_ret (v := .tuple #[cv, .int .i64 0]) (by simp [results, Tryz.results8, go_sem]) rfl ⟨⟨_, rfl, o8.mono (by simp; omega)⟩, B8⟩
end Go.Proofs.YthkoaecafmhlcaaGreat
