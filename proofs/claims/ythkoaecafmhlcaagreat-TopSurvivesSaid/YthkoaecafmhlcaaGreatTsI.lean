/- Package commit: size, Valid. -/
import Derived.Test.YthkoaecafmhlcaaGreatTsH
namespace Go.Proofs.YthkoaecafmhlcaaGreat
open Go.RowKit
attribute [local go_sem ↓] run_max_mx run_min_mn
attribute [local simp] size_drewT

theorem take_snocT {α : Type} (l : List α) (d : α) (k : Nat) (h : k < l.length) : l.take (k + 1) = l.take k ++ [l.getD k d] := by
 rw [List.getD_eq_getElem?_getD, List.getElem?_eq_getElem h]
 simp
theorem drop_consT {α : Type} (l : List α) (d : α) (k : Nat) (h : k < l.length) : l.drop k = l.getD k d :: l.drop (k + 1) := by
 rw [List.getD_eq_getElem?_getD, List.getElem?_eq_getElem h, Option.getD_some]
 exact List.drop_eq_getElem_cons h
theorem nwr_take (l : List Tx) (k : Nat) (h : k < l.length) : nwr (l.take (k + 1)) = nwr (l.take k) + (txAt l k).wr.length := by
 rw [take_snocT l tx0 k h, nwr_append, nwr_cons]
 simp [nwr, evs, txAt]
theorem nwr_take_le (l : List Tx) (k : Nat) : nwr (l.take k) ≤ nwr l := by
 have h := nwr_append (l.take k) (l.drop k)
 rw [List.take_append_drop] at h
 omega
abbrev valL (stv opv : Value) (last : Int) : Value := .agg #[.int .i64 last, stv, opv]
def LdRd (w : World) (stv opv : Value) (L : Ld) : Prop := VRow w stv L.st ∧ TxR w opv L.opn
theorem LdRd.below {w w' : World} {stv opv : Value} {L : Ld} (h : LdRd w stv opv L) {B : Nat} (hB : w.heap.size ≤ B) (hb : Below B w w') : LdRd w' stv opv L := ⟨h.1.below hB hb, h.2.below hB hb⟩
set_option maxRecDepth 100000 in
set_option maxHeartbeats 1000000 in
theorem size_any (stv opv : Value) (L : Ld) (w : World) (h : LdRd w stv opv L) (hn : L.st.length + nwr L.opn ≤ 100000) :
  Calls Tryz.prog 52 #[valL stv opv L.last] w fun e w' => e = .returned (.int .i64 ((L.st.length + nwr L.opn : Nat) : Int)) ∧ Below w.heap.size w w' := by
 obtain ⟨last, S, O⟩ := L
 dsimp only at *
 obtain ⟨a1, cap1, rfl, -⟩ := id h.1
 obtain ⟨a2, cap2, rfl, o1, o2⟩ := h.2.len
 dsimp only at *
 dsimp only [valL]
 have HO := hide (fun (V : World) (hV : Below w.heap.size w V) => h.2.below (Nat.le_refl _) hV)
 have HN := hide hn
 have hS : S.length ≤ 100000 := by omega
 clear h hn
 go_enter Tryz.func52, Tryz.ntmps52
 go_wp2_with fail
 go_loopw [3, 12] (fun s3 s12 wx => ∃ k : Nat, k ≤ O.length ∧ s12 = .int .i64 k ∧ s3 = .int .i64 ((S.length + nwr (O.take k) : Nat) : Int) ∧ Below w.heap.size w wx) (fun _ s12 _ => O.length - (intOf s12).toNat)
 case atStart => exact ⟨0, Nat.zero_le _, rfl, by simp [nwr, evs], (by ((with_reducible repeat' first | exact .refl _ _ | refine .alloc ?_ ?_ _ | refine .setCell ?_ ?_ _ | refine .drew ?_ | refine below_drewN ?_ _) <;> first | omega | simp <;> omega))⟩
 case round =>
  obtain ⟨k, hk, rfl, rfl, hB⟩ := hrel
  by_cases hlt : k < O.length
  ·obtain ⟨b, off, cap', rv, wv, hb, hlt0, x0, x1, x2, x3, hrd⟩ := TxR.at_ (HO.out wr hB) (i := k) hlt
   cases hb
   obtain ⟨aw, cw, rfl, -⟩ := id hrd.2
   obtain ⟨ar, cr, rfl, -⟩ := id hrd.1
   have hs := nwr_take O k hlt
   have hle := nwr_take_le O (k + 1)
   have hnn := HN.out
   obtain ⟨m, hm⟩ : ∃ m, m = (txAt O k).wr.length := ⟨_, rfl⟩
   obtain ⟨q, hq⟩ : ∃ q, q = S.length + nwr (O.take k) := ⟨_, rfl⟩
   have wk : IntKind.i64.wrap ((q : Int) + (m : Int)) = (q : Int) + (m : Int) := IntWalk.i64_in _ (by omega)
   have hs2 : S.length + nwr (O.take (k + 1)) = q + m := by omega
   rw [← hm] at x3 hrd
   rw [← hq]
   have I1 : (0 : Int) ≤ (k : Int) := by omega
   have I2 : (k : Int) < (O.length : Int) := by omega
   have HS2 := hide hs2
   have hz := hB.size
   generalize (txAt O k).id = ti at *
   generalize (txAt O k).ts = tt at *
   clear hs hle hnn hm hq hs2 hrd
   generalize (txAt O k).rd.length = tr at *
   go_wp2_with fail
   go_roundw
   case rel => exact ⟨k + 1, by omega, by go_num, by rw [HS2.out]; go_num, (by ((with_reducible repeat' first | exact .refl _ _ | exact hB | refine .alloc ?_ ?_ _ | refine .setCell ?_ ?_ _ | refine .drew ?_ | refine below_drewN ?_ _ | refine Below.trans ?_ (hB.mono ?_)) <;> first | omega | simp <;> omega))⟩
   case measure => simp [intOf]; omega
  ·obtain rfl : k = O.length := by omega
   rw [List.take_length]
   obtain ⟨q, hq⟩ : ∃ q, q = S.length + nwr O := ⟨_, rfl⟩
   rw [← hq]
   have HQ := hide hq
   clear hq
   go_wp2_with fail
   go_ret
   exact ⟨by rw [← HQ.out]; rfl, hB⟩
set_option maxRecDepth 100000 in
set_option maxHeartbeats 1000000 in
theorem cValid_any (stv opv : Value) (L : Ld) (w : World) (h : LdRd w stv opv L) (hL : VL L) :
  Calls Tryz.prog 37 #[valL stv opv L.last] w fun e w' => e = .returned (.bool true) ∧ Below w.heap.size w w' := by
 have HV := hide (fun (V : World) (hV : Below w.heap.size w V) => vValid_any stv L.st V (h.1.below (Nat.le_refl _) hV) ⟨hL.1, hL.2.1, by have := hL.2.2.2.2.1; omega⟩)
 have HZ := hide (fun (V : World) (hV : Below w.heap.size w V) => size_any stv opv L V (h.below (Nat.le_refl _) hV) (by have := hL.2.2.2.2.1; omega))
 have HO := hide (fun (V : World) (hV : Below w.heap.size w V) => h.below (Nat.le_refl _) hV)
 have HL := hide hL
 obtain ⟨last, S, O⟩ := L
 dsimp only at *
 obtain ⟨a1, cap1, rfl, -⟩ := id h.1
 obtain ⟨a2, cap2, rfl, o1, o2⟩ := h.2.len
 dsimp only at *
 dsimp only [valL] at *
 have d1 : tsB 0 last 3000000000000000 = true := tsB_true hL.2.2.1
 have h2 : O.length ≤ 2000 := hL.2.2.2.1
 have h3 : S.length + nwr O ≤ 4000 := hL.2.2.2.2.1
 have d2 : decide ((2000 : Int) < (O.length : Int)) = false := decide_eq_false (by omega)
 have d2n : decide (2000 < O.length) = false := decide_eq_false (by omega)
 have hS : S.length ≤ 4000 := by omega
 obtain ⟨z, hz⟩ : ∃ z, z = S.length + nwr O := ⟨_, rfl⟩
 rw [← hz] at HZ h3
 have d3 : decide ((4000 : Int) < (z : Int)) = false := decide_eq_false (by omega)
 have d3n : decide (4000 < z) = false := decide_eq_false (by omega)
 clear h hL hz
 go_enter Tryz.func37, Tryz.ntmps37
 go_upto_region 4 with (first | (go_at_call 43; (with_reducible refine (HV.out _ (by ((with_reducible repeat' first | exact .refl _ _ | refine .alloc ?_ ?_ _ | refine .setCell ?_ ?_ _ | refine .drew ?_ | refine below_drewN ?_ _) <;> first | omega | simp <;> omega))).mono ?_); rintro e w1 ⟨rfl, b1⟩; have h1 := (BxC.made w [.int .i64 last, .slice a1 S.length cap1, .slice a2 O.length cap2] 38).below (by simp) b1; have ch1_0 := h1.1 0 _ rfl; have ch1_1 := h1.1 1 _ rfl; have ch1_2 := h1.1 2 _ rfl; have fh1 := h1.2.1; have zh1 := h1.2.2; have B1 : Below w.heap.size w w1 := (by ((with_reducible repeat' first | exact .refl _ _ | exact b1 | refine .alloc ?_ ?_ _ | refine .setCell ?_ ?_ _ | refine .drew ?_ | refine below_drewN ?_ _ | refine Below.trans ?_ (b1.mono ?_)) <;> first | omega | simp <;> omega)); have zB1 := B1.size) | (go_at_call 83; (with_reducible refine (btw_any _ _ _ _).mono ?_); rintro e w' ⟨rfl, rfl⟩; rw [d1]) | (go_at_call 52; (with_reducible refine (HZ.out _ B1).mono ?_); rintro e w2 ⟨rfl, b2⟩; have t_ := h1.below h1.2.2 b2; clear ch1_0 ch1_1 ch1_2 fh1 zh1 h1; have h1 := t_; clear t_; have ch1_0 := h1.1 0 _ rfl; have ch1_1 := h1.1 1 _ rfl; have ch1_2 := h1.1 2 _ rfl; have fh1 := h1.2.1; have zh1 := h1.2.2; have B2 : Below w.heap.size w w2 := (by ((with_reducible repeat' first | exact .refl _ _ | exact b2 | exact B1 | refine .alloc ?_ ?_ _ | refine .setCell ?_ ?_ _ | refine .drew ?_ | refine below_drewN ?_ _ | refine Below.trans ?_ (b2.mono ?_) | refine Below.trans ?_ (B1.mono ?_)) <;> first | omega | simp <;> omega)); have zB2 := B2.size))
 have HB2 := hide B2
 have t_ := hide h1
 clear ch1_0 ch1_1 ch1_2 fh1 zh1 h1
 have H1 := hide (fun (V : World) (hV : Below w2.heap.size w2 V) => t_.out.below t_.out.2.2 hV)
 have hzw : w.heap.size < w2.heap.size := t_.out.2.2
 have q1 := t_.out.1 1 _ rfl
 clear t_ B2 B1 b1 b2
 go_wp2_with fail
 clear q1
 go_loopw [3, 32] (fun s3 s32 wx => ∃ (k : Nat) (m : Int), k ≤ S.length ∧ s32 = .int .i64 k ∧ s3 = .int .i64 m ∧ Hid (0 ≤ m ∧ m ≤ last ∧ ∀ t, t ∈ O → m < t.ts) ∧ Below w2.heap.size w2 wx) (fun _ s32 _ => S.length - (intOf s32).toNat)
 case atStart => exact ⟨0, 0, Nat.zero_le _, rfl, rfl, hide ⟨Int.le_refl _, HL.out.2.2.1.1, fun t ht => by have := (HL.out.2.2.2.2.2.1.2 t ht).2; omega⟩, .refl _ _⟩
 case round =>
  obtain ⟨k, m, hk, rfl, rfl, HM, hB⟩ := hrel
  have hbx := H1.out wr hB
  by_cases hlt : k < S.length
  ·obtain ⟨b, off, cap', hb, hlt0, x0, x1, x2, x3⟩ := VRow.at_ (HO.out wr (HB2.out.trans (hB.mono zB2))).1 (i := k) hlt
   cases hb
   have hmem : vAt S k ∈ S := vAt_mem hlt
   obtain ⟨⟨ek, et, ex, eg⟩, hev⟩ : ∃ v, v = vAt S k := ⟨_, rfl⟩
   dsimp only at x0 x1 x2 x3
   rw [← hev] at x0 x1 x2 x3 hmem
   dsimp only at x0 x1 x2 x3
   have hM2 : 0 ≤ mx m et ∧ mx m et ≤ last ∧ ∀ t, t ∈ O → mx m et < t.ts := by
    have hm := mx_spec m et
    have h4 := HL.out.2.2.2.2.2.2.2.2 _ hmem
    have h5 := HM.out
    dsimp only at h4
    refine ⟨by omega, by omega, fun t ht => ?_⟩
    have h6 := HL.out.2.2.2.2.2.2.1 t ht _ hmem
    have h7 := h5.2.2 t ht
    dsimp only at h6
    omega
   have HM2 := hide hM2
   have I1 : (0 : Int) ≤ (k : Int) := by omega
   have I2 : (k : Int) < (S.length : Int) := by omega
   have hz := hB.size
   clear hev hmem hM2 hbx
   go_wp2_with fail
   go_roundw
   case rel => exact ⟨k + 1, _, by omega, by go_num, rfl, HM2, (by ((with_reducible repeat' first | exact .refl _ _ | exact hB | refine .alloc ?_ ?_ _ | refine .setCell ?_ ?_ _ | refine .drew ?_ | refine below_drewN ?_ _ | refine Below.trans ?_ (hB.mono ?_)) <;> first | omega | simp <;> omega))⟩
   case measure => simp [intOf]; omega
  ·obtain rfl : k = S.length := by omega
   have q2 := hbx.1 2 _ rfl
   have hzr : w.heap.size < wr.heap.size := hbx.2.2
   have HM0 := HM
   clear HM hbx
   go_wp2_with fail
   clear q2
   go_loopw [3, 44] (fun s3 s44 wx => ∃ (k : Nat) (m : Int), k ≤ O.length ∧ s44 = .int .i64 k ∧ s3 = .int .i64 m ∧ Hid (m ≤ last ∧ ∀ t, t ∈ O.drop k → m < t.ts) ∧ Below w2.heap.size w2 wx) (fun _ s44 _ => O.length - (intOf s44).toNat)
   case atStart => exact ⟨0, m, Nat.zero_le _, rfl, rfl, hide ⟨HM0.out.2.1, by simpa using HM0.out.2.2⟩, hB⟩
   case round =>
    clear hB hzr HM0 hk
    obtain ⟨k, m, hk, rfl, rfl, HM, hB⟩ := hrel
    have hbx := H1.out wr hB
    by_cases hlt : k < O.length
    ·obtain ⟨b, off, cap', rv, wv, hb, hlt0, x0, x1, x2, x3, hrd⟩ := TxR.at_ (HO.out wr (HB2.out.trans (hB.mono zB2))).2 (i := k) hlt
     cases hb
     have hmem : txAt O k ∈ O := txAt_mem hlt
     have hfm := (HL.out.2.2.2.2.2.1.2 _ hmem).1
     have hlast := HL.out.2.2.2.2.2.2.2.1 _ hmem
     have hdrop := drop_consT O tx0 k hlt
     have hpw := HL.out.2.2.2.2.2.1.1
     have hpw2 : (O.drop k).Pairwise fun a b => a.ts < b.ts := hpw.sublist (List.drop_sublist _ _)
     dsimp only at hlast x0 x1 x2 x3
     have hgt := HM.out.2 (txAt O k) (by rw [hdrop]; exact List.mem_cons_self)
     have hnext : (txAt O k).ts ≤ last ∧ ∀ t, t ∈ O.drop (k + 1) → (txAt O k).ts < t.ts := by
      rw [hdrop] at hpw2
      exact ⟨hlast, (List.pairwise_cons.1 hpw2).1⟩
     have HNx := hide hnext
     have HF := hide (fun (V : World) (hV : Below wr.heap.size wr V) => formed_any rv wv (txAt O k) V (hrd.below (Nat.le_refl _) hV))
     have HFm := hide hfm
     obtain ⟨ar, cr, rfl, -⟩ := id hrd.1
     obtain ⟨aw, cw, rfl, -⟩ := id hrd.2
     generalize htx : txAt O k = T at *
     obtain ⟨ti, tt, trd, twr⟩ := T
     dsimp only [valT] at *
     have d5 : decide (tt ≤ m) = false := decide_eq_false (by omega)
     have I1 : (0 : Int) ≤ (k : Int) := by omega
     have I2 : (k : Int) < (O.length : Int) := by omega
     have hz := hB.size
     clear hmem hfm hlast hdrop hpw hpw2 hgt hnext htx hrd hbx
     go_wp2_with (go_at_call 48; (with_reducible refine (HF.out _ (by ((with_reducible repeat' first | exact .refl _ _ | refine .alloc ?_ ?_ _ | refine .setCell ?_ ?_ _ | refine .drew ?_ | refine below_drewN ?_ _) <;> first | omega | simp <;> omega))).mono ?_); rintro e w5 ⟨⟨bb, rfl, hbb⟩, b5⟩; obtain rfl := hbb.2 HFm.out; clear hbb; have z5 := b5.size; have h7 := (BxC.made wr [.int .i64 ti, .int .i64 tt, .slice ar trd.length cr, .slice aw twr.length cw] 28).below (by simp) b5; have ch7_0 := h7.1 0 _ rfl; have ch7_1 := h7.1 1 _ rfl; have ch7_2 := h7.1 2 _ rfl; have ch7_3 := h7.1 3 _ rfl; have fh7 := h7.2.1; have zh7 := h7.2.2)
     go_roundw
     case rel => exact ⟨k + 1, _, by omega, by go_num, rfl, HNx, (by ((with_reducible repeat' first | exact .refl _ _ | exact b5 | exact hB | refine .alloc ?_ ?_ _ | refine .setCell ?_ ?_ _ | refine .drew ?_ | refine below_drewN ?_ _ | refine Below.trans ?_ (b5.mono ?_) | refine Below.trans ?_ (hB.mono ?_)) <;> first | omega | simp <;> omega))⟩
     case measure => simp [intOf]; omega
    ·obtain rfl : k = O.length := by omega
     have q0 := hbx.1 0 _ rfl
     have d6 : decide (m ≤ last) = true := decide_eq_true HM.out.1
     have HBf := hide (HB2.out.trans (hB.mono zB2))
     clear hbx HM
     go_wp2_with fail
     go_ret
     exact ⟨rfl, HBf.out⟩
end Go.Proofs.YthkoaecafmhlcaaGreat
