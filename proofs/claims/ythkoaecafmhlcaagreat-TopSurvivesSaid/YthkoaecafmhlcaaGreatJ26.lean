/- Parts TtH TtI TtJ of the proof, joined. -/
import Derived.Test.YthkoaecafmhlcaaGreatJ25
/- Package journal: ints (a transaction as integers). -/
namespace Go.Proofs.YthkoaecafmhlcaaGreat
open Go.RowKit
attribute [local simp] size_drewT
def sI (s : Int × Int) : List Int := [s.1, s.2]
def gI (b : Bool) : Int := if b then 1 else 0
def wI (x : Wr) : List Int := [x.key, x.val, gI x.gone]
def itx (t : Tx) : List Int := ([t.id, t.ts, (t.rd.length : Int)] ++ t.rd.flatMap sI) ++ ([(t.wr.length : Int)] ++ t.wr.flatMap wI)
theorem flat_take {α : Type} (f : α → List Int) (d : α) (l : List α) {k : Nat} (h : k < l.length) : (l.take (k + 1)).flatMap f = (l.take k).flatMap f ++ f (l.getD k d) := by
 rw [List.take_succ_eq_append_getElem h, List.flatMap_append]
 simp [List.getD_eq_getElem?_getD, List.getElem?_eq_getElem h]
theorem isLitSrc (w : World) (q : Nat) (l : List Value) (T : TypeId) (hq : q = w.heap.size) : SrcRow (w.alloc (.cells l.toArray T)) (.slice (some ⟨q, 0, none⟩) l.length l.length) l.length 1 l := by
 subst hq
 exact ⟨_, _, rfl, by rw [Nat.mul_one], (fun h => by cases h), fun ad h => by cases h; exact cells_new w l _⟩
theorem ownIs_snoc {w : World} {base : Nat} {v : Value} {c d : List Int} (h : w.ownsRow base 3 1 v (c.length + d.length) (encI c ++ encI d)) : OwnIs w base v (c ++ d) := by
 unfold OwnIs
 rw [encI_append, List.length_append]
 exact h
theorem len_sI : ∀ l : List (Int × Int), (l.flatMap sI).length = 2 * l.length
 | [] => rfl
 | x :: l => by rw [List.flatMap_cons, List.length_append, len_sI l, List.length_cons]; show 2 + _ = _; omega
theorem len_wI : ∀ l : List Wr, (l.flatMap wI).length = 3 * l.length
 | [] => rfl
 | x :: l => by rw [List.flatMap_cons, List.length_append, len_wI l, List.length_cons]; show 3 + _ = _; omega
set_option maxHeartbeats 2000000 in
set_option maxRecDepth 100000 in
set_option maxHeartbeats 400000 in
theorem ints_any (rv wv : Value) (t : Tx) (w : World) (h : TvRd w rv wv t) (hr : t.rd.length ≤ 8) (hw : t.wr.length ≤ 8) :
  Calls Tryz.prog 21 #[valT rv wv t] w fun e w' => (∃ ov, e = .returned ov ∧ OwnIs w' w.heap.size ov (itx t)) ∧ Below w.heap.size w w' := by
 obtain ⟨i0, hi, hz0, hz1, hz2⟩ := info_parts infoIn0
 have HRd := hide (fun (V : World) (hV : Below w.heap.size w V) => h.below (Nat.le_refl _) hV)
 obtain ⟨ar, cr, rfl, -⟩ := id h.1
 obtain ⟨aw, cw, rfl, -⟩ := id h.2
 obtain ⟨ti, tt, rl, wl⟩ := t
 dsimp only [valT] at *
 obtain ⟨W, hW⟩ : ∃ V, V = w.alloc (.cells #[.int .i64 ti, .int .i64 tt, .slice ar rl.length cr, .slice aw wl.length cw] 28) := ⟨_, rfl⟩
 have hbx : BxC W w.heap.size [.int .i64 ti, .int .i64 tt, .slice ar rl.length cr, .slice aw wl.length cw] := by rw [hW]; exact BxC.made w _ _
 have b0 : Below w.heap.size w W := by rw [hW]; ((with_reducible repeat' first | exact .refl _ _ | refine .alloc ?_ ?_ _ | refine .setCell ?_ ?_ _ | refine .drew ?_ | refine below_drewN ?_ _) <;> first | omega | simp <;> omega)
 have zW : W.heap.size = w.heap.size + 1 := by rw [hW]; simp
 have HB := hide (fun (V : World) (hV : Below (w.heap.size + 1) W V) => hbx.below (Nat.lt_succ_self _) hV)
 have HB0 := hide b0
 have hlit : OwnIs (W.alloc (.cells #[.int .i64 ti, .int .i64 tt, .int .i64 (rl.length : Int)] 3)) (w.heap.size + 1) (.slice (some ⟨w.heap.size + 1, 0, none⟩) 3 3) [ti, tt, (rl.length : Int)] :=
  own_lit 3 [.int .i64 ti, .int .i64 tt, .int .i64 (rl.length : Int)] (by rw [← zW]; exact World.alloc_heap_new W _) (by omega) (by simp)
 have HL := hide hlit
 have c0 := hbx.1 0 _ rfl
 have c1 := hbx.1 1 _ rfl
 have c2 := hbx.1 2 _ rfl
 have hzb := hbx.2.2
 clear h hbx b0 hlit
 go_enter Tryz.func21, Tryz.ntmps21
 go_upto_region 1 with fail
 rw [← hW]
 clear hW
 go_wp2_with fail
 obtain ⟨C0, hC0⟩ : ∃ c, c = [ti, tt, (rl.length : Int)] := ⟨_, rfl⟩
 have hC0l : C0.length = 3 := by rw [hC0]; rfl
 have HC0 := hide hC0
 go_loopw [20, 3] (fun s20 s3 wx => ∃ k : Nat, k ≤ rl.length ∧ s20 = .int .i64 k ∧ Hid (OwnIs wx (w.heap.size + 1) s3 (C0 ++ (rl.take k).flatMap sI)) ∧ Below (w.heap.size + 1) W wx) (fun s20 _ _ => rl.length - (intOf s20).toNat)
 case atStart => exact ⟨0, Nat.zero_le _, rfl, hide (by have h_ := HL.out; rw [← HC0.out] at h_; simpa using h_), (by ((with_reducible repeat' first | exact .refl _ _ | refine .alloc ?_ ?_ _ | refine .setCell ?_ ?_ _ | refine .drew ?_ | refine below_drewN ?_ _) <;> first | omega | simp <;> omega))⟩
 case round =>
  clear c0 c1 c2 HL hC0
  obtain ⟨k, hk, rfl, HO, hB⟩ := hrel
  have hBw : Below w.heap.size w wr := HB0.out.trans (hB.mono (Nat.le_succ _))
  have hbx := HB.out wr hB
  have hzB := hB.size
  have hown := HO.out
  obtain ⟨oa, oc, rfl⟩ := ownsRow_val hown
  have hYl : (C0 ++ (rl.take k).flatMap sI).length ≤ 100 := by rw [List.length_append, len_sI, hC0l, List.length_take]; omega
  obtain ⟨Y, hY⟩ : ∃ Y, Y = C0 ++ (rl.take k).flatMap sI := ⟨_, rfl⟩
  rw [← hY] at hown hYl ⊢
  have Hlow := hide (fun r (e : (Value.slice oa Y.length oc).ownBlock = some r) => (World.ownsRow.lt hown r e).1)
  have HY := hide hown
  by_cases hlt : k < rl.length
  ·have htk := flat_take sI (0, 0) rl hlt
   obtain ⟨b, off, cap', hb, hlt0, x0, x1⟩ := SRow.at_ (HRd.out wr hBw).1 (i := k) hlt
   cases hb
   have HT := hide (show C0 ++ (rl.take (k + 1)).flatMap sI = Y ++ [(rl.getD k (0, 0)).1, (rl.getD k (0, 0)).2] by rw [htk, ← List.append_assoc, ← hY]; rfl)
   obtain ⟨sk, hsk⟩ : ∃ x, x = (rl.getD k (0, 0)).1 := ⟨_, rfl⟩
   obtain ⟨st, hst⟩ : ∃ x, x = (rl.getD k (0, 0)).2 := ⟨_, rfl⟩
   rw [← hsk] at x0 HT
   rw [← hst] at x1 HT
   have I1 : (0 : Int) ≤ (k : Int) := by omega
   have I2 : (k : Int) < (rl.length : Int) := by omega
   clear htk hsk hst hown hY HO hbx
   go_wp2_with (at_builtin; refine wpList_append_src _ rfl _ _ 55 rfl (w.heap.size + 1) 3 i0 (.int .i64 0) 1 8 Tryz.underlying55 hi hz0 hz1 hz2 rfl (by decide) _ Y.length (encI Y) rfl (World.ownsRow.alloc (World.ownsRow.alloc HY.out _) _) _ 2 [.int .i64 sk, .int .i64 st] rfl (isLitSrc (wr.alloc (.cells #[.int .i64 sk, .int .i64 st] 113)) _ [.int .i64 sk, .int .i64 st] 3 (by simp)) (by simp [Value.oneCell']) (by unfold maxLen; omega) (by omega) (by simp; omega) ?_; intro v6 w6 hown6 hg6 _; obtain ⟨a6, c6, rfl⟩ := ownsRow_val hown6; have b6 : Below (w.heap.size + 1) W w6 := Below.grown ((hB.alloc (by omega) _).alloc (by simp; omega) _) hg6 (by simp; omega) (fun r e => Hlow.out r e); have HO6 := hide (ownIs_snoc (d := [sk, st]) hown6); clear hown6 hg6)
   go_roundw
   case rel => exact ⟨k + 1, by omega, by go_num, hide (by rw [HT.out]; exact HO6.out), b6⟩
   case measure => simp [intOf]; omega
  ·obtain rfl : k = rl.length := by omega
   have c3 := hbx.1 3 _ rfl
   have hzb := hbx.2.2
   rw [List.take_length] at hY
   have HYe := hide hY
   clear hY hown HO hbx hlt hk
   go_wp2_with (at_builtin; refine wpList_append_src _ rfl _ _ 55 rfl (w.heap.size + 1) 3 i0 (.int .i64 0) 1 8 Tryz.underlying55 hi hz0 hz1 hz2 rfl (by decide) _ Y.length (encI Y) rfl (World.ownsRow.alloc HY.out _) _ 1 [.int .i64 (wl.length : Int)] rfl (isLitSrc wr _ [.int .i64 (wl.length : Int)] 3 rfl) (by simp [Value.oneCell']) (by unfold maxLen; omega) (by omega) (by simp; omega) ?_; intro v6 w6 hown6 hg6 _; obtain ⟨a6, c6, rfl⟩ := ownsRow_val hown6; have b6 : Below (w.heap.size + 1) W w6 := Below.grown (hB.alloc (by omega) _) hg6 (by simp; omega) (fun r e => Hlow.out r e); have HO6 := hide (ownIs_snoc (d := [(wl.length : Int)]) hown6); have d3 := (HB.out w6 b6).1 3 _ rfl; clear hown6 hg6)
   clear d3
   obtain ⟨C1, hC1⟩ : ∃ c, c = Y ++ [(wl.length : Int)] := ⟨_, rfl⟩
   have hC1l : C1.length ≤ 101 := by rw [hC1, List.length_append]; show _ + 1 ≤ _; omega
   rw [← hC1] at HO6
   have HC1 := hide hC1
   clear hC1
   go_loopw [41, 3] (fun s41 s3 wx => ∃ k : Nat, k ≤ wl.length ∧ s41 = .int .i64 k ∧ Hid (OwnIs wx (w.heap.size + 1) s3 (C1 ++ (wl.take k).flatMap wI)) ∧ Below (w.heap.size + 1) W wx) (fun s41 _ _ => wl.length - (intOf s41).toNat)
   case atStart => exact ⟨0, Nat.zero_le _, rfl, hide (by have h_ := HO6.out; simpa using h_), b6⟩
   case round =>
    clear c3 hzb hB hBw HY Hlow hYl HO6 b6 hzB
    obtain ⟨k, hk, rfl, HO, hB⟩ := hrel
    have hBw : Below w.heap.size w wr := HB0.out.trans (hB.mono (Nat.le_succ _))
    have hzB := hB.size
    have hown := HO.out
    obtain ⟨oa, oc, rfl⟩ := ownsRow_val hown
    have hYl : (C1 ++ (wl.take k).flatMap wI).length ≤ 200 := by rw [List.length_append, len_wI, List.length_take]; omega
    obtain ⟨Y2, hY⟩ : ∃ Z, Z = C1 ++ (wl.take k).flatMap wI := ⟨_, rfl⟩
    rw [← hY] at hown hYl ⊢
    have Hlow := hide (fun r (e : (Value.slice oa Y2.length oc).ownBlock = some r) => (World.ownsRow.lt hown r e).1)
    have HY := hide hown
    by_cases hlt : k < wl.length
    ·have htk := flat_take wI wr0 wl hlt
     obtain ⟨b, off, cap', hb, hlt0, x0, x1, x2⟩ := WRow.at_ (HRd.out wr hBw).2 (i := k) hlt
     cases hb
     have hT : C1 ++ (wl.take (k + 1)).flatMap wI = Y2 ++ wI (wAt wl k) := by rw [htk, ← List.append_assoc, ← hY]; rfl
     generalize wAt wl k = x at hT x0 x1 x2
     obtain ⟨xk, xv, xg⟩ := x
     dsimp only [wI] at hT x0 x1 x2
     have I1 : (0 : Int) ≤ (k : Int) := by omega
     have I2 : (k : Int) < (wl.length : Int) := by omega
     have HT := hide hT
     clear htk hown hY HO hT
     cases xg
     all_goals go_wp2_with (at_builtin; refine wpList_append_src _ rfl _ _ 55 rfl (w.heap.size + 1) 3 i0 (.int .i64 0) 1 8 Tryz.underlying55 hi hz0 hz1 hz2 rfl (by decide) _ Y2.length (encI Y2) rfl (World.ownsRow.alloc (World.ownsRow.alloc HY.out _) _) _ 3 [.int .i64 xk, .int .i64 xv, _] rfl (isLitSrc (wr.alloc _) _ [.int .i64 xk, .int .i64 xv, _] 3 (by simp)) (by simp [Value.oneCell']) (by unfold maxLen; omega) (by omega) (by simp; omega) ?_; intro v6 w6 hown6 hg6 _; obtain ⟨a6, c6, rfl⟩ := ownsRow_val hown6; have b6 : Below (w.heap.size + 1) W w6 := Below.grown ((hB.alloc (by omega) _).alloc (by simp; omega) _) hg6 (by simp; omega) (fun r e => Hlow.out r e); have HO6 := hide (ownIs_snoc (d := [xk, xv, _]) hown6); clear hown6 hg6)
     all_goals
      go_roundw
      case rel => exact ⟨k + 1, by omega, by go_num, hide (by rw [HT.out]; exact HO6.out), b6⟩
      case measure => simp [intOf]; omega
    ·obtain rfl : k = wl.length := by omega
     have hfin : OwnIs wr (w.heap.size + 1) (.slice oa Y2.length oc) (itx ⟨ti, tt, rl, wl⟩) := by
      have e : itx ⟨ti, tt, rl, wl⟩ = Y2 := by
       rw [hY, List.take_length, HC1.out, HYe.out, HC0.out]
       simp [itx]
      rw [e]; exact hown
     have HFin := hide (OwnIs.mono hfin (Nat.le_succ _))
     clear hfin hown hY HO
     go_wp2_with fail
     go_ret
     exact ⟨⟨_, rfl, HFin.out⟩, hBw⟩
end Go.Proofs.YthkoaecafmhlcaaGreat
/- Package journal: the reader. -/
namespace Go.Proofs.YthkoaecafmhlcaaGreat
open Go.RowKit
attribute [local simp] size_drewT
theorem isrow_drop {w : World} {b off n cap : Nat} {l : List Int} (h : IsRow w (.slice (some ⟨b, off, none⟩) n cap) l) (i : Nat) (hi : i ≤ l.length) : IsRow w (.slice (some ⟨b, off + i, none⟩) (l.length - i) (cap - i)) (l.drop i) := by
 obtain ⟨a, c, e, h1, h2, h3⟩ := h
 cases e
 refine ⟨_, _, by rw [List.length_drop], by rw [List.length_drop]; omega, by omega, fun j hj => ?_⟩
 rw [List.length_drop] at hj
 obtain ⟨b', o', e2, h4, h5⟩ := h3 (i + j) (by omega)
 cases e2
 refine ⟨_, _, rfl, h4, ?_⟩
 rw [Nat.add_assoc, h5]
 simp [iAt, List.getD_eq_getElem?_getD]
theorem isrow_empty (w : World) (a : Option Addr) (cap : Nat) (hc : cap ≤ 9223372036854775807) : IsRow w (.slice a 0 cap) [] := ⟨a, cap, rfl, Nat.zero_le _, hc, fun i hi => by simp at hi⟩
def LstB (lim : Nat) (w : World) (rb : Nat) (l : List Int) : Prop := lim ≤ rb ∧ ∃ lv, BxC w rb [lv] ∧ IsRow w lv l ∧ ∀ q, lv.ownBlock = some q → q < lim
theorem jneed_any (w : World) : Calls Tryz.prog 98 #[.bool true] w fun e w' => e = .returned (.tuple #[]) ∧ w = w' := by
 go_enter Tryz.func98, Tryz.ntmps98
 go_wp2_with fail
 go_end0
 exact ⟨rfl, rfl⟩
theorem isrow_set {w : World} {lv : Value} {l : List Int} {rb i : Nat} {u : Value} (h : IsRow w lv l) (hq : ∀ q, lv.ownBlock = some q → q ≠ rb) : IsRow (w.setCell ⟨rb, i, none⟩ u) lv l :=
 isrow_same31 h (by simp [World.setCell]) (fun q e => Below.heap_setCell _ _ _ q (hq q e))
set_option maxHeartbeats 1000000 in
theorem next_any (lim rb : Nat) (n : Int) (l : List Int) (w : World) (h : LstB lim w rb (n :: l)) (hl : l.length ≤ 1000) :
  Calls Tryz.prog 95 #[.pointer (some ⟨rb, 0, none⟩)] w fun e w' => e = .returned (.int .i64 n) ∧ LstB lim w' rb l ∧ w.grownBy w' (some rb) ∧ w'.heap.size = w.heap.size := by
 obtain ⟨hlim, lv, hb, hr, hq⟩ := h
 obtain ⟨b, off, cap, rfl, hc1, hc2, hlt0, x0, -⟩ := hr.at0 (by simp)
 have hx : iAt (n :: l) 0 = n := rfl
 rw [hx] at x0
 have hdr := isrow_drop hr 1 (by simp)
 rw [List.length_cons] at hdr hc1 hb hq
 have hM : l.length + 1 - 1 = l.length := by omega
 rw [hM] at hdr
 obtain ⟨M, hMM⟩ : ∃ M, M = l.length + 1 := ⟨_, rfl⟩
 rw [← hMM] at hc1 hb hq
 have c0 := hb.1 0 _ rfl
 have f0 := hb.2.1
 have z0 := hb.2.2
 have I0 : (0 : Int) < (M : Int) := by omega
 have I1 : (1 : Int) ≤ (M : Int) := by omega
 have I2 : (M : Int) ≤ (cap : Int) := by omega
 have I3 : decide ((0 : Int) < (M : Int)) = true := decide_eq_true I0
 have I4 : decide (0 < M) = true := decide_eq_true (by omega)
 have hbl : b < lim := hq b rfl
 have hbq : b ≠ rb := by omega
 have HB := hide hb
 have HM := hide hMM
 have HD := hide hdr
 clear hb hr hx hM hMM hdr
 by_cases hcp : cap = 1
 ·obtain rfl : M = cap := by omega
  subst hcp
  have hl0 : l = [] := List.eq_nil_of_length_eq_zero (by have := HM.out; omega)
  have HL0 := hide hl0
  clear hl0
  go_enter Tryz.func95, Tryz.ntmps95
  go_wp2_with (go_at_call 98; (with_reducible refine (jneed_any _).mono ?_); rintro e w2 ⟨rfl, rfl⟩)
  go_ret
  refine ⟨rfl, ⟨hlim, _, HB.out.set 0 _ (by simp), ?_, fun q e => by cases e; exact hbl⟩, grown_set _ _ _ _, by simp [World.setCell]⟩
  rw [HL0.out]
  exact isrow_empty _ _ _ (by omega)
 ·go_enter Tryz.func95, Tryz.ntmps95
  go_wp2_with (go_at_call 98; (with_reducible refine (jneed_any _).mono ?_); rintro e w2 ⟨rfl, rfl⟩)
  go_ret
  refine ⟨rfl, ⟨hlim, _, HB.out.set 0 _ (by simp), ?_, fun q e => by cases e; exact hbl⟩, grown_set _ _ _ _, by simp [World.setCell]⟩
  have h_ := isrow_set (i := 0) (rb := rb) (u := .slice (some ⟨b, off + 1, none⟩) (M - 1) (cap - 1)) HD.out (fun q e => by cases e; exact hbq)
  rw [show l.length = M - 1 by have := HM.out; omega] at h_
  exact h_
end Go.Proofs.YthkoaecafmhlcaaGreat
/- Package journal: count, flag. -/
namespace Go.Proofs.YthkoaecafmhlcaaGreat
open Go.RowKit
set_option maxHeartbeats 1000000 in
theorem count_any (lim rb : Nat) (n : Int) (l : List Int) (w : World) (h : LstB lim w rb (n :: l)) (hl : l.length ≤ 1000) (hn : 0 ≤ n ∧ n ≤ 8) :
  Calls Tryz.prog 96 #[.pointer (some ⟨rb, 0, none⟩)] w fun e w' => e = .returned (.int .i64 n) ∧ LstB lim w' rb l ∧ w.grownBy w' (some rb) ∧ w'.heap.size = w.heap.size := by
 have HN := hide (next_any lim rb n l w h hl)
 have q1 : decide ((0 : Int) ≤ n) = true := decide_eq_true hn.1
 have q2 : decide (n ≤ 8) = true := decide_eq_true hn.2
 clear h hn
 go_enter Tryz.func96, Tryz.ntmps96
 go_wp2_with (first
  | (go_at_call 95; (with_reducible refine HN.out.mono ?_); rintro e w1 ⟨rfl, r1, g1, z1⟩; have R1 := hide (And.intro r1 (And.intro g1 z1)); clear r1 g1 z1)
  | (go_at_call 98; (with_reducible refine (jneed_any _).mono ?_); rintro e w2 ⟨rfl, rfl⟩))
 go_ret
 exact ⟨rfl, R1.out⟩
set_option maxHeartbeats 1000000 in
theorem flag_any (lim rb : Nat) (b : Bool) (l : List Int) (w : World) (h : LstB lim w rb (gI b :: l)) (hl : l.length ≤ 1000) :
  Calls Tryz.prog 97 #[.pointer (some ⟨rb, 0, none⟩)] w fun e w' => e = .returned (.bool b) ∧ LstB lim w' rb l ∧ w.grownBy w' (some rb) ∧ w'.heap.size = w.heap.size := by
 have HN := hide (next_any lim rb (gI b) l w h hl)
 clear h
 cases b
 all_goals simp only [gI, Bool.false_eq_true, if_false, if_true] at HN
 all_goals go_enter Tryz.func97, Tryz.ntmps97
 all_goals go_wp2_with (first
  | (go_at_call 95; (with_reducible refine HN.out.mono ?_); rintro e w1 ⟨rfl, r1, g1, z1⟩; have R1 := hide (And.intro r1 (And.intro g1 z1)); clear r1 g1 z1)
  | (go_at_call 98; (with_reducible refine (jneed_any _).mono ?_); rintro e w2 ⟨rfl, rfl⟩))
 all_goals go_ret
 all_goals exact ⟨rfl, R1.out⟩
end Go.Proofs.YthkoaecafmhlcaaGreat
