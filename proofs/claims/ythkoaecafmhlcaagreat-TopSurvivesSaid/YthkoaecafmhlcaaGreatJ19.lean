/- Parts TsK TsL of the proof, joined. -/
import Derived.Test.YthkoaecafmhlcaaGreatTsJ
/- Package commit: copies; what a transaction writes; journal.formed. -/
namespace Go.Proofs.YthkoaecafmhlcaaGreat
open Go.RowKit
attribute [local go_sem ↓] run_max_mx run_min_mn
attribute [local simp] size_drewT

theorem src_newT {w : World} (cs : List Value) (T : TypeId) (size : Nat) (h : cs.length = size) : SrcRow (w.alloc (.cells cs.toArray T)) (.slice (some ⟨w.heap.size, 0, none⟩) 1 1) 1 size cs := by
 refine ⟨_, _, rfl, by omega, (fun e => by cases e), fun ad had j u hj => ?_⟩
 cases had
 rw [Addr.add_lit, Nat.zero_add]
 simp [hj]
theorem src_newQ {w : World} (q : Nat) (hq : q = w.heap.size) (cs : List Value) (T : TypeId) (size : Nat) (h : cs.length = size) : SrcRow (w.alloc (.cells cs.toArray T)) (.slice (some ⟨q, 0, none⟩) 1 1) 1 size cs := by
 subst hq
 exact src_newT cs T size h
set_option maxRecDepth 100000 in
set_option maxHeartbeats 1000000 in
theorem copies_any (v : Value) (l : List Tx) (w : World) (h : TxR w v l) (hl : l.length ≤ 5000) (h8 : ∀ t, t ∈ l → t.rd.length ≤ 100 ∧ t.wr.length ≤ 100) :
  Calls Tryz.prog 42 #[v] w fun e w' => ∃ v', e = .returned v' ∧ OwnTx w' w.heap.size v' l ∧ Below w.heap.size w w' := by
 obtain ⟨i0, hi0, hz0, hz1, hz2⟩ := info_parts infoTx
 have HO := hide (fun (V : World) (hV : Below w.heap.size w V) => h.below (Nat.le_refl _) hV)
 have H8 := hide h8
 obtain ⟨a, cap, rfl, -⟩ := h.len
 clear h h8
 go_enter Tryz.func42, Tryz.ntmps42
 go_wp2_with fail
 go_loopw [3, 8] (fun s3 s8 wx => ∃ k : Nat, k ≤ l.length ∧ s8 = .int .i64 k ∧ OwnTx wx w.heap.size s3 (l.take k) ∧ Below w.heap.size w wx) (fun _ s8 _ => l.length - (intOf s8).toNat)
 case atStart => exact ⟨0, Nat.zero_le _, rfl, by rw [List.take_zero]; exact OwnTx.nil _ _, .refl _ _⟩
 case round =>
  obtain ⟨k, hk, rfl, hown, hB⟩ := hrel
  by_cases hlt : k < l.length
  ·obtain ⟨b, off, cap', rv, wv, hb, hlt0, x0, x1, x2, x3, hrd⟩ := TxR.at_ (HO.out wr hB) (i := k) hlt
   cases hb
   have hm8 := H8.out _ (txAt_mem hlt)
   have hsn := take_snocT l tx0 k hlt
   change l.take (k + 1) = l.take k ++ [txAt l k] at hsn
   obtain ⟨xs, hx1, hx2, hx3⟩ := hown
   have hxn : xs.length ≤ 5000 := by
    have e := congrArg List.length hx1
    rw [List.length_map, List.length_take] at e
    omega
   obtain ⟨oa, oc, hov, -, -⟩ := hx2.val
   subst hov
   have HC := hide (fun (V : World) (hV : Below wr.heap.size wr V) => copied_any rv wv (txAt l k) V (hrd.below (Nat.le_refl _) hV) hm8.1 hm8.2)
   obtain ⟨ar, cr, rfl, -⟩ := id hrd.1
   obtain ⟨aw, cw, rfl, -⟩ := id hrd.2
   generalize htx : txAt l k = T at *
   obtain ⟨ti, tt, trd, twr⟩ := T
   dsimp only [valT] at *
   have I1 : (0 : Int) ≤ (k : Int) := by omega
   have I2 : (k : Int) < (l.length : Int) := by omega
   have hz := hB.size
   have Hsn := hide hsn
   have Hx1 := hide hx1
   have Hx2 := hide hx2
   have Hx3 := hide hx3
   have Hlow := hide (World.ownsRow.lt hx2)
   clear hm8 hsn hx1 hx2 hx3 htx hrd
   go_wp2_with (first | (go_at_call 53; (with_reducible refine (HC.out _ (by ((with_reducible repeat' first | exact .refl _ _ | refine .alloc ?_ ?_ _ | refine .setCell ?_ ?_ _ | refine .drew ?_ | refine below_drewN ?_ _) <;> first | omega | simp <;> omega))).mono ?_); rintro e w5 ⟨rv', wv', rfl, hty, hloc, b5⟩; obtain ⟨ar', cr', rfl, -⟩ := id hty.1.1; obtain ⟨aw', cw', rfl, -⟩ := id hty.2.1; have z5 := b5.size; have B5 : Below wr.heap.size wr w5 := (by ((with_reducible repeat' first | exact .refl _ _ | exact b5 | refine .alloc ?_ ?_ _ | refine .setCell ?_ ?_ _ | refine .drew ?_ | refine below_drewN ?_ _ | refine Below.trans ?_ (b5.mono ?_)) <;> first | omega | simp <;> omega)); have z5r := B5.size) | (at_builtin; refine wpList_append_src _ rfl _ _ 35 rfl w.heap.size 28 i0 (.agg #[.int .i64 0, .int .i64 0, .slice none 0 0, .slice none 0 0]) 4 64 Tryz.underlying35 hi0 hz0 hz1 hz2 rfl (by decide) _ xs.length (xs.flatMap encT) rfl (World.ownsRow.alloc (ownsRow_below Hx2.out B5) _) _ 1 (encT ⟨.slice ar' trd.length cr', .slice aw' twr.length cw', ⟨ti, tt, trd, twr⟩⟩) rfl (src_newT _ _ 4 rfl) (by simp [encT, Value.oneCell']) (by unfold maxLen; omega) (by omega) (by simp only [World.size_alloc]; omega) ?_; intro v6 w6 hown6 hg6 hb6))
   have hpush := OwnTx.push (x := (⟨.slice ar' trd.length cr', .slice aw' twr.length cw', ⟨ti, tt, trd, twr⟩⟩ : Tv)) (Hx2.out.below (Nat.le_refl _) B5) (fun y hy => ⟨(Hx3.out y hy).1.below (Nat.le_refl _) B5, (Hx3.out y hy).2⟩) hty (hloc.mono (by first | exact hz | (simp only [World.size_alloc]; omega))) hg6 hown6
   have hB6 : Below w.heap.size w w6 := Below.grown (by ((with_reducible repeat' first | exact .refl _ _ | exact B5 | exact hB | refine .alloc ?_ ?_ _ | refine .setCell ?_ ?_ _ | refine .drew ?_ | refine below_drewN ?_ _ | refine Below.trans ?_ (B5.mono ?_) | refine Below.trans ?_ (hB.mono ?_)) <;> first | omega | simp <;> omega)) hg6 (by simp only [World.size_alloc]; omega) (fun r h => (Hlow.out r h).1)
   have hrel : OwnTx w6 w.heap.size v6 (l.take (k + 1)) := by
    rw [Hsn.out, ← Hx1.out]
    exact hpush.1
   have HR := hide hrel
   clear hpush hg6 hown6 hb6 hty b5 B5 hrel
   go_wp2_with fail
   go_roundw
   case rel => exact ⟨k + 1, by omega, by go_num, HR.out, hB6⟩
   case measure => simp [intOf]; omega
  ·obtain rfl : k = l.length := by omega
   rw [List.take_length] at hown
   go_wp2_with fail
   go_ret
   exact ⟨_, rfl, hown, hB⟩
set_option maxRecDepth 100000 in
set_option maxHeartbeats 1000000 in
theorem cversions_any (rv wv : Value) (t : Tx) (w : World) (h : TvRd w rv wv t) (h1 : t.wr.length ≤ 100) :
  Calls Tryz.prog 41 #[valT rv wv t] w fun e w' => ∃ v', e = .returned v' ∧ Owns 64 encVr 4 w' w.heap.size v' (vers t) ∧ Below w.heap.size w w' := by
 obtain ⟨i0, hi0, hz0, hz1, hz2⟩ := info_parts infoVer
 obtain ⟨ar, cr, rfl, -⟩ := id h.1
 obtain ⟨aw, cw, rfl, -⟩ := id h.2
 obtain ⟨ti, tt, rl, wl⟩ := t
 dsimp only [valT] at *
 have hvl : (vers ⟨ti, tt, rl, wl⟩).length = wl.length := vers_length _
 obtain ⟨W, hW⟩ : ∃ V, V = w.alloc (.cells #[.int .i64 ti, .int .i64 tt, .slice ar rl.length cr, .slice aw wl.length cw] 103) := ⟨_, rfl⟩
 have hbox : BxC W w.heap.size [.int .i64 ti, .int .i64 tt, .slice ar rl.length cr, .slice aw wl.length cw] := by rw [hW]; exact BxC.made w _ _
 have b0 : Below w.heap.size w W := by rw [hW]; ((with_reducible repeat' first | exact .refl _ _ | refine .alloc ?_ ?_ _ | refine .setCell ?_ ?_ _ | refine .drew ?_ | refine below_drewN ?_ _) <;> first | omega | simp <;> omega)
 have HS := hide (fun (V : World) (hV : Below W.heap.size W V) => And.intro (hbox.below hbox.2.2 hV) (h.2.below (Nat.le_refl _) (b0.trans (hV.mono b0.size))))
 have HB0 := hide b0
 have hzW := hbox.2.2
 have q3 := hbox.1 3 _ rfl
 clear h hbox b0
 obtain ⟨L, hL⟩ : ∃ L, L = vers ⟨ti, tt, rl, wl⟩ := ⟨_, rfl⟩
 rw [← hL] at hvl ⊢
 have HL := hide hL
 clear hL
 go_enter Tryz.func41, Tryz.ntmps41
 go_upto_region 1 with fail
 rw [← hW]
 clear hW
 go_wp2_with fail
 clear q3
 go_loopw [3, 10] (fun s3 s10 wx => ∃ k : Nat, k ≤ wl.length ∧ s10 = .int .i64 k ∧ Owns 64 encVr 4 wx W.heap.size s3 (L.take k) ∧ Below W.heap.size W wx) (fun _ s10 _ => wl.length - (intOf s10).toNat)
 case atStart => exact ⟨0, Nat.zero_le _, rfl, by rw [List.take_zero]; exact Owns.nil _ _, .refl _ _⟩
 case round =>
  obtain ⟨k, hk, rfl, hown, hB⟩ := hrel
  obtain ⟨hbx, hwr⟩ := HS.out wr hB
  by_cases hlt : k < wl.length
  ·obtain ⟨b, off, cap', hb, hlt0, x0, x1, x2⟩ := WRow.at_ hwr (i := k) hlt
   cases hb
   have hsn := take_snocT L ver0 k (by omega)
   have hLk : L.getD k ver0 = verW tt (wAt wl k) := by
    rw [HL.out]
    simp [vers, wAt, List.getD_eq_getElem?_getD, hlt]
   rw [hLk] at hsn
   obtain ⟨⟨ek, ex, eg⟩, hel⟩ : ∃ x, x = wAt wl k := ⟨_, rfl⟩
   rw [← hel] at x0 x1 x2 hsn
   dsimp only at x0 x1 x2
   have q1 := hbx.1 1 _ rfl
   have hz1' := hbx.2.2
   obtain ⟨oa, oc, hov, -, -⟩ := hown.val
   subst hov
   have hlen : (L.take k).length = k := by rw [List.length_take]; omega
   have I1 : (0 : Int) ≤ (k : Int) := by omega
   have I2 : (k : Int) < (wl.length : Int) := by omega
   have hz := hB.size
   have Hsn := hide hsn
   have hown2 : wr.ownsRow W.heap.size 64 4 (.slice oa k oc) k ((L.take k).flatMap encVr) := by
    have h9 := hown
    unfold Owns at h9
    rw [hlen] at h9
    exact h9
   have Hown := hide hown2
   have Hlow := hide (World.ownsRow.lt hown2)
   rw [hlen]
   have Hlen := hide hlen
   clear hown2
   clear hsn hLk hel hown hbx hwr hlen
   go_wp2_with (at_builtin; refine wpList_append_src _ rfl _ _ 36 rfl W.heap.size 64 i0 (.agg #[.int .i64 0, .int .i64 0, .int .i64 0, .bool false]) 4 32 Tryz.underlying36 hi0 hz0 hz1 hz2 rfl (by decide) _ k ((L.take k).flatMap encVr) rfl (World.ownsRow.alloc (World.ownsRow.alloc Hown.out _) _) _ 1 (encVr ⟨ek, tt, ex, eg⟩) rfl (src_newQ (w := wr.alloc (.cells #[.int .i64 ek, .int .i64 ex, .bool eg] 74)) (wr.heap.size + 1) (by simp) _ _ 4 rfl) (encVr_one1 _) (by unfold maxLen; omega) (by omega) (by simp only [World.size_alloc]; omega) ?_; intro v6 w6 hown6 hg6 hb6)
   have hB6 : Below W.heap.size W w6 := Below.grown (by ((with_reducible repeat' first | exact .refl _ _ | exact hB | refine .alloc ?_ ?_ _ | refine .setCell ?_ ?_ _ | refine .drew ?_ | refine below_drewN ?_ _ | refine Below.trans ?_ (hB.mono ?_)) <;> first | omega | simp <;> omega)) hg6 (by simp only [World.size_alloc]; omega) (fun r h => (Hlow.out r h).1)
   have hrel : Owns 64 encVr 4 w6 W.heap.size v6 (L.take (k + 1)) := by
    rw [Hsn.out]
    refine Owns.app ?_
    rw [Hlen.out]
    exact hown6
   have HR := hide hrel
   clear hg6 hown6 hb6 hrel
   go_wp2_with fail
   go_roundw
   case rel => exact ⟨k + 1, by omega, by go_num, HR.out, hB6⟩
   case measure => simp [intOf]; omega
  ·obtain rfl : k = wl.length := by omega
   rw [← hvl, List.take_length] at hown
   clear hbx hwr
   go_wp2_with fail
   go_ret
   exact ⟨_, rfl, hown.mono HB0.out.size, HB0.out.trans (hB.mono HB0.out.size)⟩
end Go.Proofs.YthkoaecafmhlcaaGreat
/- Package journal: formed. Package commit: past. -/
namespace Go.Proofs.YthkoaecafmhlcaaGreat
open Go.RowKit
attribute [local go_sem ↓] run_max_mx run_min_mn
attribute [local simp] size_drewT

theorem txr_one {W : World} {rv wv : Value} {t : Tx} (h : TvRd W rv wv t) (q : Nat) (hq : q = W.heap.size) : TxR (W.alloc (.cells #[.int .i64 t.id, .int .i64 t.ts, rv, wv] 28)) (.slice (some ⟨q, 0, none⟩) 1 1) [t] := by
 subst hq
 refine ⟨[⟨rv, wv, t⟩], rfl, ⟨_, 1, rfl, Nat.le_refl _, by omega, fun i hi => ?_⟩, fun x hx => ?_⟩
 ·obtain rfl : i = 0 := by simpa using hi
  refine ⟨_, 0, rfl, by simp, fun j u hu => ?_⟩
  have h_ := (BxC.made W [.int .i64 t.id, .int .i64 t.ts, rv, wv] 28).1 j u hu
  simpa using h_
 ·rw [List.mem_singleton] at hx
  subst hx
  exact h.below (Nat.le_refl _) (Below.alloc (Below.refl _ _) (Nat.le_refl _) _)
set_option maxRecDepth 100000 in
set_option maxHeartbeats 1000000 in
theorem jformed_any (rv wv : Value) (t : Tx) (w : World) (h : TvRd w rv wv t) (hf : Fm t) (h1 : 1 ≤ t.ts) :
  Calls Tryz.prog 19 #[valT rv wv t] w fun e w' => e = .returned (.bool true) ∧ Below w.heap.size w w' := by
 have hVL : VL ⟨t.ts, [], [t]⟩ := by
  have hb := hf.2.2.2.1
  have h8 := hf.2.2.2.2.2
  refine ⟨List.Pairwise.nil, fun x hx => by simp at hx, hb, by simp, ?_, ⟨List.pairwise_singleton _ _, fun u hu => ?_⟩, fun u hu x hx => by simp at hx, fun u hu => ?_, fun x hx => by simp at hx⟩
  ·simp [nwr, evs, vers_length]; omega
  ·rw [List.mem_singleton] at hu; subst hu; exact ⟨hf, h1⟩
  ·rw [List.mem_singleton] at hu; subst hu; exact Int.le_refl _
 have b1 : Below w.heap.size w (w.alloc (.cells #[.int .i64 t.id, .int .i64 t.ts, rv, wv] 28)) := (by ((with_reducible repeat' first | exact .refl _ _ | refine .alloc ?_ ?_ _ | refine .setCell ?_ ?_ _ | refine .drew ?_ | refine below_drewN ?_ _) <;> first | omega | simp <;> omega))
 have HC := hide (cValid_any (.slice none 0 0) (.slice (some ⟨w.heap.size + 1, 0, none⟩) 1 1) ⟨t.ts, [], [t]⟩ ((w.alloc (.cells #[.int .i64 t.id, .int .i64 t.ts, rv, wv] 28)).alloc (.cells #[.int .i64 t.id, .int .i64 t.ts, rv, wv] 28)) ⟨Rws.nil _, txr_one (h.below (Nat.le_refl _) b1) _ (by simp)⟩ hVL)
 obtain ⟨ar, cr, rfl, -⟩ := id h.1
 obtain ⟨aw, cw, rfl, -⟩ := id h.2
 obtain ⟨ti, tt, rl, wl⟩ := t
 dsimp only [valT, valL] at *
 have d1 : decide ((0 : Int) < tt) = true := decide_eq_true (by omega)
 clear h hf h1 hVL b1
 go_enter Tryz.func19, Tryz.ntmps19
 go_wp2_with (go_at_call 37; (with_reducible refine HC.out.mono ?_); rintro e w1 ⟨rfl, b1⟩)
 go_ret
 exact ⟨rfl, (by ((with_reducible repeat' first | exact .refl _ _ | exact b1 | refine .alloc ?_ ?_ _ | refine .setCell ?_ ?_ _ | refine .drew ?_ | refine below_drewN ?_ _ | refine Below.trans ?_ (b1.mono ?_)) <;> first | omega | simp <;> omega))⟩
def PsAt (O : List Tx) (at_ : Int) (i j : Nat) : Prop := i ≤ j ∧ j ≤ O.length ∧ (∀ p, p < i → (txAt O p).ts < at_) ∧ ∀ p, j ≤ p → p < O.length → at_ ≤ (txAt O p).ts
theorem tx_lt {O : List Tx} (h : O.Pairwise fun a b => a.ts < b.ts) {i j : Nat} (hij : i < j) (hj : j < O.length) : (txAt O i).ts < (txAt O j).ts := by
 rw [txAt_lt (show i < O.length by omega), txAt_lt hj]
 exact List.pairwise_iff_getElem.1 h i j (by omega) hj hij
theorem PsAt.lo {O : List Tx} {a : Int} {i j h : Nat} (H : PsAt O a i j) (hO : O.Pairwise fun a b => a.ts < b.ts) (h2 : h < j) (hc : ¬ a ≤ (txAt O h).ts) : PsAt O a (h + 1) j := by
 refine ⟨by omega, H.2.1, fun p hp => ?_, H.2.2.2⟩
 rcases Nat.lt_or_ge p h with h3 | h3
 ·have := tx_lt hO h3 (by have := H.2.1; omega)
  omega
 ·obtain rfl : p = h := by omega
  omega
theorem PsAt.hi {O : List Tx} {a : Int} {i j h : Nat} (H : PsAt O a i j) (hO : O.Pairwise fun a b => a.ts < b.ts) (h1 : i ≤ h) (h2 : h < j) (hc : a ≤ (txAt O h).ts) : PsAt O a i h := by
 refine ⟨h1, by have := H.2.1; omega, H.2.2.1, fun p hp hl => ?_⟩
 rcases Nat.lt_or_ge h p with h3 | h3
 ·have := tx_lt hO h3 hl
  omega
 ·obtain rfl : p = h := by omega
  omega
set_option maxRecDepth 100000 in
set_option maxHeartbeats 1000000 in
theorem past1_any (i : Nat) (lb ab : Nat) (opv : Value) (O : List Tx) (a : Int) (w : World) (hi : i < O.length) (h : TxR w opv O) (hl : w.cell? ⟨lb, 2, none⟩ = some opv) (ha : w.cell? ⟨ab, 0, none⟩ = some (.int .i64 a)) :
  Calls Tryz.prog 85 #[.int .i64 i, .pointer (some ⟨lb, 0, none⟩), .pointer (some ⟨ab, 0, none⟩)] w fun e w' => e = .returned (.bool (decide (a ≤ (txAt O i).ts))) ∧ ∃ n, w' = w.drewN n := by
 obtain ⟨b, off, cap, rv, wv, rfl, hlt0, x0, x1, x2, x3, hrd⟩ := h.at_ hi
 have I1 : (0 : Int) ≤ (i : Int) := by omega
 have I2 : (i : Int) < (O.length : Int) := by omega
 generalize (txAt O i).ts = tt at *
 clear h hrd x0 x2 x3
 go_enter Tryz.func85, Tryz.ntmps85
 go_wp2
 go_quiet (fail)
 go_wp2
 go_ret
 exact ⟨rfl, _, rfl⟩
set_option maxRecDepth 100000 in
set_option maxHeartbeats 1000000 in
theorem Search_any (O : List Tx) (a : Int) (lb ab : Nat) (w : World) (hp : O.Pairwise fun a b => a.ts < b.ts) (hl : O.length ≤ 5000)
  (hC : ∀ i, i < O.length → ∀ V, Below w.heap.size w V → Calls Tryz.prog 85 #[.int .i64 i, .pointer (some ⟨lb, 0, none⟩), .pointer (some ⟨ab, 0, none⟩)] V fun e w' => e = .returned (.bool (decide (a ≤ (txAt O i).ts))) ∧ ∃ n, w' = V.drewN n) :
  Calls Tryz.prog 84 #[.int .i64 O.length, .func (.func 85) #[] #[.pointer (some ⟨lb, 0, none⟩), .pointer (some ⟨ab, 0, none⟩)]] w fun e w' => (∃ n : Nat, e = .returned (.int .i64 n) ∧ PsAt O a n n) ∧ Below w.heap.size w w' := by
 have HC := hide hC
 have HP := hide hp
 clear hC hp
 go_enter Tryz.func84, Tryz.ntmps84
 go_wp2_with fail
 go_loopw [5, 6] (fun s5 s6 wr => ∃ i j : Nat, s5 = .int .i64 i ∧ s6 = .int .i64 j ∧ Hid (PsAt O a i j) ∧ (i ≤ j ∧ j ≤ O.length) ∧ Below w.heap.size w wr) (fun s5 s6 _ => (intOf s6).toNat - (intOf s5).toNat)
 case atStart => exact ⟨0, O.length, rfl, rfl, hide ⟨Nat.zero_le _, Nat.le_refl _, fun p hp => by omega, fun p h1 h2 => by omega⟩, ⟨Nat.zero_le _, Nat.le_refl _⟩, .refl _ _⟩
 case round =>
  obtain ⟨i, j, rfl, rfl, HB, ⟨hij, hjn⟩, hB⟩ := hrel
  by_cases hlt : i < j
  ·obtain ⟨h, hh⟩ : ∃ h : Nat, h = (i + j) / 2 := ⟨_, rfl⟩
   have e : ((i : Int) + j) / 2 = (h : Int) := by omega
   have h1' : i ≤ h := by omega
   have h2' : h < j := by omega
   have h3' : h < O.length := by omega
   clear hh
   have HC2 := hide (HC.out h h3' wr hB)
   by_cases hc : a ≤ (txAt O h).ts
   ·have HN := hide (HB.out.hi HP.out h1' h2' hc)
    have dR : decide (a ≤ (txAt O h).ts) = true := decide_eq_true hc
    rw [dR] at HC2
    clear hc dR
    go_wp2_with ((with_reducible refine HC2.out.mono ?_); rintro e w1 ⟨rfl, nq, rfl⟩)
    go_roundw
    case rel => exact ⟨i, h, rfl, by go_num, HN, ⟨by omega, by omega⟩, below_drewN hB _⟩
    case measure => simp [intOf]; omega
   ·have HN := hide (HB.out.lo HP.out h2' hc)
    have dR : decide (a ≤ (txAt O h).ts) = false := decide_eq_false hc
    rw [dR] at HC2
    clear hc dR
    go_wp2_with ((with_reducible refine HC2.out.mono ?_); rintro e w1 ⟨rfl, nq, rfl⟩)
    go_roundw
    case rel => exact ⟨h + 1, j, by go_num, rfl, HN, ⟨by omega, by omega⟩, below_drewN hB _⟩
    case measure => simp [intOf]; omega
  ·obtain rfl : i = j := by omega
   go_wp2_with fail
   go_ret
   exact ⟨⟨i, rfl, HB.out⟩, hB⟩
set_option maxRecDepth 100000 in
set_option maxHeartbeats 1000000 in
theorem past_any (stv opv : Value) (L : Ld) (a : Int) (w : World) (h : LdRd w stv opv L) (hp : L.opn.Pairwise fun a b => a.ts < b.ts) (hl : L.opn.length ≤ 5000) :
  Calls Tryz.prog 39 #[valL stv opv L.last, .int .i64 a] w fun e w' => (∃ n : Nat, e = .returned (.int .i64 n) ∧ n ≤ L.opn.length ∧ (∀ t, t ∈ L.opn.take n → t.ts < a) ∧ ∀ t, t ∈ L.opn.drop n → a ≤ t.ts) ∧ Below w.heap.size w w' := by
 obtain ⟨last, S, O⟩ := L
 dsimp only at *
 obtain ⟨a1, cap1, rfl, -⟩ := id h.1
 obtain ⟨a2, cap2, rfl, o1, o2⟩ := h.2.len
 dsimp only [valL] at *
 obtain ⟨W, hW⟩ : ∃ V, V = (w.alloc (.cells #[.int .i64 last, .slice a1 S.length cap1, .slice a2 O.length cap2] 38)).alloc (.cells #[.int .i64 a] 3) := ⟨_, rfl⟩
 have c1 : W.cell? ⟨w.heap.size, 2, none⟩ = some (.slice a2 O.length cap2) := by rw [hW]; simp
 have c2 : W.cell? ⟨w.heap.size + 1, 0, none⟩ = some (.int .i64 a) := by rw [hW]; simp
 have b0 : Below w.heap.size w W := by rw [hW]; ((with_reducible repeat' first | exact .refl _ _ | refine .alloc ?_ ?_ _ | refine .setCell ?_ ?_ _ | refine .drew ?_ | refine below_drewN ?_ _) <;> first | omega | simp <;> omega)
 have z1 : w.heap.size < W.heap.size := by rw [hW]; simp; omega
 have z2 : w.heap.size + 1 < W.heap.size := by rw [hW]; simp
 have HC := hide (fun (i : Nat) (hi : i < O.length) (V : World) (hV : Below W.heap.size W V) => past1_any i w.heap.size (w.heap.size + 1) (.slice a2 O.length cap2) O a V hi (h.2.below (Nat.le_refl _) (b0.trans (hV.mono b0.size))) ((hV.cell (p := ⟨w.heap.size, 2, none⟩) z1).trans c1) ((hV.cell (p := ⟨w.heap.size + 1, 0, none⟩) z2).trans c2))
 have HB0 := hide b0
 have HP := hide hp
 clear h hp b0 c2
 go_enter Tryz.func39, Tryz.ntmps39
 go_upto_region 1 with fail
 rw [← hW]
 clear hW
 have HSr := hide (Search_any O a w.heap.size (w.heap.size + 1) W HP.out hl HC.out)
 go_wp2_with (go_at_call 84; (with_reducible refine HSr.out.mono ?_); rintro e w1 ⟨⟨n, rfl, hn⟩, b1⟩)
 go_ret
 refine ⟨⟨n, rfl, hn.2.1, fun t ht => ?_, fun t ht => ?_⟩, (by ((with_reducible repeat' first | exact .refl _ _ | exact b1 | exact HB0.out | refine .alloc ?_ ?_ _ | refine .setCell ?_ ?_ _ | refine .drew ?_ | refine below_drewN ?_ _ | refine Below.trans ?_ (b1.mono ?_) | refine Below.trans ?_ (HB0.out.mono ?_)) <;> first | omega | simp <;> omega))⟩
 ·obtain ⟨i, hi, rfl⟩ := List.getElem_of_mem ht
  rw [List.length_take] at hi
  have := hn.2.2.1 i (by omega)
  rw [txAt_lt (by omega)] at this
  rw [List.getElem_take]
  exact this
 ·obtain ⟨i, hi, rfl⟩ := List.getElem_of_mem ht
  rw [List.length_drop] at hi
  have := hn.2.2.2 (n + i) (by omega) (by omega)
  rw [txAt_lt (by omega)] at this
  rw [List.getElem_drop]
  exact this
end Go.Proofs.YthkoaecafmhlcaaGreat
