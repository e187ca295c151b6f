/- Parts TtR TtT TtU of the proof, joined. -/
import Derived.Test.YthkoaecafmhlcaaGreatJ28
import Derived.Test.YthkoaecafmhlcaaGreatJ04
import Derived.RangeFuncBox
import Derived.RangeFuncFrom
import Derived.Shelf.Abstract
import Derived.Shelf.AbstractIn
import Derived.Shelf.RegionOpen
import Derived.OwnWalkIn
import Derived.TacticsInMore
import Derived.LoopNIn
import Derived.LoopIn
import Derived.Sort.QuietIn
import Derived.Sort.BigQuietIn
import Derived.Sort.QuietTacIn
import Derived.BigRegionIn
/- Plain: the bytes of a log, and what lies ahead of a cut. -/
namespace Go.Proofs.YthkoaecafmhlcaaGreat
def logB (D : List Tx) : List Int := (D.map itx).flatMap frm
theorem logB_cons (t : Tx) (D : List Tx) : logB (t :: D) = frm (itx t) ++ logB D := rfl
theorem logB_append (D E : List Tx) : logB (D ++ E) = logB D ++ logB E := by unfold logB; rw [List.map_append, List.flatMap_append]
theorem logB_snoc (D : List Tx) (t : Tx) : logB (D ++ [t]) = logB D ++ frm (itx t) := by rw [logB_append]; simp [logB]
theorem frm_ub {t : Tx} (h : Fm t) : (frm (itx t)).length ≤ 1100 := by
 have h1 := itx_len t h.2.2.2.2.1 h.2.2.2.2.2
 have h2 := putL_len (itx t) (sml_itx h)
 have h3 := putI_len (n := ((itx t).length : Int)) (by omega)
 rw [frm_len]
 unfold encN
 rw [List.length_append]
 omega
theorem logB_len : ∀ (D : List Tx), (∀ t, t ∈ D → Fm t) → (logB D).length ≤ 1100 * D.length
 | [], _ => by simp [logB]
 | t :: D, h => by
  have h1 := logB_len D fun x hx => h x (by simp [hx])
  have h2 := frm_ub (h t (by simp))
  rw [logB_cons, List.length_append, List.length_cons]
  omega
theorem okL_nil : OkL [] := ⟨by simp, fun x hx => by simp at hx⟩
theorem frm_pos (l : List Int) : 0 < (frm l).length := by rw [frm_len]; omega
theorem cut_log : ∀ (D : List Tx) (k : Nat), (∀ t, t ∈ D → Fm t) → k ≤ (logB D).length → ∃ (j : Nat) (last : List Int) (m : Nat), j ≤ D.length ∧ (logB D).take k = logB (D.take j) ++ (frm last).take m ∧ OkL last ∧ m < (frm last).length
 | [], k, _, _ => ⟨0, [], 0, Nat.zero_le _, by simp [logB], okL_nil, frm_pos _⟩
 | t :: D, k, hF, hk => by
  rw [logB_cons] at hk ⊢
  by_cases h : k < (frm (itx t)).length
  ·refine ⟨0, itx t, k, Nat.zero_le _, ?_, okL_itx (hF t (by simp)), h⟩
   rw [List.take_append_of_le_length (by omega)]
   rfl
  ·rw [List.length_append] at hk
   obtain ⟨j, last, m, h1, h2, h3, h4⟩ := cut_log D (k - (frm (itx t)).length) (fun x hx => hF x (by simp [hx])) (by omega)
   refine ⟨j + 1, last, m, by rw [List.length_cons]; omega, ?_, h3, h4⟩
   rw [List.take_append, List.take_of_length_le (by omega), h2, List.take_succ_cons, logB_cons, List.append_assoc]
theorem logB_take (D : List Tx) (j : Nat) : (logB D).take (logB (D.take j)).length = logB (D.take j) := by
 have e : logB D = logB (D.take j) ++ logB (D.drop j) := by rw [← logB_append, List.take_append_drop]
 rw [e, List.take_left]
theorem atL_map (D : List Tx) (k : Nat) : atL (D.map itx) k = (logB (D.take k)).length := by
 unfold atL logB
 rw [List.map_take]
theorem logB_take_le (D : List Tx) (j : Nat) : (logB (D.take j)).length ≤ (logB D).length := by
 have e : logB D = logB (D.take j) ++ logB (D.drop j) := by rw [← logB_append, List.take_append_drop]
 rw [e, List.length_append]
 exact Nat.le_add_right _ _
end Go.Proofs.YthkoaecafmhlcaaGreat
/- Package journal: records, as an iterator that hands in transactions of memory that it has made. -/
namespace Go.Proofs.YthkoaecafmhlcaaGreat
open Go.RowKit Go.Shelf
attribute [local go_sem] Oper.semAt_some
theorem grown_bel {A B : World} (h : Below A.heap.size A B) : A.grownBy B none := ⟨h.os, h.tape, h.output, h.size, fun k hk _ => h.block k hk⟩
theorem TRw.same {T : TypeId} {α : Type} {en : α → List Value} {C : Nat} {d : α} {w w' : World} {v : Value} {l : List α} (h : TRw T en C d w v l) (hz : w.heap.size ≤ w'.heap.size) (hb : l ≠ [] → ∀ q, v.ownBlock = some q → w'.heap[q]? = w.heap[q]?) : TRw T en C d w' v l :=
 ⟨h.1.same hz hb, fun hl q hq => by obtain ⟨c, fz, hc⟩ := h.2 hl q hq; exact ⟨c, fz, (hb hl q hq).trans hc⟩⟩
theorem OwnLr.at_ {w : World} {base : Nat} {v : Value} {l : List (List Int)} (h : OwnLr w base v l) {i : Nat} (hi : i < l.length) : ∃ g cap lv, v = .slice (some ⟨g, 0, none⟩) l.length cap ∧ g < w.heap.size ∧ w.cell? ⟨g, i, none⟩ = some lv ∧ IsRow w lv (l.getD i []) := by
 obtain ⟨xs, rfl, h2, h3⟩ := h
 rw [List.length_map] at hi ⊢
 obtain ⟨g, cap, rfl, _, _, _, h6, h7⟩ := h2.form encV_length rv0 (by omega) (by omega)
 have h8 := h7 i hi 0 _ rfl
 have hm : xs.getD i rv0 ∈ xs := by simp [List.getD_eq_getElem?_getD, List.getElem?_eq_getElem hi]
 have e : (xs.map (·.2)).getD i [] = (xs.getD i rv0).2 := by simp [List.getD_eq_getElem?_getD, List.getElem?_eq_getElem hi]
 rw [e]
 rw [Nat.mul_one, Nat.add_zero] at h8
 exact ⟨g, cap, _, rfl, h6, h8, (h3 _ hm).1⟩
theorem OwnLr.len {w : World} {base : Nat} {v : Value} {l : List (List Int)} (h : OwnLr w base v l) : ∃ a cap, v = .slice a l.length cap ∧ l.length ≤ cap ∧ cap ≤ 9223372036854775807 := by
 obtain ⟨xs, rfl, h2, _⟩ := h
 rw [List.length_map]
 exact h2.val
def NotH (H : Nat → Prop) (x : Tv) : Prop := (x.t.rd ≠ [] → ∀ q, x.rv.ownBlock = some q → ¬ H q) ∧ (x.t.wr ≠ [] → ∀ q, x.wv.ownBlock = some q → ¬ H q)
theorem TvTy.lt {w : World} {rv wv : Value} {t : Tx} (h : TvTy w rv wv t) : (t.rd ≠ [] → ∀ q, rv.ownBlock = some q → q < w.heap.size) ∧ (t.wr ≠ [] → ∀ q, wv.ownBlock = some q → q < w.heap.size) :=
 ⟨fun hl q hq => by obtain ⟨c, fz, hc⟩ := h.1.2 hl q hq; exact (Array.getElem?_eq_some_iff.1 hc).1, fun hl q hq => by obtain ⟨c, fz, hc⟩ := h.2.2 hl q hq; exact (Array.getElem?_eq_some_iff.1 hc).1⟩
theorem TvTy.same {w w' : World} {rv wv : Value} {t : Tx} (h : TvTy w rv wv t) (hz : w.heap.size ≤ w'.heap.size) (h1 : t.rd ≠ [] → ∀ q, rv.ownBlock = some q → w'.heap[q]? = w.heap[q]?) (h2 : t.wr ≠ [] → ∀ q, wv.ownBlock = some q → w'.heap[q]? = w.heap[q]?) : TvTy w' rv wv t :=
 ⟨h.1.same hz h1, h.2.same hz h2⟩
def encTv (x : Tv) : Array Value := #[valT x.rv x.wv x.t]
def RecG (base : Nat) (H : Nat → Prop) (x : Tv) (W : World) : Prop := TvTy W x.rv x.wv x.t ∧ LocT base x.rv x.wv ∧ NotH H x ∧ Fm x.t
set_option maxRecDepth 100000 in
set_option maxHeartbeats 4000000 in
theorem recs_hg (n : Nat) (hn : 1 ≤ n) (fb : Nat) (fv : Value) (D : List Tx) (fbase : Nat) (K0 : Nat → Prop) (w : World) (hc : w.cell? ⟨fb, 0, none⟩ = some fv) (hO : ∀ V, (∀ q, K0 q → V.heap[q]? = w.heap[q]?) → w.heap.size ≤ V.heap.size → OwnLr V fbase fv (D.map itx)) (hK0 : ∀ q, K0 q → q < w.heap.size) (hG : GoodD D) (hD : D.length ≤ 100000) :
  SeqHG Fence.wide n Tryz.prog 58 #[.pointer (some ⟨fb, 0, none⟩)] encTv (RecG w.heap.size) (fun ys => ys.map (·.t) = D) D.length K0 (fun _ => False) w := by
 intro l J W hW hJ hY h0
 have hBl := World.block_lt_of_cell? _ _ hc
 simp only at hBl
 have hcW := (hW.cell (p := ⟨fb, 0, none⟩) hBl).trans hc
 have hzW := hW.size
 have hKW : ∀ q, K0 q → W.heap[q]? = w.heap[q]? := fun q hq => hW.block q (hK0 q hq)
 have HO := hide hO
 obtain ⟨fa, fc, hfv, hf1, hf2⟩ := (hO W hKW hzW).len
 rw [List.length_map] at hfv hf1
 subst hfv
 have HG := hide hG
 have HK := hide hKW
 clear hO hG hKW hc
 refine callsIn_of_wp Tryz.func58 rfl trivial ?_ rfl
 simp only [Tryz.ntmps58, List.size_toArray, List.length_cons, List.length_nil, Nat.reduceAdd, Nat.reduceSub, Array.replicate_succ, Array.replicate_zero, List.push_toArray, List.append_toArray, List.nil_append, List.cons_append]
 gi_wp2
 clear hcW
 gi_loopw [10, 3] (fun s10 s3 wr => ∃ (k : Nat) (last : Int) (H : Nat → Prop) (pre : List Tv), k ≤ D.length ∧ s10 = .int .i64 k ∧ s3 = .int .i64 last ∧ Hid (pre.map (·.t) = D.take k) ∧ J H pre wr ∧ Hid (∀ q, K0 q → wr.heap[q]? = w.heap[q]?) ∧ w.heap.size ≤ wr.heap.size ∧ Hid (∀ i, i < D.length → i = k → last < (txAt D i).ts) ∧ Hid (∀ q, H q → q < wr.heap.size)) (fun s10 _ _ => D.length - (intOf s10).toNat)
 case atStart => exact ⟨0, 0, _, [], Nat.zero_le _, rfl, rfl, hide rfl, h0, HK, hzW, hide (fun i hi e => by have := (HG.out.2 (txAt D i) (txAt_mem hi)).2; omega), hide (fun q h => h.elim)⟩
 case round =>
  clear HK hzW
  obtain ⟨k, last, H, pre, hk, rfl, rfl, Hp, hJr, HK, hzr, HL, HH⟩ := hrel
  by_cases hlt : k < D.length
  ·have hpl : pre.length < D.length := by
    have h1 := congrArg List.length Hp.out
    rw [List.length_map, List.length_take] at h1
    omega
   obtain ⟨g, cap, lv, hb, hg, hcl, hrow⟩ := (HO.out wr HK.out hzr).at_ (i := k) (by rw [List.length_map]; exact hlt)
   rw [List.length_map] at hb
   cases hb
   have e1 : (D.map itx).getD k [] = itx (txAt D k) := by simp [txAt, List.getD_eq_getElem?_getD, List.getElem?_eq_getElem hlt]
   rw [e1] at hrow
   have hm := HG.out.2 _ (txAt_mem hlt)
   have hgt := HL.out k hlt rfl
   have hnx : ∀ i, i < D.length → i = k + 1 → (txAt D k).ts < (txAt D i).ts := fun i hi e => by
    subst e
    rw [txAt_lt hi, txAt_lt hlt]
    exact List.pairwise_iff_getElem.1 HG.out.1 k (k + 1) hlt hi (by omega)
   have htk : D.take (k + 1) = D.take k ++ [txAt D k] := by rw [List.take_succ_eq_append_getElem hlt, txAt_lt hlt]
   have HRd := hide (read_any lv (txAt D k) wr hrow hm.1 hm.2)
   have HFm := hide hm.1
   obtain ⟨la, lc, rfl, -, -, -⟩ := hrow
   generalize txAt D k = t at *
   have HT := hide htk
   have HN := hide hnx
   clear htk hnx hm e1
   obtain ⟨ti, tt, rl, wl⟩ := t
   dsimp only at hgt
   have g1 : decide (tt ≤ last) = false := decide_eq_false (by omega)
   have I1 : (0 : Int) ≤ (k : Int) := by omega
   have I2 : (k : Int) < (D.length : Int) := by omega
   gi_wp2_with fail
   refine ⟨trivial, (callsIn_wide.2 HRd.out).mono ?_⟩
   rintro e w1 ⟨⟨rv, wv, rfl, hty, hloc⟩, b1⟩
   have z1 := b1.size
   obtain ⟨ra, rc, rfl, -⟩ := id hty.1.1
   obtain ⟨wa, wc, rfl, -⟩ := id hty.2.1
   obtain ⟨W1, hW1⟩ : ∃ V, V = w1.alloc (.cells #[.int .i64 ti, .int .i64 tt, .slice ra rl.length rc, .slice wa wl.length wc] 28) := ⟨_, rfl⟩
   have hbx : BxC W1 w1.heap.size [.int .i64 ti, .int .i64 tt, .slice ra rl.length rc, .slice wa wl.length wc] := by rw [hW1]; exact BxC.made w1 _ _
   have b2 : Below w1.heap.size w1 W1 := by rw [hW1]; ((with_reducible repeat' first | exact .refl _ _ | refine .alloc ?_ ?_ _ | refine .setCell ?_ ?_ _ | refine .drew ?_ | refine below_drewN ?_ _) <;> first | omega | simp <;> omega)
   have b3 : Below wr.heap.size wr W1 := by rw [hW1]; ((with_reducible repeat' first | exact .refl _ _ | exact b1 | refine .alloc ?_ ?_ _ | refine .setCell ?_ ?_ _ | refine .drew ?_ | refine below_drewN ?_ _ | refine Below.trans ?_ (b1.mono ?_)) <;> first | omega | simp <;> omega)
   have z2 : W1.heap.size = w1.heap.size + 1 := by rw [hW1]; simp
   have hJ1 := hJ H (fun r => H r ∨ r = w1.heap.size) pre wr W1 none hJr (grown_bel b3) (fun r e => by cases e) (fun r hr => hr.elim .inl (fun h => .inr (by omega)))
   have hty1 := hty.below (Nat.le_refl _) b2
   have hlt1 := hty.lt
   have hGx : RecG w.heap.size (fun r => H r ∨ r = w1.heap.size) ⟨.slice ra rl.length rc, .slice wa wl.length wc, ⟨ti, tt, rl, wl⟩⟩ W1 := ⟨hty1, hloc.mono hzr, ⟨fun hl q hq hh => by
    have h1 := hloc.1 q hq
    have h2 := hlt1.1 hl q hq
    rcases hh with h | h
    ·have := HH.out q h; omega
    ·omega, fun hl q hq hh => by
    have h1 := hloc.2 q hq
    have h2 := hlt1.2 hl q hq
    rcases hh with h | h
    ·have := HH.out q h; omega
    ·omega⟩, HFm.out⟩
   obtain ⟨fn, tmps, assign, body, hyy, hR⟩ := hY _ pre ⟨.slice ra rl.length rc, .slice wa wl.length wc, ⟨ti, tt, rl, wl⟩⟩ W1 hJ1 hGx hpl
   have HK1 := hide (fun q (hq : K0 q) => (b3.block q (Nat.lt_of_lt_of_le (hK0 q hq) hzr)).trans (HK.out q hq))
   have HH1 := hide (fun q (hq : H q ∨ q = w1.heap.size) => (show q < W1.heap.size from hq.elim (fun h => by have := HH.out q h; omega) (fun h => by omega)))
   have HBX := hide hbx
   clear hty1 hlt1 hGx hJ1 b2 hty hloc hJr
   dsimp only [encTv, valT] at hyy
   clear b3
   gi_wp2_with fail
   rw [← hW1, hyy, Oper.uponIn_round]
   refine ⟨(fun h => by cases h), ?_⟩
   refine hR.mono ?_
   rintro e W3 ⟨rfl, hJ3, hk3⟩
   have hb3 := HBX.out.same hk3.1 (hk3.2 w1.heap.size (.inl (.inr rfl)))
   have k0 := hb3.1 0 _ rfl
   have k1 := hb3.1 1 _ rfl
   have k2 := hb3.1 2 _ rfl
   have k3 := hb3.1 3 _ rfl
   have z3 := hk3.1
   clear hb3 hyy hR
   gi_wp2_with fail
   go_roundw
   case rel =>
    exact ⟨k + 1, tt, _, _, by omega, by go_num, rfl, hide (by rw [HT.out, List.map_append, Hp.out]; rfl), hJ3, hide (fun q hq => (hk3.2 q (.inr hq)).trans (HK1.out q hq)), by omega, HN, hide (fun q hq => Nat.lt_of_lt_of_le (HH1.out q hq) z3)⟩
   case measure => simp [intOf]; omega
  ·obtain rfl : k = D.length := by omega
   gi_wp2
   go_end0
   exact ⟨⟨_, rfl⟩, H, pre, by have := Hp.out; rwa [List.take_length] at this, hJr⟩
end Go.Proofs.YthkoaecafmhlcaaGreat
/- What stands while a log is loaded: the transactions in a row of their own, the two boxes, what the iterator hides. -/
namespace Go.Proofs.YthkoaecafmhlcaaGreat
open Go.RowKit
theorem TvTy.ktx {w w' : World} {rv wv : Value} {t : Tx} (h : TvTy w rv wv t) (k : KT 28 w w') : TvTy w' rv wv t := h.kt k (by decide) (by decide)
theorem bx_lt {W : World} {b : Nat} {vs : List Value} (h : BxC W b vs) : b < W.heap.size := h.2.2
structure LdI (w1 : World) (H : Nat → Prop) (xs : List Tv) (v8 : Value) (n9 : Int) (rv : Value) (W : World) : Prop where
 x8 : BxC W w1.heap.size [v8]
 x9 : BxC W (w1.heap.size + 1) [.int .i64 n9]
 own : Owns 28 encT 4 W (w1.heap.size + 2) rv xs
 el : ∀ x, x ∈ xs → TvTy W x.rv x.wv x.t ∧ LocT (w1.heap.size + 2) x.rv x.wv ∧ NotH H x
 h8 : ¬ H w1.heap.size
 h9 : ¬ H (w1.heap.size + 1)
 row : ∀ r, rv.ownBlock = some r → ¬ H r
 hid : ∀ r, H r → w1.heap.size ≤ r
 bel : Below w1.heap.size w1 W
theorem NotH.mono {H H' : Nat → Prop} {x : Tv} {W W' : World} (h : NotH H x) (ht : TvTy W x.rv x.wv x.t) (hH' : ∀ r, H' r → H r ∨ (W.heap.size ≤ r ∧ r < W'.heap.size)) : NotH H' x :=
 ⟨fun hl q hq hh => (hH' q hh).elim (h.1 hl q hq) fun h2 => by have := ht.lt.1 hl q hq; omega, fun hl q hq hh => (hH' q hh).elim (h.2 hl q hq) fun h2 => by have := ht.lt.2 hl q hq; omega⟩
theorem LdI.walk {w1 : World} {C : Nat} (hC : w1.heap.size + 2 ≤ C) {H H' : Nat → Prop} {xs : List Tv} {v8 : Value} {n9 : Int} {rv : Value} {W W' : World} {row : Option Nat} (h : LdI w1 H xs v8 n9 rv W) (hg : W.grownBy W' row)
  (hr : ∀ r, row = some r → H r ∨ (C ≤ r ∧ ∃ o : Obj, W.heap[r]? = some o ∧ o.isCells = false)) (hH' : ∀ r, H' r → H r ∨ (W.heap.size ≤ r ∧ r < W'.heap.size)) : LdI w1 H' xs v8 n9 rv W' := by
 have hb := h.bel.size
 have hl := World.ownsRow.lt h.own
 have hty : ∀ {T : TypeId} {q : Nat}, ¬ H q → (∃ c fz, W.heap[q]? = some (.cells c T fz)) → W'.heap[q]? = W.heap[q]? := fun {T q} hn ⟨c, fz, hc⟩ => hg.block q (Array.getElem?_eq_some_iff.1 hc).1 fun e => by
  rcases hr q e.symm with h | ⟨_, o, ho, hno⟩
  ·exact hn h
  ·rw [hc] at ho; cases ho; cases hno
 have h8l := bx_lt h.x8
 have h9l := bx_lt h.x9
 refine ⟨h.x8.grown hg fun e => ?_, h.x9.grown hg fun e => ?_, own_other_ h.own hg fun r hv e => ?_, fun x hx => ⟨(h.el x hx).1.same hg.size (fun hl q hq => hty ((h.el x hx).2.2.1 hl q hq) ((h.el x hx).1.1.2 hl q hq)) (fun hl q hq => hty ((h.el x hx).2.2.2 hl q hq) ((h.el x hx).1.2.2 hl q hq)), (h.el x hx).2.1, (h.el x hx).2.2.mono (h.el x hx).1 hH'⟩,
  fun hh => ?_, fun hh => ?_, fun r hv hh => ?_, fun r hh => ?_, h.bel.grown hg hb fun r e => ?_⟩
 ·rcases hr _ e.symm with h1 | ⟨h1, _⟩
  ·exact h.h8 h1
  ·omega
 ·rcases hr _ e.symm with h1 | ⟨h1, _⟩
  ·exact h.h9 h1
  ·omega
 ·rcases hr _ e with h1 | ⟨_, o, ho, hno⟩
  ·exact h.row r hv h1
  ·have := own_cells_ h.own hv ho; rw [this] at hno; cases hno
 ·rcases hH' _ hh with h1 | h1
  ·exact h.h8 h1
  ·omega
 ·rcases hH' _ hh with h1 | h1
  ·exact h.h9 h1
  ·omega
 ·rcases hH' _ hh with h1 | h1
  ·exact h.row r hv h1
  ·have := (hl r hv).2; omega
 ·rcases hH' _ hh with h1 | h1
  ·exact h.hid r h1
  ·omega
 ·rcases hr _ e with h1 | ⟨h1, _⟩
  ·exact h.hid r h1
  ·omega
theorem LdI.below {w1 : World} {H : Nat → Prop} {xs : List Tv} {v8 : Value} {n9 : Int} {rv : Value} {W W' : World} (h : LdI w1 H xs v8 n9 rv W) (b : Below W.heap.size W W') : LdI w1 H xs v8 n9 rv W' :=
 h.walk (Nat.le_refl _) (grown_bel b) (fun r e => by cases e) fun r hr => .inl hr
theorem tv_ne {x : Tv} {b lo : Nat} (h : LocT lo x.rv x.wv) (hb : b < lo) : (∀ q, x.rv.ownBlock = some q → q ≠ b) ∧ ∀ q, x.wv.ownBlock = some q → q ≠ b :=
 ⟨fun q hq => by have := h.1 q hq; omega, fun q hq => by have := h.2 q hq; omega⟩
theorem tvty_set {w : World} {x : Tv} {b lo : Nat} {u : Value} (ht : TvTy w x.rv x.wv x.t) (h : LocT lo x.rv x.wv) (hb : b < lo) : TvTy (w.setCell ⟨b, 0, none⟩ u) x.rv x.wv x.t :=
 ht.same (by simp [World.setCell]) (fun _ q hq => Below.heap_setCell _ _ _ q ((tv_ne h hb).1 q hq)) (fun _ q hq => Below.heap_setCell _ _ _ q ((tv_ne h hb).2 q hq))
theorem LdI.set8 {w1 : World} {H : Nat → Prop} {xs : List Tv} {v8 : Value} {n9 : Int} {rv : Value} {W : World} (h : LdI w1 H xs v8 n9 rv W) (u : Value) : LdI w1 H xs u n9 rv (W.setCell ⟨w1.heap.size, 0, none⟩ u) := by
 have hl := World.ownsRow.lt h.own
 exact ⟨by have := h.x8.set 0 u (by simp); simpa using this, h.x9.setNe (p := ⟨w1.heap.size, 0, none⟩) (by simp) u, own_other_ h.own (grownBy_setCell' _ _ _) fun r hv e => by { cases e; have h_ : w1.heap.size + 2 ≤ w1.heap.size := (hl _ hv).1; omega }, fun x hx => ⟨tvty_set (h.el x hx).1 (h.el x hx).2.1 (by omega), (h.el x hx).2⟩,
  h.h8, h.h9, h.row, h.hid, h.bel.setCell (p := ⟨w1.heap.size, 0, none⟩) (Nat.le_refl _) u⟩
theorem LdI.set9 {w1 : World} {H : Nat → Prop} {xs : List Tv} {v8 : Value} {n9 : Int} {rv : Value} {W : World} (h : LdI w1 H xs v8 n9 rv W) (n : Int) : LdI w1 H xs v8 n rv (W.setCell ⟨w1.heap.size + 1, 0, none⟩ (.int .i64 n)) := by
 have hl := World.ownsRow.lt h.own
 exact ⟨h.x8.setNe (p := ⟨w1.heap.size + 1, 0, none⟩) (by simp) _, by have := h.x9.set 0 (.int .i64 n) (by simp); simpa using this, own_other_ h.own (grownBy_setCell' _ _ _) fun r hv e => by { cases e; have h_ : w1.heap.size + 2 ≤ w1.heap.size + 1 := (hl _ hv).1; omega }, fun x hx => ⟨tvty_set (h.el x hx).1 (h.el x hx).2.1 (by omega), (h.el x hx).2⟩,
  h.h8, h.h9, h.row, h.hid, h.bel.setCell (p := ⟨w1.heap.size + 1, 0, none⟩) (Nat.le_succ _) _⟩
theorem LdI.push {w1 : World} {H : Nat → Prop} {xs : List Tv} {v8 : Value} {n9 : Int} {rv v6 : Value} {W w6 : World} {x : Tv} (h : LdI w1 H xs v8 n9 rv W) (hx : TvTy W x.rv x.wv x.t ∧ LocT (w1.heap.size + 2) x.rv x.wv ∧ NotH H x)
  (hown : w6.ownsRow (w1.heap.size + 2) 28 4 v6 (xs.length + 1) (xs.flatMap encT ++ encT x)) (hg : W.grownBy w6 rv.ownBlock) (hnew : ∀ r, v6.ownBlock = some r → rv.ownBlock = some r ∨ W.heap.size ≤ r) (hlt : ∀ r, H r → r < W.heap.size) : LdI w1 H (xs ++ [x]) v8 n9 v6 w6 := by
 have hb := h.bel.size
 have hl := World.ownsRow.lt h.own
 have k : KT 28 W w6 := KT.grown hg fun q hq => owns_block h.own q hq
 refine ⟨h.x8.grown hg fun e => ?_, h.x9.grown hg fun e => ?_, Owns.app hown, fun y hy => ?_, h.h8, h.h9, fun r hv hh => ?_, h.hid, h.bel.grown hg hb fun r e => ?_⟩
 ·have := (hl _ e.symm).1; omega
 ·have := (hl _ e.symm).1; omega
 ·rw [List.mem_append, List.mem_singleton] at hy
  rcases hy with hy | rfl
  ·exact ⟨(h.el y hy).1.ktx k, (h.el y hy).2⟩
  ·exact ⟨hx.1.ktx k, hx.2⟩
 ·rcases hnew r hv with h1 | h1
  ·exact h.row r h1 hh
  ·have := hlt r hh; omega
 ·have := (hl _ e).1; omega
structure LdS (w1 W0 : World) (b10 : Nat) (H : Nat → Prop) (x : Tv) (xs : List Tv) (v8 : Value) (n9 : Int) (rv : Value) (W : World) : Prop where
 i : LdI w1 H xs v8 n9 rv W
 x10 : BxC W b10 (encT x)
 lo10 : w1.heap.size + 2 ≤ b10
 ne10 : rv.ownBlock ≠ some b10
 ty : TvTy W x.rv x.wv x.t ∧ LocT (w1.heap.size + 2) x.rv x.wv ∧ NotH H x
 kf : KeepsOthers W0 W
 kh : KeepH (fun r => H r ∨ r < w1.heap.size) W0 W
 hlt : ∀ r, H r → r < W0.heap.size
theorem LdS.below {w1 W0 : World} {b10 : Nat} {H : Nat → Prop} {x : Tv} {xs : List Tv} {v8 : Value} {n9 : Int} {rv : Value} {W W' : World} (h : LdS w1 W0 b10 H x xs v8 n9 rv W) (b : Below W.heap.size W W') : LdS w1 W0 b10 H x xs v8 n9 rv W' :=
 ⟨h.i.below b, h.x10.below (bx_lt h.x10) b, h.lo10, h.ne10, ⟨h.ty.1.below (Nat.le_refl _) b, h.ty.2⟩, h.kf.trans (KeepsOthers.of_grownBy (grown_bel b) fun _ _ e => by cases e), h.kh.trans (KeepH.grown (grown_bel b) (fun r hr => hr.elim (fun hr => Nat.lt_of_lt_of_le (h.hlt r hr) h.kh.1) fun hr => Nat.lt_of_lt_of_le hr h.i.bel.size) fun r e => by cases e), h.hlt⟩
theorem LdS.set8 {w1 W0 : World} {b10 : Nat} {H : Nat → Prop} {x : Tv} {xs : List Tv} {v8 : Value} {n9 : Int} {rv : Value} {W : World} (h : LdS w1 W0 b10 H x xs v8 n9 rv W) (u : Value) : LdS w1 W0 b10 H x xs u n9 rv (W.setCell ⟨w1.heap.size, 0, none⟩ u) :=
 ⟨h.i.set8 u, h.x10.setNe (p := ⟨w1.heap.size, 0, none⟩) (by have := h.lo10; show b10 ≠ w1.heap.size; omega) u, h.lo10, h.ne10, ⟨tvty_set h.ty.1 h.ty.2.1 (by omega), h.ty.2⟩, h.kf.trans (KeepsOthers.setCell _ _ _),
  h.kh.trans ⟨by simp [World.setCell], fun q hq => Below.heap_setCell _ _ _ q (fun e => by have e2 : q = w1.heap.size := e; subst e2; rcases hq with hq | hq; exact h.i.h8 hq; omega)⟩, h.hlt⟩
theorem LdS.set9 {w1 W0 : World} {b10 : Nat} {H : Nat → Prop} {x : Tv} {xs : List Tv} {v8 : Value} {n9 : Int} {rv : Value} {W : World} (h : LdS w1 W0 b10 H x xs v8 n9 rv W) (n : Int) : LdS w1 W0 b10 H x xs v8 n rv (W.setCell ⟨w1.heap.size + 1, 0, none⟩ (.int .i64 n)) :=
 ⟨h.i.set9 n, h.x10.setNe (p := ⟨w1.heap.size + 1, 0, none⟩) (by have := h.lo10; show b10 ≠ w1.heap.size + 1; omega) _, h.lo10, h.ne10, ⟨tvty_set h.ty.1 h.ty.2.1 (by omega), h.ty.2⟩, h.kf.trans (KeepsOthers.setCell _ _ _),
  h.kh.trans ⟨by simp [World.setCell], fun q hq => Below.heap_setCell _ _ _ q (fun e => by have e2 : q = w1.heap.size + 1 := e; subst e2; rcases hq with hq | hq; exact h.i.h9 hq; omega)⟩, h.hlt⟩
theorem LdS.push {w1 W0 : World} {b10 : Nat} {H : Nat → Prop} {x : Tv} {xs : List Tv} {v8 : Value} {n9 : Int} {rv v6 : Value} {W w6 : World} (h : LdS w1 W0 b10 H x xs v8 n9 rv W)
  (hown : w6.ownsRow (w1.heap.size + 2) 28 4 v6 (xs.length + 1) (xs.flatMap encT ++ encT x)) (hg : W.grownBy w6 rv.ownBlock) (hnew : ∀ r, v6.ownBlock = some r → rv.ownBlock = some r ∨ W.heap.size ≤ r) : LdS w1 W0 b10 H x (xs ++ [x]) v8 n9 v6 w6 := by
 have hl := World.ownsRow.lt h.i.own
 have hlt : ∀ r, H r → r < W.heap.size := fun r hr => Nat.lt_of_lt_of_le (h.hlt r hr) h.kh.1
 have k : KT 28 W w6 := KT.grown hg fun q hq => owns_block h.i.own q hq
 refine ⟨h.i.push h.ty hown hg hnew hlt, h.x10.grown hg (fun e => h.ne10 e.symm), h.lo10, fun e => ?_, ⟨h.ty.1.ktx k, h.ty.2⟩, h.kf.trans (KeepsOthers.of_grownBy hg fun r o hr ho => own_cells_ h.i.own hr ho),
  h.kh.trans (KeepH.grown hg (fun r hr => hr.elim (hlt r) fun hr => Nat.lt_of_lt_of_le hr h.i.bel.size) fun r e hh => ?_), h.hlt⟩
 ·rcases hnew _ e with h1 | h1
  ·exact h.ne10 h1
  ·have := bx_lt h.x10; omega
 ·rcases hh with h1 | h1
  ·exact h.i.row r e h1
  ·have := (hl r e).1; omega
theorem bx_cells {W : World} {q : Nat} {vs : List Value} (h : BxC W q vs) : ∀ j u, vs[j]? = some u → W.cell? ((⟨q, 0, none⟩ : Addr).add j) = some u := fun j u hj => by
 rw [Go.WideShapes.add_plain, Nat.zero_add]
 exact h.1 j u hj
theorem encT_one {x : Tv} {W : World} (h : TvTy W x.rv x.wv x.t) : ∀ u ∈ encT x, u.oneCell' = true := by
 obtain ⟨⟨⟨a, c, e1, -⟩, -⟩, ⟨⟨a', c', e2, -⟩, -⟩⟩ := h
 intro u hu
 simp only [encT, List.mem_cons, List.not_mem_nil, or_false] at hu
 rcases hu with rfl | rfl | rfl | rfl
 ·rfl
 ·rfl
 ·rw [e1]; rfl
 ·rw [e2]; rfl
end Go.Proofs.YthkoaecafmhlcaaGreat
