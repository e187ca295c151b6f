
/- Package scene: Play. -/
import Derived.Test.YtigjljmhpkeahaaGreatScI
import Derived.Test.YtigjljmhpkeahaaGreatGq
import Derived.Test.YtigjljmhpkeahaaGreatScR
namespace Go.Proofs.YtigjljmhpkeahaaGreat
open Go.RowKit

def PlayPost (w : World) (s : Si) (x : Sc) (e : Ending) (w' : World) : Prop := e = .returned (.tuple #[.agg #[.int .i64 (pyLo s x), .int .i64 (pyHi s x)], .int .i64 (pyEr s x)]) ∧ Below w.heap.size w w'
theorem cells_new2 (w : World) (o : Obj) (cs : List Value) (t : TypeId) : ∀ j u, cs[j]? = some u → ((w.alloc o).alloc (.cells cs.toArray t)).cell? ((⟨w.heap.size + 1, 0, none⟩ : Addr).add j) = some u := by
 have := cells_new (w.alloc o) cs t
 rwa [World.size_alloc] at this
theorem py_no {s : Si} {x : Sc} {c : Int} (h : pyEr s x = c) (hc : c ≠ 0) : pyLo s x = 0 ∧ pyHi s x = 0 := by
 constructor
 ·unfold pyLo; rw [if_neg (by rw [h]; exact hc)]
 ·unfold pyHi; rw [if_neg (by rw [h]; exact hc)]
theorem pySn_true (ps : List Pr) (use : List Int) (l : List An) {k : Nat} (h1 : (anAt l k).ls = false) (h2 : anSnE (anAt l k) (pu ps use k) ≠ 0) {n : Nat} (hn : k < n) : pySn ps use l n = true := (pySn_iff ps use l n).2 ⟨k, hn, h1, h2⟩
theorem fit_sn {s : Si} {x : Sc} (h : fitB s x = true) {k : Nat} (hk : k < x.an.length) (hl : (anAt x.an k).ls = false) (he : anSnE (anAt x.an k) (pu s.ps x.use k) ≠ 0) : anSnE (anAt x.an k) (pu s.ps x.use k) = 22 := by
 obtain ⟨hr, ht, hc, hlen, hf⟩ := (fitB_iff s x).1 h
 have h1 := (anFit_no hl).1 (hf k hk)
 have h2 := (prB_iff _ _ _).1 (rg_pr hr (show k < x.use.length by omega))
 unfold anSnE snEr at *
 have hok : snOk (pu s.ps x.use k).ol (pu s.ps x.use k).oh (pu s.ps x.use k).bl (pu s.ps x.use k).bh (anAt x.an k).lo (anAt x.an k).hi = true := by
  simp only [snOk, Bool.and_eq_true, lkB_iff, validB_iff]
  exact ⟨h2.1, h1.2.2.2⟩
 rw [if_pos hok] at he ⊢
 by_cases hh : (anAt x.an k).hi < (pu s.ps x.use k).ol
 ·rw [if_pos hh]
 ·rw [if_neg hh] at he; exact absurd rfl he
set_option maxRecDepth 100000 in
set_option maxHeartbeats 1500000 in
theorem scPlay_any (r f lo tm : Int) (pv : Value) (ps : List Pr) (uv : Value) (use : List Int) (ev at_ : Int) (av : Value) (an : List An) (ct : Int) (w : World) (hp : PrRow w pv ps) (hu : IsRow w uv use) (ha : AnRow w av an) :
  Calls Tryz.prog 19 #[.agg #[.int .i64 r, .int .i64 f, .int .i64 lo, .int .i64 tm, pv], .agg #[uv, .int .i64 ev, .int .i64 at_, av, .int .i64 ct]] w (PlayPost w ⟨r, f, lo, tm, ps⟩ ⟨use, ev, at_, an, ct⟩) := by
 have hR : ∀ W : World, Below w.heap.size w W → PrRow W pv ps ∧ IsRow W uv use ∧ AnRow W av an := fun W hW => ⟨hp.below (Nat.le_refl _) hW, hu.below (Nat.le_refl _) hW, ha.below (Nat.le_refl _) hW⟩
 have HR := hide hR
 obtain ⟨W0, hW0⟩ : ∃ W : World, W = ((w.alloc (.cells #[.int .i64 r, .int .i64 f, .int .i64 lo, .int .i64 tm, pv] 24)).alloc (.cells #[uv, .int .i64 ev, .int .i64 at_, av, .int .i64 ct] 30)).alloc (.cells #[.int .i64 0, .int .i64 0] 41) := ⟨_, rfl⟩
 have hS : ∀ V : World, Below (w.heap.size + 3) W0 V → ScBox V w.heap.size r f lo tm pv uv ev at_ av ct ∧ (V.cell? ⟨w.heap.size + 2, 0, none⟩ = some (.int .i64 0) ∧ V.cell? ⟨w.heap.size + 2, 1, none⟩ = some (.int .i64 0) ∧ V.frozen? ⟨w.heap.size + 2, 0, none⟩ = false ∧ V.frozen? ⟨w.heap.size + 2, 1, none⟩ = false) ∧ w.heap.size + 3 ≤ V.heap.size ∧ Below w.heap.size w V := by
  intro V hV
  have bW : Below w.heap.size w W0 := by rw [hW0]; ((with_reducible repeat' first | exact .refl _ _ | refine .alloc ?_ ?_ _ | refine .setCell ?_ ?_ _ | refine .drew ?_ | refine below_drewN ?_ _) <;> first | omega | simp <;> omega)
  have zW : W0.heap.size = w.heap.size + 3 := by rw [hW0]; simp
  have hz := hV.size
  have h2 := bk hV (w.heap.size + 2) (by omega)
  refine ⟨ScBox.of (V := W0) ?_ (hV.mono (by omega)), ⟨(h2.1 _).trans ?_, (h2.1 _).trans ?_, (h2.2 _).trans ?_, (h2.2 _).trans ?_⟩, by omega, bW.trans (hV.mono (by omega))⟩
  ·rw [hW0]
   refine ⟨⟨?_, ?_, ?_, ?_, ?_⟩, ?_, ?_, ?_, ?_, ?_⟩ <;> simp [go_sem]
  all_goals rw [hW0]; simp [go_sem]
 have HS := hide hS
 clear hR hS hp hu ha
 unfold PlayPost
 cases hfit : fitB ⟨r, f, lo, tm, ps⟩ ⟨use, ev, at_, an, ct⟩ with
 | false =>
  have he : pyEr ⟨r, f, lo, tm, ps⟩ ⟨use, ev, at_, an, ct⟩ = 1 := by unfold pyEr; rw [if_neg (by rw [hfit]; simp)]
  obtain ⟨h1, h2⟩ := py_no he (by omega)
  rw [he, h1, h2]
  clear he h1 h2
  go_enter Tryz.func19, Tryz.ntmps19
  go_upto_region 1 with fail
  rw [← hW0]
  clear hW0
  have B0 : Below (w.heap.size + 3) W0 W0 := Below.refl _ _
  obtain ⟨⟨⟨y0, y1, y2, y3, y4⟩, x0, x1, x2, x3, x4⟩, ⟨v0, v1, f0, f1⟩, z0, b0⟩ := HS.out W0 B0
  go_wp2_with (go_at_call 47; (with_reducible refine (scAll_any r f lo tm _ ps _ use ev at_ _ an ct _ (HR.out _ b0).1 (HR.out _ b0).2.1 (HR.out _ b0).2.2).mono ?_); rintro e w1 ⟨lv, rfl, hl, k1⟩; rw [hfit]; have B1 : Below (w.heap.size + 3) W0 w1 := B0.trans (k1.mono z0); clear y0 y1 y2 y3 y4 x0 x1 x2 x3 x4 v0 v1 f0 f1 z0 b0; obtain ⟨-, ⟨v0, v1, f0, f1⟩, z0, b0⟩ := HS.out w1 B1)
  have d := stores_at (w.heap.size + 2) [.int .i64 0, .int .i64 0] 0 (w1) (ex2 v0 v1); have d0 : ((w1.setCell ⟨w.heap.size + 2, 0, none⟩ (.int .i64 0)).setCell ⟨w.heap.size + 2, 1, none⟩ (.int .i64 0)).cell? ⟨w.heap.size + 2, 0, none⟩ = some (.int .i64 0) := d 0 _ rfl; have d1 : ((w1.setCell ⟨w.heap.size + 2, 0, none⟩ (.int .i64 0)).setCell ⟨w.heap.size + 2, 1, none⟩ (.int .i64 0)).cell? ⟨w.heap.size + 2, 1, none⟩ = some (.int .i64 0) := d 1 _ rfl
  exact bodyPost_ret (v := .tuple #[.agg #[.int .i64 0, .int .i64 0], .int .i64 1]) (by simp [results, Tryz.results19, go_sem, d0, d1]) rfl ⟨rfl, (by ((with_reducible repeat' first | exact .refl _ _ | exact b0 | refine .alloc ?_ ?_ _ | refine .setCell ?_ ?_ _ | refine .drew ?_ | refine below_drewN ?_ _ | refine Below.trans ?_ (b0.mono ?_)) <;> first | omega | simp <;> omega))⟩
 | true =>
  have hn := fit_n hfit
  have hle := fit_len hfit
  simp only at hle
  have hlk := sdT_length ps use an at_ an.length
  have hLat := fun i hi => sdT_at ps use an at_ an.length i hi
  obtain ⟨L, hL⟩ : ∃ L, L = sdT ps use an at_ an.length := ⟨_, rfl⟩
  rw [← hL] at hlk hLat
  obtain ⟨i0, hi0, hz0, hz1, hz2⟩ := info_parts infoIv
  have Hn := hide hn
  have HL := hide (And.intro hL (And.intro hlk hLat))
  obtain ⟨E, hE⟩ : ∃ E, E = pyEr ⟨r, f, lo, tm, ps⟩ ⟨use, ev, at_, an, ct⟩ := ⟨_, rfl⟩
  obtain ⟨A, hA⟩ : ∃ A, A = pyLo ⟨r, f, lo, tm, ps⟩ ⟨use, ev, at_, an, ct⟩ := ⟨_, rfl⟩
  obtain ⟨B, hB⟩ : ∃ B, B = pyHi ⟨r, f, lo, tm, ps⟩ ⟨use, ev, at_, an, ct⟩ := ⟨_, rfl⟩
  rw [← hE, ← hA, ← hB]
  have HE := hide (And.intro hE (And.intro hA hB))
  have hno : ∀ c : Int, pyEr ⟨r, f, lo, tm, ps⟩ ⟨use, ev, at_, an, ct⟩ = c → c ≠ 0 → E = c ∧ A = 0 ∧ B = 0 := fun c h hc => by
   obtain ⟨p1, p2⟩ := py_no h hc
   exact ⟨hE.trans h, hA.trans p1, hB.trans p2⟩
  have Hno := hide hno
  have hwr := (siN_iff _).1 ((siB_iff _).1 ((rgB_iff _ _ _).1 ((fitB_iff _ _).1 hfit).1).1).1
  simp only at hwr
  have Hwr := hide hwr
  clear hn hL hlk hLat hE hA hB hno hwr
  go_enter Tryz.func19, Tryz.ntmps19
  go_upto_region 1 with fail
  rw [← hW0]
  clear hW0
  have B0 : Below (w.heap.size + 3) W0 W0 := Below.refl _ _
  obtain ⟨⟨⟨y0, y1, y2, y3, y4⟩, x0, x1, x2, x3, x4⟩, ⟨v0, v1, f0, f1⟩, z0, b0⟩ := HS.out W0 B0
  go_upto_region 5 with (go_at_call 47; (with_reducible refine (scAll_any r f lo tm _ ps _ use ev at_ _ an ct _ (HR.out _ b0).1 (HR.out _ b0).2.1 (HR.out _ b0).2.2).mono ?_); rintro e w1 ⟨lv, rfl, hl, k1⟩; rw [hfit])
  have hown := hl Hn.out
  rw [← HL.out.1] at hown
  obtain ⟨la, lc, hle2, -, -⟩ := hown.val
  rw [HL.out.2.1] at hle2
  subst hle2
  have hSd : ∀ V : World, Below w1.heap.size w1 V → SdRow V (.slice la an.length lc) L := fun V hV => (show SdRow w1 (.slice la an.length lc) L from hown.row).below (Nat.le_refl _) hV
  have HSd := hide hSd
  have B1 : Below (w.heap.size + 3) W0 w1 := B0.trans (k1.mono z0)
  have z1 : w.heap.size + 3 ≤ w1.heap.size := (HS.out w1 B1).2.2.1
  clear hl hown Hn hSd y0 y1 y2 y3 y4 x0 x1 x2 x3 x4 v0 v1 f0 f1 z0 b0 k1 B0
  go_wp2_with fail
  go_loopw [8, 26] (fun s8 s26 wx => ∃ k : Nat, k ≤ an.length ∧ s26 = .int .i64 k ∧ Hid (pySn ps use an k = false) ∧ OwnIv wx w1.heap.size s8 (pyL ps use an k) ∧ Below w1.heap.size w1 wx) (fun _ s26 _ => an.length - (intOf s26).toNat)
  case atStart => exact ⟨0, Nat.zero_le _, rfl, hide rfl, OwnP.nil _ _, Below.refl _ _⟩
  case round =>
   obtain ⟨k, hk, rfl, Hsn, hown, hB⟩ := hrel
   have hBW : Below (w.heap.size + 3) W0 wr := B1.trans (hB.mono z1)
   by_cases hlt : k < an.length
   ·have hat := HL.out.2.2 k hlt
    obtain ⟨b, off, cap', e, -, -, h4, h5⟩ := (HSd.out w1 (Below.refl _ _)).at0 (by rw [HL.out.2.1]; omega)
    rw [HL.out.2.1] at e
    cases e
    have hsd := (h5 k (by rw [HL.out.2.1]; exact hlt)).of (bk hB b h4).1
    rw [hat] at hsd
    have hnx : pyL ps use an (k + 1) = if (anAt an k).ls = true then pyL ps use an k else pyL ps use an k ++ [(snLo (pu ps use k).ol (pu ps use k).oh (pu ps use k).bl (pu ps use k).bh (anAt an k).lo (anAt an k).hi, snHi (pu ps use k).ol (pu ps use k).oh (pu ps use k).bl (pu ps use k).bh (anAt an k).lo (anAt an k).hi)] := rfl
    have hns : pySn ps use an (k + 1) = (pySn ps use an k || (!(anAt an k).ls && !decide (anSnE (anAt an k) (pu ps use k) = 0))) := rfl
    have htr : (anAt an k).ls = false → anSnE (anAt an k) (pu ps use k) ≠ 0 → anSnE (anAt an k) (pu ps use k) = 22 ∧ pySn ps use an an.length = true := fun h1 h2 => ⟨fit_sn hfit hlt h1 h2, pySn_true ps use an h1 h2 hlt⟩
    have hlp : (pyL ps use an k).length ≤ k := by have := pyL_length ps use an k; omega
    have I1 : (0 : Int) ≤ (k : Int) := by omega
    have I2 : (k : Int) < (an.length : Int) := by omega
    generalize anAt an k = a at *
    generalize pu ps use k = p at *
    obtain ⟨⟨a0, a1, a2, a3, a4, a5⟩, ⟨p0, p1, p2, p3, p4, p5, p6, p7⟩, c0⟩ := hsd
    have hU := fun W => scSent_any ⟨a, p, at_⟩ W
    unfold valS at hU
    simp only at hU a0 a1 a2 a3 a4 a5 p0 p1 p2 p3 p4 p5 p6 p7 c0
    have HU := hide hU
    have hz := hB.size
    have h4r : b < wr.heap.size := by omega
    cases hls : a.ls with
    | true =>
     rw [hls] at a1 hns
     rw [if_pos hls] at hnx
     have Hnx := hide hnx
     have Hns := hide hns
     have Hown := hide hown
     clear hU hnx hns htr hown h5 hat
     go_wp2_with fail
     go_roundw
     case rel => exact ⟨k + 1, by omega, by go_num, hide (by rw [Hns.out, Hsn.out]; rfl), by rw [Hnx.out]; exact Hown.out.below (Nat.le_refl _) (by ((with_reducible repeat' first | exact .refl _ _ | refine .alloc ?_ ?_ _ | refine .setCell ?_ ?_ _ | refine .drew ?_ | refine below_drewN ?_ _) <;> first | omega | simp <;> omega)), (by ((with_reducible repeat' first | exact .refl _ _ | exact hB | refine .alloc ?_ ?_ _ | refine .setCell ?_ ?_ _ | refine .drew ?_ | refine below_drewN ?_ _ | refine Below.trans ?_ (hB.mono ?_)) <;> first | omega | simp <;> omega))⟩
     case measure => simp [intOf]; omega
    | false =>
     rw [hls] at a1 hns HU
     rw [if_neg (by rw [hls]; simp)] at hnx
     have htr2 := htr hls
     clear hU htr
     generalize snLo p.ol p.oh p.bl p.bh a.lo a.hi = X at *
     generalize snHi p.ol p.oh p.bl p.bh a.lo a.hi = Y at *
     by_cases hE0 : anSnE a p = 0
     ·rw [hE0] at hns HU
      have Hnx := hide hnx
      have Hns := hide hns
      obtain ⟨oa, oc, hoe, -, -⟩ := Owns9 hown
      subst hoe
      have hlow := World.ownsRow.lt hown
      have Hown := hide hown
      clear hnx hns htr2 hown h5 hat hE0
      go_wp2_with (first | (go_at_call 56; (with_reducible refine (HU.out _).mono ?_); rintro e w2 ⟨rfl, k2⟩; have kk : Below wr.heap.size wr w2 := (by ((with_reducible repeat' first | exact .refl _ _ | exact k2 | refine .alloc ?_ ?_ _ | refine .setCell ?_ ?_ _ | refine .drew ?_ | refine below_drewN ?_ _ | refine Below.trans ?_ (k2.mono ?_)) <;> first | omega | simp <;> omega)); have hzz := kk.size; have Hown2 := hide (ownsRow_below Hown.out kk); have KK := hide kk; clear kk k2) | (at_builtin; refine wpList_append_own _ rfl _ _ 74 rfl w1.heap.size 41 i0 (.agg #[.int .i64 0, .int .i64 0]) 2 16 Tryz.underlying74 hi0 hz0 hz1 hz2 rfl (by decide) _ (pyL ps use an k).length (encL (pyL ps use an k)) rfl (World.ownsRow.alloc (World.ownsRow.alloc Hown2.out _) _) ⟨w2.heap.size + 1, 0, none⟩ 1 1 [.int .i64 X, .int .i64 Y] rfl rfl (cells_new2 w2 _ [.int .i64 X, .int .i64 Y] _) (by simp [Value.oneCell']) (by unfold maxLen; omega) (by omega) (by simp; omega) ?_; intro v3 w3 hown3 hg3 _))
      have hB3 : Below w1.heap.size w1 w3 := Below.grown (by ((with_reducible repeat' first | exact .refl _ _ | exact KK.out | exact hB | refine .alloc ?_ ?_ _ | refine .setCell ?_ ?_ _ | refine .drew ?_ | refine below_drewN ?_ _ | refine Below.trans ?_ (KK.out.mono ?_) | refine Below.trans ?_ (hB.mono ?_)) <;> first | omega | simp <;> omega)) hg3 (by simp; omega) (fun r h => (hlow r h).1)
      have H3 := hide (And.intro hown3 hB3)
      clear hown3 hg3 hB3
      go_roundw
      case rel => exact ⟨k + 1, by omega, by go_num, hide (by rw [Hns.out, Hsn.out]; rfl), by rw [Hnx.out]; exact OwnP.app H3.out.1, H3.out.2⟩
      case measure => simp [intOf]; omega
     ·obtain ⟨q1, q2⟩ := htr2 hE0
      rw [q1] at HU
      have he : pyEr ⟨r, f, lo, tm, ps⟩ ⟨use, ev, at_, an, ct⟩ = 22 := by unfold pyEr; rw [if_pos hfit]; simp only; rw [if_pos q2]
      have HQ := hide (Hno.out 22 he (by omega))
      clear hnx hns htr2 h5 hat hE0 q1 q2 he
      go_wp2_with (go_at_call 56; (with_reducible refine (HU.out _).mono ?_); rintro e w2 ⟨rfl, k2⟩; have kk : Below wr.heap.size wr w2 := (by ((with_reducible repeat' first | exact .refl _ _ | exact k2 | refine .alloc ?_ ?_ _ | refine .setCell ?_ ?_ _ | refine .drew ?_ | refine below_drewN ?_ _ | refine Below.trans ?_ (k2.mono ?_)) <;> first | omega | simp <;> omega)); have BW2 : Below (w.heap.size + 3) W0 w2 := hBW.trans (kk.mono (by omega)); obtain ⟨-, ⟨v0, v1, f0, f1⟩, z2, b2⟩ := HS.out w2 BW2; have zq : w.heap.size + 2 < w2.heap.size := (by omega); clear kk k2)
      have d := stores_at (w.heap.size + 2) [.int .i64 0, .int .i64 0] 0 (w2) (ex2 v0 v1); have d0 : ((w2.setCell ⟨w.heap.size + 2, 0, none⟩ (.int .i64 0)).setCell ⟨w.heap.size + 2, 1, none⟩ (.int .i64 0)).cell? ⟨w.heap.size + 2, 0, none⟩ = some (.int .i64 0) := d 0 _ rfl; have d1 : ((w2.setCell ⟨w.heap.size + 2, 0, none⟩ (.int .i64 0)).setCell ⟨w.heap.size + 2, 1, none⟩ (.int .i64 0)).cell? ⟨w.heap.size + 2, 1, none⟩ = some (.int .i64 0) := d 1 _ rfl
      exact bodyPost_ret (v := .tuple #[.agg #[.int .i64 0, .int .i64 0], .int .i64 22]) (by simp [results, Tryz.results19, go_sem, d0, d1, zq]) rfl ⟨by rw [HQ.out.1, HQ.out.2.1, HQ.out.2.2], (by ((with_reducible repeat' first | exact .refl _ _ | exact b2 | refine .alloc ?_ ?_ _ | refine .setCell ?_ ?_ _ | refine .drew ?_ | refine below_drewN ?_ _ | refine Below.trans ?_ (b2.mono ?_)) <;> first | omega | simp <;> omega))⟩
   ·obtain rfl : k = an.length := by omega
    have hsn := Hsn.out
    have hSc : scL ⟨r, f, lo, tm, ps⟩ ⟨use, ev, at_, an, ct⟩ = pyL ps use an an.length := rfl
    have hlp : (pyL ps use an an.length).length ≤ an.length := by have := pyL_length ps use an an.length; omega
    have hpe : pyEr ⟨r, f, lo, tm, ps⟩ ⟨use, ev, at_, an, ct⟩ = if ((pyL ps use an an.length).length : Int) < an.length - lo then 20 else if cbEr (pyL ps use an an.length) f = 0 then atEr 0 (cbLo (pyL ps use an an.length) f) (cbHi (pyL ps use an an.length) f) r ct else cbEr (pyL ps use an an.length) f := by
     unfold pyEr
     rw [if_pos hfit]
     simp only
     rw [hsn, if_neg (by simp), hSc]
    have hpl : pyEr ⟨r, f, lo, tm, ps⟩ ⟨use, ev, at_, an, ct⟩ = atEr 0 (cbLo (pyL ps use an an.length) f) (cbHi (pyL ps use an an.length) f) r ct → A = atLo 0 (cbLo (pyL ps use an an.length) f) (cbHi (pyL ps use an an.length) f) r ct ∧ B = atHi 0 (cbLo (pyL ps use an an.length) f) (cbHi (pyL ps use an an.length) f) r ct ∧ E = atEr 0 (cbLo (pyL ps use an an.length) f) (cbHi (pyL ps use an an.length) f) r ct := fun h => by
     refine ⟨HE.out.2.1.trans ?_, HE.out.2.2.trans ?_, HE.out.1.trans h⟩
     ·unfold pyLo; rw [hSc]; simp only; rw [h]; unfold atLo; split <;> rfl
     ·unfold pyHi; rw [hSc]; simp only; rw [h]; unfold atHi; split <;> rfl
    have hrow := hown.row
    obtain ⟨oa, oc, hoe, -, -⟩ := Owns9 hown
    subst hoe
    generalize pyL ps use an an.length = H at *
    have HC := hide (fun W h => Combine_any (.slice oa H.length oc) H f W h)
    have Hrow := hide hrow
    have hwr := Hwr.out
    have ws : IntKind.i64.wrap ((an.length : Int) - (H.length : Int)) = (an.length : Int) - (H.length : Int) := IntWalk.i64_in _ (by omega)
    have HBW := hide hBW
    have zw := (HS.out wr hBW).2.2.1
    obtain ⟨⟨⟨y0, y1, y2, y3, y4⟩, x0, x1, x2, x3, x4⟩, ⟨v0, v1, f0, f1⟩, z0, b0⟩ := HS.out wr hBW
    have zq : w.heap.size + 2 < wr.heap.size := by omega
    clear hown hrow hSc Hsn hsn hB hwr
    by_cases h1 : (H.length : Int) < an.length - lo
    ·have hd : decide (lo < (an.length : Int) - (H.length : Int)) = true := decide_eq_true (by omega)
     rw [if_pos h1] at hpe
     have HQ := hide (Hno.out 20 hpe (by omega))
     clear h1 hpe hpl
     go_wp2_with fail
     have d := stores_at (w.heap.size + 2) [.int .i64 0, .int .i64 0] 0 (wr) (ex2 v0 v1); have d0 : ((wr.setCell ⟨w.heap.size + 2, 0, none⟩ (.int .i64 0)).setCell ⟨w.heap.size + 2, 1, none⟩ (.int .i64 0)).cell? ⟨w.heap.size + 2, 0, none⟩ = some (.int .i64 0) := d 0 _ rfl; have d1 : ((wr.setCell ⟨w.heap.size + 2, 0, none⟩ (.int .i64 0)).setCell ⟨w.heap.size + 2, 1, none⟩ (.int .i64 0)).cell? ⟨w.heap.size + 2, 1, none⟩ = some (.int .i64 0) := d 1 _ rfl
     exact bodyPost_ret (v := .tuple #[.agg #[.int .i64 0, .int .i64 0], .int .i64 20]) (by simp [results, Tryz.results19, go_sem, d0, d1]) rfl ⟨by rw [HQ.out.1, HQ.out.2.1, HQ.out.2.2], (by ((with_reducible repeat' first | exact .refl _ _ | exact b0 | refine .alloc ?_ ?_ _ | refine .setCell ?_ ?_ _ | refine .drew ?_ | refine below_drewN ?_ _ | refine Below.trans ?_ (b0.mono ?_)) <;> first | omega | simp <;> omega))⟩
    ·have hd : decide (lo < (an.length : Int) - (H.length : Int)) = false := decide_eq_false (by omega)
     rw [if_neg h1] at hpe
     clear h1
     have KC : ∀ V : World, Below wr.heap.size wr V → Below (w.heap.size + 3) W0 V := fun V hV => HBW.out.trans (hV.mono zw)
     have HKC := hide KC
     generalize cbLo H f = cl at *
     generalize cbHi H f = ch at *
     by_cases h2 : cbEr H f = 0
     ·rw [if_pos h2] at hpe
      rw [h2] at HC
      have HP := hide (hpl hpe)
      have HA := hide (fun W => beAt_any 0 cl ch r ct W)
      generalize atLo 0 cl ch r ct = al at *
      generalize atHi 0 cl ch r ct = ah at *
      generalize atEr 0 cl ch r ct = ae at *
      clear h2 hpe hpl KC
      go_wp2_with (first | (go_at_call 57; (with_reducible refine (HC.out _ Hrow.out).mono ?_); rintro e w2 ⟨rfl, k2⟩; have zwr := k2.size; have k2h := hide k2; clear y0 y1 y2 y3 y4 x0 x1 x2 x3 x4 v0 v1 f0 f1 z0 b0 zq; obtain ⟨⟨⟨y0, y1, y2, y3, y4⟩, x0, x1, x2, x3, x4⟩, ⟨v0, v1, f0, f1⟩, z0, b0⟩ := HS.out w2 (HKC.out _ k2); clear k2; have zq : w.heap.size + 2 < w2.heap.size := (by omega); have zq1 : w.heap.size + 1 < w2.heap.size := (by omega); have zq0 : w.heap.size < w2.heap.size := (by omega)) | (go_at_call 58; (with_reducible refine (HA.out _).mono ?_); rintro e w3 ⟨rfl, k3⟩; have k3h : Hid (Below wr.heap.size wr w3) := hide (by ((with_reducible repeat' first | exact .refl _ _ | exact k3 | exact k2h.out | refine .alloc ?_ ?_ _ | refine .setCell ?_ ?_ _ | refine .drew ?_ | refine below_drewN ?_ _ | refine Below.trans ?_ (k3.mono ?_) | refine Below.trans ?_ (k2h.out.mono ?_)) <;> first | omega | simp <;> omega)); clear k3 y0 y1 y2 y3 y4 x0 x1 x2 x3 x4 v0 v1 f0 f1 z0 b0; obtain ⟨-, ⟨v0, v1, f0, f1⟩, z0, b0⟩ := HS.out w3 (HKC.out _ k3h.out)))
      have d := stores_at (w.heap.size + 2) [.int .i64 al, .int .i64 ah] 0 (w3) (ex2 v0 v1); have d0 : ((w3.setCell ⟨w.heap.size + 2, 0, none⟩ (.int .i64 al)).setCell ⟨w.heap.size + 2, 1, none⟩ (.int .i64 ah)).cell? ⟨w.heap.size + 2, 0, none⟩ = some (.int .i64 al) := d 0 _ rfl; have d1 : ((w3.setCell ⟨w.heap.size + 2, 0, none⟩ (.int .i64 al)).setCell ⟨w.heap.size + 2, 1, none⟩ (.int .i64 ah)).cell? ⟨w.heap.size + 2, 1, none⟩ = some (.int .i64 ah) := d 1 _ rfl
      exact bodyPost_ret (v := .tuple #[.agg #[.int .i64 al, .int .i64 ah], .int .i64 ae]) (by simp [results, Tryz.results19, go_sem, d0, d1]) rfl ⟨by rw [HP.out.1, HP.out.2.1, HP.out.2.2], (by ((with_reducible repeat' first | exact .refl _ _ | exact b0 | refine .alloc ?_ ?_ _ | refine .setCell ?_ ?_ _ | refine .drew ?_ | refine below_drewN ?_ _ | refine Below.trans ?_ (b0.mono ?_)) <;> first | omega | simp <;> omega))⟩
     ·rw [if_neg h2] at hpe
      have hdn : (cbEr H f != 0) = true := by rw [bne_iff_ne]; exact h2
      have HQ := hide (Hno.out _ hpe h2)
      generalize cbEr H f = ce at *
      clear h2 hpe hpl KC
      go_wp2_with (go_at_call 57; (with_reducible refine (HC.out _ Hrow.out).mono ?_); rintro e w2 ⟨rfl, k2⟩; have k2h := hide k2; clear y0 y1 y2 y3 y4 x0 x1 x2 x3 x4 v0 v1 f0 f1 z0 b0 zq; obtain ⟨⟨⟨y0, y1, y2, y3, y4⟩, x0, x1, x2, x3, x4⟩, ⟨v0, v1, f0, f1⟩, z0, b0⟩ := HS.out w2 (HKC.out _ k2); have zq : w.heap.size + 2 < w2.heap.size := (by omega); clear k2)
      have d := stores_at (w.heap.size + 2) [.int .i64 0, .int .i64 0] 0 (w2) (ex2 v0 v1); have d0 : ((w2.setCell ⟨w.heap.size + 2, 0, none⟩ (.int .i64 0)).setCell ⟨w.heap.size + 2, 1, none⟩ (.int .i64 0)).cell? ⟨w.heap.size + 2, 0, none⟩ = some (.int .i64 0) := d 0 _ rfl; have d1 : ((w2.setCell ⟨w.heap.size + 2, 0, none⟩ (.int .i64 0)).setCell ⟨w.heap.size + 2, 1, none⟩ (.int .i64 0)).cell? ⟨w.heap.size + 2, 1, none⟩ = some (.int .i64 0) := d 1 _ rfl
      exact bodyPost_ret (v := .tuple #[.agg #[.int .i64 0, .int .i64 0], .int .i64 ce]) (by simp [results, Tryz.results19, go_sem, d0, d1, zq]) rfl ⟨by rw [HQ.out.1, HQ.out.2.1, HQ.out.2.2], (by ((with_reducible repeat' first | exact .refl _ _ | exact b0 | refine .alloc ?_ ?_ _ | refine .setCell ?_ ?_ _ | refine .drew ?_ | refine below_drewN ?_ _ | refine Below.trans ?_ (b0.mono ?_)) <;> first | omega | simp <;> omega))⟩
end Go.Proofs.YtigjljmhpkeahaaGreat
