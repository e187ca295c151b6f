
/- Package scene: all, the said answers of a scene. -/
import Derived.Test.YtigjljmhpkeahaaGreatScC
namespace Go.Proofs.YtigjljmhpkeahaaGreat
open Go.RowKit

def sdT (ps : List Pr) (use : List Int) (an : List An) (t : Int) : Nat → List Sd
 | 0 => []
 | k + 1 => sdT ps use an t k ++ [⟨anAt an k, pu ps use k, t⟩]
theorem sdT_length (ps : List Pr) (use : List Int) (an : List An) (t : Int) : ∀ k, (sdT ps use an t k).length = k
 | 0 => rfl
 | k + 1 => by rw [sdT, List.length_append, sdT_length ps use an t k]; rfl
theorem sdT_at (ps : List Pr) (use : List Int) (an : List An) (t : Int) : ∀ k i, i < k → sdAt (sdT ps use an t k) i = ⟨anAt an i, pu ps use i, t⟩
 | k + 1, i, h => by
  have hl := sdT_length ps use an t k
  rw [sdT]
  unfold sdAt
  rcases Nat.lt_or_ge i k with h1 | h1
  ·have := sdT_at ps use an t k i h1
   unfold sdAt at this
   rw [List.getD_eq_getElem?_getD, List.getElem?_append_left (by omega), ← List.getD_eq_getElem?_getD]
   exact this
  ·obtain rfl : i = k := by omega
   rw [List.getD_eq_getElem?_getD, List.getElem?_append_right (by omega), hl, Nat.sub_self]
   rfl
theorem sdFit_eq (ps : List Pr) (use : List Int) (an : List An) (t : Int) (n : Nat) : ∀ k, k ≤ n → sdFit (sdT ps use an t n) k = fitTo ps use an k
 | 0, _ => rfl
 | k + 1, h => by rw [sdFit, fitTo, sdFit_eq ps use an t n k (by omega), sdT_at ps use an t n k (by omega)]
def ScBox (V : World) (n : Nat) (r f lo tm : Int) (pv uv : Value) (ev at_ : Int) (av : Value) (ct : Int) : Prop :=
 (V.cell? ⟨n, 0, none⟩ = some (.int .i64 r) ∧ V.cell? ⟨n, 1, none⟩ = some (.int .i64 f) ∧ V.cell? ⟨n, 2, none⟩ = some (.int .i64 lo) ∧ V.cell? ⟨n, 3, none⟩ = some (.int .i64 tm) ∧ V.cell? ⟨n, 4, none⟩ = some pv) ∧
 (V.cell? ⟨n + 1, 0, none⟩ = some uv ∧ V.cell? ⟨n + 1, 1, none⟩ = some (.int .i64 ev) ∧ V.cell? ⟨n + 1, 2, none⟩ = some (.int .i64 at_) ∧ V.cell? ⟨n + 1, 3, none⟩ = some av ∧ V.cell? ⟨n + 1, 4, none⟩ = some (.int .i64 ct))
theorem ScBox.of {V W : World} {n : Nat} {r f lo tm : Int} {pv uv : Value} {ev at_ : Int} {av : Value} {ct : Int} (h : ScBox V n r f lo tm pv uv ev at_ av ct) (hB : Below (n + 2) V W) : ScBox W n r f lo tm pv uv ev at_ av ct := by
 obtain ⟨⟨y0, y1, y2, y3, y4⟩, x0, x1, x2, x3, x4⟩ := h
 have h0 := (bk hB n (by omega)).1
 have h1 := (bk hB (n + 1) (by omega)).1
 exact ⟨⟨(h0 _).trans y0, (h0 _).trans y1, (h0 _).trans y2, (h0 _).trans y3, (h0 _).trans y4⟩, (h1 _).trans x0, (h1 _).trans x1, (h1 _).trans x2, (h1 _).trans x3, (h1 _).trans x4⟩
theorem ScBox.made (w : World) (r f lo tm : Int) (pv uv : Value) (ev at_ : Int) (av : Value) (ct : Int) (t t' : TypeId) :
  ScBox ((w.alloc (.cells #[.int .i64 r, .int .i64 f, .int .i64 lo, .int .i64 tm, pv] t)).alloc (.cells #[uv, .int .i64 ev, .int .i64 at_, av, .int .i64 ct] t')) w.heap.size r f lo tm pv uv ev at_ av ct := by
 refine ⟨⟨?_, ?_, ?_, ?_, ?_⟩, ?_, ?_, ?_, ?_, ?_⟩ <;> simp [go_sem]
set_option maxRecDepth 100000 in
set_option maxHeartbeats 1500000 in
theorem scAll_any (r f lo tm : Int) (pv : Value) (ps : List Pr) (uv : Value) (use : List Int) (ev at_ : Int) (av : Value) (an : List An) (ct : Int) (w : World) (hp : PrRow w pv ps) (hu : IsRow w uv use) (ha : AnRow w av an) :
  Calls Tryz.prog 47 #[.agg #[.int .i64 r, .int .i64 f, .int .i64 lo, .int .i64 tm, pv], .agg #[uv, .int .i64 ev, .int .i64 at_, av, .int .i64 ct]] w fun e w' => ∃ v, e = .returned (.tuple #[v, .bool (fitB ⟨r, f, lo, tm, ps⟩ ⟨use, ev, at_, an, ct⟩)]) ∧
   (fitN ⟨r, f, lo, tm, ps⟩ ⟨use, ev, at_, an, ct⟩ = true → OwnSd w' (w.heap.size + 2) v (sdT ps use an at_ an.length)) ∧ Below w.heap.size w w' := by
 have hR : ∀ W : World, Below w.heap.size w W → PrRow W pv ps ∧ IsRow W uv use ∧ AnRow W av an := fun W hW => ⟨hp.below (Nat.le_refl _) hW, hu.below (Nat.le_refl _) hW, ha.below (Nat.le_refl _) hW⟩
 have HR := hide hR
 obtain ⟨pa, pc, rfl, pq1, pq2⟩ := hp.len
 obtain ⟨ua, uc, rfl, vq1, vq2, -⟩ := id hu
 obtain ⟨aa, ac, rfl, aq1, aq2⟩ := ha.len
 obtain ⟨W0, hW0⟩ : ∃ W : World, W = (w.alloc (.cells #[.int .i64 r, .int .i64 f, .int .i64 lo, .int .i64 tm, .slice pa ps.length pc] 24)).alloc (.cells #[.slice ua use.length uc, .int .i64 ev, .int .i64 at_, .slice aa an.length ac, .int .i64 ct] 30) := ⟨_, rfl⟩
 have hS : ∀ V : World, Below (w.heap.size + 2) W0 V → ScBox V w.heap.size r f lo tm (.slice pa ps.length pc) (.slice ua use.length uc) ev at_ (.slice aa an.length ac) ct ∧ w.heap.size < V.heap.size ∧ w.heap.size + 1 < V.heap.size ∧ w.heap.size + 2 ≤ V.heap.size ∧ Below w.heap.size w V := by
  intro V hV
  have bW : Below w.heap.size w W0 := by rw [hW0]; ((with_reducible repeat' first | exact .refl _ _ | refine .alloc ?_ ?_ _ | refine .setCell ?_ ?_ _ | refine .drew ?_ | refine below_drewN ?_ _) <;> first | omega | simp <;> omega)
  have zW : W0.heap.size = w.heap.size + 2 := by rw [hW0]; simp
  have hz := hV.size
  refine ⟨ScBox.of (V := W0) ?_ hV, by omega, by omega, by omega, bW.trans (hV.mono (by omega))⟩
  rw [hW0]
  exact ScBox.made _ _ _ _ _ _ _ _ _ _ _ _ _
 have HS := hide hS
 have hN : fitN ⟨r, f, lo, tm, ps⟩ ⟨use, ev, at_, an, ct⟩ = (rgB ⟨r, f, lo, tm, ps⟩ use ev && (inB at_ 0 3000000000000000 && (inB ct 0 (ev + tm) && decide (an.length = use.length)))) := rfl
 have hFB : fitB ⟨r, f, lo, tm, ps⟩ ⟨use, ev, at_, an, ct⟩ = (fitN ⟨r, f, lo, tm, ps⟩ ⟨use, ev, at_, an, ct⟩ && fitTo ps use an an.length) := rfl
 clear hR hS hp hu ha
 cases h1 : rgB ⟨r, f, lo, tm, ps⟩ use ev with
 | false =>
  rw [h1, Bool.false_and] at hN
  rw [hN, Bool.false_and] at hFB
  rw [hFB, hN]
  clear hN hFB
  go_enter Tryz.func47, Tryz.ntmps47
  go_upto_region 1 with fail
  rw [← hW0]
  clear hW0
  have B0 : Below (w.heap.size + 2) W0 W0 := Below.refl _ _
  obtain ⟨⟨⟨y0, y1, y2, y3, y4⟩, x0, x1, x2, x3, x4⟩, z0, z1, z2, b0⟩ := HS.out W0 B0
  go_wp2_with (first | (go_at_call 29; (with_reducible refine (wdRight_any r f lo tm _ ps _ use ev _ (HR.out _ b0).1 (HR.out _ b0).2.1).mono ?_); rintro e w1 ⟨rfl, k1⟩; rw [h1]; have B1 : Below (w.heap.size + 2) W0 w1 := B0.trans (k1.mono z2); clear y0 y1 y2 y3 y4 x0 x1 x2 x3 x4 z0 z1 z2 b0 k1 B0; obtain ⟨⟨⟨y0, y1, y2, y3, y4⟩, x0, x1, x2, x3, x4⟩, z0, z1, z2, b0⟩ := HS.out w1 B1) | (go_at_call 31; refine (scWithin_any _ _ _ _).mono ?_; rintro e w' ⟨rfl, rfl⟩))
  go_ret2
  exact ⟨_, rfl, fun h => by simp at h, b0⟩
 | true =>
  have hrg := (rgB_iff _ _ _).1 h1
  have hsi := (siN_iff _).1 ((siB_iff _).1 hrg.1).1
  simp only at hrg hsi
  have we : IntKind.i64.wrap (ev + tm) = ev + tm := IntWalk.i64_in _ (by omega)
  cases h2 : inB at_ 0 3000000000000000 with
  | false =>
   rw [h1, h2, Bool.false_and, Bool.and_false] at hN
   rw [hN, Bool.false_and] at hFB
   rw [hFB, hN]
   clear hN hFB hrg hsi
   go_enter Tryz.func47, Tryz.ntmps47
   go_upto_region 1 with fail
   rw [← hW0]
   clear hW0
   have B0 : Below (w.heap.size + 2) W0 W0 := Below.refl _ _
   obtain ⟨⟨⟨y0, y1, y2, y3, y4⟩, x0, x1, x2, x3, x4⟩, z0, z1, z2, b0⟩ := HS.out W0 B0
   go_wp2_with (first | (go_at_call 29; (with_reducible refine (wdRight_any r f lo tm _ ps _ use ev _ (HR.out _ b0).1 (HR.out _ b0).2.1).mono ?_); rintro e w1 ⟨rfl, k1⟩; rw [h1]; have B1 : Below (w.heap.size + 2) W0 w1 := B0.trans (k1.mono z2); clear y0 y1 y2 y3 y4 x0 x1 x2 x3 x4 z0 z1 z2 b0 k1 B0; obtain ⟨⟨⟨y0, y1, y2, y3, y4⟩, x0, x1, x2, x3, x4⟩, z0, z1, z2, b0⟩ := HS.out w1 B1) | (go_at_call 31; refine (scWithin_any _ _ _ _).mono ?_; rintro e w' ⟨rfl, rfl⟩))
   go_ret2
   exact ⟨_, rfl, fun h => by simp at h, b0⟩
  | true =>
   cases h3 : inB ct 0 (ev + tm) with
   | false =>
    rw [h1, h2, h3, Bool.false_and, Bool.and_false, Bool.and_false] at hN
    rw [hN, Bool.false_and] at hFB
    rw [hFB, hN]
    clear hN hFB hrg hsi
    go_enter Tryz.func47, Tryz.ntmps47
    go_upto_region 1 with fail
    rw [← hW0]
    clear hW0
    have B0 : Below (w.heap.size + 2) W0 W0 := Below.refl _ _
    obtain ⟨⟨⟨y0, y1, y2, y3, y4⟩, x0, x1, x2, x3, x4⟩, z0, z1, z2, b0⟩ := HS.out W0 B0
    go_wp2_with (first | (go_at_call 29; (with_reducible refine (wdRight_any r f lo tm _ ps _ use ev _ (HR.out _ b0).1 (HR.out _ b0).2.1).mono ?_); rintro e w1 ⟨rfl, k1⟩; rw [h1]; have B1 : Below (w.heap.size + 2) W0 w1 := B0.trans (k1.mono z2); clear y0 y1 y2 y3 y4 x0 x1 x2 x3 x4 z0 z1 z2 b0 k1 B0; obtain ⟨⟨⟨y0, y1, y2, y3, y4⟩, x0, x1, x2, x3, x4⟩, z0, z1, z2, b0⟩ := HS.out w1 B1) | (go_at_call 31; refine (scWithin_any _ _ _ _).mono ?_; rintro e w' ⟨rfl, rfl⟩))
    go_ret2
    exact ⟨_, rfl, fun h => by simp at h, b0⟩
   | true =>
    by_cases h4 : an.length = use.length
    ·have dl : ((an.length : Int) != (use.length : Int)) = false := by rw [bne_eq_false_iff_eq]; omega
     rw [h1, h2, h3, decide_eq_true h4] at hN
     simp only [Bool.and_self] at hN
     rw [hN, Bool.true_and] at hFB
     rw [hFB, hN]
     have hin := hrg.2.2.1
     have hul : use.length ≤ 16 := (by have := rg_spOk h1; have := (spOk_iff _ _ _).1 this; rw [wdL_length] at this; omega)
     obtain ⟨i0, hi0, hz0, hz1, hz2⟩ := info_parts infoSd
     have Hin := hide hin
     have H4 := hide h4
     have hal : an.length ≤ 16 := by omega
     clear hN hFB hrg hsi hin h4
     go_enter Tryz.func47, Tryz.ntmps47
     go_upto_region 1 with fail
     rw [← hW0]
     clear hW0
     have B0 : Below (w.heap.size + 2) W0 W0 := Below.refl _ _
     obtain ⟨⟨⟨y0, y1, y2, y3, y4⟩, x0, x1, x2, x3, x4⟩, z0, z1, z2, b0⟩ := HS.out W0 B0
     go_wp2_with (first | (go_at_call 29; (with_reducible refine (wdRight_any r f lo tm _ ps _ use ev _ (HR.out _ b0).1 (HR.out _ b0).2.1).mono ?_); rintro e w1 ⟨rfl, k1⟩; rw [h1]; have B1 : Below (w.heap.size + 2) W0 w1 := B0.trans (k1.mono z2); clear y0 y1 y2 y3 y4 x0 x1 x2 x3 x4 z0 z1 z2 b0 k1 B0; obtain ⟨⟨⟨y0, y1, y2, y3, y4⟩, x0, x1, x2, x3, x4⟩, z0, z1, z2, b0⟩ := HS.out w1 B1) | (go_at_call 31; refine (scWithin_any _ _ _ _).mono ?_; rintro e w' ⟨rfl, rfl⟩))
     clear y0 y1 y2 y3 y4 x0 x1 x2 x3 x4 z0 z1 z2 b0
     go_loopw [6, 45] (fun s6 s45 wx => ∃ k : Nat, k ≤ an.length ∧ s45 = .int .i64 k ∧ OwnSd wx (w.heap.size + 2) s6 (sdT ps use an at_ k) ∧ Below (w.heap.size + 2) W0 wx) (fun _ s45 _ => an.length - (intOf s45).toNat)
     case atStart => exact ⟨0, Nat.zero_le _, rfl, OwnSd.nil _ _, B1⟩
     case round =>
      obtain ⟨k, hk, rfl, hown, hB⟩ := hrel
      have hlk := sdT_length ps use an at_ k
      by_cases hlt : k < an.length
      ·obtain ⟨⟨⟨y0, y1, y2, y3, y4⟩, x0, x1, x2, x3, x4⟩, z0, z1, z2, b0⟩ := HS.out wr hB
       obtain ⟨ab, ao, ac', hae, -, -, hab, hac⟩ := (HR.out _ b0).2.2.at0 (by omega)
       cases hae
       obtain ⟨a0, a1, a2, a3, a4, a5⟩ := hac k hlt
       obtain ⟨ub, uo, uc', hue, -, -, hub, -, huc⟩ := (HR.out w (Below.refl _ _)).2.1.at0 (by have := H4.out; omega)
       cases hue
       have hu0 := huc k (by have := H4.out; omega)
       have hki := Hin.out k (by have := H4.out; omega)
       obtain ⟨q, hq⟩ : ∃ q : Nat, iAt use k = q := ⟨(iAt use k).toNat, by omega⟩
       rw [hq] at hu0 hki
       have hql : q < ps.length := by omega
       obtain ⟨pb, po, pc', hpe, -, -, hpb, hpc⟩ := (HR.out w (Below.refl _ _)).1.at0 (by omega)
       cases hpe
       obtain ⟨p0, p1, p2, p3, p4, p5, p6, p7⟩ := hpc q hql
       have hsn : sdT ps use an at_ (k + 1) = sdT ps use an at_ k ++ [⟨anAt an k, pAt ps q, at_⟩] := by rw [sdT]; unfold pu; rw [hq, Int.toNat_natCast]
       have I1 : (0 : Int) ≤ (q : Int) := by omega
       have I2 : (q : Int) < (ps.length : Int) := by omega
       have I3 : (0 : Int) ≤ (k : Int) := by omega
       have I4 : (k : Int) < (an.length : Int) := by omega
       have I5 : (k : Int) < (use.length : Int) := by have := H4.out; omega
       obtain ⟨oa, ocap, hov, ho1, ho2⟩ := hown.val
       have hlow := World.ownsRow.lt hown
       have hown' := hown
       unfold OwnSd Owns at hown'
       rw [hlk] at hown' hov
       subst hov
       generalize anAt an k = a at *
       generalize pAt ps q = p at *
       have Hlk := hide hlk
       have Hsn := hide hsn
       have Hq := hide hq
       have Hlow := hide hlow
       have Hown := hide hown'
       have HB := hide hB
       have zd : wr.drew.heap.size = wr.heap.size := rfl
       have hpb2 : pb < w.heap.size := hpb
       have hub2 : ub < w.heap.size := hub
       have HBo := HB.out
       clear hlk hsn hq hown hac huc hpc hki hlow hown' hB b0
       go_wp2_with fail
       have hT : ∀ W : World, Below (w.heap.size + 2) W0 W → (∀ o, W.cell? ⟨wr.heap.size, o, none⟩ = (wr.alloc (.cells #[.int .i64 a.au, .bool a.ls, .int .i64 a.ou, .int .i64 a.bk, .int .i64 a.lo, .int .i64 a.hi] 59)).cell? ⟨wr.heap.size, o, none⟩) → W.cell? ⟨w.heap.size, 4, none⟩ = some (.slice (some ⟨pb, po, none⟩) ps.length pc) ∧ W.cell? ⟨w.heap.size + 1, 0, none⟩ = some (.slice (some ⟨ub, uo, none⟩) use.length uc) ∧ W.cell? ⟨w.heap.size + 1, 2, none⟩ = some (.int .i64 at_) ∧ W.cell? ⟨ub, uo + k, none⟩ = some (.int .i64 (q : Int)) ∧ W.cell? ⟨pb, po + q * 8, none⟩ = some (.int .i64 p.au) ∧ W.cell? ⟨pb, po + q * 8 + 1, none⟩ = some (.int .i64 p.er) ∧ W.cell? ⟨pb, po + q * 8 + 2, none⟩ = some (.int .i64 p.co) ∧ W.cell? ⟨pb, po + q * 8 + 3, none⟩ = some (.int .i64 p.at_) ∧ W.cell? ⟨pb, po + q * 8 + 4, none⟩ = some (.int .i64 p.ol) ∧ W.cell? ⟨pb, po + q * 8 + 5, none⟩ = some (.int .i64 p.oh) ∧ W.cell? ⟨pb, po + q * 8 + 6, none⟩ = some (.int .i64 p.bl) ∧ W.cell? ⟨pb, po + q * 8 + 7, none⟩ = some (.int .i64 p.bh) ∧ W.cell? ⟨wr.heap.size, 0, none⟩ = some (.int .i64 a.au) ∧ W.cell? ⟨wr.heap.size, 1, none⟩ = some (.bool a.ls) ∧ W.cell? ⟨wr.heap.size, 2, none⟩ = some (.int .i64 a.ou) ∧ W.cell? ⟨wr.heap.size, 3, none⟩ = some (.int .i64 a.bk) ∧ W.cell? ⟨wr.heap.size, 4, none⟩ = some (.int .i64 a.lo) ∧ W.cell? ⟨wr.heap.size, 5, none⟩ = some (.int .i64 a.hi) := by
        intro W hW hW3
        obtain ⟨⟨⟨y0, y1, y2, y3, y4⟩, x0, x1, x2, x3, x4⟩, z0, z1, z2, b0⟩ := HS.out W hW
        have gp := (bk b0 pb hpb2).1
        exact ⟨y4, x0, x2, ((bk b0 ub hub2).1 _).trans hu0, (gp _).trans p0, (gp _).trans p1, (gp _).trans p2, (gp _).trans p3, (gp _).trans p4, (gp _).trans p5, (gp _).trans p6, (gp _).trans p7, (hW3 _).trans (by simp), (hW3 _).trans (by simp), (hW3 _).trans (by simp), (hW3 _).trans (by simp), (hW3 _).trans (by simp), (hW3 _).trans (by simp)⟩
       have HT := hide hT
       clear hT
       have hcell : ∀ j u, (encS ⟨a, p, at_⟩)[j]? = some u → ((wr.alloc (.cells #[.int .i64 a.au, .bool a.ls, .int .i64 a.ou, .int .i64 a.bk, .int .i64 a.lo, .int .i64 a.hi] 59)).alloc (.cells #[.int .i64 a.au, .bool a.ls, .int .i64 a.ou, .int .i64 a.bk, .int .i64 a.lo, .int .i64 a.hi, .int .i64 p.au, .int .i64 p.er, .int .i64 p.co, .int .i64 p.at_, .int .i64 p.ol, .int .i64 p.oh, .int .i64 p.bl, .int .i64 p.bh, .int .i64 at_] 88)).cell? ((⟨wr.heap.size + 1, 0, none⟩ : Addr).add j) = some u := fun j u hj => by
        have := cells_new (wr.alloc (.cells #[.int .i64 a.au, .bool a.ls, .int .i64 a.ou, .int .i64 a.bk, .int .i64 a.lo, .int .i64 a.hi] 59)) (encS ⟨a, p, at_⟩) 88 j u hj
        rw [World.size_alloc] at this
        exact this
       have Hcell := hide hcell
       clear hcell
       go_region_held3 (fun W => W.cell? ⟨w.heap.size, 4, none⟩ = some (.slice (some ⟨pb, po, none⟩) ps.length pc) ∧ W.cell? ⟨w.heap.size + 1, 0, none⟩ = some (.slice (some ⟨ub, uo, none⟩) use.length uc) ∧ W.cell? ⟨w.heap.size + 1, 2, none⟩ = some (.int .i64 at_) ∧ W.cell? ⟨ub, uo + k, none⟩ = some (.int .i64 (q : Int)) ∧ W.cell? ⟨pb, po + q * 8, none⟩ = some (.int .i64 p.au) ∧ W.cell? ⟨pb, po + q * 8 + 1, none⟩ = some (.int .i64 p.er) ∧ W.cell? ⟨pb, po + q * 8 + 2, none⟩ = some (.int .i64 p.co) ∧ W.cell? ⟨pb, po + q * 8 + 3, none⟩ = some (.int .i64 p.at_) ∧ W.cell? ⟨pb, po + q * 8 + 4, none⟩ = some (.int .i64 p.ol) ∧ W.cell? ⟨pb, po + q * 8 + 5, none⟩ = some (.int .i64 p.oh) ∧ W.cell? ⟨pb, po + q * 8 + 6, none⟩ = some (.int .i64 p.bl) ∧ W.cell? ⟨pb, po + q * 8 + 7, none⟩ = some (.int .i64 p.bh) ∧ W.cell? ⟨wr.heap.size, 0, none⟩ = some (.int .i64 a.au) ∧ W.cell? ⟨wr.heap.size, 1, none⟩ = some (.bool a.ls) ∧ W.cell? ⟨wr.heap.size, 2, none⟩ = some (.int .i64 a.ou) ∧ W.cell? ⟨wr.heap.size, 3, none⟩ = some (.int .i64 a.bk) ∧ W.cell? ⟨wr.heap.size, 4, none⟩ = some (.int .i64 a.lo) ∧ W.cell? ⟨wr.heap.size, 5, none⟩ = some (.int .i64 a.hi)) ((first | exact HT.out _ hB3 hk3 | exact HT.out _ (by ((with_reducible repeat' first | exact .refl _ _ | exact HBo | refine .alloc ?_ ?_ _ | refine .setCell ?_ ?_ _ | refine .drew ?_ | refine below_drewN ?_ _ | refine Below.trans ?_ (HBo.mono ?_)) <;> first | omega | simp <;> omega)) (fun o => by first | rfl | (simp [go_sem]; done))))
        ((refine step_append_own rfl (.tmp 50) (.tmp 65) 84 rfl (w.heap.size + 2) 88 i0 (.agg #[.int .i64 0, .bool false, .int .i64 0, .int .i64 0, .int .i64 0, .int .i64 0, .int .i64 0, .int .i64 0, .int .i64 0, .int .i64 0, .int .i64 0, .int .i64 0, .int .i64 0, .int .i64 0, .int .i64 0]) 15 120 Tryz.underlying84 hi0 hz0 hz1 hz2 rfl (by decide) (.slice oa k ocap) k _ (by kernel_rfl) (World.ownsRow.alloc (World.ownsRow.alloc Hown.out _) _) ⟨wr.heap.size + 1, 0, none⟩ 1 1 (encS ⟨a, p, at_⟩) (by kernel_rfl) rfl Hcell.out (encS_one _) (by unfold maxLen; omega) (by omega) (by simp; omega) ?_; intro v3 w3 hown3 hg3; have hB3 : Below (w.heap.size + 2) W0 w3 := Below.grown (by ((with_reducible repeat' first | exact .refl _ _ | exact HB.out | refine .alloc ?_ ?_ _ | refine .setCell ?_ ?_ _ | refine .drew ?_ | refine below_drewN ?_ _ | refine Below.trans ?_ (HB.out.mono ?_)) <;> first | omega | simp <;> omega)) hg3 (by simp; omega) (fun r h => (Hlow.out r h).1); have hk3 : ∀ o, w3.cell? ⟨wr.heap.size, o, none⟩ = (wr.alloc (.cells #[.int .i64 a.au, .bool a.ls, .int .i64 a.ou, .int .i64 a.bk, .int .i64 a.lo, .int .i64 a.hi] 59)).cell? ⟨wr.heap.size, o, none⟩ := fun o => (World.cell?_of_block (a := ⟨wr.heap.size, o, none⟩) (hg3.block wr.heap.size (by simp; omega) (fun e => by have := (Hlow.out _ e.symm).2; omega))).trans (by simp [go_sem]); clear hg3; have H3 := hide hown3; clear hown3))
       have hB4 := hide hB3
       clear hB3 hk3
       go_wp2
       go_roundw
       case rel => exact ⟨k + 1, by omega, by go_num, by rw [Hsn.out]; exact OwnSd.app (by rw [Hlk.out]; exact H3.out), hB4.out⟩
       case measure => simp [intOf]; omega
      ·obtain rfl : k = an.length := by omega
       obtain ⟨⟨⟨y0, y1, y2, y3, y4⟩, x0, x1, x2, x3, x4⟩, z0, z1, z2, b0⟩ := HS.out wr hB
       obtain ⟨oa, ocap, hov, ho1, ho2⟩ := hown.val
       subst hov
       have hC := fun W h => ContainsFuncSd_any (.slice oa (sdT ps use an at_ an.length).length ocap) (sdT ps use an at_ an.length) W h
       rw [hlk, sdFit_eq ps use an at_ an.length an.length (Nat.le_refl _)] at hC
       rw [hlk] at hown ⊢
       have HC := hide hC
       have Hown := hide hown
       clear hC hown hlk
       go_wp2_with fail
       refine (HC.out _ (OwnSd.row (base := w.heap.size + 2) ?_)).mono ?_
       ·exact Hown.out
       rintro e w2 ⟨rfl, k2⟩
       have hown2 := ownsRow_below Hown.out k2
       go_wp2_with fail
       go_ret2
       exact ⟨_, by simp, fun _ => hown2, (by ((with_reducible repeat' first | exact .refl _ _ | exact k2 | exact b0 | refine .alloc ?_ ?_ _ | refine .setCell ?_ ?_ _ | refine .drew ?_ | refine below_drewN ?_ _ | refine Below.trans ?_ (k2.mono ?_) | refine Below.trans ?_ (b0.mono ?_)) <;> first | omega | simp <;> omega))⟩
    ·have dl : ((an.length : Int) != (use.length : Int)) = true := by rw [bne_iff_ne]; omega
     rw [h1, h2, h3, decide_eq_false h4, Bool.and_false, Bool.and_false, Bool.and_false] at hN
     rw [hN, Bool.false_and] at hFB
     rw [hFB, hN]
     clear hN hFB hrg hsi h4
     go_enter Tryz.func47, Tryz.ntmps47
     go_upto_region 1 with fail
     rw [← hW0]
     clear hW0
     have B0 : Below (w.heap.size + 2) W0 W0 := Below.refl _ _
     obtain ⟨⟨⟨y0, y1, y2, y3, y4⟩, x0, x1, x2, x3, x4⟩, z0, z1, z2, b0⟩ := HS.out W0 B0
     go_wp2_with (first | (go_at_call 29; (with_reducible refine (wdRight_any r f lo tm _ ps _ use ev _ (HR.out _ b0).1 (HR.out _ b0).2.1).mono ?_); rintro e w1 ⟨rfl, k1⟩; rw [h1]; have B1 : Below (w.heap.size + 2) W0 w1 := B0.trans (k1.mono z2); clear y0 y1 y2 y3 y4 x0 x1 x2 x3 x4 z0 z1 z2 b0 k1 B0; obtain ⟨⟨⟨y0, y1, y2, y3, y4⟩, x0, x1, x2, x3, x4⟩, z0, z1, z2, b0⟩ := HS.out w1 B1) | (go_at_call 31; refine (scWithin_any _ _ _ _).mono ?_; rintro e w' ⟨rfl, rfl⟩))
     go_ret2
     exact ⟨_, rfl, fun h => by simp at h, b0⟩
end Go.Proofs.YtigjljmhpkeahaaGreat
