
/- Package scene, the reference: Play. -/
import Derived.Test.YtigjljmhpkeahaaGreatScN
import Derived.Test.YtigjljmhpkeahaaGreatScJ
import Derived.Test.YtigjljmhpkeahaaGreatGq
namespace Go.Proofs.YtigjljmhpkeahaaGreat
open Go.RowKit

set_option maxRecDepth 100000 in
set_option maxHeartbeats 1500000 in
theorem R32Play_any (r f lo tm : Int) (pv : Value) (ps : List Pr) (uv : Value) (use : List Int) (ev at_ : Int) (av : Value) (an : List An) (ct : Int) (w : World) (hp : PrRow w pv ps) (hu : IsRow w uv use) (ha : AnRow w av an) (hun : use.length ≤ 1000000) :
  Calls Tryz.prog 20 #[.agg #[.int .i64 r, .int .i64 f, .int .i64 lo, .int .i64 tm, pv], .agg #[uv, .int .i64 ev, .int .i64 at_, av, .int .i64 ct]] w (PlayPost w ⟨r, f, lo, tm, ps⟩ ⟨use, ev, at_, an, ct⟩) := by
 have hR : ∀ W : World, Below w.heap.size w W → PrRow W pv ps ∧ IsRow W uv use ∧ AnRow W av an := fun W hW => ⟨hp.below (Nat.le_refl _) hW, hu.below (Nat.le_refl _) hW, ha.below (Nat.le_refl _) hW⟩
 have HR := hide hR
 obtain ⟨pa, pc, rfl, pq1, pq2⟩ := hp.len
 obtain ⟨ua, uc, rfl, vq1, vq2, -⟩ := id hu
 obtain ⟨aa, ac, rfl, aq1, aq2⟩ := ha.len
 obtain ⟨W0, hW0⟩ : ∃ W : World, W = ((w.alloc (.cells #[.int .i64 r, .int .i64 f, .int .i64 lo, .int .i64 tm, .slice pa ps.length pc] 24)).alloc (.cells #[.slice ua use.length uc, .int .i64 ev, .int .i64 at_, .slice aa an.length ac, .int .i64 ct] 30)).alloc (.cells #[.int .i64 0, .int .i64 0] 41) := ⟨_, rfl⟩
 have hS : ∀ V : World, Below (w.heap.size + 3) W0 V → ScBox V w.heap.size r f lo tm (.slice pa ps.length pc) (.slice ua use.length uc) ev at_ (.slice aa an.length ac) ct ∧ (V.cell? ⟨w.heap.size + 2, 0, none⟩ = some (.int .i64 0) ∧ V.cell? ⟨w.heap.size + 2, 1, none⟩ = some (.int .i64 0) ∧ V.frozen? ⟨w.heap.size + 2, 0, none⟩ = false ∧ V.frozen? ⟨w.heap.size + 2, 1, none⟩ = false) ∧ w.heap.size + 3 ≤ V.heap.size ∧ Below w.heap.size w V := by
  intro V hV
  have bW : Below w.heap.size w W0 := by rw [hW0]; ((with_reducible repeat' first | exact .refl _ _ | refine .alloc ?_ ?_ _ | refine .setCell ?_ ?_ _ | refine .drew ?_ | refine below_drewN ?_ _) <;> first | omega | simp <;> omega)
  have zW : W0.heap.size = w.heap.size + 3 := by rw [hW0]; simp
  have hz := hV.size
  have h2 := bk hV (w.heap.size + 2) (by omega)
  refine ⟨ScBox.of (V := W0) ?_ (hV.mono (by omega)), ⟨(h2.1 _).trans ?_, (h2.1 _).trans ?_, (h2.2 _).trans ?_, (h2.2 _).trans ?_⟩, by omega, bW.trans (hV.mono (by omega))⟩
  ·rw [hW0]
   refine ⟨⟨?_, ?_, ?_, ?_, ?_⟩, ?_, ?_, ?_, ?_, ?_⟩ <;> simp [go_sem]
  all_goals rw [hW0]; simp [go_sem]
 have HS := hide hS
 clear hR hS hp hu ha
 unfold PlayPost
 cases hfit : fitB ⟨r, f, lo, tm, ps⟩ ⟨use, ev, at_, an, ct⟩ with
 | false =>
  have he : pyEr ⟨r, f, lo, tm, ps⟩ ⟨use, ev, at_, an, ct⟩ = 1 := by unfold pyEr; rw [if_neg (by rw [hfit]; simp)]
  obtain ⟨h1, h2⟩ := py_no he (by omega)
  rw [he, h1, h2]
  clear he h1 h2
  go_enter Tryz.func20, Tryz.ntmps20
  go_upto_region 1 with fail
  rw [← hW0]
  clear hW0
  have B0 : Below (w.heap.size + 3) W0 W0 := Below.refl _ _
  obtain ⟨⟨⟨y0, y1, y2, y3, y4⟩, x0, x1, x2, x3, x4⟩, ⟨v0, v1, f0, f1⟩, z0, b0⟩ := HS.out W0 B0
  go_wp2_with (go_at_call 27; (with_reducible refine (R32Fits_any r f lo tm _ ps _ use ev at_ _ an ct _ (HR.out _ b0).1 (HR.out _ b0).2.1 (HR.out _ b0).2.2 hun).mono ?_); rintro e w1 ⟨rfl, k1⟩; rw [hfit]; have B1 : Below (w.heap.size + 3) W0 w1 := B0.trans (k1.mono z0); clear y0 y1 y2 y3 y4 x0 x1 x2 x3 x4 v0 v1 f0 f1 z0 b0; obtain ⟨-, ⟨v0, v1, f0, f1⟩, z0, b0⟩ := HS.out w1 B1)
  have d := stores_at (w.heap.size + 2) [.int .i64 0, .int .i64 0] 0 (w1) (ex2 v0 v1); have d0 : ((w1.setCell ⟨w.heap.size + 2, 0, none⟩ (.int .i64 0)).setCell ⟨w.heap.size + 2, 1, none⟩ (.int .i64 0)).cell? ⟨w.heap.size + 2, 0, none⟩ = some (.int .i64 0) := d 0 _ rfl; have d1 : ((w1.setCell ⟨w.heap.size + 2, 0, none⟩ (.int .i64 0)).setCell ⟨w.heap.size + 2, 1, none⟩ (.int .i64 0)).cell? ⟨w.heap.size + 2, 1, none⟩ = some (.int .i64 0) := d 1 _ rfl
  exact bodyPost_ret (v := .tuple #[.agg #[.int .i64 0, .int .i64 0], .int .i64 1]) (by simp [results, Tryz.results20, go_sem, d0, d1]) rfl ⟨rfl, (by ((with_reducible repeat' first | exact .refl _ _ | exact b0 | refine .alloc ?_ ?_ _ | refine .setCell ?_ ?_ _ | refine .drew ?_ | refine below_drewN ?_ _ | refine Below.trans ?_ (b0.mono ?_)) <;> first | omega | simp <;> omega))⟩
 | true =>
  have hle := fit_len hfit
  have hlen := ((fitB_iff _ _).1 hfit).2.2.2.1
  have hin := ((rgB_iff _ _ _).1 ((fitB_iff _ _).1 hfit).1).2.2.1
  simp only at hle hlen hin
  have Hin := hide (And.intro hlen hin)
  obtain ⟨i0, hi0, hz0, hz1, hz2⟩ := info_parts infoIv
  obtain ⟨E, hE⟩ : ∃ E, E = pyEr ⟨r, f, lo, tm, ps⟩ ⟨use, ev, at_, an, ct⟩ := ⟨_, rfl⟩
  obtain ⟨A, hA⟩ : ∃ A, A = pyLo ⟨r, f, lo, tm, ps⟩ ⟨use, ev, at_, an, ct⟩ := ⟨_, rfl⟩
  obtain ⟨B, hB⟩ : ∃ B, B = pyHi ⟨r, f, lo, tm, ps⟩ ⟨use, ev, at_, an, ct⟩ := ⟨_, rfl⟩
  rw [← hE, ← hA, ← hB]
  have HE := hide (And.intro hE (And.intro hA hB))
  have hno : ∀ c : Int, pyEr ⟨r, f, lo, tm, ps⟩ ⟨use, ev, at_, an, ct⟩ = c → c ≠ 0 → E = c ∧ A = 0 ∧ B = 0 := fun c h hc => by
   obtain ⟨p1, p2⟩ := py_no h hc
   exact ⟨hE.trans h, hA.trans p1, hB.trans p2⟩
  have Hno := hide hno
  have hwr := (siN_iff _).1 ((siB_iff _).1 ((rgB_iff _ _ _).1 ((fitB_iff _ _).1 hfit).1).1).1
  simp only at hwr
  have Hwr := hide hwr
  clear hE hA hB hno hwr hlen hin
  go_enter Tryz.func20, Tryz.ntmps20
  go_upto_region 1 with fail
  rw [← hW0]
  clear hW0
  have B0 : Below (w.heap.size + 3) W0 W0 := Below.refl _ _
  obtain ⟨⟨⟨y0, y1, y2, y3, y4⟩, x0, x1, x2, x3, x4⟩, ⟨v0, v1, f0, f1⟩, z0, b0⟩ := HS.out W0 B0
  go_upto_region 4 with (go_at_call 27; (with_reducible refine (R32Fits_any r f lo tm _ ps _ use ev at_ _ an ct _ (HR.out _ b0).1 (HR.out _ b0).2.1 (HR.out _ b0).2.2 hun).mono ?_); rintro e w1 ⟨rfl, k1⟩; rw [hfit])
  have B1 : Below (w.heap.size + 3) W0 w1 := B0.trans (k1.mono z0)
  have z1 : w.heap.size + 3 ≤ w1.heap.size := (HS.out w1 B1).2.2.1
  clear y0 y1 y2 y3 y4 x0 x1 x2 x3 x4 v0 v1 f0 f1 z0 b0 k1 B0
  go_wp2_with fail
  go_loopw [7, 8] (fun s8 s26 wx => ∃ k : Nat, k ≤ an.length ∧ s26 = .int .i64 k ∧ Hid (pySn ps use an k = false) ∧ OwnIv wx w1.heap.size s8 (pyL ps use an k) ∧ Below w1.heap.size w1 wx) (fun _ s26 _ => an.length - (intOf s26).toNat)
  case atStart => exact ⟨0, Nat.zero_le _, rfl, hide rfl, OwnP.nil _ _, Below.refl _ _⟩
  case round =>
   obtain ⟨k, hk, rfl, Hsn, hown, hB⟩ := hrel
   have hBW : Below (w.heap.size + 3) W0 wr := B1.trans (hB.mono z1)
   by_cases hlt : k < an.length
   ·have hku : k < use.length := by have := Hin.out.1; omega
    have hin := Hin.out.2 k hku
    obtain ⟨⟨⟨y0, y1, y2, y3, y4⟩, x0, x1, x2, x3, x4⟩, -, z0, b0⟩ := HS.out wr hBW
    obtain ⟨ub, uo, uc', hue, -, -, hub, -, huc⟩ := (HR.out _ b0).2.1.at0 (by omega)
    cases hue
    obtain ⟨pb, po, pc', hpe, -, -, hpb, hpc⟩ := (HR.out _ b0).1.at0 (by omega)
    cases hpe
    obtain ⟨ab, ao, ac', hae, -, -, hab, hac⟩ := (HR.out _ b0).2.2.at0 (by omega)
    cases hae
    have hu0 := huc k hku
    obtain ⟨q, hq⟩ : ∃ q : Nat, iAt use k = q := ⟨(iAt use k).toNat, by omega⟩
    have hP : pu ps use k = pAt ps q := by unfold pu; rw [hq]; rfl
    rw [hq] at hu0 hin
    have hql : q < ps.length := by omega
    obtain ⟨p0, p1, p2, p3, p4, p5, p6, p7⟩ := hpc q hql
    obtain ⟨a0, a1, a2, a3, a4, a5⟩ := hac k hlt
    have I3 : (0 : Int) ≤ (q : Int) := by omega
    have I4 : (q : Int) < (ps.length : Int) := by omega
    have I5 : (k : Int) < (use.length : Int) := by omega
    have sz1 : w.heap.size < wr.heap.size := by omega
    have sz2 : w.heap.size + 1 < wr.heap.size := by omega
    have hnx : pyL ps use an (k + 1) = if (anAt an k).ls = true then pyL ps use an k else pyL ps use an k ++ [(snLo (pu ps use k).ol (pu ps use k).oh (pu ps use k).bl (pu ps use k).bh (anAt an k).lo (anAt an k).hi, snHi (pu ps use k).ol (pu ps use k).oh (pu ps use k).bl (pu ps use k).bh (anAt an k).lo (anAt an k).hi)] := rfl
    have hns : pySn ps use an (k + 1) = (pySn ps use an k || (!(anAt an k).ls && !decide (anSnE (anAt an k) (pu ps use k) = 0))) := rfl
    have htr : (anAt an k).ls = false → anSnE (anAt an k) (pu ps use k) ≠ 0 → anSnE (anAt an k) (pu ps use k) = 22 ∧ pySn ps use an an.length = true := fun h1 h2 => ⟨fit_sn hfit hlt h1 h2, pySn_true ps use an h1 h2 hlt⟩
    have hlp : (pyL ps use an k).length ≤ k := by have := pyL_length ps use an k; omega
    have I1 : (0 : Int) ≤ (k : Int) := by omega
    have I2 : (k : Int) < (an.length : Int) := by omega
    rw [hP] at hnx hns htr
    generalize anAt an k = a at *
    generalize pAt ps q = p at *
    have hU := fun W => R10Sent_any p.at_ p.ol p.oh p.bl p.bh a.lo a.hi W
    have heE : snEr p.ol p.oh p.bl p.bh a.lo a.hi = anSnE a p := rfl
    rw [heE] at hU
    have HU := hide hU
    have hz := hB.size
    have Hb0 := hide b0
    clear hq hP hin huc hpc hac heE b0 z0 y0 y1 y2 y3 x1 x2 x4 p0 p1 p2 a0 a2 a3
    cases hls : a.ls with
    | true =>
     rw [hls] at a1 hns
     rw [if_pos hls] at hnx
     have Hnx := hide hnx
     have Hns := hide hns
     have Hown := hide hown
     clear hU hnx hns htr hown
     go_wp2_with fail
     go_roundw
     case rel => exact ⟨k + 1, by omega, by go_num, hide (by rw [Hns.out, Hsn.out]; rfl), by rw [Hnx.out]; exact Hown.out.below (Nat.le_refl _) (by ((with_reducible repeat' first | exact .refl _ _ | refine .alloc ?_ ?_ _ | refine .setCell ?_ ?_ _ | refine .drew ?_ | refine below_drewN ?_ _) <;> first | omega | simp <;> omega)), (by ((with_reducible repeat' first | exact .refl _ _ | exact hB | refine .alloc ?_ ?_ _ | refine .setCell ?_ ?_ _ | refine .drew ?_ | refine below_drewN ?_ _ | refine Below.trans ?_ (hB.mono ?_)) <;> first | omega | simp <;> omega))⟩
     case measure => simp [intOf]; omega
    | false =>
     rw [hls] at a1 hns
     rw [if_neg (by rw [hls]; simp)] at hnx
     have htr2 := htr hls
     clear hU htr
     generalize snLo p.ol p.oh p.bl p.bh a.lo a.hi = X at *
     generalize snHi p.ol p.oh p.bl p.bh a.lo a.hi = Y at *
     generalize hEE : anSnE a p = E at *
     go_upto_region 9 with fail
     go_cut [9, 10] (fun s9 s10 wx => ∃ g : Nat, s9 = .pointer (some ⟨g, 0, none⟩) ∧ s10 = .int .i64 E ∧ wr.heap.size ≤ g ∧ g < wx.heap.size ∧ wx.cell? ⟨g, 0, none⟩ = some (.int .i64 X) ∧ wx.cell? ⟨g, 1, none⟩ = some (.int .i64 Y) ∧ Below wr.heap.size wr wx)
     case first =>
      have hA : ∀ W : World, Below wr.heap.size wr W → W.cell? ⟨w.heap.size, 4, none⟩ = some (.slice (some ⟨pb, po, none⟩) ps.length pc) ∧ W.cell? ⟨w.heap.size + 1, 0, none⟩ = some (.slice (some ⟨ub, uo, none⟩) use.length uc) ∧ W.cell? ⟨w.heap.size + 1, 3, none⟩ = some (.slice (some ⟨ab, ao, none⟩) an.length ac) ∧ W.cell? ⟨ub, uo + k, none⟩ = some (.int .i64 (q : Int)) ∧ W.cell? ⟨pb, po + q * 8 + 3, none⟩ = some (.int .i64 p.at_) ∧ W.cell? ⟨pb, po + q * 8 + 4, none⟩ = some (.int .i64 p.ol) ∧ W.cell? ⟨pb, po + q * 8 + 5, none⟩ = some (.int .i64 p.oh) ∧ W.cell? ⟨pb, po + q * 8 + 6, none⟩ = some (.int .i64 p.bl) ∧ W.cell? ⟨pb, po + q * 8 + 7, none⟩ = some (.int .i64 p.bh) ∧ W.cell? ⟨ab, ao + k * 6 + 4, none⟩ = some (.int .i64 a.lo) ∧ W.cell? ⟨ab, ao + k * 6 + 5, none⟩ = some (.int .i64 a.hi) := fun W hW =>
       ⟨(hW.cell sz1).trans y4, (hW.cell sz2).trans x0, (hW.cell sz2).trans x3, (hW.cell hub).trans hu0, (hW.cell hpb).trans p3, (hW.cell hpb).trans p4, (hW.cell hpb).trans p5, (hW.cell hpb).trans p6, (hW.cell hpb).trans p7, (hW.cell hab).trans a4, (hW.cell hab).trans a5⟩
      have HA := hide hA
      clear hA HS HR hown hnx hns htr2 Hno HE Hwr hEE Hsn hBW B1 hz hB hfit Hin
      go_region_held3 (fun W => W.cell? ⟨w.heap.size, 4, none⟩ = some (.slice (some ⟨pb, po, none⟩) ps.length pc) ∧ W.cell? ⟨w.heap.size + 1, 0, none⟩ = some (.slice (some ⟨ub, uo, none⟩) use.length uc) ∧ W.cell? ⟨w.heap.size + 1, 3, none⟩ = some (.slice (some ⟨ab, ao, none⟩) an.length ac) ∧ W.cell? ⟨ub, uo + k, none⟩ = some (.int .i64 (q : Int)) ∧ W.cell? ⟨pb, po + q * 8 + 3, none⟩ = some (.int .i64 p.at_) ∧ W.cell? ⟨pb, po + q * 8 + 4, none⟩ = some (.int .i64 p.ol) ∧ W.cell? ⟨pb, po + q * 8 + 5, none⟩ = some (.int .i64 p.oh) ∧ W.cell? ⟨pb, po + q * 8 + 6, none⟩ = some (.int .i64 p.bl) ∧ W.cell? ⟨pb, po + q * 8 + 7, none⟩ = some (.int .i64 p.bh) ∧ W.cell? ⟨ab, ao + k * 6 + 4, none⟩ = some (.int .i64 a.lo) ∧ W.cell? ⟨ab, ao + k * 6 + 5, none⟩ = some (.int .i64 a.hi)) (first | (refine HA.out _ ?_; ((with_reducible repeat' first | exact .refl _ _ | refine .alloc ?_ ?_ _ | refine .setCell ?_ ?_ _ | refine .drew ?_ | refine below_drewN ?_ _) <;> first | omega | simp <;> omega); done) | (refine HA.out _ ?_; ((with_reducible repeat' first | exact .refl _ _ | exact b4 | refine .alloc ?_ ?_ _ | refine .setCell ?_ ?_ _ | refine .drew ?_ | refine below_drewN ?_ _ | refine Below.trans ?_ (b4.mono ?_)) <;> first | omega | simp <;> omega); done))
       (first | (go_at_call 54; (with_reducible refine (HU.out _).mono ?_); rintro e w4 ⟨rfl, b4⟩; have z4 := b4.size; (try simp at z4); have kx := fun h o => (bk b4 wr.heap.size h).1 o; have fx := fun h o => (bk b4 wr.heap.size h).2 o))
      all_goals go_wp2_with fail
      all_goals go_meet
      all_goals refine ⟨_, rfl, rfl, ?_, ?_, ?_, ?_, ?_⟩
      all_goals first | (with_reducible assumption) | omega | (simp; omega) | (simp [*]; done) | (((with_reducible repeat' first | exact .refl _ _ | exact b4 | refine .alloc ?_ ?_ _ | refine .setCell ?_ ?_ _ | refine .drew ?_ | refine below_drewN ?_ _ | refine Below.trans ?_ (b4.mono ?_)) <;> first | omega | simp <;> omega)) | (refine World.cell?_setCell_same' _ _ _ ?_; simp [*]; done) | (refine World.cell?_setCell_same' _ _ _ ?_; rw [World.cell?_setCell_other _ _ _ _ (fun e => by simp at e)]; simp [*]; done) | (refine World.cell?_setCell_same' _ _ _ ?_; rw [World.cell?_setCell_other _ _ _ _ (fun e => by simp at e), kx (by simp) 1]; simp; done) | (rw [World.cell?_setCell_other _ _ _ _ (fun e => by simp at e)]; refine World.cell?_setCell_same' _ _ _ ?_; simp [*]; done) | (rw [World.cell?_setCell_other _ _ _ _ (fun e => by simp at e)]; refine World.cell?_setCell_same' _ _ _ ?_; rw [kx (by simp) 0]; simp; done)
     case rest =>
      obtain ⟨g, rfl, rfl, hgl1, hgl2, g0, g1, Bc⟩ := hcut
      have Hcells := hide (And.intro y4 (And.intro x0 (And.intro x3 (And.intro hu0 (And.intro p3 (And.intro p4 (And.intro p5 (And.intro p6 (And.intro p7 (And.intro a4 a5))))))))))
      clear y4 x0 x3 hu0 p3 p4 p5 p6 p7 a4 a5 a1 HU
      have Kz := Bc.size
      by_cases hE0 : E = 0
      ·subst hE0
       have Hnx := hide hnx
       have Hns := hide hns
       obtain ⟨oa, oc, hoe, -, -⟩ := Owns9 hown
       subst hoe
       have hlow := World.ownsRow.lt hown
       have Hown2 := hide (ownsRow_below hown Bc)
       have KK := hide Bc
       clear hnx hns htr2 hown Bc
       go_wp2_with (at_builtin; refine wpList_append_own _ rfl _ _ 74 rfl w1.heap.size 41 i0 (.agg #[.int .i64 0, .int .i64 0]) 2 16 Tryz.underlying74 hi0 hz0 hz1 hz2 rfl (by decide) _ (pyL ps use an k).length (encL (pyL ps use an k)) rfl (World.ownsRow.alloc Hown2.out _) ⟨wc.heap.size, 0, none⟩ 1 1 [.int .i64 X, .int .i64 Y] rfl rfl (cells_new wc [.int .i64 X, .int .i64 Y] _) (by simp [Value.oneCell']) (by unfold maxLen; omega) (by omega) (by simp; omega) ?_; intro v3 w3 hown3 hg3 _)
       have hB3 : Below w1.heap.size w1 w3 := Below.grown (by ((with_reducible repeat' first | exact .refl _ _ | exact KK.out | exact hB | refine .alloc ?_ ?_ _ | refine .setCell ?_ ?_ _ | refine .drew ?_ | refine below_drewN ?_ _ | refine Below.trans ?_ (KK.out.mono ?_) | refine Below.trans ?_ (hB.mono ?_)) <;> first | omega | simp <;> omega)) hg3 (by simp; omega) (fun r h => (hlow r h).1)
       have H3 := hide (And.intro hown3 hB3)
       clear hown3 hg3 hB3
       go_roundw
       case rel => exact ⟨k + 1, by omega, by go_num, hide (by rw [Hns.out, Hsn.out]; rfl), by rw [Hnx.out]; exact OwnP.app H3.out.1, H3.out.2⟩
       case measure => simp [intOf]; omega
      ·obtain ⟨q1, q2⟩ := htr2 hE0
       subst q1
       have he : pyEr ⟨r, f, lo, tm, ps⟩ ⟨use, ev, at_, an, ct⟩ = 22 := by unfold pyEr; rw [if_pos hfit]; simp only; rw [if_pos q2]
       have HQ := hide (Hno.out 22 he (by omega))
       have BW2 : Below (w.heap.size + 3) W0 wc := hBW.trans (Bc.mono (by omega))
       obtain ⟨-, ⟨v0, v1, f0, f1⟩, z2, b2⟩ := HS.out wc BW2
       have zq : w.heap.size + 2 < wc.heap.size := (by omega)
       clear hnx hns htr2 hE0 q2 he
       go_wp2_with fail
       have d := stores_at (w.heap.size + 2) [.int .i64 0, .int .i64 0] 0 (wc) (ex2 v0 v1); have d0 : ((wc.setCell ⟨w.heap.size + 2, 0, none⟩ (.int .i64 0)).setCell ⟨w.heap.size + 2, 1, none⟩ (.int .i64 0)).cell? ⟨w.heap.size + 2, 0, none⟩ = some (.int .i64 0) := d 0 _ rfl; have d1 : ((wc.setCell ⟨w.heap.size + 2, 0, none⟩ (.int .i64 0)).setCell ⟨w.heap.size + 2, 1, none⟩ (.int .i64 0)).cell? ⟨w.heap.size + 2, 1, none⟩ = some (.int .i64 0) := d 1 _ rfl
       exact bodyPost_ret (v := .tuple #[.agg #[.int .i64 0, .int .i64 0], .int .i64 22]) (by simp [results, Tryz.results20, go_sem, d0, d1]) rfl ⟨by rw [HQ.out.1, HQ.out.2.1, HQ.out.2.2], (by ((with_reducible repeat' first | exact .refl _ _ | exact b2 | refine .alloc ?_ ?_ _ | refine .setCell ?_ ?_ _ | refine .drew ?_ | refine below_drewN ?_ _ | refine Below.trans ?_ (b2.mono ?_)) <;> first | omega | simp <;> omega))⟩
   ·obtain rfl : k = an.length := by omega
    have hsn := Hsn.out
    have hSc : scL ⟨r, f, lo, tm, ps⟩ ⟨use, ev, at_, an, ct⟩ = pyL ps use an an.length := rfl
    have hlp : (pyL ps use an an.length).length ≤ an.length := by have := pyL_length ps use an an.length; omega
    have hpe : pyEr ⟨r, f, lo, tm, ps⟩ ⟨use, ev, at_, an, ct⟩ = if ((pyL ps use an an.length).length : Int) < an.length - lo then 20 else if cbEr (pyL ps use an an.length) f = 0 then atEr 0 (cbLo (pyL ps use an an.length) f) (cbHi (pyL ps use an an.length) f) r ct else cbEr (pyL ps use an an.length) f := by
     unfold pyEr
     rw [if_pos hfit]
     simp only
     rw [hsn, if_neg (by simp), hSc]
    have hpl : pyEr ⟨r, f, lo, tm, ps⟩ ⟨use, ev, at_, an, ct⟩ = atEr 0 (cbLo (pyL ps use an an.length) f) (cbHi (pyL ps use an an.length) f) r ct → A = atLo 0 (cbLo (pyL ps use an an.length) f) (cbHi (pyL ps use an an.length) f) r ct ∧ B = atHi 0 (cbLo (pyL ps use an an.length) f) (cbHi (pyL ps use an an.length) f) r ct ∧ E = atEr 0 (cbLo (pyL ps use an an.length) f) (cbHi (pyL ps use an an.length) f) r ct := fun h => by
     refine ⟨HE.out.2.1.trans ?_, HE.out.2.2.trans ?_, HE.out.1.trans h⟩
     ·unfold pyLo; rw [hSc]; simp only; rw [h]; unfold atLo; split <;> rfl
     ·unfold pyHi; rw [hSc]; simp only; rw [h]; unfold atHi; split <;> rfl
    have hrow := hown.row
    obtain ⟨oa, oc, hoe, -, -⟩ := Owns9 hown
    subst hoe
    generalize pyL ps use an an.length = H at *
    have HC := hide (fun W h => RCombine_any (.slice oa H.length oc) H f W h)
    have Hrow := hide hrow
    have hwr := Hwr.out
    have ws : IntKind.i64.wrap ((an.length : Int) - lo) = (an.length : Int) - lo := IntWalk.i64_in _ (by omega)
    have HBW := hide hBW
    have zw := (HS.out wr hBW).2.2.1
    obtain ⟨⟨⟨y0, y1, y2, y3, y4⟩, x0, x1, x2, x3, x4⟩, ⟨v0, v1, f0, f1⟩, z0, b0⟩ := HS.out wr hBW
    have zq : w.heap.size + 2 < wr.heap.size := by omega
    clear hown hrow hSc Hsn hsn hB hwr
    by_cases h1 : (H.length : Int) < an.length - lo
    ·have hd : decide ((H.length : Int) < (an.length : Int) - lo) = true := decide_eq_true (by omega)
     rw [if_pos h1] at hpe
     have HQ := hide (Hno.out 20 hpe (by omega))
     clear h1 hpe hpl
     go_wp2_with fail
     have d := stores_at (w.heap.size + 2) [.int .i64 0, .int .i64 0] 0 (wr) (ex2 v0 v1); have d0 : ((wr.setCell ⟨w.heap.size + 2, 0, none⟩ (.int .i64 0)).setCell ⟨w.heap.size + 2, 1, none⟩ (.int .i64 0)).cell? ⟨w.heap.size + 2, 0, none⟩ = some (.int .i64 0) := d 0 _ rfl; have d1 : ((wr.setCell ⟨w.heap.size + 2, 0, none⟩ (.int .i64 0)).setCell ⟨w.heap.size + 2, 1, none⟩ (.int .i64 0)).cell? ⟨w.heap.size + 2, 1, none⟩ = some (.int .i64 0) := d 1 _ rfl
     exact bodyPost_ret (v := .tuple #[.agg #[.int .i64 0, .int .i64 0], .int .i64 20]) (by simp [results, Tryz.results20, go_sem, d0, d1]) rfl ⟨by rw [HQ.out.1, HQ.out.2.1, HQ.out.2.2], (by ((with_reducible repeat' first | exact .refl _ _ | exact b0 | refine .alloc ?_ ?_ _ | refine .setCell ?_ ?_ _ | refine .drew ?_ | refine below_drewN ?_ _ | refine Below.trans ?_ (b0.mono ?_)) <;> first | omega | simp <;> omega))⟩
    ·have hd : decide ((H.length : Int) < (an.length : Int) - lo) = false := decide_eq_false (by omega)
     rw [if_neg h1] at hpe
     clear h1
     have KC : ∀ V : World, Below wr.heap.size wr V → Below (w.heap.size + 3) W0 V := fun V hV => HBW.out.trans (hV.mono zw)
     have HKC := hide KC
     generalize cbLo H f = cl at *
     generalize cbHi H f = ch at *
     by_cases h2 : cbEr H f = 0
     ·rw [if_pos h2] at hpe
      rw [h2] at HC
      have HP := hide (hpl hpe)
      have HA := hide (fun W => R8At_any 0 cl ch r ct W)
      generalize atLo 0 cl ch r ct = al at *
      generalize atHi 0 cl ch r ct = ah at *
      generalize atEr 0 cl ch r ct = ae at *
      clear h2 hpe hpl KC
      go_wp2_with (first | (go_at_call 59; (with_reducible refine (HC.out _ Hrow.out).mono ?_); rintro e w2 ⟨rfl, k2⟩; have zwr := k2.size; have k2h := hide k2; clear y0 y1 y2 y3 y4 x0 x1 x2 x3 x4 v0 v1 f0 f1 z0 b0 zq; obtain ⟨⟨⟨y0, y1, y2, y3, y4⟩, x0, x1, x2, x3, x4⟩, ⟨v0, v1, f0, f1⟩, z0, b0⟩ := HS.out w2 (HKC.out _ k2); clear k2; have zq : w.heap.size + 2 < w2.heap.size := (by omega); have zq1 : w.heap.size + 1 < w2.heap.size := (by omega); have zq0 : w.heap.size < w2.heap.size := (by omega)) | (go_at_call 60; (with_reducible refine (HA.out _).mono ?_); rintro e w3 ⟨rfl, k3⟩; have k3h : Hid (Below wr.heap.size wr w3) := hide (by ((with_reducible repeat' first | exact .refl _ _ | exact k3 | exact k2h.out | refine .alloc ?_ ?_ _ | refine .setCell ?_ ?_ _ | refine .drew ?_ | refine below_drewN ?_ _ | refine Below.trans ?_ (k3.mono ?_) | refine Below.trans ?_ (k2h.out.mono ?_)) <;> first | omega | simp <;> omega)); clear k3 y0 y1 y2 y3 y4 x0 x1 x2 x3 x4 v0 v1 f0 f1 z0 b0; obtain ⟨-, ⟨v0, v1, f0, f1⟩, z0, b0⟩ := HS.out w3 (HKC.out _ k3h.out)))
      have d := stores_at (w.heap.size + 2) [.int .i64 al, .int .i64 ah] 0 (w3) (ex2 v0 v1); have d0 : ((w3.setCell ⟨w.heap.size + 2, 0, none⟩ (.int .i64 al)).setCell ⟨w.heap.size + 2, 1, none⟩ (.int .i64 ah)).cell? ⟨w.heap.size + 2, 0, none⟩ = some (.int .i64 al) := d 0 _ rfl; have d1 : ((w3.setCell ⟨w.heap.size + 2, 0, none⟩ (.int .i64 al)).setCell ⟨w.heap.size + 2, 1, none⟩ (.int .i64 ah)).cell? ⟨w.heap.size + 2, 1, none⟩ = some (.int .i64 ah) := d 1 _ rfl
      exact bodyPost_ret (v := .tuple #[.agg #[.int .i64 al, .int .i64 ah], .int .i64 ae]) (by simp [results, Tryz.results20, go_sem, d0, d1]) rfl ⟨by rw [HP.out.1, HP.out.2.1, HP.out.2.2], (by ((with_reducible repeat' first | exact .refl _ _ | exact b0 | refine .alloc ?_ ?_ _ | refine .setCell ?_ ?_ _ | refine .drew ?_ | refine below_drewN ?_ _ | refine Below.trans ?_ (b0.mono ?_)) <;> first | omega | simp <;> omega))⟩
     ·rw [if_neg h2] at hpe
      have hdn : (cbEr H f != 0) = true := by rw [bne_iff_ne]; exact h2
      have HQ := hide (Hno.out _ hpe h2)
      generalize cbEr H f = ce at *
      clear h2 hpe hpl KC
      go_wp2_with (go_at_call 59; (with_reducible refine (HC.out _ Hrow.out).mono ?_); rintro e w2 ⟨rfl, k2⟩; have k2h := hide k2; clear y0 y1 y2 y3 y4 x0 x1 x2 x3 x4 v0 v1 f0 f1 z0 b0 zq; obtain ⟨⟨⟨y0, y1, y2, y3, y4⟩, x0, x1, x2, x3, x4⟩, ⟨v0, v1, f0, f1⟩, z0, b0⟩ := HS.out w2 (HKC.out _ k2); have zq : w.heap.size + 2 < w2.heap.size := (by omega); clear k2)
      have d := stores_at (w.heap.size + 2) [.int .i64 0, .int .i64 0] 0 (w2) (ex2 v0 v1); have d0 : ((w2.setCell ⟨w.heap.size + 2, 0, none⟩ (.int .i64 0)).setCell ⟨w.heap.size + 2, 1, none⟩ (.int .i64 0)).cell? ⟨w.heap.size + 2, 0, none⟩ = some (.int .i64 0) := d 0 _ rfl; have d1 : ((w2.setCell ⟨w.heap.size + 2, 0, none⟩ (.int .i64 0)).setCell ⟨w.heap.size + 2, 1, none⟩ (.int .i64 0)).cell? ⟨w.heap.size + 2, 1, none⟩ = some (.int .i64 0) := d 1 _ rfl
      exact bodyPost_ret (v := .tuple #[.agg #[.int .i64 0, .int .i64 0], .int .i64 ce]) (by simp [results, Tryz.results20, go_sem, d0, d1, zq]) rfl ⟨by rw [HQ.out.1, HQ.out.2.1, HQ.out.2.2], (by ((with_reducible repeat' first | exact .refl _ _ | exact b0 | refine .alloc ?_ ?_ _ | refine .setCell ?_ ?_ _ | refine .drew ?_ | refine below_drewN ?_ _ | refine Below.trans ?_ (b0.mono ?_)) <;> first | omega | simp <;> omega))⟩
end Go.Proofs.YtigjljmhpkeahaaGreat
