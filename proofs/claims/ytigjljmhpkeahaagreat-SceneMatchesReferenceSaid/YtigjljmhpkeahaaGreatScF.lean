
/- Package scene: what one peer answers in the worst scene; which answers are late. -/
import Derived.Test.YtigjljmhpkeahaaGreatScE
import Derived.Test.YtigjljmhpkeahaaGreatSto
namespace Go.Proofs.YtigjljmhpkeahaaGreat
open Go.RowKit
attribute [local go_sem ↓] run_max_mx run_min_mn

def WsAt (V : World) (n gb plb lb : Nat) (r f lo tm : Int) (pv : Value) (ps : List Pr) (uv : Value) (use : List Int) (ev at_ : Int) (gv : Value) (gone : List Int) (plv : Value) (place : List Iv) (bv : Value) (bad : List Int) : Prop :=
 (WsBox V n r f lo tm pv uv ev at_ ∧ PrRow V pv ps ∧ IsRow V uv use) ∧ (V.cell? ⟨gb, 0, none⟩ = some gv ∧ IsRow V gv gone) ∧ (V.cell? ⟨plb, 0, none⟩ = some plv ∧ IvRow V plv place) ∧ (V.cell? ⟨lb, 0, none⟩ = some bv ∧ IsRow V bv bad)
theorem WsAt.of {V W : World} {n gb plb lb : Nat} {r f lo tm : Int} {pv : Value} {ps : List Pr} {uv : Value} {use : List Int} {ev at_ : Int} {gv : Value} {gone : List Int} {plv : Value} {place : List Iv} {bv : Value} {bad : List Int}
  (h : WsAt V n gb plb lb r f lo tm pv ps uv use ev at_ gv gone plv place bv bad) (hn : n + 3 ≤ V.heap.size) (hB : Below V.heap.size V W) : WsAt W n gb plb lb r f lo tm pv ps uv use ev at_ gv gone plv place bv bad := by
 obtain ⟨⟨h1, h2, h3⟩, ⟨h4, h5⟩, ⟨h6, h7⟩, h8, h9⟩ := h
 have lt : ∀ {b : Nat} {u : Value}, V.cell? ⟨b, 0, none⟩ = some u → b < V.heap.size := fun h => World.block_lt_of_cell? _ _ h
 exact ⟨⟨h1.of hn hB, h2.below (Nat.le_refl _) hB, h3.below (Nat.le_refl _) hB⟩, ⟨((bk hB gb (lt h4)).1 0).trans h4, h5.below (Nat.le_refl _) hB⟩, ⟨((bk hB plb (lt h6)).1 0).trans h6, h7.below (Nat.le_refl _) hB⟩, ((bk hB lb (lt h8)).1 0).trans h8, h9.below (Nat.le_refl _) hB⟩
def PrBox (V : World) (q : Nat) (p : Pr) : Prop := (V.cell? ⟨q, 0, none⟩ = some (.int .i64 p.au) ∧ V.cell? ⟨q, 1, none⟩ = some (.int .i64 p.er) ∧ V.cell? ⟨q, 2, none⟩ = some (.int .i64 p.co) ∧ V.cell? ⟨q, 3, none⟩ = some (.int .i64 p.at_) ∧ V.cell? ⟨q, 4, none⟩ = some (.int .i64 p.ol) ∧ V.cell? ⟨q, 5, none⟩ = some (.int .i64 p.oh) ∧ V.cell? ⟨q, 6, none⟩ = some (.int .i64 p.bl) ∧ V.cell? ⟨q, 7, none⟩ = some (.int .i64 p.bh)) ∧ q < V.heap.size
theorem PrBox.of {V W : World} {q : Nat} {p : Pr} (h : PrBox V q p) (hB : Below V.heap.size V W) : PrBox W q p := by
 obtain ⟨⟨p0, p1, p2, p3, p4, p5, p6, p7⟩, hq⟩ := h
 have hc := (bk hB q hq).1
 exact ⟨⟨(hc _).trans p0, (hc _).trans p1, (hc _).trans p2, (hc _).trans p3, (hc _).trans p4, (hc _).trans p5, (hc _).trans p6, (hc _).trans p7⟩, Nat.lt_of_lt_of_le hq hB.size⟩
theorem PrBox.made (W : World) (T : TypeId) (p : Pr) : PrBox (W.alloc (.cells #[.int .i64 p.au, .int .i64 p.er, .int .i64 p.co, .int .i64 p.at_, .int .i64 p.ol, .int .i64 p.oh, .int .i64 p.bl, .int .i64 p.bh] T)).drew W.heap.size p := by
 refine ⟨⟨?_, ?_, ?_, ?_, ?_, ?_, ?_, ?_⟩, ?_⟩ <;> simp [go_sem]
set_option maxRecDepth 100000 in
set_option maxHeartbeats 1000000 in
theorem Worst1_any (k n gb plb lb : Nat) (r f lo tm : Int) (pv : Value) (ps : List Pr) (uv : Value) (use : List Int) (ev at_ : Int) (gv : Value) (gone : List Int) (plv : Value) (place : List Iv) (bv : Value) (bad : List Int) (w : World)
  (hst : WsAt w n gb plb lb r f lo tm pv ps uv use ev at_ gv gone plv place bv bad) (hn : n + 3 ≤ w.heap.size) (hk : k < use.length) (hkp : k < place.length) (hin : 0 ≤ iAt use k ∧ iAt use k < ps.length)
  (hpr : (0 ≤ (pu ps use k).ol ∧ (pu ps use k).ol ≤ 1000000) ∧ (0 ≤ (pu ps use k).oh ∧ (pu ps use k).oh ≤ 1000000)) (hpl : (k : Int) ∉ gone → (0 ≤ (ivAt place k).1 ∧ (ivAt place k).1 ≤ 3000000000000000) ∧ (0 ≤ (ivAt place k).2 ∧ (ivAt place k).2 ≤ 3000000000000000)) (hat : 0 ≤ at_ ∧ at_ ≤ 3000000000000000) :
  Calls Tryz.prog 35 #[.int .i64 k, .pointer (some ⟨n, 0, none⟩), .pointer (some ⟨n + 1, 0, none⟩), .pointer (some ⟨gb, 0, none⟩), .pointer (some ⟨plb, 0, none⟩), .pointer (some ⟨lb, 0, none⟩), .pointer (some ⟨n + 2, 0, none⟩)] w fun e w' =>
   e = .returned (valA (wsG ps use bad gone place at_ k)) ∧ Below w.heap.size w w' := by
 have Hst := hide hst
 obtain ⟨⟨hbx, hp, hu⟩, ⟨hg, hgr⟩, ⟨hpc, hpr2⟩, hl, hlr⟩ := id hst
 obtain ⟨⟨y0, y1, y2, y3, y4⟩, x0, x1, x2⟩ := id hbx
 obtain ⟨ub, uo, uc, rfl, vq1, vq2, hub, -, huc⟩ := hu.at0 (by omega)
 have hu0 := huc k hk
 have hP : pu ps use k = pAt ps (iAt use k).toNat := rfl
 have hG : wsG ps use bad gone place at_ k = if (k : Int) ∈ gone then ⟨(pu ps use k).au, true, 0, 0, 0, 0⟩
  else ⟨(pu ps use k).au, false, if (k : Int) ∈ bad then (pu ps use k).ol else mx (pu ps use k).ol ((ivAt place k).1 + (pu ps use k).oh - at_), (pu ps use k).bl, (ivAt place k).1 + (pu ps use k).oh, (ivAt place k).2 + (pu ps use k).ol⟩ := rfl
 obtain ⟨q, hq⟩ : ∃ q : Nat, iAt use k = q := ⟨(iAt use k).toNat, by omega⟩
 rw [hq] at hu0 hin hP
 rw [Int.toNat_natCast] at hP
 have hql : q < ps.length := by omega
 obtain ⟨pb, po, pc', rfl, -, -, hpb, hpcc⟩ := hp.at0 (by omega)
 obtain ⟨p0, p1, p2, p3, p4, p5, p6, p7⟩ := hpcc q hql
 rw [hP] at hG hpr
 obtain ⟨A, hA⟩ : ∃ A, A = wsG ps use bad gone place at_ k := ⟨_, rfl⟩
 rw [← hA] at hG ⊢
 clear hA
 generalize pAt ps q = p at *
 have I1 : (0 : Int) ≤ (q : Int) := by omega
 have I2 : (q : Int) < (ps.length : Int) := by omega
 have I3 : (0 : Int) ≤ (k : Int) := by omega
 have I4 : (k : Int) < (use.length : Int) := by omega
 have I5 : (k : Int) < (place.length : Int) := by omega
 have sz1 : n < w.heap.size := by omega
 have sz2 : n + 1 < w.heap.size := by omega
 have Hhp := hide hpr
 have HG := hide hG
 have Hpl := hide hpl
 have Hat := hide hat
 have Hgr := hide hgr
 have Hpr2 := hide hpr2
 have Hlr := hide hlr
 obtain ⟨W0, hW0⟩ : ∃ W : World, W = w.alloc (.cells #[.int .i64 0, .bool false, .int .i64 0, .int .i64 0, .int .i64 0, .int .i64 0] 59) := ⟨_, rfl⟩
 have b0 : Below w.heap.size w W0 := by rw [hW0]; ((with_reducible repeat' first | exact .refl _ _ | refine .alloc ?_ ?_ _ | refine .setCell ?_ ?_ _ | refine .drew ?_ | refine below_drewN ?_ _) <;> first | omega | simp <;> omega)
 have z0 : W0.heap.size = w.heap.size + 1 := by rw [hW0]; simp
 clear hst hbx hp hu hpr hpl hat hgr hpr2 hlr hpcc huc hq hP hG hin y0 y1 y2 y3 x1
 go_enter Tryz.func35, Tryz.ntmps35
 go_upto_region 1 with fail
 rw [← hW0]
 have hres : ∀ V : World, Below (w.heap.size + 1) W0 V → (V.cell? ⟨w.heap.size, 0, none⟩ = some (.int .i64 0) ∧ V.cell? ⟨w.heap.size, 1, none⟩ = some (.bool false) ∧ V.cell? ⟨w.heap.size, 2, none⟩ = some (.int .i64 0) ∧ V.cell? ⟨w.heap.size, 3, none⟩ = some (.int .i64 0) ∧ V.cell? ⟨w.heap.size, 4, none⟩ = some (.int .i64 0) ∧ V.cell? ⟨w.heap.size, 5, none⟩ = some (.int .i64 0)) ∧
   (V.frozen? ⟨w.heap.size, 0, none⟩ = false ∧ V.frozen? ⟨w.heap.size, 1, none⟩ = false ∧ V.frozen? ⟨w.heap.size, 2, none⟩ = false ∧ V.frozen? ⟨w.heap.size, 3, none⟩ = false ∧ V.frozen? ⟨w.heap.size, 4, none⟩ = false ∧ V.frozen? ⟨w.heap.size, 5, none⟩ = false) := by
  intro V hV
  have h := bk hV w.heap.size (by omega)
  refine ⟨⟨(h.1 _).trans ?_, (h.1 _).trans ?_, (h.1 _).trans ?_, (h.1 _).trans ?_, (h.1 _).trans ?_, (h.1 _).trans ?_⟩, (h.2 _).trans ?_, (h.2 _).trans ?_, (h.2 _).trans ?_, (h.2 _).trans ?_, (h.2 _).trans ?_, (h.2 _).trans ?_⟩ <;> rw [hW0] <;> simp [go_sem]
 have Hres := hide hres
 clear hW0 hres
 obtain ⟨y4, x0, x2, hg, hpc, hl, hu0, p0, p1, p2, p3, p4, p5, p6, p7⟩ : W0.cell? ⟨n, 4, none⟩ = some (.slice (some ⟨pb, po, none⟩) ps.length pc') ∧ W0.cell? ⟨n + 1, 0, none⟩ = some (.slice (some ⟨ub, uo, none⟩) use.length uc) ∧ W0.cell? ⟨n + 2, 0, none⟩ = some (.int .i64 at_) ∧ W0.cell? ⟨gb, 0, none⟩ = some gv ∧ W0.cell? ⟨plb, 0, none⟩ = some plv ∧ W0.cell? ⟨lb, 0, none⟩ = some bv ∧ W0.cell? ⟨ub, uo + k, none⟩ = some (.int .i64 (q : Int)) ∧ PrAt W0 pb (po + q * 8) p := by
  have hlt : ∀ {b o : Nat} {u : Value}, w.cell? ⟨b, o, none⟩ = some u → W0.cell? ⟨b, o, none⟩ = some u := fun {b o u} h => ((bk b0 b (World.block_lt_of_cell? _ _ h)).1 o).trans h
  exact ⟨hlt y4, hlt x0, hlt x2, hlt hg, hlt hpc, hlt hl, hlt hu0, hlt p0, hlt p1, hlt p2, hlt p3, hlt p4, hlt p5, hlt p6, hlt p7⟩
 have szp : pb < W0.heap.size := by omega
 have szu : ub < W0.heap.size := by omega
 have szn : n < W0.heap.size := by omega
 have szn1 : n + 1 < W0.heap.size := by omega
 have Hb0 := hide b0
 have Hz0 := hide z0
 have Hrest := hide (And.intro x2 (And.intro hg (And.intro hpc hl)))
 clear b0 z0 hpb hub sz1 sz2 x2 hg hpc hl
 go_cut [9] (fun s9 wx => ∃ g, s9 = .pointer (some ⟨g, 0, none⟩) ∧ PrBox wx g p ∧ Below W0.heap.size W0 wx ∧ W0.heap.size ≤ g)
 case first =>
  go_region_with fail
  all_goals go_wp2
  all_goals go_meet
  all_goals exact ⟨_, rfl, PrBox.made _ _ _, (by ((with_reducible repeat' first | exact .refl _ _ | refine .alloc ?_ ?_ _ | refine .setCell ?_ ?_ _ | refine .drew ?_ | refine below_drewN ?_ _) <;> first | omega | simp <;> omega)), Nat.le_refl _⟩
 case rest =>
  obtain ⟨g, rfl, hbx, Bc, hg0⟩ := hcut
  have hr := Hrest.out
  obtain ⟨x2, hg, hpc, hl⟩ := hr
  have hz := Hz0.out
  have HB : Below w.heap.size w wc := (by ((with_reducible repeat' first | exact .refl _ _ | exact Hb0.out | exact Bc | refine .alloc ?_ ?_ _ | refine .setCell ?_ ?_ _ | refine .drew ?_ | refine below_drewN ?_ _ | refine Below.trans ?_ (Hb0.out.mono ?_) | refine Below.trans ?_ (Bc.mono ?_)) <;> first | omega | simp <;> omega))
  obtain ⟨y4c, x2c, hgc, hpcc, hlc⟩ : True ∧ wc.cell? ⟨n + 2, 0, none⟩ = some (.int .i64 at_) ∧ wc.cell? ⟨gb, 0, none⟩ = some gv ∧ wc.cell? ⟨plb, 0, none⟩ = some plv ∧ wc.cell? ⟨lb, 0, none⟩ = some bv := by
   have hlt : ∀ {b o : Nat} {u : Value}, W0.cell? ⟨b, o, none⟩ = some u → wc.cell? ⟨b, o, none⟩ = some u := fun {b o u} h => ((bk Bc b (World.block_lt_of_cell? _ _ h)).1 o).trans h
   exact ⟨trivial, hlt x2, hlt hg, hlt hpc, hlt hl⟩
  obtain ⟨⟨v0, v1, v2, v3, v4, v5⟩, f0, f1, f2, f3, f4, f5⟩ := Hres.out wc (Bc.mono (by omega))
  have hgr' := Hgr.out.below (Nat.le_refl _) HB
  have szr : w.heap.size < wc.heap.size := by have := Bc.size; omega
  have sgg : w.heap.size < g := by omega
  have splb : plb < wc.heap.size := World.block_lt_of_cell? _ _ hpcc
  have slb : lb < wc.heap.size := World.block_lt_of_cell? _ _ hlc
  have snb : n + 2 < wc.heap.size := World.block_lt_of_cell? _ _ x2c
  have HC := fun x => ContainsN_any gv gone x wc hgr'
  obtain ⟨⟨q0, q1, q2, q3, q4, q5, q6, q7⟩, sgq⟩ := id hbx
  have Hbx := hide hbx
  have HCh := hide HC
  have HBh := hide HB
  have Hgr2 := hide hgr'
  clear hbx HC HB hgr' y4c y4 x0 hu0 p0 p1 p2 p3 p4 p5 p6 p7 hg hpc hl x2
  by_cases hgo : (k : Int) ∈ gone
  ·have hd : decide ((k : Int) ∈ gone) = true := decide_eq_true hgo
   have hA := HG.out
   rw [if_pos hgo] at hA
   have HA := hide hA
   clear hgo hA
   go_wp2_with (go_at_call 36; (with_reducible refine (HCh.out _).mono ?_); rintro e w' ⟨rfl, rfl⟩; rw [hd])
   have d := stores_at (w.heap.size) [.int .i64 p.au, .bool true, .int .i64 0, .int .i64 0, .int .i64 0, .int .i64 0] 0 (wc) (ex6 v0 v1 v2 v3 v4 v5); have d0 : ((((((wc.setCell ⟨w.heap.size, 0, none⟩ (.int .i64 p.au)).setCell ⟨w.heap.size, 1, none⟩ (.bool true)).setCell ⟨w.heap.size, 2, none⟩ (.int .i64 0)).setCell ⟨w.heap.size, 3, none⟩ (.int .i64 0)).setCell ⟨w.heap.size, 4, none⟩ (.int .i64 0)).setCell ⟨w.heap.size, 5, none⟩ (.int .i64 0)).cell? ⟨w.heap.size, 0, none⟩ = some (.int .i64 p.au) := d 0 _ rfl; have d1 : ((((((wc.setCell ⟨w.heap.size, 0, none⟩ (.int .i64 p.au)).setCell ⟨w.heap.size, 1, none⟩ (.bool true)).setCell ⟨w.heap.size, 2, none⟩ (.int .i64 0)).setCell ⟨w.heap.size, 3, none⟩ (.int .i64 0)).setCell ⟨w.heap.size, 4, none⟩ (.int .i64 0)).setCell ⟨w.heap.size, 5, none⟩ (.int .i64 0)).cell? ⟨w.heap.size, 1, none⟩ = some (.bool true) := d 1 _ rfl; have d2 : ((((((wc.setCell ⟨w.heap.size, 0, none⟩ (.int .i64 p.au)).setCell ⟨w.heap.size, 1, none⟩ (.bool true)).setCell ⟨w.heap.size, 2, none⟩ (.int .i64 0)).setCell ⟨w.heap.size, 3, none⟩ (.int .i64 0)).setCell ⟨w.heap.size, 4, none⟩ (.int .i64 0)).setCell ⟨w.heap.size, 5, none⟩ (.int .i64 0)).cell? ⟨w.heap.size, 2, none⟩ = some (.int .i64 0) := d 2 _ rfl; have d3 : ((((((wc.setCell ⟨w.heap.size, 0, none⟩ (.int .i64 p.au)).setCell ⟨w.heap.size, 1, none⟩ (.bool true)).setCell ⟨w.heap.size, 2, none⟩ (.int .i64 0)).setCell ⟨w.heap.size, 3, none⟩ (.int .i64 0)).setCell ⟨w.heap.size, 4, none⟩ (.int .i64 0)).setCell ⟨w.heap.size, 5, none⟩ (.int .i64 0)).cell? ⟨w.heap.size, 3, none⟩ = some (.int .i64 0) := d 3 _ rfl; have d4 : ((((((wc.setCell ⟨w.heap.size, 0, none⟩ (.int .i64 p.au)).setCell ⟨w.heap.size, 1, none⟩ (.bool true)).setCell ⟨w.heap.size, 2, none⟩ (.int .i64 0)).setCell ⟨w.heap.size, 3, none⟩ (.int .i64 0)).setCell ⟨w.heap.size, 4, none⟩ (.int .i64 0)).setCell ⟨w.heap.size, 5, none⟩ (.int .i64 0)).cell? ⟨w.heap.size, 4, none⟩ = some (.int .i64 0) := d 4 _ rfl; have d5 : ((((((wc.setCell ⟨w.heap.size, 0, none⟩ (.int .i64 p.au)).setCell ⟨w.heap.size, 1, none⟩ (.bool true)).setCell ⟨w.heap.size, 2, none⟩ (.int .i64 0)).setCell ⟨w.heap.size, 3, none⟩ (.int .i64 0)).setCell ⟨w.heap.size, 4, none⟩ (.int .i64 0)).setCell ⟨w.heap.size, 5, none⟩ (.int .i64 0)).cell? ⟨w.heap.size, 5, none⟩ = some (.int .i64 0) := d 5 _ rfl
   exact bodyPost_ret (v := .agg #[.int .i64 p.au, .bool true, .int .i64 0, .int .i64 0, .int .i64 0, .int .i64 0]) (by simp [results, Tryz.results35, go_sem, d0, d1, d2, d3, d4, d5]) rfl ⟨by rw [HA.out]; rfl, (by ((with_reducible repeat' first | exact .refl _ _ | exact HBh.out | refine .alloc ?_ ?_ _ | refine .setCell ?_ ?_ _ | refine .drew ?_ | refine below_drewN ?_ _ | refine Below.trans ?_ (HBh.out.mono ?_)) <;> first | omega | simp <;> omega))⟩
  ·have hd : decide ((k : Int) ∈ gone) = false := decide_eq_false hgo
   have hA := HG.out
   rw [if_neg hgo] at hA
   have HA := hide hA
   have hI := Hpl.out hgo
   have ht := Hat.out
   have hpq := Hhp.out
   obtain ⟨vb, vo, vc, rfl, -, -, hvb, -, -, hvc⟩ := (Hpr2.out.below (Nat.le_refl _) HBh.out).at0 (by omega)
   obtain ⟨hv0, hv1⟩ := hvc k hkp
   clear hgo hA hvc
   go_upto_region 4 with (go_at_call 36; (with_reducible refine (HCh.out _).mono ?_); rintro e w' ⟨rfl, rfl⟩; rw [hd])
   have e1 : iLo place k = (ivAt place k).1 := rfl
   have e2 : iHi place k = (ivAt place k).2 := rfl
   rw [e1] at hv0
   rw [e2] at hv1
   clear e1 e2
   generalize (ivAt place k).1 = pl0 at *
   generalize (ivAt place k).2 = pl1 at *
   have wr1 : IntKind.i64.wrap (pl0 + p.oh) = pl0 + p.oh := IntWalk.i64_in _ (by omega)
   have wr2 : IntKind.i64.wrap (pl1 + p.ol) = pl1 + p.ol := IntWalk.i64_in _ (by omega)
   have wr3 : IntKind.i64.wrap (pl0 + p.oh - at_) = pl0 + p.oh - at_ := IntWalk.i64_in _ (by omega)
   have Hc := hide (And.intro x2c hlc)
   have Wr3 := hide wr3
   clear hI ht hpq wr3
   obtain ⟨wa, hwa⟩ : ∃ W : World, W = wc := ⟨_, rfl⟩
   subst hwa
   go_cut [10] (fun s10 wx => ∃ h, s10 = .pointer (some ⟨h, 0, none⟩) ∧ wx.cell? ⟨h, 0, none⟩ = some (.int .i64 (pl0 + p.oh)) ∧ wx.cell? ⟨h, 1, none⟩ = some (.int .i64 (pl1 + p.ol)) ∧ h < wx.heap.size ∧ Below wa.heap.size wa wx ∧ wa.heap.size ≤ h)
   case first =>
    clear x2c hlc hgc v0 v1 v2 v3 v4 v5 f0 f1 f2 f3 f4 f5
    have hT : ∀ W : World, Below wa.heap.size wa W → W.cell? ⟨plb, 0, none⟩ = some (.slice (some ⟨vb, vo, none⟩) place.length vc) ∧ W.cell? ⟨vb, vo + k * 2, none⟩ = some (.int .i64 pl0) ∧ W.cell? ⟨vb, vo + k * 2 + 1, none⟩ = some (.int .i64 pl1) ∧ W.cell? ⟨g, 4, none⟩ = some (.int .i64 p.ol) ∧ W.cell? ⟨g, 5, none⟩ = some (.int .i64 p.oh) := by
     intro W hW
     exact ⟨((bk hW plb splb).1 _).trans hpcc, ((bk hW vb hvb).1 _).trans hv0, ((bk hW vb hvb).1 _).trans hv1, ((bk hW g sgq).1 _).trans q4, ((bk hW g sgq).1 _).trans q5⟩
    have HT := hide hT
    clear hT q0 q1 q2 q3 q6 q7
    go_region_held3 (fun W => W.cell? ⟨plb, 0, none⟩ = some (.slice (some ⟨vb, vo, none⟩) place.length vc) ∧ W.cell? ⟨vb, vo + k * 2, none⟩ = some (.int .i64 pl0) ∧ W.cell? ⟨vb, vo + k * 2 + 1, none⟩ = some (.int .i64 pl1) ∧ W.cell? ⟨g, 4, none⟩ = some (.int .i64 p.ol) ∧ W.cell? ⟨g, 5, none⟩ = some (.int .i64 p.oh)) ((refine HT.out _ ?_; ((with_reducible repeat' first | exact .refl _ _ | refine .alloc ?_ ?_ _ | refine .setCell ?_ ?_ _ | refine .drew ?_ | refine below_drewN ?_ _) <;> first | omega | simp <;> omega); done)) (fail)
    all_goals go_wp2
    all_goals go_meet
    all_goals exact ⟨_, rfl, by simp [go_sem], by simp [go_sem], by simp, (by ((with_reducible repeat' first | exact .refl _ _ | refine .alloc ?_ ?_ _ | refine .setCell ?_ ?_ _ | refine .drew ?_ | refine below_drewN ?_ _) <;> first | omega | simp <;> omega)), Nat.le_refl _⟩
   case rest =>
    obtain ⟨h, rfl, k0, k1, hh, Bd, hh0⟩ := hcut
    have HBd : Below w.heap.size w wc := HBh.out.trans (Bd.mono HBh.out.size)
    have hc := Hc.out
    obtain ⟨x2d, hld⟩ := hc
    have kp : ∀ {b o : Nat} {u : Value}, wa.cell? ⟨b, o, none⟩ = some u → wc.cell? ⟨b, o, none⟩ = some u := fun {b o u} e => ((bk Bd b (World.block_lt_of_cell? _ _ e)).1 o).trans e
    have kf := (bk Bd w.heap.size szr).2
    replace v0 := kp v0
    replace v1 := kp v1
    replace v2 := kp v2
    replace v3 := kp v3
    replace v4 := kp v4
    replace v5 := kp v5
    replace q0 := kp q0
    replace q4 := kp q4
    replace q6 := kp q6
    replace f0 := (kf 0).trans f0
    replace f1 := (kf 1).trans f1
    replace f2 := (kf 2).trans f2
    replace f3 := (kf 3).trans f3
    replace f4 := (kf 4).trans f4
    replace f5 := (kf 5).trans f5
    replace x2d := kp x2d
    replace hld := kp hld
    have szh : w.heap.size < wc.heap.size := Nat.lt_of_lt_of_le szr Bd.size
    have hne : h ≠ w.heap.size := by omega
    have hne2 : g ≠ w.heap.size := by omega
    have HLc := fun x => ContainsN_any bv bad x wc (Hlr.out.below (Nat.le_refl _) HBd)
    have HL := hide HLc
    have HB2 := hide HBd
    have wr3 := Wr3.out
    clear hgc hpcc hlc x2c kp kf hv0 hv1 q1 q2 q3 q5 q7 Bd HBd HLc Hc
    by_cases hb : (k : Int) ∈ bad
    ·have hdb : decide ((k : Int) ∈ bad) = true := decide_eq_true hb
     have hA2 := HA.out
     rw [if_pos hb] at hA2
     have HA2 := hide hA2
     clear hb hA2
     go_wp2_with (go_at_call 36; (with_reducible refine (HL.out _).mono ?_); rintro e w' ⟨rfl, rfl⟩; rw [hdb])
     have d := stores_at (w.heap.size) [.int .i64 p.au, .bool false, .int .i64 p.ol, .int .i64 p.bl, .int .i64 (pl0 + p.oh), .int .i64 (pl1 + p.ol)] 0 (wc) (ex6 v0 v1 v2 v3 v4 v5); have d0 : ((((((wc.setCell ⟨w.heap.size, 0, none⟩ (.int .i64 p.au)).setCell ⟨w.heap.size, 1, none⟩ (.bool false)).setCell ⟨w.heap.size, 2, none⟩ (.int .i64 p.ol)).setCell ⟨w.heap.size, 3, none⟩ (.int .i64 p.bl)).setCell ⟨w.heap.size, 4, none⟩ (.int .i64 (pl0 + p.oh))).setCell ⟨w.heap.size, 5, none⟩ (.int .i64 (pl1 + p.ol))).cell? ⟨w.heap.size, 0, none⟩ = some (.int .i64 p.au) := d 0 _ rfl; have d1 : ((((((wc.setCell ⟨w.heap.size, 0, none⟩ (.int .i64 p.au)).setCell ⟨w.heap.size, 1, none⟩ (.bool false)).setCell ⟨w.heap.size, 2, none⟩ (.int .i64 p.ol)).setCell ⟨w.heap.size, 3, none⟩ (.int .i64 p.bl)).setCell ⟨w.heap.size, 4, none⟩ (.int .i64 (pl0 + p.oh))).setCell ⟨w.heap.size, 5, none⟩ (.int .i64 (pl1 + p.ol))).cell? ⟨w.heap.size, 1, none⟩ = some (.bool false) := d 1 _ rfl; have d2 : ((((((wc.setCell ⟨w.heap.size, 0, none⟩ (.int .i64 p.au)).setCell ⟨w.heap.size, 1, none⟩ (.bool false)).setCell ⟨w.heap.size, 2, none⟩ (.int .i64 p.ol)).setCell ⟨w.heap.size, 3, none⟩ (.int .i64 p.bl)).setCell ⟨w.heap.size, 4, none⟩ (.int .i64 (pl0 + p.oh))).setCell ⟨w.heap.size, 5, none⟩ (.int .i64 (pl1 + p.ol))).cell? ⟨w.heap.size, 2, none⟩ = some (.int .i64 p.ol) := d 2 _ rfl; have d3 : ((((((wc.setCell ⟨w.heap.size, 0, none⟩ (.int .i64 p.au)).setCell ⟨w.heap.size, 1, none⟩ (.bool false)).setCell ⟨w.heap.size, 2, none⟩ (.int .i64 p.ol)).setCell ⟨w.heap.size, 3, none⟩ (.int .i64 p.bl)).setCell ⟨w.heap.size, 4, none⟩ (.int .i64 (pl0 + p.oh))).setCell ⟨w.heap.size, 5, none⟩ (.int .i64 (pl1 + p.ol))).cell? ⟨w.heap.size, 3, none⟩ = some (.int .i64 p.bl) := d 3 _ rfl; have d4 : ((((((wc.setCell ⟨w.heap.size, 0, none⟩ (.int .i64 p.au)).setCell ⟨w.heap.size, 1, none⟩ (.bool false)).setCell ⟨w.heap.size, 2, none⟩ (.int .i64 p.ol)).setCell ⟨w.heap.size, 3, none⟩ (.int .i64 p.bl)).setCell ⟨w.heap.size, 4, none⟩ (.int .i64 (pl0 + p.oh))).setCell ⟨w.heap.size, 5, none⟩ (.int .i64 (pl1 + p.ol))).cell? ⟨w.heap.size, 4, none⟩ = some (.int .i64 (pl0 + p.oh)) := d 4 _ rfl; have d5 : ((((((wc.setCell ⟨w.heap.size, 0, none⟩ (.int .i64 p.au)).setCell ⟨w.heap.size, 1, none⟩ (.bool false)).setCell ⟨w.heap.size, 2, none⟩ (.int .i64 p.ol)).setCell ⟨w.heap.size, 3, none⟩ (.int .i64 p.bl)).setCell ⟨w.heap.size, 4, none⟩ (.int .i64 (pl0 + p.oh))).setCell ⟨w.heap.size, 5, none⟩ (.int .i64 (pl1 + p.ol))).cell? ⟨w.heap.size, 5, none⟩ = some (.int .i64 (pl1 + p.ol)) := d 5 _ rfl
     exact bodyPost_ret (v := .agg #[.int .i64 p.au, .bool false, .int .i64 p.ol, .int .i64 p.bl, .int .i64 (pl0 + p.oh), .int .i64 (pl1 + p.ol)]) (by simp [results, Tryz.results35, go_sem, d0, d1, d2, d3, d4, d5]) rfl ⟨by rw [HA2.out]; rfl, (by ((with_reducible repeat' first | exact .refl _ _ | exact HB2.out | refine .alloc ?_ ?_ _ | refine .setCell ?_ ?_ _ | refine .drew ?_ | refine below_drewN ?_ _ | refine Below.trans ?_ (HB2.out.mono ?_)) <;> first | omega | simp <;> omega))⟩
    ·have hdb : decide ((k : Int) ∈ bad) = false := decide_eq_false hb
     have hA2 := HA.out
     rw [if_neg hb] at hA2
     have HA2 := hide hA2
     clear hb hA2
     go_wp2_with (go_at_call 36; (with_reducible refine (HL.out _).mono ?_); rintro e w' ⟨rfl, rfl⟩; rw [hdb])
     have d := stores_at (w.heap.size) [.int .i64 p.au, .bool false, .int .i64 (mx p.ol (pl0 + p.oh - at_)), .int .i64 p.bl, .int .i64 (pl0 + p.oh), .int .i64 (pl1 + p.ol)] 0 (wc) (ex6 v0 v1 v2 v3 v4 v5); have d0 : ((((((wc.setCell ⟨w.heap.size, 0, none⟩ (.int .i64 p.au)).setCell ⟨w.heap.size, 1, none⟩ (.bool false)).setCell ⟨w.heap.size, 2, none⟩ (.int .i64 (mx p.ol (pl0 + p.oh - at_)))).setCell ⟨w.heap.size, 3, none⟩ (.int .i64 p.bl)).setCell ⟨w.heap.size, 4, none⟩ (.int .i64 (pl0 + p.oh))).setCell ⟨w.heap.size, 5, none⟩ (.int .i64 (pl1 + p.ol))).cell? ⟨w.heap.size, 0, none⟩ = some (.int .i64 p.au) := d 0 _ rfl; have d1 : ((((((wc.setCell ⟨w.heap.size, 0, none⟩ (.int .i64 p.au)).setCell ⟨w.heap.size, 1, none⟩ (.bool false)).setCell ⟨w.heap.size, 2, none⟩ (.int .i64 (mx p.ol (pl0 + p.oh - at_)))).setCell ⟨w.heap.size, 3, none⟩ (.int .i64 p.bl)).setCell ⟨w.heap.size, 4, none⟩ (.int .i64 (pl0 + p.oh))).setCell ⟨w.heap.size, 5, none⟩ (.int .i64 (pl1 + p.ol))).cell? ⟨w.heap.size, 1, none⟩ = some (.bool false) := d 1 _ rfl; have d2 : ((((((wc.setCell ⟨w.heap.size, 0, none⟩ (.int .i64 p.au)).setCell ⟨w.heap.size, 1, none⟩ (.bool false)).setCell ⟨w.heap.size, 2, none⟩ (.int .i64 (mx p.ol (pl0 + p.oh - at_)))).setCell ⟨w.heap.size, 3, none⟩ (.int .i64 p.bl)).setCell ⟨w.heap.size, 4, none⟩ (.int .i64 (pl0 + p.oh))).setCell ⟨w.heap.size, 5, none⟩ (.int .i64 (pl1 + p.ol))).cell? ⟨w.heap.size, 2, none⟩ = some (.int .i64 (mx p.ol (pl0 + p.oh - at_))) := d 2 _ rfl; have d3 : ((((((wc.setCell ⟨w.heap.size, 0, none⟩ (.int .i64 p.au)).setCell ⟨w.heap.size, 1, none⟩ (.bool false)).setCell ⟨w.heap.size, 2, none⟩ (.int .i64 (mx p.ol (pl0 + p.oh - at_)))).setCell ⟨w.heap.size, 3, none⟩ (.int .i64 p.bl)).setCell ⟨w.heap.size, 4, none⟩ (.int .i64 (pl0 + p.oh))).setCell ⟨w.heap.size, 5, none⟩ (.int .i64 (pl1 + p.ol))).cell? ⟨w.heap.size, 3, none⟩ = some (.int .i64 p.bl) := d 3 _ rfl; have d4 : ((((((wc.setCell ⟨w.heap.size, 0, none⟩ (.int .i64 p.au)).setCell ⟨w.heap.size, 1, none⟩ (.bool false)).setCell ⟨w.heap.size, 2, none⟩ (.int .i64 (mx p.ol (pl0 + p.oh - at_)))).setCell ⟨w.heap.size, 3, none⟩ (.int .i64 p.bl)).setCell ⟨w.heap.size, 4, none⟩ (.int .i64 (pl0 + p.oh))).setCell ⟨w.heap.size, 5, none⟩ (.int .i64 (pl1 + p.ol))).cell? ⟨w.heap.size, 4, none⟩ = some (.int .i64 (pl0 + p.oh)) := d 4 _ rfl; have d5 : ((((((wc.setCell ⟨w.heap.size, 0, none⟩ (.int .i64 p.au)).setCell ⟨w.heap.size, 1, none⟩ (.bool false)).setCell ⟨w.heap.size, 2, none⟩ (.int .i64 (mx p.ol (pl0 + p.oh - at_)))).setCell ⟨w.heap.size, 3, none⟩ (.int .i64 p.bl)).setCell ⟨w.heap.size, 4, none⟩ (.int .i64 (pl0 + p.oh))).setCell ⟨w.heap.size, 5, none⟩ (.int .i64 (pl1 + p.ol))).cell? ⟨w.heap.size, 5, none⟩ = some (.int .i64 (pl1 + p.ol)) := d 5 _ rfl
     exact bodyPost_ret (v := .agg #[.int .i64 p.au, .bool false, .int .i64 (mx p.ol (pl0 + p.oh - at_)), .int .i64 p.bl, .int .i64 (pl0 + p.oh), .int .i64 (pl1 + p.ol)]) (by simp [results, Tryz.results35, go_sem, d0, d1, d2, d3, d4, d5]) rfl ⟨by rw [HA2.out]; rfl, (by ((with_reducible repeat' first | exact .refl _ _ | exact HB2.out | refine .alloc ?_ ?_ _ | refine .setCell ?_ ?_ _ | refine .drew ?_ | refine below_drewN ?_ _ | refine Below.trans ?_ (HB2.out.mono ?_)) <;> first | omega | simp <;> omega))⟩
set_option maxRecDepth 100000 in
set_option maxHeartbeats 400000 in
theorem Worst2_any (a : An) (w : World) : Calls Tryz.prog 38 #[valA a] w fun e w' => e = .returned (.bool (decide (3000000000000000 < a.hi))) ∧ Below w.heap.size w w' := by
 unfold valA
 go_enter Tryz.func38, Tryz.ntmps38
 go_wp2
 go_ret
 exact ⟨rfl, (by ((with_reducible repeat' first | exact .refl _ _ | refine .alloc ?_ ?_ _ | refine .setCell ?_ ?_ _ | refine .drew ?_ | refine below_drewN ?_ _) <;> first | omega | simp <;> omega))⟩
theorem lateB_true (l : List An) {k : Nat} (h : 3000000000000000 < (anAt l k).hi) {n : Nat} (hn : k < n) : lateB l n = true := (lateB_iff l n).2 ⟨k, hn, h⟩
set_option maxRecDepth 100000 in
set_option maxHeartbeats 1000000 in
theorem IndexFuncAn_any (v : Value) (l : List An) (w : World) (hv : AnRow w v l) :
  Calls Tryz.prog 88 #[v, .func (.func 38) #[] #[]] w fun e w' => (∃ r : Int, e = .returned (.int .i64 r) ∧ (r < 0 ∧ lateB l l.length = false ∨ 0 ≤ r ∧ lateB l l.length = true)) ∧ Below w.heap.size w w' := by
 have Hv := hide hv
 obtain ⟨a, cap, rfl, h1, h2⟩ := hv.len
 clear hv
 go_enter Tryz.func88, Tryz.ntmps88
 go_wp2
 go_loopw [8] (fun i wr => ∃ k : Nat, k ≤ l.length ∧ i = .int .i64 k ∧ Hid (lateB l k = false) ∧ Below w.heap.size w wr) (fun i _ => l.length - (intOf i).toNat)
 case atStart => exact ⟨0, Nat.zero_le _, rfl, hide rfl, Below.refl _ _⟩
 case round =>
  obtain ⟨k, hk, rfl, Hall, hB⟩ := hrel
  by_cases hlt : k < l.length
  ·obtain ⟨b, off, cap', e, -, -, h4, h5⟩ := Hv.out.at0 (by omega)
   cases e
   have hsd := (h5 k hlt).of (bk hB b h4).1
   have hnx : lateB l (k + 1) = (lateB l k || decide (3000000000000000 < (anAt l k).hi)) := rfl
   have hno : 3000000000000000 < (anAt l k).hi → ∀ n, k < n → lateB l n = true := fun h n hn => lateB_true l h hn
   have I1 : (0 : Int) ≤ (k : Int) := by omega
   have I2 : (k : Int) < (l.length : Int) := by omega
   generalize anAt l k = s at *
   have hU := fun W => Worst2_any s W
   unfold valA at hU
   have HU := hide hU
   obtain ⟨a0, a1, a2, a3, a4, a5⟩ := hsd
   have hz := hB.size
   clear h5 hU
   by_cases hval : 3000000000000000 < s.hi
   ·have hd : decide (3000000000000000 < s.hi) = true := decide_eq_true hval
    have Hno := hide (hno hval)
    clear hno hnx hval
    go_wp2_with (go_at_call 38; refine (HU.out _).mono ?_; rintro e w' ⟨rfl, hb⟩; rw [hd])
    go_ret
    exact ⟨⟨_, rfl, .inr ⟨by omega, Hno.out _ hlt⟩⟩, (by ((with_reducible repeat' first | exact .refl _ _ | exact hB | exact hb | refine .alloc ?_ ?_ _ | refine .setCell ?_ ?_ _ | refine .drew ?_ | refine below_drewN ?_ _ | refine Below.trans ?_ (hB.mono ?_) | refine Below.trans ?_ (hb.mono ?_)) <;> first | omega | simp <;> omega))⟩
   ·have hd : decide (3000000000000000 < s.hi) = false := decide_eq_false hval
    rw [hd, Bool.or_false] at hnx
    have Hnx := hide hnx
    clear hno hnx hval
    go_wp2_with (go_at_call 38; refine (HU.out _).mono ?_; rintro e w' ⟨rfl, hb⟩; rw [hd])
    go_roundw
    case rel => exact ⟨k + 1, by omega, by go_num, hide (by rw [Hnx.out]; exact Hall.out), (by ((with_reducible repeat' first | exact .refl _ _ | exact hB | exact hb | refine .alloc ?_ ?_ _ | refine .setCell ?_ ?_ _ | refine .drew ?_ | refine below_drewN ?_ _ | refine Below.trans ?_ (hB.mono ?_) | refine Below.trans ?_ (hb.mono ?_)) <;> first | omega | simp <;> omega))⟩
    case measure => simp [intOf]; omega
  ·go_wp2_with fail
   go_ret
   exact ⟨⟨_, rfl, .inl ⟨by omega, by rw [← Hall.out, show k = l.length by omega]⟩⟩, hB⟩
set_option maxRecDepth 100000 in
set_option maxHeartbeats 400000 in
theorem ContainsFuncAn_any (v : Value) (l : List An) (w : World) (hv : AnRow w v l) :
  Calls Tryz.prog 39 #[v, .func (.func 38) #[] #[]] w fun e w' => e = .returned (.bool (lateB l l.length)) ∧ Below w.heap.size w w' := by
 have Hv := hide hv
 obtain ⟨a, cap, rfl, h1, h2⟩ := hv.len
 clear hv
 go_enter Tryz.func39, Tryz.ntmps39
 go_wp2_with (go_at_call 88; refine (IndexFuncAn_any _ l _ Hv.out).mono ?_; rintro e w' ⟨⟨r, rfl, hr⟩, hb⟩)
 go_ret
 refine ⟨ret_bool ?_, hb⟩
 rcases hr with ⟨h1, h2⟩ | ⟨h1, h2⟩ <;> simp [h2] <;> omega
end Go.Proofs.YtigjljmhpkeahaaGreat
