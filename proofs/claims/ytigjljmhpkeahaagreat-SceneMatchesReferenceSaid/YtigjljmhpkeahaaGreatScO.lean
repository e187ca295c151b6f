
/- Package scene, the reference: Allowed. -/
import Derived.Test.YtigjljmhpkeahaaGreatScN
import Derived.Test.YtigjljmhpkeahaaGreatScI
namespace Go.Proofs.YtigjljmhpkeahaaGreat
open Go.RowKit

theorem al_bent {s : Si} {x : Sc} {k : Nat} (hk : k < x.an.length) (h : isBent s.ps x.use x.an k = true) : alB s x = false := by
 unfold alB
 rw [show decide (cntTo (isBent s.ps x.use x.an) x.an.length = 0) = false from decide_eq_false fun h0 => by rw [cnt_zero h0 k hk] at h; cases h]
 simp
theorem al_end {s : Si} {x : Sc} (h : cntTo (isBent s.ps x.use x.an) x.an.length = 0) : alB s x = (decide ((cntTo (isLost x.an) x.an.length : Int) ≤ s.lo) && decide ((cntTo (isLie s.ps x.use x.at_ x.an) x.an.length : Int) ≤ s.f)) := by
 unfold alB
 rw [h]
 simp
def AnBox (V : World) (q : Nat) (a : An) : Prop := AnAt V q 0 a ∧ q < V.heap.size
theorem AnBox.of {V W : World} {q : Nat} {a : An} (h : AnBox V q a) (hB : Below V.heap.size V W) : AnBox W q a := ⟨h.1.of (bk hB q h.2).1, Nat.lt_of_lt_of_le h.2 hB.size⟩
theorem AnBox.made (W : World) (T : TypeId) (a : An) : AnBox (W.alloc (.cells #[.int .i64 a.au, .bool a.ls, .int .i64 a.ou, .int .i64 a.bk, .int .i64 a.lo, .int .i64 a.hi] T)) W.heap.size a := by
 refine ⟨⟨?_, ?_, ?_, ?_, ?_, ?_⟩, ?_⟩ <;> simp [go_sem]
set_option maxRecDepth 100000 in
set_option maxHeartbeats 1500000 in
theorem R32Allowed_any (r f lo tm : Int) (pv : Value) (ps : List Pr) (uv : Value) (use : List Int) (ev at_ : Int) (av : Value) (an : List An) (ct : Int) (w : World) (hp : PrRow w pv ps) (hu : IsRow w uv use) (ha : AnRow w av an) (hun : use.length ≤ 1000000) :
  Calls Tryz.prog 18 #[.agg #[.int .i64 r, .int .i64 f, .int .i64 lo, .int .i64 tm, pv], .agg #[uv, .int .i64 ev, .int .i64 at_, av, .int .i64 ct]] w (AllPost w ⟨r, f, lo, tm, ps⟩ ⟨use, ev, at_, an, ct⟩) := by
 have hR : ∀ W : World, Below w.heap.size w W → PrRow W pv ps ∧ IsRow W uv use ∧ AnRow W av an := fun W hW => ⟨hp.below (Nat.le_refl _) hW, hu.below (Nat.le_refl _) hW, ha.below (Nat.le_refl _) hW⟩
 have HR := hide hR
 obtain ⟨pa, pc, rfl, pq1, pq2⟩ := hp.len
 obtain ⟨ua, uc, rfl, vq1, vq2, -⟩ := id hu
 obtain ⟨aa, ac, rfl, aq1, aq2⟩ := ha.len
 obtain ⟨W0, hW0⟩ : ∃ W : World, W = (w.alloc (.cells #[.int .i64 r, .int .i64 f, .int .i64 lo, .int .i64 tm, .slice pa ps.length pc] 24)).alloc (.cells #[.slice ua use.length uc, .int .i64 ev, .int .i64 at_, .slice aa an.length ac, .int .i64 ct] 30) := ⟨_, rfl⟩
 have hS : ∀ V : World, Below (w.heap.size + 2) W0 V → ScBox V w.heap.size r f lo tm (.slice pa ps.length pc) (.slice ua use.length uc) ev at_ (.slice aa an.length ac) ct ∧ w.heap.size + 2 ≤ V.heap.size ∧ Below w.heap.size w V := by
  intro V hV
  have bW : Below w.heap.size w W0 := by rw [hW0]; ((with_reducible repeat' first | exact .refl _ _ | refine .alloc ?_ ?_ _ | refine .setCell ?_ ?_ _ | refine .drew ?_ | refine below_drewN ?_ _) <;> first | omega | simp <;> omega)
  have zW : W0.heap.size = w.heap.size + 2 := by rw [hW0]; simp
  have hz := hV.size
  refine ⟨ScBox.of (V := W0) ?_ hV, by omega, bW.trans (hV.mono (by omega))⟩
  rw [hW0]
  exact ScBox.made _ _ _ _ _ _ _ _ _ _ _ _ _
 have HS := hide hS
 clear hR hS hp hu ha
 unfold AllPost
 cases hfit : fitB ⟨r, f, lo, tm, ps⟩ ⟨use, ev, at_, an, ct⟩ with
 | false =>
  rw [Bool.false_and, if_neg (by simp)]
  go_enter Tryz.func18, Tryz.ntmps18
  go_upto_region 1 with fail
  rw [← hW0]
  clear hW0
  have B0 : Below (w.heap.size + 2) W0 W0 := Below.refl _ _
  obtain ⟨⟨⟨y0, y1, y2, y3, y4⟩, x0, x1, x2, x3, x4⟩, z0, b0⟩ := HS.out W0 B0
  go_wp2_with (go_at_call 27; (with_reducible refine (R32Fits_any r f lo tm _ ps _ use ev at_ _ an ct _ (HR.out _ b0).1 (HR.out _ b0).2.1 (HR.out _ b0).2.2 hun).mono ?_); rintro e w1 ⟨rfl, k1⟩; rw [hfit]; have B1 : Below (w.heap.size + 2) W0 w1 := B0.trans (k1.mono z0); clear y0 y1 y2 y3 y4 x0 x1 x2 x3 x4 z0 b0; clear k1; obtain ⟨⟨⟨y0, y1, y2, y3, y4⟩, x0, x1, x2, x3, x4⟩, z0, b0⟩ := HS.out w1 B1)
  go_ret2
  exact ⟨rfl, b0⟩
 | true =>
  rw [Bool.true_and, if_pos rfl]
  have hle := fit_len hfit
  obtain ⟨hrg, htm, -, hlen, hft⟩ := (fitB_iff _ _).1 hfit
  have hpr := fun (j : Nat) (hj : j < use.length) => (prB_iff _ _ _).1 (rg_pr hrg hj)
  have hin := ((rgB_iff _ _ _).1 hrg).2.2.1
  have hbe := fun (k : Nat) (h1 : k < an.length) => al_bent (s := ⟨r, f, lo, tm, ps⟩) (x := ⟨use, ev, at_, an, ct⟩) (k := k) h1
  have hen := al_end (s := ⟨r, f, lo, tm, ps⟩) (x := ⟨use, ev, at_, an, ct⟩)
  simp only at hle hlen hft hpr hin hbe hen htm
  generalize alB ⟨r, f, lo, tm, ps⟩ ⟨use, ev, at_, an, ct⟩ = R at *
  have HF := hide (And.intro hlen (And.intro hft (And.intro hpr (And.intro hin (And.intro hbe (And.intro hen htm))))))
  clear hrg htm hlen hft hpr hin hbe hen
  go_enter Tryz.func18, Tryz.ntmps18
  go_upto_region 1 with fail
  rw [← hW0]
  clear hW0
  have B0 : Below (w.heap.size + 2) W0 W0 := Below.refl _ _
  obtain ⟨⟨⟨y0, y1, y2, y3, y4⟩, x0, x1, x2, x3, x4⟩, z0, b0⟩ := HS.out W0 B0
  go_upto_region 4 with (go_at_call 27; (with_reducible refine (R32Fits_any r f lo tm _ ps _ use ev at_ _ an ct _ (HR.out _ b0).1 (HR.out _ b0).2.1 (HR.out _ b0).2.2 hun).mono ?_); rintro e w1 ⟨rfl, k1⟩; rw [hfit]; have B1 : Below (w.heap.size + 2) W0 w1 := B0.trans (k1.mono z0); clear y0 y1 y2 y3 y4 x0 x1 x2 x3 x4 z0 b0; clear k1; obtain ⟨⟨⟨y0, y1, y2, y3, y4⟩, x0, x1, x2, x3, x4⟩, z0, b0⟩ := HS.out w1 B1)
  go_wp2_with fail
  clear y0 y1 y2 y3 y4 x0 x1 x2 x3 x4 z0 b0
  go_loopw [7, 8, 9] (fun s7 s8 s9 wx => ∃ k : Nat, k ≤ an.length ∧ s7 = .int .i64 (cntTo (isLost an) k) ∧ s8 = .int .i64 (cntTo (isLie ps use at_ an) k) ∧ s9 = .int .i64 k ∧ Hid (cntTo (isBent ps use an) k = 0) ∧ Below (w.heap.size + 2) W0 wx) (fun _ _ s9 _ => an.length - (intOf s9).toNat)
  case atStart => exact ⟨0, Nat.zero_le _, rfl, rfl, rfl, hide rfl, B1⟩
  case round =>
   obtain ⟨k, hk, rfl, rfl, rfl, Hb, hB⟩ := hrel
   have n1 : cntTo (isLost an) (k + 1) = if isLost an k = true then cntTo (isLost an) k + 1 else cntTo (isLost an) k := by rw [cntTo]; split <;> rfl
   have n2 : cntTo (isLie ps use at_ an) (k + 1) = if isLie ps use at_ an k = true then cntTo (isLie ps use at_ an) k + 1 else cntTo (isLie ps use at_ an) k := by rw [cntTo]; split <;> rfl
   have n3 : cntTo (isBent ps use an) (k + 1) = if isBent ps use an k = true then cntTo (isBent ps use an) k + 1 else cntTo (isBent ps use an) k := by rw [cntTo]; split <;> rfl
   have l1 := cnt_le (isLost an) k
   have l2 := cnt_le (isLie ps use at_ an) k
   by_cases hlt : k < an.length
   ·have hku : k < use.length := by have := HF.out.1; omega
    have hbe := HF.out.2.2.2.2.1 k hlt
    have hft := HF.out.2.1 k hlt
    have hpr := HF.out.2.2.1 k hku
    have hin := HF.out.2.2.2.1 k hku
    have htm := HF.out.2.2.2.2.2.2
    have d1 : isLost an k = (anAt an k).ls := rfl
    have d2 : isLie ps use at_ an k = (!(anAt an k).ls && !hnOk (anAt an k) (pu ps use k) at_) := rfl
    have d3 : isBent ps use an k = (!(anAt an k).ls && !dlOk (anAt an k) (pu ps use k)) := rfl
    rw [d1] at n1
    rw [d2] at n2
    rw [d3] at n3 hbe
    generalize cntTo (isLost an) k = c1 at *
    generalize cntTo (isLie ps use at_ an) k = c2 at *
    generalize cntTo (isBent ps use an) k = c3 at *
    generalize he1 : cntTo (isLost an) (k + 1) = e1 at *
    generalize he2 : cntTo (isLie ps use at_ an) (k + 1) = e2 at *
    generalize hc3 : cntTo (isBent ps use an) (k + 1) = e3 at *
    obtain ⟨⟨⟨y0, y1, y2, y3, y4⟩, x0, x1, x2, x3, x4⟩, z0, b0⟩ := HS.out wr hB
    obtain ⟨ub, uo, uc', hue, -, -, hub, -, huc⟩ := (HR.out _ b0).2.1.at0 (by omega)
    cases hue
    obtain ⟨pb, po, pc', hpe, -, -, hpb, hpc⟩ := (HR.out _ b0).1.at0 (by omega)
    cases hpe
    obtain ⟨ab, ao, ac', hae, -, -, hab, hac⟩ := (HR.out _ b0).2.2.at0 (by omega)
    cases hae
    have hu0 := huc k hku
    obtain ⟨q, hq⟩ : ∃ q : Nat, iAt use k = q := ⟨(iAt use k).toNat, by omega⟩
    have hP : pu ps use k = pAt ps q := by unfold pu; rw [hq]; rfl
    rw [hq] at hu0 hin
    have hql : q < ps.length := by omega
    obtain ⟨p0, p1, p2, p3, p4, p5, p6, p7⟩ := hpc q hql
    obtain ⟨a0, a1, a2, a3, a4, a5⟩ := hac k hlt
    rw [hP] at n2 n3 hbe hft hpr
    generalize pAt ps q = p at *
    generalize anAt an k = a at *
    have I1 : (0 : Int) ≤ (q : Int) := by omega
    have I2 : (q : Int) < (ps.length : Int) := by omega
    have I3 : (0 : Int) ≤ (k : Int) := by omega
    have I4 : (k : Int) < (use.length : Int) := by omega
    have I5 : (k : Int) < (an.length : Int) := by omega
    have wr1 : IntKind.i64.wrap ((c1 : Int) + 1) = (c1 : Int) + 1 := IntWalk.i64_in _ (by omega)
    have wr2 : IntKind.i64.wrap ((c2 : Int) + 1) = (c2 : Int) + 1 := IntWalk.i64_in _ (by omega)
    have z1 : w.heap.size < wr.heap.size := by omega
    have z2 : w.heap.size + 1 < wr.heap.size := by omega
    have HN := hide (And.intro n1 (And.intro n2 (And.intro n3 (And.intro hbe (And.intro hft (And.intro hpr htm))))))
    have Hc3 := hide (And.intro he1 (And.intro he2 hc3))
    clear n1 n2 n3 hbe hft hpr htm d1 d2 d3 hin hq hP huc hpc hac hc3 he1 he2
    go_upto_region 10 with fail
    obtain ⟨W1, hW1⟩ : ∃ W : World, W = wr.alloc (.cells #[.int .i64 a.au, .bool a.ls, .int .i64 a.ou, .int .i64 a.bk, .int .i64 a.lo, .int .i64 a.hi] 59) := ⟨_, rfl⟩
    rw [← hW1]
    have hA1 : AnBox W1 wr.heap.size a := by rw [hW1]; exact AnBox.made _ _ _
    have bW1 : Below wr.heap.size wr W1 := by rw [hW1]; ((with_reducible repeat' first | exact .refl _ _ | refine .alloc ?_ ?_ _ | refine .setCell ?_ ?_ _ | refine .drew ?_ | refine below_drewN ?_ _) <;> first | omega | simp <;> omega)
    have kp : ∀ {b o : Nat} {u : Value}, wr.cell? ⟨b, o, none⟩ = some u → W1.cell? ⟨b, o, none⟩ = some u := fun {b o u} e => ((bk bW1 b (World.block_lt_of_cell? _ _ e)).1 o).trans e
    replace y4 := kp y4
    replace x0 := kp x0
    replace hu0 := kp hu0
    replace p0 := kp p0
    replace p1 := kp p1
    replace p2 := kp p2
    replace p3 := kp p3
    replace p4 := kp p4
    replace p5 := kp p5
    replace p6 := kp p6
    replace p7 := kp p7
    have zW1 := bW1.size
    have sz1 : w.heap.size < W1.heap.size := by omega
    have sz2 : w.heap.size + 1 < W1.heap.size := by omega
    have szp : pb < W1.heap.size := by omega
    have szu : ub < W1.heap.size := by omega
    have HA1 := hide hA1
    have HB1 := hide (hB.trans (bW1.mono z0) : Below (w.heap.size + 2) W0 W1)
    have HzW := hide zW1
    have Hz0 := hide z0
    clear hW1 hA1 bW1 kp y0 y1 y2 y3 x1 x2 x3 x4 b0 z0 a0 a1 a2 a3 a4 a5 hpb hub hab z1 z2 zW1 hB
    go_cut [11] (fun s11 wx => ∃ g, s11 = .pointer (some ⟨g, 0, none⟩) ∧ PrBox wx g p ∧ Below W1.heap.size W1 wx ∧ W1.heap.size ≤ g)
    case first =>
     go_region_with fail
     all_goals go_wp2
     all_goals go_meet
     all_goals exact ⟨_, rfl, PrBox.made _ _ _, (by ((with_reducible repeat' first | exact .refl _ _ | refine .alloc ?_ ?_ _ | refine .setCell ?_ ?_ _ | refine .drew ?_ | refine below_drewN ?_ _) <;> first | omega | simp <;> omega)), Nat.le_refl _⟩
    case rest =>
     obtain ⟨g, rfl, hbx, Bc, hg0⟩ := hcut
     have hQ : ∀ V : World, Below wc.heap.size wc V → AnBox V wr.heap.size a ∧ PrBox V g p ∧ Below (w.heap.size + 2) W0 V := fun V hV =>
      ⟨HA1.out.of (Bc.trans (hV.mono Bc.size)), hbx.of hV, HB1.out.trans ((Bc.trans (hV.mono Bc.size)).mono (by have := HzW.out; have := Hz0.out; omega))⟩
     have HQ := hide hQ
     clear hQ hbx hg0 Bc y4 x0 hu0 p0 p1 p2 p3 p4 p5 p6 p7 szp szu sz1 sz2
     obtain ⟨⟨⟨a0, a1, a2, a3, a4, a5⟩, za⟩, ⟨⟨q0, q1, q2, q3, q4, q5, q6, q7⟩, zg⟩, hB2⟩ := HQ.out wc (Below.refl _ _)
     simp only [Nat.zero_add] at a0 a1 a2 a3 a4 a5
     obtain ⟨⟨⟨y0, y1, y2, y3, y4⟩, x0, x1, x2, x3, x4⟩, z0, b0⟩ := HS.out wc hB2
     cases hls : a.ls with
     | true =>
      rw [hls] at a1
      have hh := HN.out
      rw [hls] at hh
      have HE : Hid (e1 = c1 + 1 ∧ e2 = c2 ∧ e3 = c3) := hide ⟨by rw [hh.1, if_pos rfl], by rw [hh.2.1, if_neg (by simp)], by rw [hh.2.2.1, if_neg (by simp)]⟩
      clear hh
      go_wp2_with fail
      go_roundw
      case rel => exact ⟨k + 1, by omega, by rw [Hc3.out.1, HE.out.1]; go_num, by rw [Hc3.out.2.1, HE.out.2.1], by go_num, hide (by rw [Hc3.out.2.2, HE.out.2.2]; exact Hb.out), hB2⟩
      case measure => simp [intOf]; omega
     | false =>
      rw [hls] at a1
      have hh := HN.out
      rw [hls] at hh
      simp only [Bool.not_false, Bool.true_and] at hh
      obtain ⟨n1, n2, n3, hbe, hft, hpr, htm⟩ := hh
      rw [if_neg (by simp)] at n1
      have hfa := (anFit_no hls).1 hft
      have hS2 := fun W => R10Sent_any p.at_ p.ol p.oh p.bl p.bh a.lo a.hi W
      have hdl := dlOk_eq a p
      have heE : snEr p.ol p.oh p.bl p.bh a.lo a.hi = anSnE a p := rfl
      rw [heE] at hS2
      generalize snLo p.ol p.oh p.bl p.bh a.lo a.hi = X at *
      generalize snHi p.ol p.oh p.bl p.bh a.lo a.hi = Y at *
      have hT2 := fun W => R32True_any a p at_ W htm hfa.2.1 (by omega) (by omega) (by omega)
      unfold valA valP at hT2
      rw [hls] at hT2
      have HS2 := hide hS2
      have HT2 := hide hT2
      generalize anSnE a p = E at *
      clear hS2 hT2 heE hft hfa hpr htm
      by_cases hd : dlOk a p = true
      ·rw [hd] at n3 hbe hdl
       have hD := hdl.symm
       simp only [Bool.and_eq_true, decide_eq_true_eq, inB] at hD
       obtain ⟨rfl, hD1, hD2⟩ := hD
       have t2 : decide (a.ou < p.ol) = false := decide_eq_false (by omega)
       have t3 : decide (p.oh < a.ou) = false := decide_eq_false (by omega)
       have t4 : decide (a.bk < p.bl) = false := decide_eq_false (by omega)
       have t5 : decide (p.bh < a.bk) = false := decide_eq_false (by omega)
       have n3' : e3 = c3 := by rw [n3, if_neg (by simp)]
       have HE := hide (And.intro n1 (And.intro n2 n3'))
       clear hdl hbe n1 n2 n3 n3' hD1 hD2 hd
       cases hv : hnOk a p at_
       all_goals
        rw [hv] at HE HT2
        go_wp2_with (first | (go_at_call 54; (with_reducible refine (HS2.out _).mono ?_); rintro e w2 ⟨rfl, k2⟩; clear a0 a1 a2 a3 a4 a5 za q0 q1 q2 q3 q4 q5 q6 q7 zg hB2 y0 y1 y2 y3 y4 x0 x1 x2 x3 x4 z0 b0; obtain ⟨⟨⟨a0, a1, a2, a3, a4, a5⟩, za⟩, ⟨⟨q0, q1, q2, q3, q4, q5, q6, q7⟩, zg⟩, hB2⟩ := HQ.out w2 k2; simp only [Nat.zero_add] at a0 a1 a2 a3 a4 a5; rw [hls] at a1; obtain ⟨⟨⟨y0, y1, y2, y3, y4⟩, x0, x1, x2, x3, x4⟩, z0, b0⟩ := HS.out w2 hB2; have z1 : w.heap.size < w2.heap.size := (by omega); have z2 : w.heap.size + 1 < w2.heap.size := (by omega)) | (go_at_call 55; (with_reducible refine (HT2.out _).mono ?_); rintro e w3 ⟨rfl, k3⟩))
        have hB3 : Below (w.heap.size + 2) W0 w3 := (by ((with_reducible repeat' first | exact .refl _ _ | exact hB2 | exact k3 | refine .alloc ?_ ?_ _ | refine .setCell ?_ ?_ _ | refine .drew ?_ | refine below_drewN ?_ _ | refine Below.trans ?_ (hB2.mono ?_) | refine Below.trans ?_ (k3.mono ?_)) <;> first | omega | simp <;> omega))
        have H3 := hide hB3
        clear hB3 k3 k2 hB2
        go_roundw
        case rel => exact ⟨k + 1, by omega, by rw [Hc3.out.1, HE.out.1], by rw [Hc3.out.2.1, HE.out.2.1]; simp, by go_num, hide (by rw [Hc3.out.2.2, HE.out.2.2]; exact Hb.out), H3.out⟩
        case measure => simp [intOf]; omega
      ·have hdf : dlOk a p = false := by simpa using hd
       rw [hdf] at hdl hbe
       have hR := hbe rfl
       subst hR
       have hD : E ≠ 0 ∨ (E = 0 ∧ (a.ou < p.ol ∨ (¬ a.ou < p.ol ∧ p.oh < a.ou) ∨ (¬ a.ou < p.ol ∧ ¬ p.oh < a.ou ∧ a.bk < p.bl) ∨ (¬ a.ou < p.ol ∧ ¬ p.oh < a.ou ∧ ¬ a.bk < p.bl ∧ p.bh < a.bk))) := by
        by_cases h : E = 0
        ·refine .inr ⟨h, ?_⟩
         rw [h] at hdl
         simp only [inB, decide_true, Bool.true_and] at hdl
         have := hdl.symm
         rw [Bool.and_eq_false_iff, decide_eq_false_iff_not, decide_eq_false_iff_not] at this
         omega
        ·exact .inl h
       clear hdl hbe n1 n2 n3 hd hdf
       rcases hD with h0 | ⟨rfl, h0 | ⟨h0, h1⟩ | ⟨h0, h1, h2⟩ | ⟨h0, h1, h2, h3⟩⟩
       ·have t1 : (E != 0) = true := by rw [bne_iff_ne]; exact h0
        clear h0
        go_wp2_with (go_at_call 54; (with_reducible refine (HS2.out _).mono ?_); rintro e w2 ⟨rfl, k2⟩; clear a0 a1 a2 a3 a4 a5 za q0 q1 q2 q3 q4 q5 q6 q7 zg hB2 y0 y1 y2 y3 y4 x0 x1 x2 x3 x4 z0 b0; obtain ⟨-, -, hB2⟩ := HQ.out w2 k2; obtain ⟨-, z0, b0⟩ := HS.out w2 hB2)
        go_ret2
        exact ⟨rfl, (by ((with_reducible repeat' first | exact .refl _ _ | exact b0 | refine .alloc ?_ ?_ _ | refine .setCell ?_ ?_ _ | refine .drew ?_ | refine below_drewN ?_ _ | refine Below.trans ?_ (b0.mono ?_)) <;> first | omega | simp <;> omega))⟩
       all_goals
        go_wp2_with (go_at_call 54; (with_reducible refine (HS2.out _).mono ?_); rintro e w2 ⟨rfl, k2⟩; clear a0 a1 a2 a3 a4 a5 za q0 q1 q2 q3 q4 q5 q6 q7 zg hB2 y0 y1 y2 y3 y4 x0 x1 x2 x3 x4 z0 b0; obtain ⟨⟨⟨a0, a1, a2, a3, a4, a5⟩, za⟩, ⟨⟨q0, q1, q2, q3, q4, q5, q6, q7⟩, zg⟩, hB2⟩ := HQ.out w2 k2; simp only [Nat.zero_add] at a0 a1 a2 a3 a4 a5; rw [hls] at a1; obtain ⟨-, z0, b0⟩ := HS.out w2 hB2)
        go_ret2
        exact ⟨rfl, (by ((with_reducible repeat' first | exact .refl _ _ | exact b0 | refine .alloc ?_ ?_ _ | refine .setCell ?_ ?_ _ | refine .drew ?_ | refine below_drewN ?_ _ | refine Below.trans ?_ (b0.mono ?_)) <;> first | omega | simp <;> omega))⟩
   ·obtain rfl : k = an.length := by omega
    obtain ⟨⟨⟨y0, y1, y2, y3, y4⟩, x0, x1, x2, x3, x4⟩, z0, b0⟩ := HS.out wr hB
    have hen := HF.out.2.2.2.2.2.1 Hb.out
    clear n1 n2 n3 HF
    generalize cntTo (isLost an) an.length = c1 at *
    generalize cntTo (isLie ps use at_ an) an.length = c2 at *
    by_cases h1 : (c1 : Int) ≤ lo
    ·have d1 : decide ((c1 : Int) ≤ lo) = true := decide_eq_true h1
     have Hen := hide hen
     clear h1 hen
     go_wp2_with fail
     go_ret2
     exact ⟨by rw [Hen.out, d1]; rfl, b0⟩
    ·have d1 : decide ((c1 : Int) ≤ lo) = false := decide_eq_false h1
     have Hen := hide hen
     clear h1 hen
     go_wp2_with fail
     go_ret2
     exact ⟨by rw [Hen.out, d1]; rfl, b0⟩
end Go.Proofs.YtigjljmhpkeahaaGreat
