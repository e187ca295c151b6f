
/- Parts PlR PlS PlT of the proof, joined. -/
import Derived.Test.YtigjljmhpkeahaaGreatGm
import Derived.Test.YtigjljmhpkeahaaGreatGi
import Derived.Test.YtigjljmhpkeahaaGreatGg
import Derived.Deep.DeepCutAuto
import Derived.Test.YtigjljmhpkeahaaGreatGk
/- The examples of chapter 30: plain values. -/
namespace Go.Proofs.YtigjljmhpkeahaaGreat
open Go.RowKit

def BxS (W : World) (g : Nat) (uv : Value) (l : List Int) (ev : Int) : Prop := W.cell? ⟨g, 0, none⟩ = some uv ∧ W.cell? ⟨g, 1, none⟩ = some (.int .i64 ev) ∧ IsRow W uv l ∧ g < W.heap.size
theorem BxS.below {w W : World} {g : Nat} {uv : Value} {l : List Int} {ev : Int} (h : BxS w g uv l ev) {B : Nat} (hB : w.heap.size ≤ B) (hb : Below B w W) : BxS W g uv l ev := by
 have h0 := (bk hb g (by have := h.2.2.2; omega)).1
 exact ⟨(h0 _).trans h.1, (h0 _).trans h.2.1, h.2.2.1.below hB hb, Nat.lt_of_lt_of_le h.2.2.2 hb.size⟩
theorem BxS.made {w : World} {uv : Value} {l : List Int} {ev : Int} {t : TypeId} (h : IsRow w uv l) : BxS (w.alloc (.cells #[uv, .int .i64 ev] t)) w.heap.size uv l ev := ⟨by simp, by simp, h.below (Nat.le_refl _) (by ((with_reducible repeat' first | exact .refl _ _ | refine .alloc ?_ ?_ _ | refine .setCell ?_ ?_ _ | refine .drew ?_ | refine below_drewN ?_ _) <;> first | omega | simp <;> omega)), by simp⟩
end Go.Proofs.YtigjljmhpkeahaaGreat
/- The reference of package plan: cost, Compare, Cheaper. -/
namespace Go.Proofs.YtigjljmhpkeahaaGreat
open Go.RowKit

set_option maxRecDepth 100000 in
set_option maxHeartbeats 1000000 in
theorem Rcost_any (r f lo tm : Int) (pv : Value) (ps : List Pr) (uv : Value) (use : List Int) (ev : Int) (w : World) (hp : PrRow w pv ps) (hu : IsRow w uv use) (hun : use.length ≤ 16) (hin : ∀ j, j < use.length → (0 ≤ iAt use j ∧ iAt use j < ps.length) ∧ 0 ≤ (pAt ps (iAt use j).toNat).co ∧ (pAt ps (iAt use j).toNat).co ≤ 1000000) :
  Calls Tryz.prog 212 #[.agg #[.int .i64 r, .int .i64 f, .int .i64 lo, .int .i64 tm, pv], .agg #[uv, .int .i64 ev]] w fun e w' => e = .returned (.int .i64 (costL ps use)) ∧ ∃ q os', w' = Sort.grow (w.drewN q) os' := by
 obtain ⟨pa, pc, rfl, q1, q2, q3⟩ := hp
 obtain ⟨ua, uc, rfl, u1, u2, u3⟩ := hu
 have hbd := costTo_bd (r := 0) (tm := 0) (fun j hj => (hin j hj).2)
 obtain ⟨W0, hW0⟩ : ∃ W : World, W = (w.alloc (.cells #[.int .i64 r, .int .i64 f, .int .i64 lo, .int .i64 tm, .slice pa ps.length pc] 24)).alloc (.cells #[.slice ua use.length uc, .int .i64 ev] 27) := ⟨_, rfl⟩
 have hb : Below w.heap.size w W0 := by rw [hW0]; ((with_reducible repeat' first | exact .refl _ _ | refine .alloc ?_ ?_ _ | refine .setCell ?_ ?_ _ | refine .drew ?_ | refine below_drewN ?_ _) <;> first | omega | simp <;> omega)
 have hgr : ∀ n, ∃ q os', W0.drewN n = Sort.grow (w.drewN q) os' := fun n => by
  obtain ⟨q, os', h⟩ := alloc2_grow w (.cells #[.int .i64 r, .int .i64 f, .int .i64 lo, .int .i64 tm, .slice pa ps.length pc] 24) (.cells #[.slice ua use.length uc, .int .i64 ev] 27)
  rw [hW0, h]
  exact ⟨q + n, os', by first | rfl | (rw [← World.drewN_drewN]; rfl) | (simp [Sort.grow, World.drewN])⟩
 have hs4 : W0.cell? ⟨w.heap.size, 4, none⟩ = some (.slice pa ps.length pc) := by rw [hW0]; simp
 have hu0 : W0.cell? ⟨w.heap.size + 1, 0, none⟩ = some (.slice ua use.length uc) := by rw [hW0]; simp
 have hQ : ∀ q, q < ps.length → ∃ b off, pa = some ⟨b, off, none⟩ ∧ W0.cell? ⟨b, off + q * 8 + 2, none⟩ = some (.int .i64 (pAt ps q).co) := fun q hq => by
  obtain ⟨b2, off2, h, g4, g5⟩ := q3 q hq
  exact ⟨b2, off2, h, ((bk hb b2 g4).1 _).trans g5.2.2.1⟩
 have hX : ∀ k, k < use.length → ∃ b off, ua = some ⟨b, off, none⟩ ∧ W0.cell? ⟨b, off + k, none⟩ = some (.int .i64 (iAt use k)) := fun k hk => by
  obtain ⟨b, off, h, h4, h5⟩ := u3 k hk
  exact ⟨b, off, h, ((bk hb b h4).1 _).trans h5⟩
 have HQ := hide hQ
 have HX := hide hX
 have Hin := hide hin
 have Hbd := hide hbd
 have Hgr := hide hgr
 clear q3 u3 hin hbd hgr hQ hX hb
 go_enter Tryz.func212, Tryz.ntmps212
 go_upto_region 1 with fail
 rw [← hW0]
 clear hW0
 go_wp2_with fail
 go_loopw [5, 6] (fun s5 s6 wr => ∃ k n : Nat, k ≤ use.length ∧ s6 = .int .i64 k ∧ s5 = .int .i64 (costTo ps use k) ∧ Hid (wr = W0.drewN n)) (fun _ s6 _ => use.length - (intOf s6).toNat)
 case atStart => exact ⟨0, 0, Nat.zero_le _, rfl, rfl, hide rfl⟩
 case round =>
  obtain ⟨k, n, hk, rfl, rfl, Hn⟩ := hrel
  have g0 : wr.cell? ⟨w.heap.size + 1, 0, none⟩ = some (.slice ua use.length uc) := by rw [Hn.out, World.cell?_drewN]; exact hu0
  have g4 : wr.cell? ⟨w.heap.size, 4, none⟩ = some (.slice pa ps.length pc) := by rw [Hn.out, World.cell?_drewN]; exact hs4
  by_cases hlt : k < use.length
  ·obtain ⟨b, off, rfl, h5⟩ := HX.out k hlt
   obtain ⟨⟨i1, i2⟩, i3, i4⟩ := Hin.out k hlt
   have hb0 := Hbd.out k hk
   have hst : costTo ps use (k + 1) = costTo ps use k + (pAt ps (iAt use k).toNat).co := rfl
   obtain ⟨q, hq⟩ : ∃ q : Nat, iAt use k = q := ⟨(iAt use k).toNat, by omega⟩
   rw [hq] at h5 i2
   rw [hq, Int.toNat_natCast] at hst
   rw [hq, Int.toNat_natCast] at i3 i4
   obtain ⟨b2, off2, rfl, g6⟩ := HQ.out q (by omega)
   have h5' : wr.cell? ⟨b, off + k, none⟩ = some (.int .i64 (q : Int)) := by rw [Hn.out, World.cell?_drewN]; exact h5
   have g6' : wr.cell? ⟨b2, off2 + q * 8 + 2, none⟩ = some (.int .i64 (pAt ps q).co) := by rw [Hn.out, World.cell?_drewN]; exact g6
   have hst2 := hide hst
   have I1 : (0 : Int) ≤ (k : Int) := by omega
   have I2 : (k : Int) < (use.length : Int) := by omega
   have I3 : (0 : Int) ≤ (q : Int) := by omega
   clear hst i1 hq h5 g6
   generalize (pAt ps q).co = y at *
   generalize costTo ps use k = z at *
   have ww : IntKind.i64.wrap (z + y) = z + y := IntWalk.i64_in _ (by omega)
   go_wp2_with fail
   go_quiet (fail)
   go_wp2_with fail
   go_roundw
   case rel => exact ⟨k + 1, n + nq, by omega, by go_num, by rw [hst2.out], hide (by rw [Hn.out, World.drewN_drewN])⟩
   case measure => simp [intOf]; omega
  ·obtain rfl : k = use.length := by omega
   go_wp2_with fail
   go_ret
   exact ⟨rfl, by rw [Hn.out]; exact Hgr.out n⟩
set_option maxRecDepth 100000 in
set_option maxHeartbeats 1000000 in
theorem RCompare_any (r f lo tm : Int) (pv : Value) (ps : List Pr) (ua : Value) (la : List Int) (ea : Int) (ub : Value) (lb : List Int) (eb : Int) (w : World) (hp : PrRow w pv ps) (ha : IsRow w ua la) (hb : IsRow w ub lb) (ca : CsOk ps la ea) (cb : CsOk ps lb eb) :
  Calls Tryz.prog 188 #[.agg #[.int .i64 r, .int .i64 f, .int .i64 lo, .int .i64 tm, pv], .agg #[ua, .int .i64 ea], .agg #[ub, .int .i64 eb]] w fun e w' => e = .returned (.int .i64 (cmpS ps la ea lb eb)) ∧ Below w.heap.size w w' := by
 have hR : ∀ W : World, Below w.heap.size w W → PrRow W pv ps ∧ IsRow W ua la ∧ IsRow W ub lb := fun W hW => ⟨hp.below (Nat.le_refl _) hW, ha.below (Nat.le_refl _) hW, hb.below (Nat.le_refl _) hW⟩
 have HR := hide hR
 have hca := fun W ev (h : PrRow W pv ps) (g : IsRow W ua la) => Rcost_any r f lo tm pv ps ua la ev W h g (by have := ca.1; omega) ca.2.1
 have hcb := fun W ev (h : PrRow W pv ps) (g : IsRow W ub lb) => Rcost_any r f lo tm pv ps ub lb ev W h g (by have := cb.1; omega) cb.2.1
 have m1 := mul_bd ca.bd ⟨cb.2.2.1, cb.2.2.2⟩
 have m2 := mul_bd cb.bd ⟨ca.2.2.1, ca.2.2.2⟩
 have b1 := ca.bd
 have b2 := cb.bd
 obtain ⟨-, -, e1, e2⟩ := ca
 obtain ⟨-, -, e3, e4⟩ := cb
 have hres : Lib.compareInt (costL ps la * eb) (costL ps lb * ea) = cmpS ps la ea lb eb := rfl
 have Hres := hide hres
 have Hca := hide hca
 have Hcb := hide hcb
 clear hres hca hcb hR hp ha hb
 generalize cmpS ps la ea lb eb = R at *
 generalize costL ps la = x at *
 generalize costL ps lb = y at *
 have w1 : IntKind.u64.wrap (x * eb) = x * eb := by rw [IntKind.wrap_u64]; omega
 have w2 : IntKind.u64.wrap (y * ea) = y * ea := by rw [IntKind.wrap_u64]; omega
 have w3 : IntKind.u64.wrap x = x := by rw [IntKind.wrap_u64]; omega
 have w4 : IntKind.u64.wrap y = y := by rw [IntKind.wrap_u64]; omega
 have w5 : IntKind.u64.wrap ea = ea := by rw [IntKind.wrap_u64]; omega
 have w6 : IntKind.u64.wrap eb = eb := by rw [IntKind.wrap_u64]; omega
 go_enter Tryz.func188, Tryz.ntmps188
 go_wp2_with fail
 obtain ⟨W, hW⟩ : ∃ W : World, W = ((w.alloc (.cells #[.int .i64 r, .int .i64 f, .int .i64 lo, .int .i64 tm, pv] 24)).alloc (.cells #[ua, .int .i64 ea] 27)).alloc (.cells #[ub, .int .i64 eb] 27) := ⟨_, rfl⟩
 rw [← hW]
 have zW : W.heap.size = w.heap.size + 3 := by rw [hW]; simp
 have bW : Below w.heap.size w W := by rw [hW]; ((with_reducible repeat' first | exact .refl _ _ | refine .alloc ?_ ?_ _ | refine .setCell ?_ ?_ _ | refine .drew ?_ | refine below_drewN ?_ _) <;> first | omega | simp <;> omega)
 obtain ⟨y0, y1, y2, y3, y4, v0, v1, x0, x1⟩ : W.cell? ⟨w.heap.size, 0, none⟩ = some (.int .i64 r) ∧ W.cell? ⟨w.heap.size, 1, none⟩ = some (.int .i64 f) ∧ W.cell? ⟨w.heap.size, 2, none⟩ = some (.int .i64 lo) ∧ W.cell? ⟨w.heap.size, 3, none⟩ = some (.int .i64 tm) ∧ W.cell? ⟨w.heap.size, 4, none⟩ = some pv ∧ W.cell? ⟨w.heap.size + 1, 0, none⟩ = some ua ∧ W.cell? ⟨w.heap.size + 1, 1, none⟩ = some (.int .i64 ea) ∧ W.cell? ⟨w.heap.size + 1 + 1, 0, none⟩ = some ub ∧ W.cell? ⟨w.heap.size + 1 + 1, 1, none⟩ = some (.int .i64 eb) := by
  rw [hW]; refine ⟨(World.cell?_alloc_lt _ _ _ (by simp; omega)).trans (by simp), (World.cell?_alloc_lt _ _ _ (by simp; omega)).trans (by simp), (World.cell?_alloc_lt _ _ _ (by simp; omega)).trans (by simp), (World.cell?_alloc_lt _ _ _ (by simp; omega)).trans (by simp), (World.cell?_alloc_lt _ _ _ (by simp; omega)).trans (by simp), (World.cell?_alloc_lt _ _ _ (by simp)).trans (by simp), (World.cell?_alloc_lt _ _ _ (by simp)).trans (by simp), (World.cell?_alloc_at _ _ _ _ (by simp)).trans (by simp), (World.cell?_alloc_at _ _ _ _ (by simp)).trans (by simp)⟩
 have z0 : w.heap.size < W.heap.size := by omega
 have z1 : w.heap.size + 1 < W.heap.size := by omega
 have z2 : w.heap.size + 1 + 1 < W.heap.size := by omega
 have Y0 := grow_cell y0 z0
 have Y1 := grow_cell y1 z0
 have Y2 := grow_cell y2 z0
 have Y3 := grow_cell y3 z0
 have Y4 := grow_cell y4 z0
 have V0 := grow_cell v0 z1
 have V1 := grow_cell v1 z1
 have X0 := grow_cell x0 z2
 have X1 := grow_cell x1 z2
 clear hW y0 y1 y2 y3 y4 v0 v1 x0 x1
 have hG : ∀ p : GrownBy, PrRow (Sort.grow (W.drewN p.n) p.os) pv ps ∧ IsRow (Sort.grow (W.drewN p.n) p.os) ua la ∧ IsRow (Sort.grow (W.drewN p.n) p.os) ub lb := fun p => HR.out _ (below_grow bW (by omega) _ _)
 have Ka := hide (fun (p : GrownBy) => Calls.grown_of ((Hca.out _ ea (hG p).1 (hG p).2.1).mono (by rintro e w' ⟨rfl, h⟩; exact ⟨rfl, h⟩)))
 have Kb := hide (fun (p : GrownBy) => Calls.grown_of ((Hcb.out _ eb (hG p).1 (hG p).2.2).mono (by rintro e w' ⟨rfl, h⟩; exact ⟨rfl, h⟩)))
 clear hG
 refine wp_region_quiet_grown (by first | assumption | kernel_rfl) (by kernel_rfl) ?_
 repeat (go_big_quiet_step (first | (go_at_call 212; with_reducible exact Ka.out _)))
 refine wpQuiet_nil ?_
 intro _ hw'
 obtain ⟨⟨nq, osq⟩, hw''⟩ := hw'
 subst hw''
 obtain ⟨W2, hW2⟩ : ∃ W2 : World, W2 = Sort.grow (W.drewN nq) osq := ⟨_, rfl⟩
 have bW2 : Below w.heap.size w W2 := by rw [hW2]; exact below_grow bW (by omega) _ _
 have zW2 : W.heap.size ≤ W2.heap.size := by rw [hW2, Sort.size_grow]; show W.heap.size ≤ W.heap.size + _; omega
 have u0 := Y0 ⟨nq, osq⟩
 have u1 := Y1 ⟨nq, osq⟩
 have u2 := Y2 ⟨nq, osq⟩
 have u3 := Y3 ⟨nq, osq⟩
 have u4 := Y4 ⟨nq, osq⟩
 have t0 := V0 ⟨nq, osq⟩
 have t1 := V1 ⟨nq, osq⟩
 have s0 := X0 ⟨nq, osq⟩
 have s1 := X1 ⟨nq, osq⟩
 simp only at u0 u1 u2 u3 u4 t0 t1 s0 s1 ⊢
 rw [← hW2] at u0 u1 u2 u3 u4 t0 t1 s0 s1 ⊢
 clear Y0 Y1 Y2 Y3 Y4 V0 V1 X0 X1 Ka Kb hW2
 have e0 : w.heap.size < W2.heap.size := by omega
 have e1' : w.heap.size + 1 < W2.heap.size := by omega
 have e2' : w.heap.size + 1 + 1 < W2.heap.size := by omega
 have Y0 := grow_cell u0 e0
 have Y1 := grow_cell u1 e0
 have Y2 := grow_cell u2 e0
 have Y3 := grow_cell u3 e0
 have Y4 := grow_cell u4 e0
 have V0 := grow_cell t0 e1'
 have V1 := grow_cell t1 e1'
 have X0 := grow_cell s0 e2'
 have X1 := grow_cell s1 e2'
 clear u0 u1 u2 u3 u4 t0 t1 s0 s1
 have hG : ∀ p : GrownBy, PrRow (Sort.grow (W2.drewN p.n) p.os) pv ps ∧ IsRow (Sort.grow (W2.drewN p.n) p.os) ub lb := fun p => ⟨(HR.out _ (below_grow bW2 (by omega) _ _)).1, (HR.out _ (below_grow bW2 (by omega) _ _)).2.2⟩
 have Kb := hide (fun (p : GrownBy) => Calls.grown_of ((Hcb.out _ eb (hG p).1 (hG p).2).mono (by rintro e w' ⟨rfl, h⟩; exact ⟨rfl, h⟩)))
 clear hG
 go_wp2_with fail
 refine wp_region_quiet_grown (by first | assumption | kernel_rfl) (by kernel_rfl) ?_
 repeat (go_big_quiet_step (first | (go_at_call 212; with_reducible exact Kb.out _)))
 refine wpQuiet_nil ?_
 intro _ hw'
 obtain ⟨⟨nq2, osq2⟩, hw''⟩ := hw'
 subst hw''
 have Hm : Hid (Lib.compareInt (x * eb) (y * ea) = R) := Hres
 have bF : Below w.heap.size w (Sort.grow (W2.drewN nq2) osq2) := below_grow bW2 (by omega) _ _
 by_cases h1 : x * eb < y * ea
 ·have hr : R = -1 := by rw [← Hm.out]; unfold Lib.compareInt; rw [if_pos h1]
  have Hr := hide hr
  clear hr
  go_wp2_with fail
  go_ret
  exact ⟨ret_int Hr.out.symm, bF⟩
 ·by_cases h2 : y * ea < x * eb
  ·have hr : R = 1 := by rw [← Hm.out]; unfold Lib.compareInt; rw [if_neg h1, if_pos h2]
   have Hr := hide hr
   clear hr
   go_wp2_with fail
   go_ret
   exact ⟨ret_int Hr.out.symm, bF⟩
  ·have hr : R = 0 := by rw [← Hm.out]; unfold Lib.compareInt; rw [if_neg h1, if_neg h2]
   have Hr := hide hr
   clear hr
   go_wp2_with fail
   go_ret
   exact ⟨ret_int Hr.out.symm, bF⟩
end Go.Proofs.YtigjljmhpkeahaaGreat
/- The reference of package plan: Cheaper, better. -/
namespace Go.Proofs.YtigjljmhpkeahaaGreat
open Go.RowKit

set_option maxRecDepth 100000 in
set_option maxHeartbeats 1000000 in
theorem Rbetter_any (nr : Bool) (r f lo tm : Int) (pv : Value) (ps : List Pr) (ua : Value) (a : Of) (ub : Value) (b : Of) (w : World) (hp : PrRow w pv ps) (ha : IsRow w ua a.use) (hb : IsRow w ub b.use) (ca : CsOk ps a.use a.ev) (cb : CsOk ps b.use b.ev) :
  Calls Tryz.prog 162 #[.agg #[.int .i64 r, .int .i64 f, .int .i64 lo, .int .i64 tm, pv], .agg #[ua, .int .i64 a.ev], .agg #[ub, .int .i64 b.ev], .int .i64 a.wd, .int .i64 b.wd, .bool nr] w fun e w' => e = .returned (.bool (btr nr ps a b)) ∧ Below w.heap.size w w' := by
 have hR : ∀ W : World, Below w.heap.size w W → PrRow W pv ps ∧ IsRow W ua a.use ∧ IsRow W ub b.use := fun W hW => ⟨hp.below (Nat.le_refl _) hW, ha.below (Nat.le_refl _) hW, hb.below (Nat.le_refl _) hW⟩
 have HR := hide hR
 obtain ⟨aa, ac, rfl, -, -, -⟩ := id ha
 obtain ⟨ba, bc, rfl, -, -, -⟩ := id hb
 obtain ⟨W0, hW0⟩ : ∃ W : World, W = ((w.alloc (.cells #[.int .i64 r, .int .i64 f, .int .i64 lo, .int .i64 tm, pv] 24)).alloc (.cells #[.slice aa a.use.length ac, .int .i64 a.ev] 27)).alloc (.cells #[.slice ba b.use.length bc, .int .i64 b.ev] 27) := ⟨_, rfl⟩
 have hS : ∀ V : World, Below (w.heap.size + 3) W0 V → (V.cell? ⟨w.heap.size, 0, none⟩ = some (.int .i64 r) ∧ V.cell? ⟨w.heap.size, 1, none⟩ = some (.int .i64 f) ∧ V.cell? ⟨w.heap.size, 2, none⟩ = some (.int .i64 lo) ∧ V.cell? ⟨w.heap.size, 3, none⟩ = some (.int .i64 tm) ∧ V.cell? ⟨w.heap.size, 4, none⟩ = some pv) ∧ (V.cell? ⟨w.heap.size + 1, 0, none⟩ = some (.slice aa a.use.length ac) ∧ V.cell? ⟨w.heap.size + 1, 1, none⟩ = some (.int .i64 a.ev)) ∧ (V.cell? ⟨w.heap.size + 1 + 1, 0, none⟩ = some (.slice ba b.use.length bc) ∧ V.cell? ⟨w.heap.size + 1 + 1, 1, none⟩ = some (.int .i64 b.ev)) ∧ Below w.heap.size w V ∧ w.heap.size + 3 ≤ V.heap.size := by
  intro V hV
  have bW : Below w.heap.size w W0 := by rw [hW0]; ((with_reducible repeat' first | exact .refl _ _ | refine .alloc ?_ ?_ _ | refine .setCell ?_ ?_ _ | refine .drew ?_ | refine below_drewN ?_ _) <;> first | omega | simp <;> omega)
  have zW : W0.heap.size = w.heap.size + 3 := by rw [hW0]; simp
  have hb := bW.trans (hV.mono (by omega))
  have h0 := (bk hV w.heap.size (by omega)).1
  have h1 := (bk hV (w.heap.size + 1) (by omega)).1
  have h2 := (bk hV (w.heap.size + 1 + 1) (by omega)).1
  have q : W0.cell? ⟨w.heap.size, 0, none⟩ = some (.int .i64 r) ∧ W0.cell? ⟨w.heap.size, 1, none⟩ = some (.int .i64 f) ∧ W0.cell? ⟨w.heap.size, 2, none⟩ = some (.int .i64 lo) ∧ W0.cell? ⟨w.heap.size, 3, none⟩ = some (.int .i64 tm) ∧ W0.cell? ⟨w.heap.size, 4, none⟩ = some pv ∧ W0.cell? ⟨w.heap.size + 1, 0, none⟩ = some (.slice aa a.use.length ac) ∧ W0.cell? ⟨w.heap.size + 1, 1, none⟩ = some (.int .i64 a.ev) ∧ W0.cell? ⟨w.heap.size + 1 + 1, 0, none⟩ = some (.slice ba b.use.length bc) ∧ W0.cell? ⟨w.heap.size + 1 + 1, 1, none⟩ = some (.int .i64 b.ev) := by
   rw [hW0]; refine ⟨?_, ?_, ?_, ?_, ?_, ?_, ?_, ?_, ?_⟩ <;> simp [go_sem]
  obtain ⟨q0, q1, q2, q3, q4, q5, q6, q7, q8⟩ := q
  exact ⟨⟨(h0 0).trans q0, (h0 1).trans q1, (h0 2).trans q2, (h0 3).trans q3, (h0 4).trans q4⟩, ⟨(h1 0).trans q5, (h1 1).trans q6⟩, ⟨(h2 0).trans q7, (h2 1).trans q8⟩, hb, by have := hV.size; omega⟩
 have HS := hide hS
 have Ca := hide ca
 have Cb := hide cb
 obtain ⟨R, hRe⟩ : ∃ R, R = btr nr ps a b := ⟨_, rfl⟩
 rw [← hRe]
 obtain ⟨C, hC⟩ : ∃ C, C = cmpS ps a.use a.ev b.use b.ev := ⟨_, rfl⟩
 obtain ⟨D, hD⟩ : ∃ D, D = Lib.compareInt a.wd b.wd := ⟨_, rfl⟩
 have hat : ∀ k x, k < 5 → (∀ j, j < k → cK nr ps a b j = 0) → cK nr ps a b k = x → x ≠ 0 → decide (x < 0) = R := fun k x h1 h2 h3 h4 => by subst h3; rw [hRe]; exact (btr_at h1 h2 h4).symm
 have hno : (∀ j, j < 5 → cK nr ps a b j = 0) → R = false := fun h => by rw [hRe]; exact btr_none h
 have h3 : cK nr ps a b 2 = Lib.compareInt a.use.length b.use.length := rfl
 have h4 : cK nr ps a b 3 = cmpI a.use b.use := rfl
 have h5 : cK nr ps a b 4 = Lib.compareInt b.ev a.ev := rfl
 have HC := hide hC
 have HD := hide hD
 have hLt : (a.use.length : Int) < (b.use.length : Int) ↔ a.use.length < b.use.length := by omega
 clear hR hS hp ha hb ca cb hRe
 obtain ⟨p, q, hpq⟩ : ∃ p q : Int, p = cK nr ps a b 0 ∧ q = cK nr ps a b 1 := ⟨_, _, rfl, rfl⟩
 have hp1 : p = if nr then D else C := by rw [hpq.1, hC, hD]; cases nr <;> rfl
 have hq1 : q = if nr then C else D := by rw [hpq.2, hC, hD]; cases nr <;> rfl
 clear hC hD
 have walk : ∀ X : Bool, (nr = X) → Calls Tryz.prog 162 #[.agg #[.int .i64 r, .int .i64 f, .int .i64 lo, .int .i64 tm, pv], .agg #[.slice aa a.use.length ac, .int .i64 a.ev], .agg #[.slice ba b.use.length bc, .int .i64 b.ev], .int .i64 a.wd, .int .i64 b.wd, .bool X] w fun e w' => e = .returned (.bool R) ∧ Below w.heap.size w w' := by
  intro X hX
  rw [hX] at hp1 hq1
  cases X
  ·simp only [Bool.false_eq_true, if_false] at hp1 hq1
   by_cases e1 : p = 0
   ·have n1 : (C != 0) = false := by rw [← hp1, e1]; rfl
    by_cases e2 : q = 0
    ·have n2 : (D != 0) = false := by rw [← hq1, e2]; rfl
     by_cases e3 : a.use.length = b.use.length
     ·have n3 : ((a.use.length : Int) != (b.use.length : Int)) = false := by rw [e3]; simp
      have Hl := hide e3
      obtain ⟨z, hz⟩ : ∃ z, z = cmpI a.use b.use := ⟨_, rfl⟩
      by_cases e4 : z = 0
      ·have n4 : (cmpI a.use b.use != 0) = false := by rw [← hz, e4]; rfl
       have hres : R = decide (b.ev < a.ev) := by
        by_cases e5 : Lib.compareInt b.ev a.ev = 0
        ·have e6 : b.ev = a.ev := (by unfold Lib.compareInt at e5; split at e5 <;> (try split at e5) <;> omega)
         rw [hno (fun j hj => match j, hj with | 0, _ => hpq.1.symm.trans e1 | 1, _ => hpq.2.symm.trans e2 | 2, _ => h3.trans (by rw [e3]; unfold Lib.compareInt; simp) | 3, _ => h4.trans (hz.symm.trans e4) | 4, _ => h5.trans e5)]
         exact (decide_eq_false (by omega)).symm
        ·rw [← hat 4 _ (by omega) (fun j hj => match j, hj with | 0, _ => hpq.1.symm.trans e1 | 1, _ => hpq.2.symm.trans e2 | 2, _ => h3.trans (by rw [e3]; unfold Lib.compareInt; simp) | 3, _ => h4.trans (hz.symm.trans e4)) h5 e5]
         apply decide_eq_decide.2
         unfold Lib.compareInt
         split <;> (try split) <;> constructor <;> intro _ <;> omega
       have Hres := hide hres
       clear hat hno h3 h4 h5 e1 e2 e3 e4 hz hpq hp1 hq1 hLt hres
       go_enter Tryz.func162, Tryz.ntmps162
       go_upto_region 1 with fail
       rw [← hW0]
       clear hW0
       have B0 : Below (w.heap.size + 3) W0 W0 := Below.refl _ _
       obtain ⟨⟨y0, y1, y2, y3, y4⟩, ⟨a0, a1⟩, ⟨b0, b1⟩, k0, z0⟩ := HS.out W0 B0
       go_wp2_with fail
       refine (RCompare_any r f lo tm _ ps _ a.use a.ev _ b.use b.ev _ (HR.out _ k0).1 (HR.out _ k0).2.1 (HR.out _ k0).2.2 Ca.out Cb.out).mono ?_
       rintro e w1 ⟨rfl, k1⟩
       rw [← HC.out]
       have B1 : Below (w.heap.size + 3) W0 w1 := B0.trans (k1.mono z0)
       clear y0 y1 y2 y3 y4 a0 a1 b0 b1 k0 z0 k1 B0
       obtain ⟨⟨y0, y1, y2, y3, y4⟩, ⟨a0, a1⟩, ⟨b0, b1⟩, k0, z0⟩ := HS.out w1 B1
       go_wp2_with (first | (go_at_call 189; (with_reducible refine (sign_any _ _ _).mono ?_); rintro e w' ⟨rfl, rfl⟩; rw [← HD.out]) | (go_at_call 190; (with_reducible refine (lists_any _ _ a.use b.use _ (HR.out _ k0).2.1 (HR.out _ k0).2.2 Hl.out).mono ?_); rintro e w' ⟨rfl, nq, rfl⟩))
       go_ret
       exact ⟨ret_bool Hres.out.symm, (by ((with_reducible repeat' first | exact .refl _ _ | exact k0 | refine .alloc ?_ ?_ _ | refine .setCell ?_ ?_ _ | refine .drew ?_ | refine below_drewN ?_ _ | refine Below.trans ?_ (k0.mono ?_)) <;> first | omega | simp <;> omega))⟩
      ·have n4 : (cmpI a.use b.use != 0) = true := by rw [← hz]; rw [bne_iff_ne]; exact e4
       have hres := hat 3 _ (by omega) (fun j hj => match j, hj with | 0, _ => hpq.1.symm.trans e1 | 1, _ => hpq.2.symm.trans e2 | 2, _ => h3.trans (by rw [e3]; unfold Lib.compareInt; simp)) h4 (by rw [← hz]; exact e4)
       have Hres := hide hres
       clear hat hno h3 h4 h5 e1 e2 e3 e4 hz hpq hp1 hq1 hLt hres
       go_enter Tryz.func162, Tryz.ntmps162
       go_upto_region 1 with fail
       rw [← hW0]
       clear hW0
       have B0 : Below (w.heap.size + 3) W0 W0 := Below.refl _ _
       obtain ⟨⟨y0, y1, y2, y3, y4⟩, ⟨a0, a1⟩, ⟨b0, b1⟩, k0, z0⟩ := HS.out W0 B0
       go_wp2_with fail
       refine (RCompare_any r f lo tm _ ps _ a.use a.ev _ b.use b.ev _ (HR.out _ k0).1 (HR.out _ k0).2.1 (HR.out _ k0).2.2 Ca.out Cb.out).mono ?_
       rintro e w1 ⟨rfl, k1⟩
       rw [← HC.out]
       have B1 : Below (w.heap.size + 3) W0 w1 := B0.trans (k1.mono z0)
       clear y0 y1 y2 y3 y4 a0 a1 b0 b1 k0 z0 k1 B0
       obtain ⟨⟨y0, y1, y2, y3, y4⟩, ⟨a0, a1⟩, ⟨b0, b1⟩, k0, z0⟩ := HS.out w1 B1
       go_wp2_with (first | (go_at_call 189; (with_reducible refine (sign_any _ _ _).mono ?_); rintro e w' ⟨rfl, rfl⟩; rw [← HD.out]) | (go_at_call 190; (with_reducible refine (lists_any _ _ a.use b.use _ (HR.out _ k0).2.1 (HR.out _ k0).2.2 Hl.out).mono ?_); rintro e w' ⟨rfl, nq, rfl⟩))
       go_ret
       exact ⟨ret_bool Hres.out, (by ((with_reducible repeat' first | exact .refl _ _ | exact k0 | refine .alloc ?_ ?_ _ | refine .setCell ?_ ?_ _ | refine .drew ?_ | refine below_drewN ?_ _ | refine Below.trans ?_ (k0.mono ?_)) <;> first | omega | simp <;> omega))⟩
     ·have n3 : ((a.use.length : Int) != (b.use.length : Int)) = true := by rw [bne_iff_ne]; omega
      have hne : Lib.compareInt (a.use.length : Int) (b.use.length : Int) ≠ 0 := by unfold Lib.compareInt; split <;> (try split) <;> omega
      have hres := hat 2 _ (by omega) (fun j hj => match j, hj with | 0, _ => hpq.1.symm.trans e1 | 1, _ => hpq.2.symm.trans e2) h3 hne
      have hres2 : decide (a.use.length < b.use.length) = R := by
       rw [← hres]; apply decide_eq_decide.2; unfold Lib.compareInt; split <;> (try split) <;> constructor <;> intro _ <;> omega
      have hres3 : decide ((a.use.length : Int) < (b.use.length : Int)) = R := by rw [← hres2]; exact decide_eq_decide.2 hLt
      have Hl : Hid (True) := hide trivial
      have Hres := hide (And.intro hres2 hres3)
      clear hat hno h3 h4 h5 e1 e2 e3 hpq hp1 hq1 hLt hres hres2 hres3 hne
      go_enter Tryz.func162, Tryz.ntmps162
      go_upto_region 1 with fail
      rw [← hW0]
      clear hW0
      have B0 : Below (w.heap.size + 3) W0 W0 := Below.refl _ _
      obtain ⟨⟨y0, y1, y2, y3, y4⟩, ⟨a0, a1⟩, ⟨b0, b1⟩, k0, z0⟩ := HS.out W0 B0
      go_wp2_with fail
      refine (RCompare_any r f lo tm _ ps _ a.use a.ev _ b.use b.ev _ (HR.out _ k0).1 (HR.out _ k0).2.1 (HR.out _ k0).2.2 Ca.out Cb.out).mono ?_
      rintro e w1 ⟨rfl, k1⟩
      rw [← HC.out]
      have B1 : Below (w.heap.size + 3) W0 w1 := B0.trans (k1.mono z0)
      clear y0 y1 y2 y3 y4 a0 a1 b0 b1 k0 z0 k1 B0
      obtain ⟨⟨y0, y1, y2, y3, y4⟩, ⟨a0, a1⟩, ⟨b0, b1⟩, k0, z0⟩ := HS.out w1 B1
      go_wp2_with ((go_at_call 189; (with_reducible refine (sign_any _ _ _).mono ?_); rintro e w' ⟨rfl, rfl⟩; rw [← HD.out]))
      go_ret
      exact ⟨ret_bool (by first | exact Hres.out.1 | exact Hres.out.2), (by ((with_reducible repeat' first | exact .refl _ _ | exact k0 | refine .alloc ?_ ?_ _ | refine .setCell ?_ ?_ _ | refine .drew ?_ | refine below_drewN ?_ _ | refine Below.trans ?_ (k0.mono ?_)) <;> first | omega | simp <;> omega))⟩
    ·have n2 : (D != 0) = true := by rw [← hq1]; rw [bne_iff_ne]; exact e2
     have hres := hat 1 q (by omega) (fun j hj => match j, hj with | 0, _ => hpq.1.symm.trans e1) hpq.2.symm e2
     rw [hq1] at hres
     have Hres := hide hres
     clear hat hno h3 h4 h5 e1 e2 hpq hp1 hq1 hLt hres
     go_enter Tryz.func162, Tryz.ntmps162
     go_upto_region 1 with fail
     rw [← hW0]
     clear hW0
     have B0 : Below (w.heap.size + 3) W0 W0 := Below.refl _ _
     obtain ⟨⟨y0, y1, y2, y3, y4⟩, ⟨a0, a1⟩, ⟨b0, b1⟩, k0, z0⟩ := HS.out W0 B0
     go_wp2_with fail
     refine (RCompare_any r f lo tm _ ps _ a.use a.ev _ b.use b.ev _ (HR.out _ k0).1 (HR.out _ k0).2.1 (HR.out _ k0).2.2 Ca.out Cb.out).mono ?_
     rintro e w1 ⟨rfl, k1⟩
     rw [← HC.out]
     have B1 : Below (w.heap.size + 3) W0 w1 := B0.trans (k1.mono z0)
     clear y0 y1 y2 y3 y4 a0 a1 b0 b1 k0 z0 k1 B0
     obtain ⟨⟨y0, y1, y2, y3, y4⟩, ⟨a0, a1⟩, ⟨b0, b1⟩, k0, z0⟩ := HS.out w1 B1
     go_wp2_with ((go_at_call 189; (with_reducible refine (sign_any _ _ _).mono ?_); rintro e w' ⟨rfl, rfl⟩; rw [← HD.out]))
     go_ret
     exact ⟨ret_bool Hres.out, (by ((with_reducible repeat' first | exact .refl _ _ | exact k0 | refine .alloc ?_ ?_ _ | refine .setCell ?_ ?_ _ | refine .drew ?_ | refine below_drewN ?_ _ | refine Below.trans ?_ (k0.mono ?_)) <;> first | omega | simp <;> omega))⟩
   ·have n1 : (C != 0) = true := by rw [← hp1]; rw [bne_iff_ne]; exact e1
    have hres := hat 0 p (by omega) (fun j hj => by omega) hpq.1.symm e1
    rw [hp1] at hres
    have Hres := hide hres
    clear hat hno h3 h4 h5 e1 hpq hp1 hq1 hLt hres
    go_enter Tryz.func162, Tryz.ntmps162
    go_upto_region 1 with fail
    rw [← hW0]
    clear hW0
    have B0 : Below (w.heap.size + 3) W0 W0 := Below.refl _ _
    obtain ⟨⟨y0, y1, y2, y3, y4⟩, ⟨a0, a1⟩, ⟨b0, b1⟩, k0, z0⟩ := HS.out W0 B0
    go_wp2_with fail
    refine (RCompare_any r f lo tm _ ps _ a.use a.ev _ b.use b.ev _ (HR.out _ k0).1 (HR.out _ k0).2.1 (HR.out _ k0).2.2 Ca.out Cb.out).mono ?_
    rintro e w1 ⟨rfl, k1⟩
    rw [← HC.out]
    have B1 : Below (w.heap.size + 3) W0 w1 := B0.trans (k1.mono z0)
    clear y0 y1 y2 y3 y4 a0 a1 b0 b1 k0 z0 k1 B0
    obtain ⟨⟨y0, y1, y2, y3, y4⟩, ⟨a0, a1⟩, ⟨b0, b1⟩, k0, z0⟩ := HS.out w1 B1
    go_wp2_with ((go_at_call 189; (with_reducible refine (sign_any _ _ _).mono ?_); rintro e w' ⟨rfl, rfl⟩; rw [← HD.out]))
    go_ret
    exact ⟨ret_bool Hres.out, (by ((with_reducible repeat' first | exact .refl _ _ | exact k0 | refine .alloc ?_ ?_ _ | refine .setCell ?_ ?_ _ | refine .drew ?_ | refine below_drewN ?_ _ | refine Below.trans ?_ (k0.mono ?_)) <;> first | omega | simp <;> omega))⟩
  ·simp only [if_true] at hp1 hq1
   by_cases e1 : p = 0
   ·have n1 : (D != 0) = false := by rw [← hp1, e1]; rfl
    by_cases e2 : q = 0
    ·have n2 : (C != 0) = false := by rw [← hq1, e2]; rfl
     by_cases e3 : a.use.length = b.use.length
     ·have n3 : ((a.use.length : Int) != (b.use.length : Int)) = false := by rw [e3]; simp
      have Hl := hide e3
      obtain ⟨z, hz⟩ : ∃ z, z = cmpI a.use b.use := ⟨_, rfl⟩
      by_cases e4 : z = 0
      ·have n4 : (cmpI a.use b.use != 0) = false := by rw [← hz, e4]; rfl
       have hres : R = decide (b.ev < a.ev) := by
        by_cases e5 : Lib.compareInt b.ev a.ev = 0
        ·have e6 : b.ev = a.ev := (by unfold Lib.compareInt at e5; split at e5 <;> (try split at e5) <;> omega)
         rw [hno (fun j hj => match j, hj with | 0, _ => hpq.1.symm.trans e1 | 1, _ => hpq.2.symm.trans e2 | 2, _ => h3.trans (by rw [e3]; unfold Lib.compareInt; simp) | 3, _ => h4.trans (hz.symm.trans e4) | 4, _ => h5.trans e5)]
         exact (decide_eq_false (by omega)).symm
        ·rw [← hat 4 _ (by omega) (fun j hj => match j, hj with | 0, _ => hpq.1.symm.trans e1 | 1, _ => hpq.2.symm.trans e2 | 2, _ => h3.trans (by rw [e3]; unfold Lib.compareInt; simp) | 3, _ => h4.trans (hz.symm.trans e4)) h5 e5]
         apply decide_eq_decide.2
         unfold Lib.compareInt
         split <;> (try split) <;> constructor <;> intro _ <;> omega
       have Hres := hide hres
       clear hat hno h3 h4 h5 e1 e2 e3 e4 hz hpq hp1 hq1 hLt hres
       go_enter Tryz.func162, Tryz.ntmps162
       go_upto_region 1 with fail
       rw [← hW0]
       clear hW0
       have B0 : Below (w.heap.size + 3) W0 W0 := Below.refl _ _
       obtain ⟨⟨y0, y1, y2, y3, y4⟩, ⟨a0, a1⟩, ⟨b0, b1⟩, k0, z0⟩ := HS.out W0 B0
       go_wp2_with fail
       refine (RCompare_any r f lo tm _ ps _ a.use a.ev _ b.use b.ev _ (HR.out _ k0).1 (HR.out _ k0).2.1 (HR.out _ k0).2.2 Ca.out Cb.out).mono ?_
       rintro e w1 ⟨rfl, k1⟩
       rw [← HC.out]
       have B1 : Below (w.heap.size + 3) W0 w1 := B0.trans (k1.mono z0)
       clear y0 y1 y2 y3 y4 a0 a1 b0 b1 k0 z0 k1 B0
       obtain ⟨⟨y0, y1, y2, y3, y4⟩, ⟨a0, a1⟩, ⟨b0, b1⟩, k0, z0⟩ := HS.out w1 B1
       go_wp2_with (first | (go_at_call 189; (with_reducible refine (sign_any _ _ _).mono ?_); rintro e w' ⟨rfl, rfl⟩; rw [← HD.out]) | (go_at_call 190; (with_reducible refine (lists_any _ _ a.use b.use _ (HR.out _ k0).2.1 (HR.out _ k0).2.2 Hl.out).mono ?_); rintro e w' ⟨rfl, nq, rfl⟩))
       go_ret
       exact ⟨ret_bool Hres.out.symm, (by ((with_reducible repeat' first | exact .refl _ _ | exact k0 | refine .alloc ?_ ?_ _ | refine .setCell ?_ ?_ _ | refine .drew ?_ | refine below_drewN ?_ _ | refine Below.trans ?_ (k0.mono ?_)) <;> first | omega | simp <;> omega))⟩
      ·have n4 : (cmpI a.use b.use != 0) = true := by rw [← hz]; rw [bne_iff_ne]; exact e4
       have hres := hat 3 _ (by omega) (fun j hj => match j, hj with | 0, _ => hpq.1.symm.trans e1 | 1, _ => hpq.2.symm.trans e2 | 2, _ => h3.trans (by rw [e3]; unfold Lib.compareInt; simp)) h4 (by rw [← hz]; exact e4)
       have Hres := hide hres
       clear hat hno h3 h4 h5 e1 e2 e3 e4 hz hpq hp1 hq1 hLt hres
       go_enter Tryz.func162, Tryz.ntmps162
       go_upto_region 1 with fail
       rw [← hW0]
       clear hW0
       have B0 : Below (w.heap.size + 3) W0 W0 := Below.refl _ _
       obtain ⟨⟨y0, y1, y2, y3, y4⟩, ⟨a0, a1⟩, ⟨b0, b1⟩, k0, z0⟩ := HS.out W0 B0
       go_wp2_with fail
       refine (RCompare_any r f lo tm _ ps _ a.use a.ev _ b.use b.ev _ (HR.out _ k0).1 (HR.out _ k0).2.1 (HR.out _ k0).2.2 Ca.out Cb.out).mono ?_
       rintro e w1 ⟨rfl, k1⟩
       rw [← HC.out]
       have B1 : Below (w.heap.size + 3) W0 w1 := B0.trans (k1.mono z0)
       clear y0 y1 y2 y3 y4 a0 a1 b0 b1 k0 z0 k1 B0
       obtain ⟨⟨y0, y1, y2, y3, y4⟩, ⟨a0, a1⟩, ⟨b0, b1⟩, k0, z0⟩ := HS.out w1 B1
       go_wp2_with (first | (go_at_call 189; (with_reducible refine (sign_any _ _ _).mono ?_); rintro e w' ⟨rfl, rfl⟩; rw [← HD.out]) | (go_at_call 190; (with_reducible refine (lists_any _ _ a.use b.use _ (HR.out _ k0).2.1 (HR.out _ k0).2.2 Hl.out).mono ?_); rintro e w' ⟨rfl, nq, rfl⟩))
       go_ret
       exact ⟨ret_bool Hres.out, (by ((with_reducible repeat' first | exact .refl _ _ | exact k0 | refine .alloc ?_ ?_ _ | refine .setCell ?_ ?_ _ | refine .drew ?_ | refine below_drewN ?_ _ | refine Below.trans ?_ (k0.mono ?_)) <;> first | omega | simp <;> omega))⟩
     ·have n3 : ((a.use.length : Int) != (b.use.length : Int)) = true := by rw [bne_iff_ne]; omega
      have hne : Lib.compareInt (a.use.length : Int) (b.use.length : Int) ≠ 0 := by unfold Lib.compareInt; split <;> (try split) <;> omega
      have hres := hat 2 _ (by omega) (fun j hj => match j, hj with | 0, _ => hpq.1.symm.trans e1 | 1, _ => hpq.2.symm.trans e2) h3 hne
      have hres2 : decide (a.use.length < b.use.length) = R := by
       rw [← hres]; apply decide_eq_decide.2; unfold Lib.compareInt; split <;> (try split) <;> constructor <;> intro _ <;> omega
      have hres3 : decide ((a.use.length : Int) < (b.use.length : Int)) = R := by rw [← hres2]; exact decide_eq_decide.2 hLt
      have Hl : Hid (True) := hide trivial
      have Hres := hide (And.intro hres2 hres3)
      clear hat hno h3 h4 h5 e1 e2 e3 hpq hp1 hq1 hLt hres hres2 hres3 hne
      go_enter Tryz.func162, Tryz.ntmps162
      go_upto_region 1 with fail
      rw [← hW0]
      clear hW0
      have B0 : Below (w.heap.size + 3) W0 W0 := Below.refl _ _
      obtain ⟨⟨y0, y1, y2, y3, y4⟩, ⟨a0, a1⟩, ⟨b0, b1⟩, k0, z0⟩ := HS.out W0 B0
      go_wp2_with fail
      refine (RCompare_any r f lo tm _ ps _ a.use a.ev _ b.use b.ev _ (HR.out _ k0).1 (HR.out _ k0).2.1 (HR.out _ k0).2.2 Ca.out Cb.out).mono ?_
      rintro e w1 ⟨rfl, k1⟩
      rw [← HC.out]
      have B1 : Below (w.heap.size + 3) W0 w1 := B0.trans (k1.mono z0)
      clear y0 y1 y2 y3 y4 a0 a1 b0 b1 k0 z0 k1 B0
      obtain ⟨⟨y0, y1, y2, y3, y4⟩, ⟨a0, a1⟩, ⟨b0, b1⟩, k0, z0⟩ := HS.out w1 B1
      go_wp2_with ((go_at_call 189; (with_reducible refine (sign_any _ _ _).mono ?_); rintro e w' ⟨rfl, rfl⟩; rw [← HD.out]))
      go_ret
      exact ⟨ret_bool (by first | exact Hres.out.1 | exact Hres.out.2), (by ((with_reducible repeat' first | exact .refl _ _ | exact k0 | refine .alloc ?_ ?_ _ | refine .setCell ?_ ?_ _ | refine .drew ?_ | refine below_drewN ?_ _ | refine Below.trans ?_ (k0.mono ?_)) <;> first | omega | simp <;> omega))⟩
    ·have n2 : (C != 0) = true := by rw [← hq1]; rw [bne_iff_ne]; exact e2
     have hres := hat 1 q (by omega) (fun j hj => match j, hj with | 0, _ => hpq.1.symm.trans e1) hpq.2.symm e2
     rw [hq1] at hres
     have Hres := hide hres
     clear hat hno h3 h4 h5 e1 e2 hpq hp1 hq1 hLt hres
     go_enter Tryz.func162, Tryz.ntmps162
     go_upto_region 1 with fail
     rw [← hW0]
     clear hW0
     have B0 : Below (w.heap.size + 3) W0 W0 := Below.refl _ _
     obtain ⟨⟨y0, y1, y2, y3, y4⟩, ⟨a0, a1⟩, ⟨b0, b1⟩, k0, z0⟩ := HS.out W0 B0
     go_wp2_with fail
     refine (RCompare_any r f lo tm _ ps _ a.use a.ev _ b.use b.ev _ (HR.out _ k0).1 (HR.out _ k0).2.1 (HR.out _ k0).2.2 Ca.out Cb.out).mono ?_
     rintro e w1 ⟨rfl, k1⟩
     rw [← HC.out]
     have B1 : Below (w.heap.size + 3) W0 w1 := B0.trans (k1.mono z0)
     clear y0 y1 y2 y3 y4 a0 a1 b0 b1 k0 z0 k1 B0
     obtain ⟨⟨y0, y1, y2, y3, y4⟩, ⟨a0, a1⟩, ⟨b0, b1⟩, k0, z0⟩ := HS.out w1 B1
     go_wp2_with ((go_at_call 189; (with_reducible refine (sign_any _ _ _).mono ?_); rintro e w' ⟨rfl, rfl⟩; rw [← HD.out]))
     go_ret
     exact ⟨ret_bool Hres.out, (by ((with_reducible repeat' first | exact .refl _ _ | exact k0 | refine .alloc ?_ ?_ _ | refine .setCell ?_ ?_ _ | refine .drew ?_ | refine below_drewN ?_ _ | refine Below.trans ?_ (k0.mono ?_)) <;> first | omega | simp <;> omega))⟩
   ·have n1 : (D != 0) = true := by rw [← hp1]; rw [bne_iff_ne]; exact e1
    have hres := hat 0 p (by omega) (fun j hj => by omega) hpq.1.symm e1
    rw [hp1] at hres
    have Hres := hide hres
    clear hat hno h3 h4 h5 e1 hpq hp1 hq1 hLt hres
    go_enter Tryz.func162, Tryz.ntmps162
    go_upto_region 1 with fail
    rw [← hW0]
    clear hW0
    have B0 : Below (w.heap.size + 3) W0 W0 := Below.refl _ _
    obtain ⟨⟨y0, y1, y2, y3, y4⟩, ⟨a0, a1⟩, ⟨b0, b1⟩, k0, z0⟩ := HS.out W0 B0
    go_wp2_with fail
    refine (RCompare_any r f lo tm _ ps _ a.use a.ev _ b.use b.ev _ (HR.out _ k0).1 (HR.out _ k0).2.1 (HR.out _ k0).2.2 Ca.out Cb.out).mono ?_
    rintro e w1 ⟨rfl, k1⟩
    rw [← HC.out]
    have B1 : Below (w.heap.size + 3) W0 w1 := B0.trans (k1.mono z0)
    clear y0 y1 y2 y3 y4 a0 a1 b0 b1 k0 z0 k1 B0
    obtain ⟨⟨y0, y1, y2, y3, y4⟩, ⟨a0, a1⟩, ⟨b0, b1⟩, k0, z0⟩ := HS.out w1 B1
    go_wp2_with ((go_at_call 189; (with_reducible refine (sign_any _ _ _).mono ?_); rintro e w' ⟨rfl, rfl⟩; rw [← HD.out]))
    go_ret
    exact ⟨ret_bool Hres.out, (by ((with_reducible repeat' first | exact .refl _ _ | exact k0 | refine .alloc ?_ ?_ _ | refine .setCell ?_ ?_ _ | refine .drew ?_ | refine below_drewN ?_ _ | refine Below.trans ?_ (k0.mono ?_)) <;> first | omega | simp <;> omega))⟩
 exact walk nr rfl
end Go.Proofs.YtigjljmhpkeahaaGreat
