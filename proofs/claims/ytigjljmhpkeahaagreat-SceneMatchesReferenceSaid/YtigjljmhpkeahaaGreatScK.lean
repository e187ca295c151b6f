
/- Package scene: Refuse. -/
import Derived.Test.YtigjljmhpkeahaaGreatScG
import Derived.Test.YtigjljmhpkeahaaGreatGm
namespace Go.Proofs.YtigjljmhpkeahaaGreat
open Go.RowKit

def rfIn (s : Si) (pl : List Int) (pm t : Int) : Bool := (inB pm 0 3000000000000000 && inB t 0 3000000000000000) && decide (nwE s pl = 0 ∧ pm < (accO (nwO s pl)).wd)
def rfEr (s : Si) (pl : List Int) (pm t : Int) : Int := if (inB pm 0 3000000000000000 && inB t 0 3000000000000000) = true then (if nwE s pl = 0 then (if (accO (nwO s pl)).wd ≤ pm then 0 else wsEr s (accO (nwO s pl)).use (accO (nwO s pl)).ev t) else nwE s pl) else 1
def rfS (s : Si) (pl : List Int) (pm t : Int) : Sc := if rfIn s pl pm t = true then wsS s (accO (nwO s pl)).use (accO (nwO s pl)).ev t else sc0
def rfB (s : Si) (pl : List Int) (pm t : Int) : Bool := rfIn s pl pm t && decide (wsEr s (accO (nwO s pl)).use (accO (nwO s pl)).ev t = 0)
def RefPost (w : World) (s : Si) (pl : List Int) (pm t : Int) (e : Ending) (w' : World) : Prop :=
 ∃ uv av, e = .returned (.tuple #[valSc (rfS s pl pm t) uv av, .bool (rfB s pl pm t), .int .i64 (rfEr s pl pm t)]) ∧ ScRet w w' (rfS s pl pm t) uv av ∧ Below w.heap.size w w'
set_option maxRecDepth 100000 in
set_option maxHeartbeats 1000000 in
theorem scRefuse_any (r f lo tm : Int) (pv : Value) (ps : List Pr) (v : Value) (pl : List Int) (pm at_ : Int) (w : World) (hp : PrRow w pv ps) (hv : IsRow w v pl) :
  Calls Tryz.prog 22 #[.agg #[.int .i64 r, .int .i64 f, .int .i64 lo, .int .i64 tm, pv], v, .int .i64 pm, .int .i64 at_] w (RefPost w ⟨r, f, lo, tm, ps⟩ pl pm at_) := by
 have hR : ∀ W : World, Below w.heap.size w W → PrRow W pv ps ∧ IsRow W v pl := fun W hW => ⟨hp.below (Nat.le_refl _) hW, hv.below (Nat.le_refl _) hW⟩
 have HR := hide hR
 obtain ⟨W0, hW0⟩ : ∃ W : World, W = (w.alloc (.cells #[.int .i64 r, .int .i64 f, .int .i64 lo, .int .i64 tm, pv] 24)).alloc (.cells #[.slice none 0 0, .int .i64 0, .int .i64 0, .slice none 0 0, .int .i64 0] 30) := ⟨_, rfl⟩
 have hS : ∀ V : World, Below (w.heap.size + 2) W0 V → (V.cell? ⟨w.heap.size, 0, none⟩ = some (.int .i64 r) ∧ V.cell? ⟨w.heap.size, 1, none⟩ = some (.int .i64 f) ∧ V.cell? ⟨w.heap.size, 2, none⟩ = some (.int .i64 lo) ∧ V.cell? ⟨w.heap.size, 3, none⟩ = some (.int .i64 tm) ∧ V.cell? ⟨w.heap.size, 4, none⟩ = some pv) ∧
   (V.cell? ⟨w.heap.size + 1, 0, none⟩ = some (.slice none 0 0) ∧ V.cell? ⟨w.heap.size + 1, 1, none⟩ = some (.int .i64 0) ∧ V.cell? ⟨w.heap.size + 1, 2, none⟩ = some (.int .i64 0) ∧ V.cell? ⟨w.heap.size + 1, 3, none⟩ = some (.slice none 0 0) ∧ V.cell? ⟨w.heap.size + 1, 4, none⟩ = some (.int .i64 0)) ∧
   (V.frozen? ⟨w.heap.size + 1, 0, none⟩ = false ∧ V.frozen? ⟨w.heap.size + 1, 1, none⟩ = false ∧ V.frozen? ⟨w.heap.size + 1, 2, none⟩ = false ∧ V.frozen? ⟨w.heap.size + 1, 3, none⟩ = false ∧ V.frozen? ⟨w.heap.size + 1, 4, none⟩ = false) ∧ w.heap.size + 2 ≤ V.heap.size ∧ Below w.heap.size w V := by
  intro V hV
  have bW : Below w.heap.size w W0 := by rw [hW0]; ((with_reducible repeat' first | exact .refl _ _ | refine .alloc ?_ ?_ _ | refine .setCell ?_ ?_ _ | refine .drew ?_ | refine below_drewN ?_ _) <;> first | omega | simp <;> omega)
  have zW : W0.heap.size = w.heap.size + 2 := by rw [hW0]; simp
  have hz := hV.size
  have h0 := (bk hV w.heap.size (by omega)).1
  have h1 := bk hV (w.heap.size + 1) (by omega)
  refine ⟨⟨(h0 _).trans ?_, (h0 _).trans ?_, (h0 _).trans ?_, (h0 _).trans ?_, (h0 _).trans ?_⟩, ⟨(h1.1 _).trans ?_, (h1.1 _).trans ?_, (h1.1 _).trans ?_, (h1.1 _).trans ?_, (h1.1 _).trans ?_⟩, ⟨(h1.2 _).trans ?_, (h1.2 _).trans ?_, (h1.2 _).trans ?_, (h1.2 _).trans ?_, (h1.2 _).trans ?_⟩, by omega, bW.trans (hV.mono (by omega))⟩ <;> rw [hW0] <;> simp [go_sem]
 have HS := hide hS
 obtain ⟨X, hX⟩ : ∃ X, X = rfS ⟨r, f, lo, tm, ps⟩ pl pm at_ := ⟨_, rfl⟩
 obtain ⟨XB, hXB⟩ : ∃ X, X = rfB ⟨r, f, lo, tm, ps⟩ pl pm at_ := ⟨_, rfl⟩
 obtain ⟨XE, hXE⟩ : ∃ X, X = rfEr ⟨r, f, lo, tm, ps⟩ pl pm at_ := ⟨_, rfl⟩
 unfold RefPost
 rw [← hX, ← hXB, ← hXE]
 clear hR hS hp hv
 cases h1 : inB pm 0 3000000000000000 && inB at_ 0 3000000000000000 with
 | false =>
  have HX : Hid (X = sc0 ∧ XB = false ∧ XE = 1) := hide (by rw [hX, hXB, hXE]; unfold rfS rfB rfEr rfIn; rw [h1]; exact ⟨by rw [if_neg (by simp)], by simp, by rw [if_neg (by simp)]⟩)
  clear hX hXB hXE
  cases h2 : inB pm 0 3000000000000000 <;> cases h3 : inB at_ 0 3000000000000000
  case true.true => rw [h2, h3] at h1; cases h1
  all_goals
   clear h1
   go_enter Tryz.func22, Tryz.ntmps22
   go_upto_region 1 with fail
   rw [← hW0]
   clear hW0
   have B0 : Below (w.heap.size + 2) W0 W0 := Below.refl _ _
   obtain ⟨⟨y0, y1, y2, y3, y4⟩, ⟨v0, v1, v2, v3, v4⟩, ⟨f0, f1, f2, f3, f4⟩, z0, b0⟩ := HS.out W0 B0
   go_wp2_with (go_at_call 31; refine (scWithin_any _ _ _ _).mono ?_; rintro e w' ⟨rfl, rfl⟩)
   have d := stores_at (w.heap.size + 1) [.slice none 0 0, .int .i64 0, .int .i64 0, .slice none 0 0, .int .i64 0] 0 (W0) (ex5 v0 v1 v2 v3 v4); have d0 : (((((W0.setCell ⟨w.heap.size + 1, 0, none⟩ (.slice none 0 0)).setCell ⟨w.heap.size + 1, 1, none⟩ (.int .i64 0)).setCell ⟨w.heap.size + 1, 2, none⟩ (.int .i64 0)).setCell ⟨w.heap.size + 1, 3, none⟩ (.slice none 0 0)).setCell ⟨w.heap.size + 1, 4, none⟩ (.int .i64 0)).cell? ⟨w.heap.size + 1, 0, none⟩ = some (.slice none 0 0) := d 0 _ rfl; have d1 : (((((W0.setCell ⟨w.heap.size + 1, 0, none⟩ (.slice none 0 0)).setCell ⟨w.heap.size + 1, 1, none⟩ (.int .i64 0)).setCell ⟨w.heap.size + 1, 2, none⟩ (.int .i64 0)).setCell ⟨w.heap.size + 1, 3, none⟩ (.slice none 0 0)).setCell ⟨w.heap.size + 1, 4, none⟩ (.int .i64 0)).cell? ⟨w.heap.size + 1, 1, none⟩ = some (.int .i64 0) := d 1 _ rfl; have d2 : (((((W0.setCell ⟨w.heap.size + 1, 0, none⟩ (.slice none 0 0)).setCell ⟨w.heap.size + 1, 1, none⟩ (.int .i64 0)).setCell ⟨w.heap.size + 1, 2, none⟩ (.int .i64 0)).setCell ⟨w.heap.size + 1, 3, none⟩ (.slice none 0 0)).setCell ⟨w.heap.size + 1, 4, none⟩ (.int .i64 0)).cell? ⟨w.heap.size + 1, 2, none⟩ = some (.int .i64 0) := d 2 _ rfl; have d3 : (((((W0.setCell ⟨w.heap.size + 1, 0, none⟩ (.slice none 0 0)).setCell ⟨w.heap.size + 1, 1, none⟩ (.int .i64 0)).setCell ⟨w.heap.size + 1, 2, none⟩ (.int .i64 0)).setCell ⟨w.heap.size + 1, 3, none⟩ (.slice none 0 0)).setCell ⟨w.heap.size + 1, 4, none⟩ (.int .i64 0)).cell? ⟨w.heap.size + 1, 3, none⟩ = some (.slice none 0 0) := d 3 _ rfl; have d4 : (((((W0.setCell ⟨w.heap.size + 1, 0, none⟩ (.slice none 0 0)).setCell ⟨w.heap.size + 1, 1, none⟩ (.int .i64 0)).setCell ⟨w.heap.size + 1, 2, none⟩ (.int .i64 0)).setCell ⟨w.heap.size + 1, 3, none⟩ (.slice none 0 0)).setCell ⟨w.heap.size + 1, 4, none⟩ (.int .i64 0)).cell? ⟨w.heap.size + 1, 4, none⟩ = some (.int .i64 0) := d 4 _ rfl
   exact bodyPost_ret (v := .tuple #[.agg #[.slice none 0 0, .int .i64 0, .int .i64 0, .slice none 0 0, .int .i64 0], .bool false, .int .i64 (1)]) (by simp [results, Tryz.results22, go_sem, d0, d1, d2, d3, d4]) rfl ⟨_, _, by rw [HX.out.1, HX.out.2.1, HX.out.2.2]; rfl, by rw [HX.out.1]; exact ScRet.none _ _, (by ((with_reducible repeat' first | exact .refl _ _ | exact b0 | refine .alloc ?_ ?_ _ | refine .setCell ?_ ?_ _ | refine .drew ?_ | refine below_drewN ?_ _ | refine Below.trans ?_ (b0.mono ?_)) <;> first | omega | simp <;> omega))⟩
 | true =>
  obtain ⟨h2, h3⟩ := (Bool.and_eq_true _ _).mp h1
  have hin : rfIn ⟨r, f, lo, tm, ps⟩ pl pm at_ = decide (nwE ⟨r, f, lo, tm, ps⟩ pl = 0 ∧ pm < (accO (nwO ⟨r, f, lo, tm, ps⟩ pl)).wd) := by unfold rfIn; rw [h1, Bool.true_and]
  have her : rfEr ⟨r, f, lo, tm, ps⟩ pl pm at_ = if nwE ⟨r, f, lo, tm, ps⟩ pl = 0 then (if (accO (nwO ⟨r, f, lo, tm, ps⟩ pl)).wd ≤ pm then 0 else wsEr ⟨r, f, lo, tm, ps⟩ (accO (nwO ⟨r, f, lo, tm, ps⟩ pl)).use (accO (nwO ⟨r, f, lo, tm, ps⟩ pl)).ev at_) else nwE ⟨r, f, lo, tm, ps⟩ pl := by unfold rfEr; rw [h1, if_pos rfl]
  have HN := hide (fun W h1 h2 => plN_any r f lo tm pv ps v pl W h1 h2)
  have hxs : rfS ⟨r, f, lo, tm, ps⟩ pl pm at_ = if rfIn ⟨r, f, lo, tm, ps⟩ pl pm at_ = true then wsS ⟨r, f, lo, tm, ps⟩ (accO (nwO ⟨r, f, lo, tm, ps⟩ pl)).use (accO (nwO ⟨r, f, lo, tm, ps⟩ pl)).ev at_ else sc0 := rfl
  have hxb : rfB ⟨r, f, lo, tm, ps⟩ pl pm at_ = (rfIn ⟨r, f, lo, tm, ps⟩ pl pm at_ && decide (wsEr ⟨r, f, lo, tm, ps⟩ (accO (nwO ⟨r, f, lo, tm, ps⟩ pl)).use (accO (nwO ⟨r, f, lo, tm, ps⟩ pl)).ev at_ = 0)) := rfl
  rw [← hX] at hxs
  rw [← hXB] at hxb
  rw [← hXE] at her
  rw [hin] at hxs hxb
  clear hin hX hXB hXE h1
  generalize nwE ⟨r, f, lo, tm, ps⟩ pl = ne at *
  generalize accO (nwO ⟨r, f, lo, tm, ps⟩ pl) = c at *
  obtain ⟨cu, ce, cw⟩ := c
  simp only at HN hxs hxb her
  have HWo := hide (fun uv W h1 h2 => scWorst_any r f lo tm pv ps uv cu ce at_ W h1 h2)
  unfold WorstPost valSc at HWo
  by_cases h4 : ne = 0 ∧ pm < cw
  ·obtain ⟨h5, h6⟩ := h4
   have HX : Hid (X = wsS ⟨r, f, lo, tm, ps⟩ cu ce at_ ∧ XB = decide (wsEr ⟨r, f, lo, tm, ps⟩ cu ce at_ = 0) ∧ XE = wsEr ⟨r, f, lo, tm, ps⟩ cu ce at_) := hide ⟨by rw [hxs, if_pos (by simpa using ⟨h5, h6⟩)], by rw [hxb, decide_eq_true ⟨h5, h6⟩, Bool.true_and], by rw [her, if_pos h5, if_neg (by omega)]⟩
   have hd : decide (cw ≤ pm) = false := decide_eq_false (by omega)
   subst h5
   clear hxs hxb her h6
   generalize wsS ⟨r, f, lo, tm, ps⟩ cu ce at_ = S at *
   generalize wsEr ⟨r, f, lo, tm, ps⟩ cu ce at_ = SE at *
   obtain ⟨Su, Se, Sa, Sn, Sc_⟩ := S
   go_enter Tryz.func22, Tryz.ntmps22
   go_upto_region 1 with fail
   rw [← hW0]
   clear hW0
   have B0 : Below (w.heap.size + 2) W0 W0 := Below.refl _ _
   obtain ⟨⟨y0, y1, y2, y3, y4⟩, ⟨v0, v1, v2, v3, v4⟩, ⟨f0, f1, f2, f3, f4⟩, z0, b0⟩ := HS.out W0 B0
   go_wp2_with (first | (go_at_call 31; refine (scWithin_any _ _ _ _).mono ?_; rintro e w' ⟨rfl, rfl⟩) | (go_at_call 61; (with_reducible refine (HN.out _ (HR.out _ b0).1 (HR.out _ b0).2).mono ?_); rintro e w1 ⟨nv, rfl, hnr, hno, k1⟩; obtain ⟨na, nc, hne, -⟩ := id hnr; subst hne; have B1 : Below (w.heap.size + 2) W0 w1 := B0.trans (k1.mono z0); have Hnr := hide hnr; clear y0 y1 y2 y3 y4 v0 v1 v2 v3 v4 f0 f1 f2 f3 f4 z0 b0 k1 hnr hno B0; obtain ⟨⟨y0, y1, y2, y3, y4⟩, ⟨v0, v1, v2, v3, v4⟩, ⟨f0, f1, f2, f3, f4⟩, z0, b0⟩ := HS.out w1 B1; have zq0 : w.heap.size < w1.heap.size := (by omega); have zq1 : w.heap.size + 1 < w1.heap.size := (by omega)) | (go_at_call 14; (with_reducible refine (HWo.out _ _ (HR.out _ (by ((with_reducible repeat' first | exact .refl _ _ | exact b0 | refine .alloc ?_ ?_ _ | refine .setCell ?_ ?_ _ | refine .drew ?_ | refine below_drewN ?_ _ | refine Below.trans ?_ (b0.mono ?_)) <;> first | omega | simp <;> omega))).1 (Hnr.out.below (Nat.le_refl _) (by ((with_reducible repeat' first | exact .refl _ _ | refine .alloc ?_ ?_ _ | refine .setCell ?_ ?_ _ | refine .drew ?_ | refine below_drewN ?_ _) <;> first | omega | simp <;> omega)))).mono ?_); rintro e w2 ⟨su, sa, rfl, hsr, k2⟩; obtain ⟨ua, uc, hue, -, -⟩ := hsr.1.val; obtain ⟨aa, ac, hae, -, -⟩ := hsr.2.val; subst hue; subst hae; have kk : Below w1.heap.size w1 w2 := (by ((with_reducible repeat' first | exact .refl _ _ | exact k2 | refine .alloc ?_ ?_ _ | refine .setCell ?_ ?_ _ | refine .drew ?_ | refine below_drewN ?_ _ | refine Below.trans ?_ (k2.mono ?_)) <;> first | omega | simp <;> omega)); have kz := kk.size; have zw1 := z0; have B2 : Below (w.heap.size + 2) W0 w2 := B1.trans (kk.mono z0); have Hsr := hide hsr; clear y0 y1 y2 y3 y4 v0 v1 v2 v3 v4 f0 f1 f2 f3 f4 z0 b0 k2 kk hsr zq0 zq1; obtain ⟨⟨y0, y1, y2, y3, y4⟩, ⟨v0, v1, v2, v3, v4⟩, ⟨f0, f1, f2, f3, f4⟩, z0, b0⟩ := HS.out w2 B2; have zq0 : w.heap.size < w2.heap.size := (by omega); have zq1 : w.heap.size + 1 < w2.heap.size := (by omega)))
   have d := stores_at (w.heap.size + 1) [.slice ua Su.length uc, .int .i64 Se, .int .i64 Sa, .slice aa Sn.length ac, .int .i64 Sc_] 0 (w2) (ex5 v0 v1 v2 v3 v4); have d0 : (((((w2.setCell ⟨w.heap.size + 1, 0, none⟩ (.slice ua Su.length uc)).setCell ⟨w.heap.size + 1, 1, none⟩ (.int .i64 Se)).setCell ⟨w.heap.size + 1, 2, none⟩ (.int .i64 Sa)).setCell ⟨w.heap.size + 1, 3, none⟩ (.slice aa Sn.length ac)).setCell ⟨w.heap.size + 1, 4, none⟩ (.int .i64 Sc_)).cell? ⟨w.heap.size + 1, 0, none⟩ = some (.slice ua Su.length uc) := d 0 _ rfl; have d1 : (((((w2.setCell ⟨w.heap.size + 1, 0, none⟩ (.slice ua Su.length uc)).setCell ⟨w.heap.size + 1, 1, none⟩ (.int .i64 Se)).setCell ⟨w.heap.size + 1, 2, none⟩ (.int .i64 Sa)).setCell ⟨w.heap.size + 1, 3, none⟩ (.slice aa Sn.length ac)).setCell ⟨w.heap.size + 1, 4, none⟩ (.int .i64 Sc_)).cell? ⟨w.heap.size + 1, 1, none⟩ = some (.int .i64 Se) := d 1 _ rfl; have d2 : (((((w2.setCell ⟨w.heap.size + 1, 0, none⟩ (.slice ua Su.length uc)).setCell ⟨w.heap.size + 1, 1, none⟩ (.int .i64 Se)).setCell ⟨w.heap.size + 1, 2, none⟩ (.int .i64 Sa)).setCell ⟨w.heap.size + 1, 3, none⟩ (.slice aa Sn.length ac)).setCell ⟨w.heap.size + 1, 4, none⟩ (.int .i64 Sc_)).cell? ⟨w.heap.size + 1, 2, none⟩ = some (.int .i64 Sa) := d 2 _ rfl; have d3 : (((((w2.setCell ⟨w.heap.size + 1, 0, none⟩ (.slice ua Su.length uc)).setCell ⟨w.heap.size + 1, 1, none⟩ (.int .i64 Se)).setCell ⟨w.heap.size + 1, 2, none⟩ (.int .i64 Sa)).setCell ⟨w.heap.size + 1, 3, none⟩ (.slice aa Sn.length ac)).setCell ⟨w.heap.size + 1, 4, none⟩ (.int .i64 Sc_)).cell? ⟨w.heap.size + 1, 3, none⟩ = some (.slice aa Sn.length ac) := d 3 _ rfl; have d4 : (((((w2.setCell ⟨w.heap.size + 1, 0, none⟩ (.slice ua Su.length uc)).setCell ⟨w.heap.size + 1, 1, none⟩ (.int .i64 Se)).setCell ⟨w.heap.size + 1, 2, none⟩ (.int .i64 Sa)).setCell ⟨w.heap.size + 1, 3, none⟩ (.slice aa Sn.length ac)).setCell ⟨w.heap.size + 1, 4, none⟩ (.int .i64 Sc_)).cell? ⟨w.heap.size + 1, 4, none⟩ = some (.int .i64 Sc_) := d 4 _ rfl
   have hnu : ∀ q, (Value.slice ua Su.length uc).ownBlock = some q → q ≠ w.heap.size + 1 := fun q hq => by have := (World.ownsRow.lt Hsr.out.1 q hq).1; (try simp only [World.size_alloc] at this); omega
   have hna : ∀ q, (Value.slice aa Sn.length ac).ownBlock = some q → q ≠ w.heap.size + 1 := fun q hq => by have := (World.ownsRow.lt Hsr.out.2 q hq).1; (try simp only [World.size_alloc] at this); omega
   have hu9 : OwnIs w2 w.heap.size (.slice ua Su.length uc) Su := World.ownsRow.mono Hsr.out.1 (by (try simp only [World.size_alloc]); omega)
   have ha9 : OwnAn w2 w.heap.size (.slice aa Sn.length ac) Sn := World.ownsRow.mono Hsr.out.2 (by (try simp only [World.size_alloc]); omega)
   exact bodyPost_ret (v := .tuple #[.agg #[.slice ua Su.length uc, .int .i64 Se, .int .i64 Sa, .slice aa Sn.length ac, .int .i64 Sc_], .bool (SE == 0), .int .i64 SE]) (by simp [results, Tryz.results22, go_sem, d0, d1, d2, d3, d4, zq1]) rfl ⟨.slice ua Su.length uc, .slice aa Sn.length ac, by rw [HX.out.1, HX.out.2.1, HX.out.2.2, show decide (SE = 0) = (SE == 0) by rw [Bool.eq_iff_iff]; simp]; rfl, by rw [HX.out.1]; exact ⟨World.ownsRow.alloc (stores_owns (n := w.heap.size + 1) hnu [.slice ua Su.length uc, .int .i64 Se, .int .i64 Sa, .slice aa Sn.length ac, .int .i64 Sc_] 0 w2 hu9) _, World.ownsRow.alloc (stores_owns (n := w.heap.size + 1) hna [.slice ua Su.length uc, .int .i64 Se, .int .i64 Sa, .slice aa Sn.length ac, .int .i64 Sc_] 0 w2 ha9) _⟩, (by ((with_reducible repeat' first | exact .refl _ _ | exact b0 | refine .alloc ?_ ?_ _ | refine .setCell ?_ ?_ _ | refine .drew ?_ | refine below_drewN ?_ _ | refine Below.trans ?_ (b0.mono ?_)) <;> first | omega | simp <;> omega))⟩
  ·have hNo : X = sc0 ∧ XB = false := ⟨by rw [hxs, if_neg (by simpa using h4)], by rw [hxb, decide_eq_false h4]; rfl⟩
   by_cases h5 : ne = 0
   ·have h6 : cw ≤ pm := by omega
    have HX : Hid (X = sc0 ∧ XB = false ∧ XE = 0) := hide ⟨hNo.1, hNo.2, by rw [her, if_pos h5, if_pos h6]⟩
    have hd : decide (cw ≤ pm) = true := decide_eq_true h6
    subst h5
    clear hxs hxb her h4 h6 hNo HWo
    go_enter Tryz.func22, Tryz.ntmps22
    go_upto_region 1 with fail
    rw [← hW0]
    clear hW0
    have B0 : Below (w.heap.size + 2) W0 W0 := Below.refl _ _
    obtain ⟨⟨y0, y1, y2, y3, y4⟩, ⟨v0, v1, v2, v3, v4⟩, ⟨f0, f1, f2, f3, f4⟩, z0, b0⟩ := HS.out W0 B0
    go_wp2_with (first | (go_at_call 31; refine (scWithin_any _ _ _ _).mono ?_; rintro e w' ⟨rfl, rfl⟩) | (go_at_call 61; (with_reducible refine (HN.out _ (HR.out _ b0).1 (HR.out _ b0).2).mono ?_); rintro e w1 ⟨nv, rfl, hnr, hno, k1⟩; obtain ⟨na, nc, hne, -⟩ := id hnr; subst hne; have B1 : Below (w.heap.size + 2) W0 w1 := B0.trans (k1.mono z0); clear y0 y1 y2 y3 y4 v0 v1 v2 v3 v4 f0 f1 f2 f3 f4 z0 b0 k1 hnr hno B0; obtain ⟨⟨y0, y1, y2, y3, y4⟩, ⟨v0, v1, v2, v3, v4⟩, ⟨f0, f1, f2, f3, f4⟩, z0, b0⟩ := HS.out w1 B1; have zq0 : w.heap.size < w1.heap.size := (by omega); have zq1 : w.heap.size + 1 < w1.heap.size := (by omega)))
    have d := stores_at (w.heap.size + 1) [.slice none 0 0, .int .i64 0, .int .i64 0, .slice none 0 0, .int .i64 0] 0 (w1) (ex5 v0 v1 v2 v3 v4); have d0 : (((((w1.setCell ⟨w.heap.size + 1, 0, none⟩ (.slice none 0 0)).setCell ⟨w.heap.size + 1, 1, none⟩ (.int .i64 0)).setCell ⟨w.heap.size + 1, 2, none⟩ (.int .i64 0)).setCell ⟨w.heap.size + 1, 3, none⟩ (.slice none 0 0)).setCell ⟨w.heap.size + 1, 4, none⟩ (.int .i64 0)).cell? ⟨w.heap.size + 1, 0, none⟩ = some (.slice none 0 0) := d 0 _ rfl; have d1 : (((((w1.setCell ⟨w.heap.size + 1, 0, none⟩ (.slice none 0 0)).setCell ⟨w.heap.size + 1, 1, none⟩ (.int .i64 0)).setCell ⟨w.heap.size + 1, 2, none⟩ (.int .i64 0)).setCell ⟨w.heap.size + 1, 3, none⟩ (.slice none 0 0)).setCell ⟨w.heap.size + 1, 4, none⟩ (.int .i64 0)).cell? ⟨w.heap.size + 1, 1, none⟩ = some (.int .i64 0) := d 1 _ rfl; have d2 : (((((w1.setCell ⟨w.heap.size + 1, 0, none⟩ (.slice none 0 0)).setCell ⟨w.heap.size + 1, 1, none⟩ (.int .i64 0)).setCell ⟨w.heap.size + 1, 2, none⟩ (.int .i64 0)).setCell ⟨w.heap.size + 1, 3, none⟩ (.slice none 0 0)).setCell ⟨w.heap.size + 1, 4, none⟩ (.int .i64 0)).cell? ⟨w.heap.size + 1, 2, none⟩ = some (.int .i64 0) := d 2 _ rfl; have d3 : (((((w1.setCell ⟨w.heap.size + 1, 0, none⟩ (.slice none 0 0)).setCell ⟨w.heap.size + 1, 1, none⟩ (.int .i64 0)).setCell ⟨w.heap.size + 1, 2, none⟩ (.int .i64 0)).setCell ⟨w.heap.size + 1, 3, none⟩ (.slice none 0 0)).setCell ⟨w.heap.size + 1, 4, none⟩ (.int .i64 0)).cell? ⟨w.heap.size + 1, 3, none⟩ = some (.slice none 0 0) := d 3 _ rfl; have d4 : (((((w1.setCell ⟨w.heap.size + 1, 0, none⟩ (.slice none 0 0)).setCell ⟨w.heap.size + 1, 1, none⟩ (.int .i64 0)).setCell ⟨w.heap.size + 1, 2, none⟩ (.int .i64 0)).setCell ⟨w.heap.size + 1, 3, none⟩ (.slice none 0 0)).setCell ⟨w.heap.size + 1, 4, none⟩ (.int .i64 0)).cell? ⟨w.heap.size + 1, 4, none⟩ = some (.int .i64 0) := d 4 _ rfl
    exact bodyPost_ret (v := .tuple #[.agg #[.slice none 0 0, .int .i64 0, .int .i64 0, .slice none 0 0, .int .i64 0], .bool false, .int .i64 (0)]) (by simp [results, Tryz.results22, go_sem, d0, d1, d2, d3, d4, zq1]) rfl ⟨_, _, by rw [HX.out.1, HX.out.2.1, HX.out.2.2]; rfl, by rw [HX.out.1]; exact ScRet.none _ _, (by ((with_reducible repeat' first | exact .refl _ _ | exact b0 | refine .alloc ?_ ?_ _ | refine .setCell ?_ ?_ _ | refine .drew ?_ | refine below_drewN ?_ _ | refine Below.trans ?_ (b0.mono ?_)) <;> first | omega | simp <;> omega))⟩
   ·have HX : Hid (X = sc0 ∧ XB = false ∧ XE = ne) := hide ⟨hNo.1, hNo.2, by rw [her, if_neg h5]⟩
    have hdn : (ne != 0) = true := by rw [bne_iff_ne]; exact h5
    clear hxs hxb her h4 h5 hNo HWo
    go_enter Tryz.func22, Tryz.ntmps22
    go_upto_region 1 with fail
    rw [← hW0]
    clear hW0
    have B0 : Below (w.heap.size + 2) W0 W0 := Below.refl _ _
    obtain ⟨⟨y0, y1, y2, y3, y4⟩, ⟨v0, v1, v2, v3, v4⟩, ⟨f0, f1, f2, f3, f4⟩, z0, b0⟩ := HS.out W0 B0
    go_wp2_with (first | (go_at_call 31; refine (scWithin_any _ _ _ _).mono ?_; rintro e w' ⟨rfl, rfl⟩) | (go_at_call 61; (with_reducible refine (HN.out _ (HR.out _ b0).1 (HR.out _ b0).2).mono ?_); rintro e w1 ⟨nv, rfl, hnr, hno, k1⟩; obtain ⟨na, nc, hne, -⟩ := id hnr; subst hne; have B1 : Below (w.heap.size + 2) W0 w1 := B0.trans (k1.mono z0); clear y0 y1 y2 y3 y4 v0 v1 v2 v3 v4 f0 f1 f2 f3 f4 z0 b0 k1 hnr hno B0; obtain ⟨⟨y0, y1, y2, y3, y4⟩, ⟨v0, v1, v2, v3, v4⟩, ⟨f0, f1, f2, f3, f4⟩, z0, b0⟩ := HS.out w1 B1; have zq0 : w.heap.size < w1.heap.size := (by omega); have zq1 : w.heap.size + 1 < w1.heap.size := (by omega)))
    have d := stores_at (w.heap.size + 1) [.slice none 0 0, .int .i64 0, .int .i64 0, .slice none 0 0, .int .i64 0] 0 (w1) (ex5 v0 v1 v2 v3 v4); have d0 : (((((w1.setCell ⟨w.heap.size + 1, 0, none⟩ (.slice none 0 0)).setCell ⟨w.heap.size + 1, 1, none⟩ (.int .i64 0)).setCell ⟨w.heap.size + 1, 2, none⟩ (.int .i64 0)).setCell ⟨w.heap.size + 1, 3, none⟩ (.slice none 0 0)).setCell ⟨w.heap.size + 1, 4, none⟩ (.int .i64 0)).cell? ⟨w.heap.size + 1, 0, none⟩ = some (.slice none 0 0) := d 0 _ rfl; have d1 : (((((w1.setCell ⟨w.heap.size + 1, 0, none⟩ (.slice none 0 0)).setCell ⟨w.heap.size + 1, 1, none⟩ (.int .i64 0)).setCell ⟨w.heap.size + 1, 2, none⟩ (.int .i64 0)).setCell ⟨w.heap.size + 1, 3, none⟩ (.slice none 0 0)).setCell ⟨w.heap.size + 1, 4, none⟩ (.int .i64 0)).cell? ⟨w.heap.size + 1, 1, none⟩ = some (.int .i64 0) := d 1 _ rfl; have d2 : (((((w1.setCell ⟨w.heap.size + 1, 0, none⟩ (.slice none 0 0)).setCell ⟨w.heap.size + 1, 1, none⟩ (.int .i64 0)).setCell ⟨w.heap.size + 1, 2, none⟩ (.int .i64 0)).setCell ⟨w.heap.size + 1, 3, none⟩ (.slice none 0 0)).setCell ⟨w.heap.size + 1, 4, none⟩ (.int .i64 0)).cell? ⟨w.heap.size + 1, 2, none⟩ = some (.int .i64 0) := d 2 _ rfl; have d3 : (((((w1.setCell ⟨w.heap.size + 1, 0, none⟩ (.slice none 0 0)).setCell ⟨w.heap.size + 1, 1, none⟩ (.int .i64 0)).setCell ⟨w.heap.size + 1, 2, none⟩ (.int .i64 0)).setCell ⟨w.heap.size + 1, 3, none⟩ (.slice none 0 0)).setCell ⟨w.heap.size + 1, 4, none⟩ (.int .i64 0)).cell? ⟨w.heap.size + 1, 3, none⟩ = some (.slice none 0 0) := d 3 _ rfl; have d4 : (((((w1.setCell ⟨w.heap.size + 1, 0, none⟩ (.slice none 0 0)).setCell ⟨w.heap.size + 1, 1, none⟩ (.int .i64 0)).setCell ⟨w.heap.size + 1, 2, none⟩ (.int .i64 0)).setCell ⟨w.heap.size + 1, 3, none⟩ (.slice none 0 0)).setCell ⟨w.heap.size + 1, 4, none⟩ (.int .i64 0)).cell? ⟨w.heap.size + 1, 4, none⟩ = some (.int .i64 0) := d 4 _ rfl
    exact bodyPost_ret (v := .tuple #[.agg #[.slice none 0 0, .int .i64 0, .int .i64 0, .slice none 0 0, .int .i64 0], .bool false, .int .i64 (ne)]) (by simp [results, Tryz.results22, go_sem, d0, d1, d2, d3, d4, zq1]) rfl ⟨_, _, by rw [HX.out.1, HX.out.2.1, HX.out.2.2]; rfl, by rw [HX.out.1]; exact ScRet.none _ _, (by ((with_reducible repeat' first | exact .refl _ _ | exact b0 | refine .alloc ?_ ?_ _ | refine .setCell ?_ ?_ _ | refine .drew ?_ | refine below_drewN ?_ _ | refine Below.trans ?_ (b0.mono ?_)) <;> first | omega | simp <;> omega))⟩
end Go.Proofs.YtigjljmhpkeahaaGreat
