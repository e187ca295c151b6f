
/- For all sites, schedules, promises, certificates and choices: the statement CertMatchesReference answers true; without a condition. -/
import Derived.Test.YtlmcoollkmhanaaGreatCtX
namespace Go.Proofs.YtlmcoollkmhanaaGreat
open Go.RowKit

theorem Few_val (x : Ct) (u1 c1 : Value) (w : World) (h1 : IsRow w u1 x.use) (h2 : CsRow w c1 x.cs) :
  Calls Tryz.prog 8 #[.agg #[u1, .int .i64 x.ev, .int .i64 x.bd, .int .i64 x.wo, c1]] w fun e w' => e = .returned (.bool (fwB x)) ∧ Below w.heap.size w w' := R31Few_any x u1 c1 w h1 h2
theorem Same_val (x : Ct) (u1 c1 u2 c2 : Value) (w : World) (h1 : IsRow w u1 x.use) (h2 : CsRow w c1 x.cs) (h3 : IsRow w u2 x.use) (h4 : CsRow w c2 x.cs) :
  Calls Tryz.prog 11 #[.agg #[u1, .int .i64 x.ev, .int .i64 x.bd, .int .i64 x.wo, c1], .agg #[u2, .int .i64 x.ev, .int .i64 x.bd, .int .i64 x.wo, c2]] w fun e w' => e = .returned (.bool true) ∧ Below w.heap.size w w' := by
 have h := R31Same_any x x u1 c1 u2 c2 w h1 h2 h3 h4
 rw [(smB_iff x x).2 rfl] at h
 exact h
theorem RMake_val {r f lo tm : Int} {ps : List Pr} {use : List Int} {ev pm : Int} {X : Ct} {E : Int} (hX : mkX ⟨r, f, lo, tm, ps⟩ use ev pm = X) (hE : mkE ⟨r, f, lo, tm, ps⟩ use ev pm = E) (pv uv : Value) (V : World) (hp : PrRow V pv ps) (hu : IsRow V uv use) (hun : use.length ≤ 1000000) :
  Calls Tryz.prog 10 #[.agg #[.int .i64 r, .int .i64 f, .int .i64 lo, .int .i64 tm, pv], .agg #[uv, .int .i64 ev], .int .i64 pm] V fun e w' => ∃ uv2 cv2, e = .returned (.tuple #[.agg #[uv2, .int .i64 X.ev, .int .i64 X.bd, .int .i64 X.wo, cv2], .int .i64 E]) ∧ (IsRow w' uv2 X.use ∧ CsRow w' cv2 X.cs) ∧ Below V.heap.size V w' := by
 have h := R31Make_any r f lo tm pv ps uv use ev pm V hp hu hun
 unfold RmPost at h
 rw [hX, hE] at h
 exact h
theorem RCheck_val {r f lo tm : Int} {ps : List Pr} {use : List Int} {ev bd wo : Int} {cs : List Cs} {b : Bool} {E : Int} (hB : ckB ⟨r, f, lo, tm, ps⟩ ⟨use, ev, bd, wo, cs⟩ = b) (hE : ckE ⟨r, f, lo, tm, ps⟩ use ev = E) (pv uv cv : Value) (w : World) (hp : PrRow w pv ps) (hu : IsRow w uv use) (hc : CsRow w cv cs) (hun : use.length ≤ 1000000) :
  Calls Tryz.prog 13 #[.agg #[.int .i64 r, .int .i64 f, .int .i64 lo, .int .i64 tm, pv], .agg #[uv, .int .i64 ev, .int .i64 bd, .int .i64 wo, cv]] w fun e w' => e = .returned (.tuple #[.bool b, .int .i64 E]) ∧ Below w.heap.size w w' := by
 have h := R31Check_any r f lo tm pv ps uv use ev bd wo cv cs w hp hu hc hun
 rw [hB, hE] at h
 exact h
theorem RLimit_val {r f lo tm : Int} {ps : List Pr} {use : List Int} {ev : Int} {li gl : List Int} {v E : Int} (hV : lmV ⟨r, f, lo, tm, ps⟩ use ev li gl = v) (hE : lmE ⟨r, f, lo, tm, ps⟩ use ev li gl = E) (pv uv av bv : Value) (w : World) (hp : PrRow w pv ps) (hu : IsRow w uv use) (ha : IsRow w av li) (hg : IsRow w bv gl) (hun : use.length ≤ 1000000) (hln : li.length ≤ 1000) :
  Calls Tryz.prog 15 #[.agg #[.int .i64 r, .int .i64 f, .int .i64 lo, .int .i64 tm, pv], .agg #[uv, .int .i64 ev], av, bv] w fun e w' => e = .returned (.tuple #[.int .i64 v, .int .i64 E]) ∧ Below w.heap.size w w' := by
 have h := R31Limit_any r f lo tm pv ps uv use ev av li bv gl w hp hu ha hg hun hln
 rw [hV, hE] at h
 exact h
set_option maxRecDepth 100000 in
set_option maxHeartbeats 4000000 in
theorem CtZ1_any (w : World) (v0 : Value) (s : SiA) (hs : SiOk w v0 s) (v1 : Value) (c : ScA) (hc : ScOk w v1 c) (pm : Int) (v3 : Value) (x : CtA) (hx : CtOk w v3 x) (v4 : Value) (li : List Int) (hl : IsRow w v4 li) (_wl : WfI li) (v5 : Value) (lg : List Int) (hg : IsRow w v5 lg) (_wg : WfI lg) :
  Calls Tryz.prog 3 #[v0, v1, .int .i64 pm, v3, v4, v5] w fun e w' => e = .returned (.bool true) ∧ Below w.heap.size w w' := by
 obtain ⟨r, f, lo, tm, pv, ps⟩ := s
 obtain ⟨rfl, hp, -, -⟩ := hs
 simp only at hp ⊢
 obtain ⟨pa, pc, rfl, -, -⟩ := hp.len
 obtain ⟨uv, use, ev⟩ := c
 obtain ⟨rfl, hu, -, hev⟩ := hc
 simp only at hu hev ⊢
 obtain ⟨ua, uc, rfl, -, -, -⟩ := id hu
 obtain ⟨xuv, xcv, ⟨xu, xev, xbd, xwo, ycs⟩⟩ := x
 obtain ⟨rfl, hxu, hxc⟩ := hx
 simp only [valCt] at hxu hxc ⊢
 obtain ⟨xa, xc, rfl, -, -, -⟩ := id hxu
 obtain ⟨ya, yc, rfl, -, -⟩ := hxc.len
 obtain ⟨la, lc, rfl, -, -, -⟩ := id hl
 obtain ⟨ga, gc, rfl, -, -, -⟩ := id hg
 obtain ⟨W0, hW0⟩ : ∃ W : World, W = ((w.alloc (.cells #[.int .i64 r, .int .i64 f, .int .i64 lo, .int .i64 tm, .slice pa ps.length pc] 24)).alloc (.cells #[.slice ua use.length uc, .int .i64 ev] 27)).alloc (.cells #[.slice xa xu.length xc, .int .i64 xev, .int .i64 xbd, .int .i64 xwo, .slice ya ycs.length yc] 30) := ⟨_, rfl⟩
 have hb : Below w.heap.size w W0 := by rw [hW0]; ((with_reducible repeat' first | exact .refl _ _ | refine .alloc ?_ ?_ _ | refine .setCell ?_ ?_ _ | refine .drew ?_ | refine below_drewN ?_ _) <;> first | omega | simp <;> omega)
 have hS : BxC W0 w.heap.size [.int .i64 r, .int .i64 f, .int .i64 lo, .int .i64 tm, .slice pa ps.length pc] := by
  rw [hW0]
  exact ((BxC.made w [.int .i64 r, .int .i64 f, .int .i64 lo, .int .i64 tm, .slice pa ps.length pc] 24).alloc _).alloc _
 have hC : BxC W0 (w.heap.size + 1) [.slice ua use.length uc, .int .i64 ev] := by
  rw [hW0]
  have h_ := BxC.made (w.alloc (.cells #[.int .i64 r, .int .i64 f, .int .i64 lo, .int .i64 tm, .slice pa ps.length pc] 24)) [.slice ua use.length uc, .int .i64 ev] 27
  simp only [World.size_alloc] at h_
  exact h_.alloc _
 have hT : BxC W0 (w.heap.size + 1 + 1) [.slice xa xu.length xc, .int .i64 xev, .int .i64 xbd, .int .i64 xwo, .slice ya ycs.length yc] := by
  rw [hW0]
  have h_ := BxC.made ((w.alloc (.cells #[.int .i64 r, .int .i64 f, .int .i64 lo, .int .i64 tm, .slice pa ps.length pc] 24)).alloc (.cells #[.slice ua use.length uc, .int .i64 ev] 27)) [.slice xa xu.length xc, .int .i64 xev, .int .i64 xbd, .int .i64 xwo, .slice ya ycs.length yc] 30
  simp only [World.size_alloc] at h_
  exact h_
 have t_ := hp.below (Nat.le_refl _) hb; clear hp; have hp := t_; clear t_
 have t_ := hu.below (Nat.le_refl _) hb; clear hu; have hu := t_; clear t_
 have t_ := hxu.below (Nat.le_refl _) hb; clear hxu; have hxu := t_; clear t_
 have t_ := hxc.below (Nat.le_refl _) hb; clear hxc; have hxc := t_; clear t_
 have t_ := hl.below (Nat.le_refl _) hb; clear hl; have hl := t_; clear t_
 have t_ := hg.below (Nat.le_refl _) hb; clear hg; have hg := t_; clear t_
 cases hU : decide (ps.length ≤ 20 ∧ use.length ≤ 20) with
 | false =>
  go_enter Tryz.func3, Tryz.ntmps3
  go_upto_region 1 with fail
  rw [← hW0]
  clear hW0
  have cS_0 := hS.1 0 _ rfl
  have cS_1 := hS.1 1 _ rfl
  have cS_2 := hS.1 2 _ rfl
  have cS_3 := hS.1 3 _ rfl
  have cS_4 := hS.1 4 _ rfl
  have zS := hS.2.2
  have cC_0 := hC.1 0 _ rfl
  have cC_1 := hC.1 1 _ rfl
  have zC := hC.2.2
  have cT_0 := hT.1 0 _ rfl
  have cT_1 := hT.1 1 _ rfl
  have cT_2 := hT.1 2 _ rfl
  have cT_3 := hT.1 3 _ rfl
  have cT_4 := hT.1 4 _ rfl
  have zT := hT.2.2
  go_wp2_with (first | (go_at_call 6; (with_reducible refine (head31_any _).mono ?_); rintro e w1 ⟨rfl, k1⟩; clear cS_0 cS_1 cS_2 cS_3 cS_4 zS cC_0 cC_1 zC cT_0 cT_1 cT_2 cT_3 cT_4 zT; have t_ := hS.below hS.2.2 k1; clear hS; have hS := t_; clear t_; have t_ := hC.below hC.2.2 k1; clear hC; have hC := t_; clear t_; have t_ := hT.below hT.2.2 k1; clear hT; have hT := t_; clear t_; have t_ := hp.below (Nat.le_refl _) k1; clear hp; have hp := t_; clear t_; have t_ := hu.below (Nat.le_refl _) k1; clear hu; have hu := t_; clear t_; have t_ := hxu.below (Nat.le_refl _) k1; clear hxu; have hxu := t_; clear t_; have t_ := hxc.below (Nat.le_refl _) k1; clear hxc; have hxc := t_; clear t_; have t_ := hl.below (Nat.le_refl _) k1; clear hl; have hl := t_; clear t_; have t_ := hg.below (Nat.le_refl _) k1; clear hg; have hg := t_; clear t_; have t_ := hb.trans (k1.mono hb.size); clear hb; have hb := t_; clear t_; clear k1; have cS_0 := hS.1 0 _ rfl; have cS_1 := hS.1 1 _ rfl; have cS_2 := hS.1 2 _ rfl; have cS_3 := hS.1 3 _ rfl; have cS_4 := hS.1 4 _ rfl; have zS := hS.2.2; have cC_0 := hC.1 0 _ rfl; have cC_1 := hC.1 1 _ rfl; have zC := hC.2.2; have cT_0 := hT.1 0 _ rfl; have cT_1 := hT.1 1 _ rfl; have cT_2 := hT.1 2 _ rfl; have cT_3 := hT.1 3 _ rfl; have cT_4 := hT.1 4 _ rfl; have zT := hT.2.2) | (go_at_call 7; (with_reducible refine (R29Few_any r f lo tm _ ps _ use ev _ hp hu).mono ?_); rintro e w2 ⟨rfl, k2⟩; rw [hU]; clear cS_0 cS_1 cS_2 cS_3 cS_4 zS cC_0 cC_1 zC cT_0 cT_1 cT_2 cT_3 cT_4 zT; have t_ := hS.below hS.2.2 k2; clear hS; have hS := t_; clear t_; have t_ := hC.below hC.2.2 k2; clear hC; have hC := t_; clear t_; have t_ := hT.below hT.2.2 k2; clear hT; have hT := t_; clear t_; have t_ := hp.below (Nat.le_refl _) k2; clear hp; have hp := t_; clear t_; have t_ := hu.below (Nat.le_refl _) k2; clear hu; have hu := t_; clear t_; have t_ := hxu.below (Nat.le_refl _) k2; clear hxu; have hxu := t_; clear t_; have t_ := hxc.below (Nat.le_refl _) k2; clear hxc; have hxc := t_; clear t_; have t_ := hl.below (Nat.le_refl _) k2; clear hl; have hl := t_; clear t_; have t_ := hg.below (Nat.le_refl _) k2; clear hg; have hg := t_; clear t_; have t_ := hb.trans (k2.mono hb.size); clear hb; have hb := t_; clear t_; clear k2; have cS_0 := hS.1 0 _ rfl; have cS_1 := hS.1 1 _ rfl; have cS_2 := hS.1 2 _ rfl; have cS_3 := hS.1 3 _ rfl; have cS_4 := hS.1 4 _ rfl; have zS := hS.2.2; have cC_0 := hC.1 0 _ rfl; have cC_1 := hC.1 1 _ rfl; have zC := hC.2.2; have cT_0 := hT.1 0 _ rfl; have cT_1 := hT.1 1 _ rfl; have cT_2 := hT.1 2 _ rfl; have cT_3 := hT.1 3 _ rfl; have cT_4 := hT.1 4 _ rfl; have zT := hT.2.2))
  go_ret
  exact ⟨rfl, hb⟩
 | true =>
  cases hF : fwB ⟨xu, xev, xbd, xwo, ycs⟩ with
  | false =>
   go_enter Tryz.func3, Tryz.ntmps3
   go_upto_region 1 with fail
   rw [← hW0]
   clear hW0
   have cS_0 := hS.1 0 _ rfl
   have cS_1 := hS.1 1 _ rfl
   have cS_2 := hS.1 2 _ rfl
   have cS_3 := hS.1 3 _ rfl
   have cS_4 := hS.1 4 _ rfl
   have zS := hS.2.2
   have cC_0 := hC.1 0 _ rfl
   have cC_1 := hC.1 1 _ rfl
   have zC := hC.2.2
   have cT_0 := hT.1 0 _ rfl
   have cT_1 := hT.1 1 _ rfl
   have cT_2 := hT.1 2 _ rfl
   have cT_3 := hT.1 3 _ rfl
   have cT_4 := hT.1 4 _ rfl
   have zT := hT.2.2
   go_wp2_with (first | (go_at_call 6; (with_reducible refine (head31_any _).mono ?_); rintro e w1 ⟨rfl, k1⟩; clear cS_0 cS_1 cS_2 cS_3 cS_4 zS cC_0 cC_1 zC cT_0 cT_1 cT_2 cT_3 cT_4 zT; have t_ := hS.below hS.2.2 k1; clear hS; have hS := t_; clear t_; have t_ := hC.below hC.2.2 k1; clear hC; have hC := t_; clear t_; have t_ := hT.below hT.2.2 k1; clear hT; have hT := t_; clear t_; have t_ := hp.below (Nat.le_refl _) k1; clear hp; have hp := t_; clear t_; have t_ := hu.below (Nat.le_refl _) k1; clear hu; have hu := t_; clear t_; have t_ := hxu.below (Nat.le_refl _) k1; clear hxu; have hxu := t_; clear t_; have t_ := hxc.below (Nat.le_refl _) k1; clear hxc; have hxc := t_; clear t_; have t_ := hl.below (Nat.le_refl _) k1; clear hl; have hl := t_; clear t_; have t_ := hg.below (Nat.le_refl _) k1; clear hg; have hg := t_; clear t_; have t_ := hb.trans (k1.mono hb.size); clear hb; have hb := t_; clear t_; clear k1; have cS_0 := hS.1 0 _ rfl; have cS_1 := hS.1 1 _ rfl; have cS_2 := hS.1 2 _ rfl; have cS_3 := hS.1 3 _ rfl; have cS_4 := hS.1 4 _ rfl; have zS := hS.2.2; have cC_0 := hC.1 0 _ rfl; have cC_1 := hC.1 1 _ rfl; have zC := hC.2.2; have cT_0 := hT.1 0 _ rfl; have cT_1 := hT.1 1 _ rfl; have cT_2 := hT.1 2 _ rfl; have cT_3 := hT.1 3 _ rfl; have cT_4 := hT.1 4 _ rfl; have zT := hT.2.2) | (go_at_call 7; (with_reducible refine (R29Few_any r f lo tm _ ps _ use ev _ hp hu).mono ?_); rintro e w2 ⟨rfl, k2⟩; rw [hU]; clear cS_0 cS_1 cS_2 cS_3 cS_4 zS cC_0 cC_1 zC cT_0 cT_1 cT_2 cT_3 cT_4 zT; have t_ := hS.below hS.2.2 k2; clear hS; have hS := t_; clear t_; have t_ := hC.below hC.2.2 k2; clear hC; have hC := t_; clear t_; have t_ := hT.below hT.2.2 k2; clear hT; have hT := t_; clear t_; have t_ := hp.below (Nat.le_refl _) k2; clear hp; have hp := t_; clear t_; have t_ := hu.below (Nat.le_refl _) k2; clear hu; have hu := t_; clear t_; have t_ := hxu.below (Nat.le_refl _) k2; clear hxu; have hxu := t_; clear t_; have t_ := hxc.below (Nat.le_refl _) k2; clear hxc; have hxc := t_; clear t_; have t_ := hl.below (Nat.le_refl _) k2; clear hl; have hl := t_; clear t_; have t_ := hg.below (Nat.le_refl _) k2; clear hg; have hg := t_; clear t_; have t_ := hb.trans (k2.mono hb.size); clear hb; have hb := t_; clear t_; clear k2; have cS_0 := hS.1 0 _ rfl; have cS_1 := hS.1 1 _ rfl; have cS_2 := hS.1 2 _ rfl; have cS_3 := hS.1 3 _ rfl; have cS_4 := hS.1 4 _ rfl; have zS := hS.2.2; have cC_0 := hC.1 0 _ rfl; have cC_1 := hC.1 1 _ rfl; have zC := hC.2.2; have cT_0 := hT.1 0 _ rfl; have cT_1 := hT.1 1 _ rfl; have cT_2 := hT.1 2 _ rfl; have cT_3 := hT.1 3 _ rfl; have cT_4 := hT.1 4 _ rfl; have zT := hT.2.2) | (go_at_call 8; (with_reducible refine (Few_val ⟨xu, xev, xbd, xwo, ycs⟩ _ _ _ hxu hxc).mono ?_); rintro e w3 ⟨rfl, k3⟩; rw [hF]; clear cS_0 cS_1 cS_2 cS_3 cS_4 zS cC_0 cC_1 zC cT_0 cT_1 cT_2 cT_3 cT_4 zT; have t_ := hS.below hS.2.2 k3; clear hS; have hS := t_; clear t_; have t_ := hC.below hC.2.2 k3; clear hC; have hC := t_; clear t_; have t_ := hT.below hT.2.2 k3; clear hT; have hT := t_; clear t_; have t_ := hp.below (Nat.le_refl _) k3; clear hp; have hp := t_; clear t_; have t_ := hu.below (Nat.le_refl _) k3; clear hu; have hu := t_; clear t_; have t_ := hxu.below (Nat.le_refl _) k3; clear hxu; have hxu := t_; clear t_; have t_ := hxc.below (Nat.le_refl _) k3; clear hxc; have hxc := t_; clear t_; have t_ := hl.below (Nat.le_refl _) k3; clear hl; have hl := t_; clear t_; have t_ := hg.below (Nat.le_refl _) k3; clear hg; have hg := t_; clear t_; have t_ := hb.trans (k3.mono hb.size); clear hb; have hb := t_; clear t_; clear k3; have cS_0 := hS.1 0 _ rfl; have cS_1 := hS.1 1 _ rfl; have cS_2 := hS.1 2 _ rfl; have cS_3 := hS.1 3 _ rfl; have cS_4 := hS.1 4 _ rfl; have zS := hS.2.2; have cC_0 := hC.1 0 _ rfl; have cC_1 := hC.1 1 _ rfl; have zC := hC.2.2; have cT_0 := hT.1 0 _ rfl; have cT_1 := hT.1 1 _ rfl; have cT_2 := hT.1 2 _ rfl; have cT_3 := hT.1 3 _ rfl; have cT_4 := hT.1 4 _ rfl; have zT := hT.2.2))
   go_ret
   exact ⟨rfl, hb⟩
  | true =>
   by_cases h4 : li.length ≤ 20
   ·have d4 : decide ((20 : Int) < (li.length : Int)) = false := decide_eq_false (by omega)
    by_cases h5 : lg.length ≤ 20
    ·have d5 : decide ((20 : Int) < (lg.length : Int)) = false := decide_eq_false (by omega)
     have hun : use.length ≤ 1000000 := by have := of_decide_eq_true hU; omega
     have hux : xu.length ≤ 1000000 := by
      have h := hF
      unfold fwB at h
      simp only [Bool.and_eq_true, decide_eq_true_eq] at h
      omega
     have hln : li.length ≤ 1000 := by omega
     obtain ⟨X, rX⟩ : ∃ X, mkX ⟨r, f, lo, tm, ps⟩ use ev pm = X := ⟨_, rfl⟩
     obtain ⟨E, rE⟩ : ∃ E, mkE ⟨r, f, lo, tm, ps⟩ use ev pm = E := ⟨_, rfl⟩
     obtain ⟨B, rB⟩ : ∃ B, ckB ⟨r, f, lo, tm, ps⟩ ⟨xu, xev, xbd, xwo, ycs⟩ = B := ⟨_, rfl⟩
     obtain ⟨C, rC⟩ : ∃ C, ckE ⟨r, f, lo, tm, ps⟩ xu xev = C := ⟨_, rfl⟩
     obtain ⟨V, rV⟩ : ∃ V, lmV ⟨r, f, lo, tm, ps⟩ use ev li lg = V := ⟨_, rfl⟩
     obtain ⟨M, rM⟩ : ∃ M, lmE ⟨r, f, lo, tm, ps⟩ use ev li lg = M := ⟨_, rfl⟩
     clear h4 h5
     go_enter Tryz.func3, Tryz.ntmps3
     go_upto_region 1 with fail
     rw [← hW0]
     clear hW0
     have cS_0 := hS.1 0 _ rfl
     have cS_1 := hS.1 1 _ rfl
     have cS_2 := hS.1 2 _ rfl
     have cS_3 := hS.1 3 _ rfl
     have cS_4 := hS.1 4 _ rfl
     have zS := hS.2.2
     have cC_0 := hC.1 0 _ rfl
     have cC_1 := hC.1 1 _ rfl
     have zC := hC.2.2
     have cT_0 := hT.1 0 _ rfl
     have cT_1 := hT.1 1 _ rfl
     have cT_2 := hT.1 2 _ rfl
     have cT_3 := hT.1 3 _ rfl
     have cT_4 := hT.1 4 _ rfl
     have zT := hT.2.2
     go_upto_region 4 with (first | (go_at_call 6; (with_reducible refine (head31_any _).mono ?_); rintro e w1 ⟨rfl, k1⟩; clear cS_0 cS_1 cS_2 cS_3 cS_4 zS cC_0 cC_1 zC cT_0 cT_1 cT_2 cT_3 cT_4 zT; have t_ := hS.below hS.2.2 k1; clear hS; have hS := t_; clear t_; have t_ := hC.below hC.2.2 k1; clear hC; have hC := t_; clear t_; have t_ := hT.below hT.2.2 k1; clear hT; have hT := t_; clear t_; have t_ := hp.below (Nat.le_refl _) k1; clear hp; have hp := t_; clear t_; have t_ := hu.below (Nat.le_refl _) k1; clear hu; have hu := t_; clear t_; have t_ := hxu.below (Nat.le_refl _) k1; clear hxu; have hxu := t_; clear t_; have t_ := hxc.below (Nat.le_refl _) k1; clear hxc; have hxc := t_; clear t_; have t_ := hl.below (Nat.le_refl _) k1; clear hl; have hl := t_; clear t_; have t_ := hg.below (Nat.le_refl _) k1; clear hg; have hg := t_; clear t_; have t_ := hb.trans (k1.mono hb.size); clear hb; have hb := t_; clear t_; clear k1; have cS_0 := hS.1 0 _ rfl; have cS_1 := hS.1 1 _ rfl; have cS_2 := hS.1 2 _ rfl; have cS_3 := hS.1 3 _ rfl; have cS_4 := hS.1 4 _ rfl; have zS := hS.2.2; have cC_0 := hC.1 0 _ rfl; have cC_1 := hC.1 1 _ rfl; have zC := hC.2.2; have cT_0 := hT.1 0 _ rfl; have cT_1 := hT.1 1 _ rfl; have cT_2 := hT.1 2 _ rfl; have cT_3 := hT.1 3 _ rfl; have cT_4 := hT.1 4 _ rfl; have zT := hT.2.2) | (go_at_call 7; (with_reducible refine (R29Few_any r f lo tm _ ps _ use ev _ hp hu).mono ?_); rintro e w2 ⟨rfl, k2⟩; rw [hU]; clear cS_0 cS_1 cS_2 cS_3 cS_4 zS cC_0 cC_1 zC cT_0 cT_1 cT_2 cT_3 cT_4 zT; have t_ := hS.below hS.2.2 k2; clear hS; have hS := t_; clear t_; have t_ := hC.below hC.2.2 k2; clear hC; have hC := t_; clear t_; have t_ := hT.below hT.2.2 k2; clear hT; have hT := t_; clear t_; have t_ := hp.below (Nat.le_refl _) k2; clear hp; have hp := t_; clear t_; have t_ := hu.below (Nat.le_refl _) k2; clear hu; have hu := t_; clear t_; have t_ := hxu.below (Nat.le_refl _) k2; clear hxu; have hxu := t_; clear t_; have t_ := hxc.below (Nat.le_refl _) k2; clear hxc; have hxc := t_; clear t_; have t_ := hl.below (Nat.le_refl _) k2; clear hl; have hl := t_; clear t_; have t_ := hg.below (Nat.le_refl _) k2; clear hg; have hg := t_; clear t_; have t_ := hb.trans (k2.mono hb.size); clear hb; have hb := t_; clear t_; clear k2; have cS_0 := hS.1 0 _ rfl; have cS_1 := hS.1 1 _ rfl; have cS_2 := hS.1 2 _ rfl; have cS_3 := hS.1 3 _ rfl; have cS_4 := hS.1 4 _ rfl; have zS := hS.2.2; have cC_0 := hC.1 0 _ rfl; have cC_1 := hC.1 1 _ rfl; have zC := hC.2.2; have cT_0 := hT.1 0 _ rfl; have cT_1 := hT.1 1 _ rfl; have cT_2 := hT.1 2 _ rfl; have cT_3 := hT.1 3 _ rfl; have cT_4 := hT.1 4 _ rfl; have zT := hT.2.2) | (go_at_call 8; (with_reducible refine (Few_val ⟨xu, xev, xbd, xwo, ycs⟩ _ _ _ hxu hxc).mono ?_); rintro e w3 ⟨rfl, k3⟩; rw [hF]; clear cS_0 cS_1 cS_2 cS_3 cS_4 zS cC_0 cC_1 zC cT_0 cT_1 cT_2 cT_3 cT_4 zT; have t_ := hS.below hS.2.2 k3; clear hS; have hS := t_; clear t_; have t_ := hC.below hC.2.2 k3; clear hC; have hC := t_; clear t_; have t_ := hT.below hT.2.2 k3; clear hT; have hT := t_; clear t_; have t_ := hp.below (Nat.le_refl _) k3; clear hp; have hp := t_; clear t_; have t_ := hu.below (Nat.le_refl _) k3; clear hu; have hu := t_; clear t_; have t_ := hxu.below (Nat.le_refl _) k3; clear hxu; have hxu := t_; clear t_; have t_ := hxc.below (Nat.le_refl _) k3; clear hxc; have hxc := t_; clear t_; have t_ := hl.below (Nat.le_refl _) k3; clear hl; have hl := t_; clear t_; have t_ := hg.below (Nat.le_refl _) k3; clear hg; have hg := t_; clear t_; have t_ := hb.trans (k3.mono hb.size); clear hb; have hb := t_; clear t_; clear k3; have cS_0 := hS.1 0 _ rfl; have cS_1 := hS.1 1 _ rfl; have cS_2 := hS.1 2 _ rfl; have cS_3 := hS.1 3 _ rfl; have cS_4 := hS.1 4 _ rfl; have zS := hS.2.2; have cC_0 := hC.1 0 _ rfl; have cC_1 := hC.1 1 _ rfl; have zC := hC.2.2; have cT_0 := hT.1 0 _ rfl; have cT_1 := hT.1 1 _ rfl; have cT_2 := hT.1 2 _ rfl; have cT_3 := hT.1 3 _ rfl; have cT_4 := hT.1 4 _ rfl; have zT := hT.2.2))

     go_upto_region 5 with (go_at_call 9; (with_reducible refine (Make_val rX rE _ _ _ hp hu).mono ?_); rintro e w4 ⟨uv1, cv1, rfl, ⟨ho1, hc1⟩, k4⟩; have q1 := ho1.row; have d1 := hc1.row; clear ho1 hc1; obtain ⟨ua1, uc1, huv1, -⟩ := id q1; subst huv1; obtain ⟨ca1, cc1, hcv1, -, -⟩ := d1.len; subst hcv1; clear cS_0 cS_1 cS_2 cS_3 cS_4 zS cC_0 cC_1 zC cT_0 cT_1 cT_2 cT_3 cT_4 zT; have t_ := hS.below hS.2.2 k4; clear hS; have hS := t_; clear t_; have t_ := hC.below hC.2.2 k4; clear hC; have hC := t_; clear t_; have t_ := hT.below hT.2.2 k4; clear hT; have hT := t_; clear t_; have t_ := hp.below (Nat.le_refl _) k4; clear hp; have hp := t_; clear t_; have t_ := hu.below (Nat.le_refl _) k4; clear hu; have hu := t_; clear t_; have t_ := hxu.below (Nat.le_refl _) k4; clear hxu; have hxu := t_; clear t_; have t_ := hxc.below (Nat.le_refl _) k4; clear hxc; have hxc := t_; clear t_; have t_ := hl.below (Nat.le_refl _) k4; clear hl; have hl := t_; clear t_; have t_ := hg.below (Nat.le_refl _) k4; clear hg; have hg := t_; clear t_; have t_ := hb.trans (k4.mono hb.size); clear hb; have hb := t_; clear t_; clear k4; have cS_0 := hS.1 0 _ rfl; have cS_1 := hS.1 1 _ rfl; have cS_2 := hS.1 2 _ rfl; have cS_3 := hS.1 3 _ rfl; have cS_4 := hS.1 4 _ rfl; have zS := hS.2.2; have cC_0 := hC.1 0 _ rfl; have cC_1 := hC.1 1 _ rfl; have zC := hC.2.2; have cT_0 := hT.1 0 _ rfl; have cT_1 := hT.1 1 _ rfl; have cT_2 := hT.1 2 _ rfl; have cT_3 := hT.1 3 _ rfl; have cT_4 := hT.1 4 _ rfl; have zT := hT.2.2)
     obtain ⟨W5, hW5⟩ : ∃ V : World, V = w4.alloc (.cells #[.slice ua1 X.use.length uc1, .int .i64 X.ev, .int .i64 X.bd, .int .i64 X.wo, .slice ca1 X.cs.length cc1] 30) := ⟨_, rfl⟩
     rw [← hW5]
     clear cS_0 cS_1 cS_2 cS_3 cS_4 zS cC_0 cC_1 zC cT_0 cT_1 cT_2 cT_3 cT_4 zT
     have a5 : Below w4.heap.size w4 W5 := by rw [hW5]; ((with_reducible repeat' first | exact .refl _ _ | refine .alloc ?_ ?_ _ | refine .setCell ?_ ?_ _ | refine .drew ?_ | refine below_drewN ?_ _) <;> first | omega | simp <;> omega)
     have hA : BxC W5 (w4.heap.size) [.slice ua1 X.use.length uc1, .int .i64 X.ev, .int .i64 X.bd, .int .i64 X.wo, .slice ca1 X.cs.length cc1] := by
      rw [hW5]
      have h_ := BxC.made (w4) [.slice ua1 X.use.length uc1, .int .i64 X.ev, .int .i64 X.bd, .int .i64 X.wo, .slice ca1 X.cs.length cc1] 30
      exact h_
     have t_ := hS.below hS.2.2 a5; clear hS; have hS := t_; clear t_
     have t_ := hC.below hC.2.2 a5; clear hC; have hC := t_; clear t_
     have t_ := hT.below hT.2.2 a5; clear hT; have hT := t_; clear t_
     have t_ := hp.below (Nat.le_refl _) a5; clear hp; have hp := t_; clear t_
     have t_ := hu.below (Nat.le_refl _) a5; clear hu; have hu := t_; clear t_
     have t_ := hxu.below (Nat.le_refl _) a5; clear hxu; have hxu := t_; clear t_
     have t_ := hxc.below (Nat.le_refl _) a5; clear hxc; have hxc := t_; clear t_
     have t_ := hl.below (Nat.le_refl _) a5; clear hl; have hl := t_; clear t_
     have t_ := hg.below (Nat.le_refl _) a5; clear hg; have hg := t_; clear t_
     have t_ := q1.below (Nat.le_refl _) a5; clear q1; have q1 := t_; clear t_
     have t_ := d1.below (Nat.le_refl _) a5; clear d1; have d1 := t_; clear t_
     have t_ := hb.trans (a5.mono hb.size); clear hb; have hb := t_; clear t_
     clear hW5 a5
     have cS_0 := hS.1 0 _ rfl
     have cS_1 := hS.1 1 _ rfl
     have cS_2 := hS.1 2 _ rfl
     have cS_3 := hS.1 3 _ rfl
     have cS_4 := hS.1 4 _ rfl
     have zS := hS.2.2
     have cC_0 := hC.1 0 _ rfl
     have cC_1 := hC.1 1 _ rfl
     have zC := hC.2.2
     have cT_0 := hT.1 0 _ rfl
     have cT_1 := hT.1 1 _ rfl
     have cT_2 := hT.1 2 _ rfl
     have cT_3 := hT.1 3 _ rfl
     have cT_4 := hT.1 4 _ rfl
     have zT := hT.2.2
     have cA_0 := hA.1 0 _ rfl
     have cA_1 := hA.1 1 _ rfl
     have cA_2 := hA.1 2 _ rfl
     have cA_3 := hA.1 3 _ rfl
     have cA_4 := hA.1 4 _ rfl
     have zA := hA.2.2
     go_upto_region 6 with (go_at_call 10; (with_reducible refine (RMake_val rX rE _ _ _ hp hu hun).mono ?_); rintro e w6 ⟨uv2, cv2, rfl, ⟨q2, d2⟩, k6⟩; obtain ⟨ua2, uc2, huv2, -⟩ := id q2; subst huv2; obtain ⟨ca2, cc2, hcv2, -, -⟩ := d2.len; subst hcv2; clear cS_0 cS_1 cS_2 cS_3 cS_4 zS cC_0 cC_1 zC cT_0 cT_1 cT_2 cT_3 cT_4 zT cA_0 cA_1 cA_2 cA_3 cA_4 zA; have t_ := hS.below hS.2.2 k6; clear hS; have hS := t_; clear t_; have t_ := hC.below hC.2.2 k6; clear hC; have hC := t_; clear t_; have t_ := hT.below hT.2.2 k6; clear hT; have hT := t_; clear t_; have t_ := hA.below hA.2.2 k6; clear hA; have hA := t_; clear t_; have t_ := hp.below (Nat.le_refl _) k6; clear hp; have hp := t_; clear t_; have t_ := hu.below (Nat.le_refl _) k6; clear hu; have hu := t_; clear t_; have t_ := hxu.below (Nat.le_refl _) k6; clear hxu; have hxu := t_; clear t_; have t_ := hxc.below (Nat.le_refl _) k6; clear hxc; have hxc := t_; clear t_; have t_ := hl.below (Nat.le_refl _) k6; clear hl; have hl := t_; clear t_; have t_ := hg.below (Nat.le_refl _) k6; clear hg; have hg := t_; clear t_; have t_ := q1.below (Nat.le_refl _) k6; clear q1; have q1 := t_; clear t_; have t_ := d1.below (Nat.le_refl _) k6; clear d1; have d1 := t_; clear t_; have t_ := hb.trans (k6.mono hb.size); clear hb; have hb := t_; clear t_; clear k6; have cS_0 := hS.1 0 _ rfl; have cS_1 := hS.1 1 _ rfl; have cS_2 := hS.1 2 _ rfl; have cS_3 := hS.1 3 _ rfl; have cS_4 := hS.1 4 _ rfl; have zS := hS.2.2; have cC_0 := hC.1 0 _ rfl; have cC_1 := hC.1 1 _ rfl; have zC := hC.2.2; have cT_0 := hT.1 0 _ rfl; have cT_1 := hT.1 1 _ rfl; have cT_2 := hT.1 2 _ rfl; have cT_3 := hT.1 3 _ rfl; have cT_4 := hT.1 4 _ rfl; have zT := hT.2.2; have cA_0 := hA.1 0 _ rfl; have cA_1 := hA.1 1 _ rfl; have cA_2 := hA.1 2 _ rfl; have cA_3 := hA.1 3 _ rfl; have cA_4 := hA.1 4 _ rfl; have zA := hA.2.2)
     obtain ⟨W7, hW7⟩ : ∃ V : World, V = w6.alloc (.cells #[.slice ua2 X.use.length uc2, .int .i64 X.ev, .int .i64 X.bd, .int .i64 X.wo, .slice ca2 X.cs.length cc2] 30) := ⟨_, rfl⟩
     rw [← hW7]
     clear cS_0 cS_1 cS_2 cS_3 cS_4 zS cC_0 cC_1 zC cT_0 cT_1 cT_2 cT_3 cT_4 zT cA_0 cA_1 cA_2 cA_3 cA_4 zA
     have a7 : Below w6.heap.size w6 W7 := by rw [hW7]; ((with_reducible repeat' first | exact .refl _ _ | refine .alloc ?_ ?_ _ | refine .setCell ?_ ?_ _ | refine .drew ?_ | refine below_drewN ?_ _) <;> first | omega | simp <;> omega)
     have hB : BxC W7 (w6.heap.size) [.slice ua2 X.use.length uc2, .int .i64 X.ev, .int .i64 X.bd, .int .i64 X.wo, .slice ca2 X.cs.length cc2] := by
      rw [hW7]
      have h_ := BxC.made (w6) [.slice ua2 X.use.length uc2, .int .i64 X.ev, .int .i64 X.bd, .int .i64 X.wo, .slice ca2 X.cs.length cc2] 30
      exact h_
     have t_ := hS.below hS.2.2 a7; clear hS; have hS := t_; clear t_
     have t_ := hC.below hC.2.2 a7; clear hC; have hC := t_; clear t_
     have t_ := hT.below hT.2.2 a7; clear hT; have hT := t_; clear t_
     have t_ := hA.below hA.2.2 a7; clear hA; have hA := t_; clear t_
     have t_ := hp.below (Nat.le_refl _) a7; clear hp; have hp := t_; clear t_
     have t_ := hu.below (Nat.le_refl _) a7; clear hu; have hu := t_; clear t_
     have t_ := hxu.below (Nat.le_refl _) a7; clear hxu; have hxu := t_; clear t_
     have t_ := hxc.below (Nat.le_refl _) a7; clear hxc; have hxc := t_; clear t_
     have t_ := hl.below (Nat.le_refl _) a7; clear hl; have hl := t_; clear t_
     have t_ := hg.below (Nat.le_refl _) a7; clear hg; have hg := t_; clear t_
     have t_ := q1.below (Nat.le_refl _) a7; clear q1; have q1 := t_; clear t_
     have t_ := d1.below (Nat.le_refl _) a7; clear d1; have d1 := t_; clear t_
     have t_ := q2.below (Nat.le_refl _) a7; clear q2; have q2 := t_; clear t_
     have t_ := d2.below (Nat.le_refl _) a7; clear d2; have d2 := t_; clear t_
     have t_ := hb.trans (a7.mono hb.size); clear hb; have hb := t_; clear t_
     clear hW7 a7
     have cS_0 := hS.1 0 _ rfl
     have cS_1 := hS.1 1 _ rfl
     have cS_2 := hS.1 2 _ rfl
     have cS_3 := hS.1 3 _ rfl
     have cS_4 := hS.1 4 _ rfl
     have zS := hS.2.2
     have cC_0 := hC.1 0 _ rfl
     have cC_1 := hC.1 1 _ rfl
     have zC := hC.2.2
     have cT_0 := hT.1 0 _ rfl
     have cT_1 := hT.1 1 _ rfl
     have cT_2 := hT.1 2 _ rfl
     have cT_3 := hT.1 3 _ rfl
     have cT_4 := hT.1 4 _ rfl
     have zT := hT.2.2
     have cA_0 := hA.1 0 _ rfl
     have cA_1 := hA.1 1 _ rfl
     have cA_2 := hA.1 2 _ rfl
     have cA_3 := hA.1 3 _ rfl
     have cA_4 := hA.1 4 _ rfl
     have zA := hA.2.2
     have cB_0 := hB.1 0 _ rfl
     have cB_1 := hB.1 1 _ rfl
     have cB_2 := hB.1 2 _ rfl
     have cB_3 := hB.1 3 _ rfl
     have cB_4 := hB.1 4 _ rfl
     have zB := hB.2.2
     go_upto_region 7 with (go_at_call 11; (with_reducible refine (Same_val X _ _ _ _ _ q1 d1 q2 d2).mono ?_); rintro e w8 ⟨rfl, k8⟩; clear cS_0 cS_1 cS_2 cS_3 cS_4 zS cC_0 cC_1 zC cT_0 cT_1 cT_2 cT_3 cT_4 zT cA_0 cA_1 cA_2 cA_3 cA_4 zA cB_0 cB_1 cB_2 cB_3 cB_4 zB; have t_ := hS.below hS.2.2 k8; clear hS; have hS := t_; clear t_; have t_ := hC.below hC.2.2 k8; clear hC; have hC := t_; clear t_; have t_ := hT.below hT.2.2 k8; clear hT; have hT := t_; clear t_; have t_ := hA.below hA.2.2 k8; clear hA; have hA := t_; clear t_; have t_ := hB.below hB.2.2 k8; clear hB; have hB := t_; clear t_; have t_ := hp.below (Nat.le_refl _) k8; clear hp; have hp := t_; clear t_; have t_ := hu.below (Nat.le_refl _) k8; clear hu; have hu := t_; clear t_; have t_ := hxu.below (Nat.le_refl _) k8; clear hxu; have hxu := t_; clear t_; have t_ := hxc.below (Nat.le_refl _) k8; clear hxc; have hxc := t_; clear t_; have t_ := hl.below (Nat.le_refl _) k8; clear hl; have hl := t_; clear t_; have t_ := hg.below (Nat.le_refl _) k8; clear hg; have hg := t_; clear t_; have t_ := q1.below (Nat.le_refl _) k8; clear q1; have q1 := t_; clear t_; have t_ := d1.below (Nat.le_refl _) k8; clear d1; have d1 := t_; clear t_; have t_ := q2.below (Nat.le_refl _) k8; clear q2; have q2 := t_; clear t_; have t_ := d2.below (Nat.le_refl _) k8; clear d2; have d2 := t_; clear t_; have t_ := hb.trans (k8.mono hb.size); clear hb; have hb := t_; clear t_; clear k8; have cS_0 := hS.1 0 _ rfl; have cS_1 := hS.1 1 _ rfl; have cS_2 := hS.1 2 _ rfl; have cS_3 := hS.1 3 _ rfl; have cS_4 := hS.1 4 _ rfl; have zS := hS.2.2; have cC_0 := hC.1 0 _ rfl; have cC_1 := hC.1 1 _ rfl; have zC := hC.2.2; have cT_0 := hT.1 0 _ rfl; have cT_1 := hT.1 1 _ rfl; have cT_2 := hT.1 2 _ rfl; have cT_3 := hT.1 3 _ rfl; have cT_4 := hT.1 4 _ rfl; have zT := hT.2.2; have cA_0 := hA.1 0 _ rfl; have cA_1 := hA.1 1 _ rfl; have cA_2 := hA.1 2 _ rfl; have cA_3 := hA.1 3 _ rfl; have cA_4 := hA.1 4 _ rfl; have zA := hA.2.2; have cB_0 := hB.1 0 _ rfl; have cB_1 := hB.1 1 _ rfl; have cB_2 := hB.1 2 _ rfl; have cB_3 := hB.1 3 _ rfl; have cB_4 := hB.1 4 _ rfl; have zB := hB.2.2)
     clear hA
     clear hB
     clear q1 d1 q2 d2
     go_upto_region 8 with (go_at_call 12; (with_reducible refine (Check_val rB rC _ _ _ _ hp hxu hxc).mono ?_); rintro e w9 ⟨rfl, k9⟩; clear cS_0 cS_1 cS_2 cS_3 cS_4 zS cC_0 cC_1 zC cT_0 cT_1 cT_2 cT_3 cT_4 zT cA_0 cA_1 cA_2 cA_3 cA_4 zA cB_0 cB_1 cB_2 cB_3 cB_4 zB; have t_ := hS.below hS.2.2 k9; clear hS; have hS := t_; clear t_; have t_ := hC.below hC.2.2 k9; clear hC; have hC := t_; clear t_; have t_ := hT.below hT.2.2 k9; clear hT; have hT := t_; clear t_; have t_ := hp.below (Nat.le_refl _) k9; clear hp; have hp := t_; clear t_; have t_ := hu.below (Nat.le_refl _) k9; clear hu; have hu := t_; clear t_; have t_ := hxu.below (Nat.le_refl _) k9; clear hxu; have hxu := t_; clear t_; have t_ := hxc.below (Nat.le_refl _) k9; clear hxc; have hxc := t_; clear t_; have t_ := hl.below (Nat.le_refl _) k9; clear hl; have hl := t_; clear t_; have t_ := hg.below (Nat.le_refl _) k9; clear hg; have hg := t_; clear t_; have t_ := hb.trans (k9.mono hb.size); clear hb; have hb := t_; clear t_; clear k9; have cS_0 := hS.1 0 _ rfl; have cS_1 := hS.1 1 _ rfl; have cS_2 := hS.1 2 _ rfl; have cS_3 := hS.1 3 _ rfl; have cS_4 := hS.1 4 _ rfl; have zS := hS.2.2; have cC_0 := hC.1 0 _ rfl; have cC_1 := hC.1 1 _ rfl; have zC := hC.2.2; have cT_0 := hT.1 0 _ rfl; have cT_1 := hT.1 1 _ rfl; have cT_2 := hT.1 2 _ rfl; have cT_3 := hT.1 3 _ rfl; have cT_4 := hT.1 4 _ rfl; have zT := hT.2.2)
     go_upto_region 9 with (go_at_call 13; (with_reducible refine (RCheck_val rB rC _ _ _ _ hp hxu hxc hux).mono ?_); rintro e w10 ⟨rfl, k10⟩; clear cS_0 cS_1 cS_2 cS_3 cS_4 zS cC_0 cC_1 zC cT_0 cT_1 cT_2 cT_3 cT_4 zT; have t_ := hS.below hS.2.2 k10; clear hS; have hS := t_; clear t_; have t_ := hC.below hC.2.2 k10; clear hC; have hC := t_; clear t_; have t_ := hT.below hT.2.2 k10; clear hT; have hT := t_; clear t_; have t_ := hp.below (Nat.le_refl _) k10; clear hp; have hp := t_; clear t_; have t_ := hu.below (Nat.le_refl _) k10; clear hu; have hu := t_; clear t_; have t_ := hxu.below (Nat.le_refl _) k10; clear hxu; have hxu := t_; clear t_; have t_ := hxc.below (Nat.le_refl _) k10; clear hxc; have hxc := t_; clear t_; have t_ := hl.below (Nat.le_refl _) k10; clear hl; have hl := t_; clear t_; have t_ := hg.below (Nat.le_refl _) k10; clear hg; have hg := t_; clear t_; have t_ := hb.trans (k10.mono hb.size); clear hb; have hb := t_; clear t_; clear k10; have cS_0 := hS.1 0 _ rfl; have cS_1 := hS.1 1 _ rfl; have cS_2 := hS.1 2 _ rfl; have cS_3 := hS.1 3 _ rfl; have cS_4 := hS.1 4 _ rfl; have zS := hS.2.2; have cC_0 := hC.1 0 _ rfl; have cC_1 := hC.1 1 _ rfl; have zC := hC.2.2; have cT_0 := hT.1 0 _ rfl; have cT_1 := hT.1 1 _ rfl; have cT_2 := hT.1 2 _ rfl; have cT_3 := hT.1 3 _ rfl; have cT_4 := hT.1 4 _ rfl; have zT := hT.2.2)
     go_upto_region 10 with fail
     go_upto_region 11 with (go_at_call 14; (with_reducible refine (Limit_val rV rM _ _ _ _ _ hp hu hl hg).mono ?_); rintro e w11 ⟨rfl, k11⟩; clear cS_0 cS_1 cS_2 cS_3 cS_4 zS cC_0 cC_1 zC cT_0 cT_1 cT_2 cT_3 cT_4 zT; have t_ := hS.below hS.2.2 k11; clear hS; have hS := t_; clear t_; have t_ := hC.below hC.2.2 k11; clear hC; have hC := t_; clear t_; have t_ := hT.below hT.2.2 k11; clear hT; have hT := t_; clear t_; have t_ := hp.below (Nat.le_refl _) k11; clear hp; have hp := t_; clear t_; have t_ := hu.below (Nat.le_refl _) k11; clear hu; have hu := t_; clear t_; have t_ := hxu.below (Nat.le_refl _) k11; clear hxu; have hxu := t_; clear t_; have t_ := hxc.below (Nat.le_refl _) k11; clear hxc; have hxc := t_; clear t_; have t_ := hl.below (Nat.le_refl _) k11; clear hl; have hl := t_; clear t_; have t_ := hg.below (Nat.le_refl _) k11; clear hg; have hg := t_; clear t_; have t_ := hb.trans (k11.mono hb.size); clear hb; have hb := t_; clear t_; clear k11; have cS_0 := hS.1 0 _ rfl; have cS_1 := hS.1 1 _ rfl; have cS_2 := hS.1 2 _ rfl; have cS_3 := hS.1 3 _ rfl; have cS_4 := hS.1 4 _ rfl; have zS := hS.2.2; have cC_0 := hC.1 0 _ rfl; have cC_1 := hC.1 1 _ rfl; have zC := hC.2.2; have cT_0 := hT.1 0 _ rfl; have cT_1 := hT.1 1 _ rfl; have cT_2 := hT.1 2 _ rfl; have cT_3 := hT.1 3 _ rfl; have cT_4 := hT.1 4 _ rfl; have zT := hT.2.2)
     go_wp2_with (go_at_call 15; (with_reducible refine (RLimit_val rV rM _ _ _ _ _ hp hu hl hg hun hln).mono ?_); rintro e w12 ⟨rfl, k12⟩; clear cS_0 cS_1 cS_2 cS_3 cS_4 zS cC_0 cC_1 zC cT_0 cT_1 cT_2 cT_3 cT_4 zT; have t_ := hS.below hS.2.2 k12; clear hS; have hS := t_; clear t_; have t_ := hC.below hC.2.2 k12; clear hC; have hC := t_; clear t_; have t_ := hT.below hT.2.2 k12; clear hT; have hT := t_; clear t_; have t_ := hp.below (Nat.le_refl _) k12; clear hp; have hp := t_; clear t_; have t_ := hu.below (Nat.le_refl _) k12; clear hu; have hu := t_; clear t_; have t_ := hxu.below (Nat.le_refl _) k12; clear hxu; have hxu := t_; clear t_; have t_ := hxc.below (Nat.le_refl _) k12; clear hxc; have hxc := t_; clear t_; have t_ := hl.below (Nat.le_refl _) k12; clear hl; have hl := t_; clear t_; have t_ := hg.below (Nat.le_refl _) k12; clear hg; have hg := t_; clear t_; have t_ := hb.trans (k12.mono hb.size); clear hb; have hb := t_; clear t_; clear k12; have cS_0 := hS.1 0 _ rfl; have cS_1 := hS.1 1 _ rfl; have cS_2 := hS.1 2 _ rfl; have cS_3 := hS.1 3 _ rfl; have cS_4 := hS.1 4 _ rfl; have zS := hS.2.2; have cC_0 := hC.1 0 _ rfl; have cC_1 := hC.1 1 _ rfl; have zC := hC.2.2; have cT_0 := hT.1 0 _ rfl; have cT_1 := hT.1 1 _ rfl; have cT_2 := hT.1 2 _ rfl; have cT_3 := hT.1 3 _ rfl; have cT_4 := hT.1 4 _ rfl; have zT := hT.2.2)
     go_ret
     exact ⟨rfl, hb⟩
    ·have d5 : decide ((20 : Int) < (lg.length : Int)) = true := decide_eq_true (by omega)
     clear h4 h5
     go_enter Tryz.func3, Tryz.ntmps3
     go_upto_region 1 with fail
     rw [← hW0]
     clear hW0
     have cS_0 := hS.1 0 _ rfl
     have cS_1 := hS.1 1 _ rfl
     have cS_2 := hS.1 2 _ rfl
     have cS_3 := hS.1 3 _ rfl
     have cS_4 := hS.1 4 _ rfl
     have zS := hS.2.2
     have cC_0 := hC.1 0 _ rfl
     have cC_1 := hC.1 1 _ rfl
     have zC := hC.2.2
     have cT_0 := hT.1 0 _ rfl
     have cT_1 := hT.1 1 _ rfl
     have cT_2 := hT.1 2 _ rfl
     have cT_3 := hT.1 3 _ rfl
     have cT_4 := hT.1 4 _ rfl
     have zT := hT.2.2
     go_wp2_with (first | (go_at_call 6; (with_reducible refine (head31_any _).mono ?_); rintro e w1 ⟨rfl, k1⟩; clear cS_0 cS_1 cS_2 cS_3 cS_4 zS cC_0 cC_1 zC cT_0 cT_1 cT_2 cT_3 cT_4 zT; have t_ := hS.below hS.2.2 k1; clear hS; have hS := t_; clear t_; have t_ := hC.below hC.2.2 k1; clear hC; have hC := t_; clear t_; have t_ := hT.below hT.2.2 k1; clear hT; have hT := t_; clear t_; have t_ := hp.below (Nat.le_refl _) k1; clear hp; have hp := t_; clear t_; have t_ := hu.below (Nat.le_refl _) k1; clear hu; have hu := t_; clear t_; have t_ := hxu.below (Nat.le_refl _) k1; clear hxu; have hxu := t_; clear t_; have t_ := hxc.below (Nat.le_refl _) k1; clear hxc; have hxc := t_; clear t_; have t_ := hl.below (Nat.le_refl _) k1; clear hl; have hl := t_; clear t_; have t_ := hg.below (Nat.le_refl _) k1; clear hg; have hg := t_; clear t_; have t_ := hb.trans (k1.mono hb.size); clear hb; have hb := t_; clear t_; clear k1; have cS_0 := hS.1 0 _ rfl; have cS_1 := hS.1 1 _ rfl; have cS_2 := hS.1 2 _ rfl; have cS_3 := hS.1 3 _ rfl; have cS_4 := hS.1 4 _ rfl; have zS := hS.2.2; have cC_0 := hC.1 0 _ rfl; have cC_1 := hC.1 1 _ rfl; have zC := hC.2.2; have cT_0 := hT.1 0 _ rfl; have cT_1 := hT.1 1 _ rfl; have cT_2 := hT.1 2 _ rfl; have cT_3 := hT.1 3 _ rfl; have cT_4 := hT.1 4 _ rfl; have zT := hT.2.2) | (go_at_call 7; (with_reducible refine (R29Few_any r f lo tm _ ps _ use ev _ hp hu).mono ?_); rintro e w2 ⟨rfl, k2⟩; rw [hU]; clear cS_0 cS_1 cS_2 cS_3 cS_4 zS cC_0 cC_1 zC cT_0 cT_1 cT_2 cT_3 cT_4 zT; have t_ := hS.below hS.2.2 k2; clear hS; have hS := t_; clear t_; have t_ := hC.below hC.2.2 k2; clear hC; have hC := t_; clear t_; have t_ := hT.below hT.2.2 k2; clear hT; have hT := t_; clear t_; have t_ := hp.below (Nat.le_refl _) k2; clear hp; have hp := t_; clear t_; have t_ := hu.below (Nat.le_refl _) k2; clear hu; have hu := t_; clear t_; have t_ := hxu.below (Nat.le_refl _) k2; clear hxu; have hxu := t_; clear t_; have t_ := hxc.below (Nat.le_refl _) k2; clear hxc; have hxc := t_; clear t_; have t_ := hl.below (Nat.le_refl _) k2; clear hl; have hl := t_; clear t_; have t_ := hg.below (Nat.le_refl _) k2; clear hg; have hg := t_; clear t_; have t_ := hb.trans (k2.mono hb.size); clear hb; have hb := t_; clear t_; clear k2; have cS_0 := hS.1 0 _ rfl; have cS_1 := hS.1 1 _ rfl; have cS_2 := hS.1 2 _ rfl; have cS_3 := hS.1 3 _ rfl; have cS_4 := hS.1 4 _ rfl; have zS := hS.2.2; have cC_0 := hC.1 0 _ rfl; have cC_1 := hC.1 1 _ rfl; have zC := hC.2.2; have cT_0 := hT.1 0 _ rfl; have cT_1 := hT.1 1 _ rfl; have cT_2 := hT.1 2 _ rfl; have cT_3 := hT.1 3 _ rfl; have cT_4 := hT.1 4 _ rfl; have zT := hT.2.2) | (go_at_call 8; (with_reducible refine (Few_val ⟨xu, xev, xbd, xwo, ycs⟩ _ _ _ hxu hxc).mono ?_); rintro e w3 ⟨rfl, k3⟩; rw [hF]; clear cS_0 cS_1 cS_2 cS_3 cS_4 zS cC_0 cC_1 zC cT_0 cT_1 cT_2 cT_3 cT_4 zT; have t_ := hS.below hS.2.2 k3; clear hS; have hS := t_; clear t_; have t_ := hC.below hC.2.2 k3; clear hC; have hC := t_; clear t_; have t_ := hT.below hT.2.2 k3; clear hT; have hT := t_; clear t_; have t_ := hp.below (Nat.le_refl _) k3; clear hp; have hp := t_; clear t_; have t_ := hu.below (Nat.le_refl _) k3; clear hu; have hu := t_; clear t_; have t_ := hxu.below (Nat.le_refl _) k3; clear hxu; have hxu := t_; clear t_; have t_ := hxc.below (Nat.le_refl _) k3; clear hxc; have hxc := t_; clear t_; have t_ := hl.below (Nat.le_refl _) k3; clear hl; have hl := t_; clear t_; have t_ := hg.below (Nat.le_refl _) k3; clear hg; have hg := t_; clear t_; have t_ := hb.trans (k3.mono hb.size); clear hb; have hb := t_; clear t_; clear k3; have cS_0 := hS.1 0 _ rfl; have cS_1 := hS.1 1 _ rfl; have cS_2 := hS.1 2 _ rfl; have cS_3 := hS.1 3 _ rfl; have cS_4 := hS.1 4 _ rfl; have zS := hS.2.2; have cC_0 := hC.1 0 _ rfl; have cC_1 := hC.1 1 _ rfl; have zC := hC.2.2; have cT_0 := hT.1 0 _ rfl; have cT_1 := hT.1 1 _ rfl; have cT_2 := hT.1 2 _ rfl; have cT_3 := hT.1 3 _ rfl; have cT_4 := hT.1 4 _ rfl; have zT := hT.2.2))
     go_ret
     exact ⟨rfl, hb⟩
   ·have d4 : decide ((20 : Int) < (li.length : Int)) = true := decide_eq_true (by omega)
    clear h4
    go_enter Tryz.func3, Tryz.ntmps3
    go_upto_region 1 with fail
    rw [← hW0]
    clear hW0
    have cS_0 := hS.1 0 _ rfl
    have cS_1 := hS.1 1 _ rfl
    have cS_2 := hS.1 2 _ rfl
    have cS_3 := hS.1 3 _ rfl
    have cS_4 := hS.1 4 _ rfl
    have zS := hS.2.2
    have cC_0 := hC.1 0 _ rfl
    have cC_1 := hC.1 1 _ rfl
    have zC := hC.2.2
    have cT_0 := hT.1 0 _ rfl
    have cT_1 := hT.1 1 _ rfl
    have cT_2 := hT.1 2 _ rfl
    have cT_3 := hT.1 3 _ rfl
    have cT_4 := hT.1 4 _ rfl
    have zT := hT.2.2
    go_wp2_with (first | (go_at_call 6; (with_reducible refine (head31_any _).mono ?_); rintro e w1 ⟨rfl, k1⟩; clear cS_0 cS_1 cS_2 cS_3 cS_4 zS cC_0 cC_1 zC cT_0 cT_1 cT_2 cT_3 cT_4 zT; have t_ := hS.below hS.2.2 k1; clear hS; have hS := t_; clear t_; have t_ := hC.below hC.2.2 k1; clear hC; have hC := t_; clear t_; have t_ := hT.below hT.2.2 k1; clear hT; have hT := t_; clear t_; have t_ := hp.below (Nat.le_refl _) k1; clear hp; have hp := t_; clear t_; have t_ := hu.below (Nat.le_refl _) k1; clear hu; have hu := t_; clear t_; have t_ := hxu.below (Nat.le_refl _) k1; clear hxu; have hxu := t_; clear t_; have t_ := hxc.below (Nat.le_refl _) k1; clear hxc; have hxc := t_; clear t_; have t_ := hl.below (Nat.le_refl _) k1; clear hl; have hl := t_; clear t_; have t_ := hg.below (Nat.le_refl _) k1; clear hg; have hg := t_; clear t_; have t_ := hb.trans (k1.mono hb.size); clear hb; have hb := t_; clear t_; clear k1; have cS_0 := hS.1 0 _ rfl; have cS_1 := hS.1 1 _ rfl; have cS_2 := hS.1 2 _ rfl; have cS_3 := hS.1 3 _ rfl; have cS_4 := hS.1 4 _ rfl; have zS := hS.2.2; have cC_0 := hC.1 0 _ rfl; have cC_1 := hC.1 1 _ rfl; have zC := hC.2.2; have cT_0 := hT.1 0 _ rfl; have cT_1 := hT.1 1 _ rfl; have cT_2 := hT.1 2 _ rfl; have cT_3 := hT.1 3 _ rfl; have cT_4 := hT.1 4 _ rfl; have zT := hT.2.2) | (go_at_call 7; (with_reducible refine (R29Few_any r f lo tm _ ps _ use ev _ hp hu).mono ?_); rintro e w2 ⟨rfl, k2⟩; rw [hU]; clear cS_0 cS_1 cS_2 cS_3 cS_4 zS cC_0 cC_1 zC cT_0 cT_1 cT_2 cT_3 cT_4 zT; have t_ := hS.below hS.2.2 k2; clear hS; have hS := t_; clear t_; have t_ := hC.below hC.2.2 k2; clear hC; have hC := t_; clear t_; have t_ := hT.below hT.2.2 k2; clear hT; have hT := t_; clear t_; have t_ := hp.below (Nat.le_refl _) k2; clear hp; have hp := t_; clear t_; have t_ := hu.below (Nat.le_refl _) k2; clear hu; have hu := t_; clear t_; have t_ := hxu.below (Nat.le_refl _) k2; clear hxu; have hxu := t_; clear t_; have t_ := hxc.below (Nat.le_refl _) k2; clear hxc; have hxc := t_; clear t_; have t_ := hl.below (Nat.le_refl _) k2; clear hl; have hl := t_; clear t_; have t_ := hg.below (Nat.le_refl _) k2; clear hg; have hg := t_; clear t_; have t_ := hb.trans (k2.mono hb.size); clear hb; have hb := t_; clear t_; clear k2; have cS_0 := hS.1 0 _ rfl; have cS_1 := hS.1 1 _ rfl; have cS_2 := hS.1 2 _ rfl; have cS_3 := hS.1 3 _ rfl; have cS_4 := hS.1 4 _ rfl; have zS := hS.2.2; have cC_0 := hC.1 0 _ rfl; have cC_1 := hC.1 1 _ rfl; have zC := hC.2.2; have cT_0 := hT.1 0 _ rfl; have cT_1 := hT.1 1 _ rfl; have cT_2 := hT.1 2 _ rfl; have cT_3 := hT.1 3 _ rfl; have cT_4 := hT.1 4 _ rfl; have zT := hT.2.2) | (go_at_call 8; (with_reducible refine (Few_val ⟨xu, xev, xbd, xwo, ycs⟩ _ _ _ hxu hxc).mono ?_); rintro e w3 ⟨rfl, k3⟩; rw [hF]; clear cS_0 cS_1 cS_2 cS_3 cS_4 zS cC_0 cC_1 zC cT_0 cT_1 cT_2 cT_3 cT_4 zT; have t_ := hS.below hS.2.2 k3; clear hS; have hS := t_; clear t_; have t_ := hC.below hC.2.2 k3; clear hC; have hC := t_; clear t_; have t_ := hT.below hT.2.2 k3; clear hT; have hT := t_; clear t_; have t_ := hp.below (Nat.le_refl _) k3; clear hp; have hp := t_; clear t_; have t_ := hu.below (Nat.le_refl _) k3; clear hu; have hu := t_; clear t_; have t_ := hxu.below (Nat.le_refl _) k3; clear hxu; have hxu := t_; clear t_; have t_ := hxc.below (Nat.le_refl _) k3; clear hxc; have hxc := t_; clear t_; have t_ := hl.below (Nat.le_refl _) k3; clear hl; have hl := t_; clear t_; have t_ := hg.below (Nat.le_refl _) k3; clear hg; have hg := t_; clear t_; have t_ := hb.trans (k3.mono hb.size); clear hb; have hb := t_; clear t_; clear k3; have cS_0 := hS.1 0 _ rfl; have cS_1 := hS.1 1 _ rfl; have cS_2 := hS.1 2 _ rfl; have cS_3 := hS.1 3 _ rfl; have cS_4 := hS.1 4 _ rfl; have zS := hS.2.2; have cC_0 := hC.1 0 _ rfl; have cC_1 := hC.1 1 _ rfl; have zC := hC.2.2; have cT_0 := hT.1 0 _ rfl; have cT_1 := hT.1 1 _ rfl; have cT_2 := hT.1 2 _ rfl; have cT_3 := hT.1 3 _ rfl; have cT_4 := hT.1 4 _ rfl; have zT := hT.2.2))
    go_ret
    exact ⟨rfl, hb⟩
set_option maxRecDepth 100000 in
theorem certMatchesReference_holds : Rows.CertMatchesReferenceSaid :=
 OpenClaim.holds_of_wide 3 Tryz.f3 rfl rfl rfl rfl rfl rfl rfl ⟨rfl, rfl, rfl, rfl, rfl⟩ rfl rfl rfl rfl rfl (by kernel_rfl) Tryz.func3 (by kernel_rfl)
  (of_decide_eq_true (by kernel_rfl)) (by unfold Func.isWrapper; rw [if_neg (of_decide_eq_false (by kernel_rfl))]; exact ⟨rfl, rfl⟩)
  (fun os started H enc _ => law_lifted started 3 Tryz.f3 Tryz.func3 (by kernel_rfl) Rows.certMatchesReferenceSpec rfl rfl
   (fun ds h => by match ds, h with | [_, _, _, _, _, _], _ => exact ⟨rfl, rfl, rfl⟩)
   (fun t h => by
    rw [Tryz.params3] at h
    simp only [List.mem_cons, List.not_mem_nil, or_false] at h
    rcases h with rfl | rfl | rfl | rfl | rfl | rfl <;> exact ⟨by kernel_rfl, of_decide_eq_true (by kernel_rfl)⟩)
   (ChangeSpec.witness6 (enc := enc) (C := Tryz.checked) false ⟨#[], #[.agg #[.int .i64 0, .int .i64 0, .int .i64 0, .int .i64 0, .slice none 0 0], .agg #[.slice none 0 0, .int .i64 0], .int .i64 0, .agg #[.slice none 0 0, .int .i64 0, .int .i64 0, .int .i64 0, .slice none 0 0], .slice none 0 0, .slice none 0 0], []⟩ 8 (by kernel_rfl) (by kernel_rfl) (by kernel_rfl) (by kernel_rfl))
   (fun W base args ds p hA hok => by
    rw [Tryz.params3] at hA hok
    obtain ⟨v0, vs0, d0, ds0, p0, q0, hargs, rfl, rfl, h0, r0⟩ := ChangeShapes.trodAll_cons hA
    obtain ⟨v1, vs1, d1, ds1, p1, q1, rfl, rfl, rfl, h1, r1⟩ := ChangeShapes.trodAll_cons r0
    obtain ⟨v2, vs2, d2, ds2, p2, q2, rfl, rfl, rfl, h2, r2⟩ := ChangeShapes.trodAll_cons r1
    obtain ⟨v3, vs3, d3, ds3, p3, q3, rfl, rfl, rfl, h3, r3⟩ := ChangeShapes.trodAll_cons r2
    obtain ⟨v4, vs4, d4, ds4, p4, q4, rfl, rfl, rfl, h4, r4⟩ := ChangeShapes.trodAll_cons r3
    obtain ⟨v5, vs5, d5, ds5, p5, q5, rfl, rfl, rfl, h5, r5⟩ := ChangeShapes.trodAll_cons r4
    obtain ⟨rfl, rfl, rfl⟩ := ChangeShapes.trodAll_nil r5
    obtain rfl : args = #[v0, v1, v2, v3, v4, v5] := by rw [← Array.toArray_toList (xs := args), hargs]
    obtain ⟨l0, hl0⟩ := open_site (hok 0 _ v0 rfl rfl) h0
    obtain ⟨l1, hl1⟩ := open_sched (hok 1 _ v1 rfl rfl) h1
    obtain ⟨x2, rfl, hx2⟩ := open_i64 Tryz.underlying3 (hok 2 _ v2 rfl rfl) h2
    obtain ⟨l3, hl3⟩ := open_cert (hok 3 _ v3 rfl rfl) h3
    obtain ⟨l4, hl4, wl4⟩ := open_is (hok 4 _ v4 rfl rfl) h4
    obtain ⟨l5, hl5, wl5⟩ := open_is (hok 5 _ v5 rfl rfl) h5
    exact CtZ1_any W v0 l0 hl0 v1 l1 hl1 x2 v3 l3 hl3 v4 l4 hl4 wl4 v5 l5 hl5 wl5))
end Go.Proofs.YtlmcoollkmhanaaGreat
