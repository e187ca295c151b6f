
/- The examples of the chapter on certificates: the check that stands in every statement answers true. -/
import Derived.Test.YtlmcoollkmhanaaCtW
namespace Go.Proofs.Ytlmcoollkmhanaa
open Go.RowKit

def xi4 : Si := ⟨0, 1, 0, 100, exC 4⟩
def xi3 : Si := ⟨0, 1, 0, 100, exC 3⟩
def exC4 : List Cs := csL xi4 [0, 1, 2, 3] 1000
def exC3 : List Cs := csL xi3 [0, 1, 2] 1000
set_option maxRecDepth 100000 in
theorem head_vals31 : (mkE xi4 [0, 1, 2, 3] 1000 8 = 0 ∧ wdt xi4 [0, 1, 2, 3] 1000 = 8 ∧ exC4.length = 4) ∧ (ckB xi4 ⟨[0, 1, 2, 3], 1000, 8, 8, exC4⟩ = true ∧ ckE xi4 [0, 1, 2, 3] 1000 = 0) ∧
  (mkE xi3 [0, 1, 2] 1000 15 = 50 ∧ mkE xi3 [0, 1, 2] 1000 16 = 0 ∧ wdt xi3 [0, 1, 2] 1000 = 16 ∧ exC3.length = 3 ∧ csAt exC3 2 = ⟨[2], [], 16⟩) ∧
  ckB xi4 ⟨[0, 1, 2, 3], 1000, 9, 8, []⟩ = false ∧ (lmV xi3 [0, 1, 2] 1000 [1] [] = 16 ∧ lmE xi3 [0, 1, 2] 1000 [1] [] = 0) ∧ lmE xi3 [0, 1, 2] 1000 [] [] = 1 := by
 refine ⟨⟨by kernel_rfl, by kernel_rfl, by kernel_rfl⟩, ⟨by kernel_rfl, by kernel_rfl⟩, ⟨by kernel_rfl, by kernel_rfl, by kernel_rfl, by kernel_rfl, by kernel_rfl⟩, by kernel_rfl, ⟨by kernel_rfl, by kernel_rfl⟩, by kernel_rfl⟩
theorem Make_val {r f lo tm : Int} {ps : List Pr} {use : List Int} {ev pm : Int} {X : Ct} {E : Int} (hX : mkX ⟨r, f, lo, tm, ps⟩ use ev pm = X) (hE : mkE ⟨r, f, lo, tm, ps⟩ use ev pm = E) (pv uv : Value) (V : World) (hp : PrRow V pv ps) (hu : IsRow V uv use) :
  Calls Try.prog 8 #[.agg #[.int .i64 r, .int .i64 f, .int .i64 lo, .int .i64 tm, pv], .agg #[uv, .int .i64 ev], .int .i64 pm] V fun e w' => ∃ uv2 cv2, e = .returned (.tuple #[.agg #[uv2, .int .i64 X.ev, .int .i64 X.bd, .int .i64 X.wo, cv2], .int .i64 E]) ∧ (OwnIs w' V.heap.size uv2 X.use ∧ OwnCs w' V.heap.size (fun _ => False) cv2 X.cs) ∧ Below V.heap.size V w' := by
 have h := Make_any r f lo tm pv ps uv use ev pm V hp hu
 unfold MkPost at h
 rw [hX, hE] at h
 exact h
theorem Check_val {r f lo tm : Int} {ps : List Pr} {use : List Int} {ev bd wo : Int} {cs : List Cs} {b : Bool} {E : Int} (hB : ckB ⟨r, f, lo, tm, ps⟩ ⟨use, ev, bd, wo, cs⟩ = b) (hE : ckE ⟨r, f, lo, tm, ps⟩ use ev = E) (pv uv cv : Value) (w : World) (hp : PrRow w pv ps) (hu : IsRow w uv use) (hc : CsRow w cv cs) :
  Calls Try.prog 9 #[.agg #[.int .i64 r, .int .i64 f, .int .i64 lo, .int .i64 tm, pv], .agg #[uv, .int .i64 ev, .int .i64 bd, .int .i64 wo, cv]] w fun e w' => e = .returned (.tuple #[.bool b, .int .i64 E]) ∧ Below w.heap.size w w' := by
 have h := Check_any r f lo tm pv ps uv use ev bd wo cv cs w hp hu hc
 rw [hB, hE] at h
 exact h
theorem Limit_val {r f lo tm : Int} {ps : List Pr} {use : List Int} {ev : Int} {li gl : List Int} {v E : Int} (hV : lmV ⟨r, f, lo, tm, ps⟩ use ev li gl = v) (hE : lmE ⟨r, f, lo, tm, ps⟩ use ev li gl = E) (pv uv av bv : Value) (w : World) (hp : PrRow w pv ps) (hu : IsRow w uv use) (ha : IsRow w av li) (hg : IsRow w bv gl) :
  Calls Try.prog 12 #[.agg #[.int .i64 r, .int .i64 f, .int .i64 lo, .int .i64 tm, pv], .agg #[uv, .int .i64 ev], av, bv] w fun e w' => e = .returned (.tuple #[.int .i64 v, .int .i64 E]) ∧ Below w.heap.size w w' := by
 have h := Limit_any r f lo tm pv ps uv use ev av li bv gl w hp hu ha hg
 rw [hV, hE] at h
 exact h
theorem example31_4 (w : World) : Calls Try.prog 11 #[.int .i64 4] w fun e w' => ∃ pv uv, e = .returned (.tuple #[.agg #[.int .i64 0, .int .i64 1, .int .i64 0, .int .i64 100, pv], .agg #[uv, .int .i64 1000]]) ∧ (PrRow w' pv (exC 4) ∧ IsRow w' uv [0, 1, 2, 3]) ∧ Below w.heap.size w w' := example31_any 4 (by omega) w
theorem example31_3 (w : World) : Calls Try.prog 11 #[.int .i64 3] w fun e w' => ∃ pv uv, e = .returned (.tuple #[.agg #[.int .i64 0, .int .i64 1, .int .i64 0, .int .i64 100, pv], .agg #[uv, .int .i64 1000]]) ∧ (PrRow w' pv (exC 3) ∧ IsRow w' uv [0, 1, 2]) ∧ Below w.heap.size w w' := example31_any 3 (by omega) w
set_option maxRecDepth 100000 in
set_option maxHeartbeats 2000000 in
theorem head31_any (w : World) : Calls Try.prog 5 #[] w fun e w' => e = .returned (.bool true) ∧ Below w.heap.size w w' := by
 obtain ⟨⟨v1, v2, v3⟩, ⟨v4, v5⟩, ⟨v6, v7, v8, v9, v10⟩, v11, ⟨v12, v13⟩, v14⟩ := head_vals31
 unfold xi4 at v1 v2 v4 v5 v11
 unfold xi3 at v6 v7 v8 v12 v13 v14
 have x4 : mkX ⟨0, 1, 0, 100, exC 4⟩ [0, 1, 2, 3] 1000 8 = ⟨[0, 1, 2, 3], 1000, 8, 8, exC4⟩ := by unfold mkX; rw [if_pos v1, v2]; rfl
 have x5 : mkX ⟨0, 1, 0, 100, exC 3⟩ [0, 1, 2] 1000 15 = ⟨[], 0, 0, 0, []⟩ := by unfold mkX; rw [if_neg (by rw [v6]; decide)]; rfl
 have x6 : mkX ⟨0, 1, 0, 100, exC 3⟩ [0, 1, 2] 1000 16 = ⟨[0, 1, 2], 1000, 16, 16, exC3⟩ := by unfold mkX; rw [if_pos v7, v8]; rfl
 go_enter Try.func5, Try.ntmps5
 have hb : Below w.heap.size w w := Below.refl _ _
 go_upto_region 2 with (go_at_call 11; (with_reducible refine (example31_4 _).mono ?_); rintro e w1 ⟨pv1, uv1, rfl, ⟨r1, q1⟩, k1⟩; obtain ⟨pa1, pc1, hpv1, -, -⟩ := r1.len; subst hpv1; obtain ⟨ua1, uc1, huv1, -⟩ := id q1; simp only [List.length_cons, List.length_nil, Nat.reduceAdd] at huv1; subst huv1; have t_ := hb.trans (k1.mono hb.size); clear hb; have hb := t_; clear t_; clear k1)
 obtain ⟨W2, hW2⟩ : ∃ V : World, V = (w1.alloc (.cells #[.int .i64 0, .int .i64 1, .int .i64 0, .int .i64 100, .slice pa1 (exC 4).length pc1] 24)).alloc (.cells #[.slice ua1 4 uc1, .int .i64 1000] 27) := ⟨_, rfl⟩
 rw [← hW2]
 have a2 : Below w1.heap.size w1 W2 := by rw [hW2]; ((with_reducible repeat' first | exact .refl _ _ | refine .alloc ?_ ?_ _ | refine .setCell ?_ ?_ _ | refine .drew ?_ | refine below_drewN ?_ _) <;> first | omega | simp <;> omega)
 have hS : BxC W2 (w1.heap.size) [.int .i64 0, .int .i64 1, .int .i64 0, .int .i64 100, .slice pa1 (exC 4).length pc1] := by
  rw [hW2]
  have h_ := BxC.made (w1) [.int .i64 0, .int .i64 1, .int .i64 0, .int .i64 100, .slice pa1 (exC 4).length pc1] 24
  exact h_.alloc _
 have hC : BxC W2 (w1.heap.size + 1) [.slice ua1 4 uc1, .int .i64 1000] := by
  rw [hW2]
  have h_ := BxC.made (w1.alloc (.cells #[.int .i64 0, .int .i64 1, .int .i64 0, .int .i64 100, .slice pa1 (exC 4).length pc1] 24)) [.slice ua1 4 uc1, .int .i64 1000] 27
  simp only [World.size_alloc] at h_
  exact h_
 have t_ := r1.below (Nat.le_refl _) a2; clear r1; have r1 := t_; clear t_
 have t_ := q1.below (Nat.le_refl _) a2; clear q1; have q1 := t_; clear t_
 have t_ := hb.trans (a2.mono hb.size); clear hb; have hb := t_; clear t_
 clear hW2 a2
 have cS_0 := hS.1 0 _ rfl
 have cS_1 := hS.1 1 _ rfl
 have cS_2 := hS.1 2 _ rfl
 have cS_3 := hS.1 3 _ rfl
 have cS_4 := hS.1 4 _ rfl
 have zS := hS.2.2
 have cC_0 := hC.1 0 _ rfl
 have cC_1 := hC.1 1 _ rfl
 have zC := hC.2.2
 go_upto_region 3 with (go_at_call 8; (with_reducible refine (Make_val x4 v1 _ _ _ r1 q1).mono ?_); rintro e w3 ⟨uv2, cv2, rfl, ⟨ho2, hc2⟩, k3⟩; have q2 := ho2.row; have d2 := hc2.row; clear ho2 hc2; obtain ⟨ua2, uc2, huv2, -⟩ := id q2; simp only [List.length_cons, List.length_nil, Nat.reduceAdd] at huv2; subst huv2; obtain ⟨ca2, cc2, hcv2, -, -⟩ := d2.len; simp only [v3] at hcv2; subst hcv2; clear cS_0 cS_1 cS_2 cS_3 cS_4 zS cC_0 cC_1 zC; have t_ := hS.below hS.2.2 k3; clear hS; have hS := t_; clear t_; have t_ := hC.below hC.2.2 k3; clear hC; have hC := t_; clear t_; have t_ := r1.below (Nat.le_refl _) k3; clear r1; have r1 := t_; clear t_; have t_ := q1.below (Nat.le_refl _) k3; clear q1; have q1 := t_; clear t_; have t_ := hb.trans (k3.mono hb.size); clear hb; have hb := t_; clear t_; clear k3; have cS_0 := hS.1 0 _ rfl; have cS_1 := hS.1 1 _ rfl; have cS_2 := hS.1 2 _ rfl; have cS_3 := hS.1 3 _ rfl; have cS_4 := hS.1 4 _ rfl; have zS := hS.2.2; have cC_0 := hC.1 0 _ rfl; have cC_1 := hC.1 1 _ rfl; have zC := hC.2.2)
 obtain ⟨W4, hW4⟩ : ∃ V : World, V = w3.alloc (.cells #[.slice ua2 4 uc2, .int .i64 1000, .int .i64 8, .int .i64 8, .slice ca2 4 cc2] 35) := ⟨_, rfl⟩
 rw [← hW4]
 clear cS_0 cS_1 cS_2 cS_3 cS_4 zS cC_0 cC_1 zC
 have a4 : Below w3.heap.size w3 W4 := by rw [hW4]; ((with_reducible repeat' first | exact .refl _ _ | refine .alloc ?_ ?_ _ | refine .setCell ?_ ?_ _ | refine .drew ?_ | refine below_drewN ?_ _) <;> first | omega | simp <;> omega)
 have hX : BxC W4 (w3.heap.size) [.slice ua2 4 uc2, .int .i64 1000, .int .i64 8, .int .i64 8, .slice ca2 4 cc2] := by
  rw [hW4]
  have h_ := BxC.made (w3) [.slice ua2 4 uc2, .int .i64 1000, .int .i64 8, .int .i64 8, .slice ca2 4 cc2] 35
  exact h_
 have t_ := hS.below hS.2.2 a4; clear hS; have hS := t_; clear t_
 have t_ := hC.below hC.2.2 a4; clear hC; have hC := t_; clear t_
 have t_ := r1.below (Nat.le_refl _) a4; clear r1; have r1 := t_; clear t_
 have t_ := q1.below (Nat.le_refl _) a4; clear q1; have q1 := t_; clear t_
 have t_ := q2.below (Nat.le_refl _) a4; clear q2; have q2 := t_; clear t_
 have t_ := d2.below (Nat.le_refl _) a4; clear d2; have d2 := t_; clear t_
 have t_ := hb.trans (a4.mono hb.size); clear hb; have hb := t_; clear t_
 clear hW4 a4
 have cS_0 := hS.1 0 _ rfl
 have cS_1 := hS.1 1 _ rfl
 have cS_2 := hS.1 2 _ rfl
 have cS_3 := hS.1 3 _ rfl
 have cS_4 := hS.1 4 _ rfl
 have zS := hS.2.2
 have cC_0 := hC.1 0 _ rfl
 have cC_1 := hC.1 1 _ rfl
 have zC := hC.2.2
 have cX_0 := hX.1 0 _ rfl
 have cX_1 := hX.1 1 _ rfl
 have cX_2 := hX.1 2 _ rfl
 have cX_3 := hX.1 3 _ rfl
 have cX_4 := hX.1 4 _ rfl
 have zX := hX.2.2
 go_upto_region 4 with (go_at_call 9; (with_reducible refine (Check_val v4 v5 _ _ _ _ r1 q2 d2).mono ?_); rintro e w5 ⟨rfl, k5⟩; clear cS_0 cS_1 cS_2 cS_3 cS_4 zS cC_0 cC_1 zC cX_0 cX_1 cX_2 cX_3 cX_4 zX; have t_ := hS.below hS.2.2 k5; clear hS; have hS := t_; clear t_; have t_ := hC.below hC.2.2 k5; clear hC; have hC := t_; clear t_; have t_ := hX.below hX.2.2 k5; clear hX; have hX := t_; clear t_; have t_ := r1.below (Nat.le_refl _) k5; clear r1; have r1 := t_; clear t_; have t_ := q1.below (Nat.le_refl _) k5; clear q1; have q1 := t_; clear t_; have t_ := q2.below (Nat.le_refl _) k5; clear q2; have q2 := t_; clear t_; have t_ := d2.below (Nat.le_refl _) k5; clear d2; have d2 := t_; clear t_; have t_ := hb.trans (k5.mono hb.size); clear hb; have hb := t_; clear t_; clear k5; have cS_0 := hS.1 0 _ rfl; have cS_1 := hS.1 1 _ rfl; have cS_2 := hS.1 2 _ rfl; have cS_3 := hS.1 3 _ rfl; have cS_4 := hS.1 4 _ rfl; have zS := hS.2.2; have cC_0 := hC.1 0 _ rfl; have cC_1 := hC.1 1 _ rfl; have zC := hC.2.2; have cX_0 := hX.1 0 _ rfl; have cX_1 := hX.1 1 _ rfl; have cX_2 := hX.1 2 _ rfl; have cX_3 := hX.1 3 _ rfl; have cX_4 := hX.1 4 _ rfl; have zX := hX.2.2)
 go_upto_region 5 with (go_at_call 11; (with_reducible refine (example31_3 _).mono ?_); rintro e w6 ⟨pv3, uv3, rfl, ⟨r3, q3⟩, k6⟩; obtain ⟨pa3, pc3, hpv3, -, -⟩ := r3.len; subst hpv3; obtain ⟨ua3, uc3, huv3, -⟩ := id q3; simp only [List.length_cons, List.length_nil, Nat.reduceAdd] at huv3; subst huv3; clear cS_0 cS_1 cS_2 cS_3 cS_4 zS cC_0 cC_1 zC cX_0 cX_1 cX_2 cX_3 cX_4 zX; have t_ := hS.below hS.2.2 k6; clear hS; have hS := t_; clear t_; have t_ := hC.below hC.2.2 k6; clear hC; have hC := t_; clear t_; have t_ := hX.below hX.2.2 k6; clear hX; have hX := t_; clear t_; have t_ := r1.below (Nat.le_refl _) k6; clear r1; have r1 := t_; clear t_; have t_ := q1.below (Nat.le_refl _) k6; clear q1; have q1 := t_; clear t_; have t_ := q2.below (Nat.le_refl _) k6; clear q2; have q2 := t_; clear t_; have t_ := d2.below (Nat.le_refl _) k6; clear d2; have d2 := t_; clear t_; have t_ := hb.trans (k6.mono hb.size); clear hb; have hb := t_; clear t_; clear k6; have cS_0 := hS.1 0 _ rfl; have cS_1 := hS.1 1 _ rfl; have cS_2 := hS.1 2 _ rfl; have cS_3 := hS.1 3 _ rfl; have cS_4 := hS.1 4 _ rfl; have zS := hS.2.2; have cC_0 := hC.1 0 _ rfl; have cC_1 := hC.1 1 _ rfl; have zC := hC.2.2; have cX_0 := hX.1 0 _ rfl; have cX_1 := hX.1 1 _ rfl; have cX_2 := hX.1 2 _ rfl; have cX_3 := hX.1 3 _ rfl; have cX_4 := hX.1 4 _ rfl; have zX := hX.2.2)
 obtain ⟨W7, hW7⟩ : ∃ V : World, V = (w6.alloc (.cells #[.int .i64 0, .int .i64 1, .int .i64 0, .int .i64 100, .slice pa3 (exC 3).length pc3] 24)).alloc (.cells #[.slice ua3 3 uc3, .int .i64 1000] 27) := ⟨_, rfl⟩
 rw [← hW7]
 clear cS_0 cS_1 cS_2 cS_3 cS_4 zS cC_0 cC_1 zC cX_0 cX_1 cX_2 cX_3 cX_4 zX
 have a7 : Below w6.heap.size w6 W7 := by rw [hW7]; ((with_reducible repeat' first | exact .refl _ _ | refine .alloc ?_ ?_ _ | refine .setCell ?_ ?_ _ | refine .drew ?_ | refine below_drewN ?_ _) <;> first | omega | simp <;> omega)
 have hU : BxC W7 (w6.heap.size) [.int .i64 0, .int .i64 1, .int .i64 0, .int .i64 100, .slice pa3 (exC 3).length pc3] := by
  rw [hW7]
  have h_ := BxC.made (w6) [.int .i64 0, .int .i64 1, .int .i64 0, .int .i64 100, .slice pa3 (exC 3).length pc3] 24
  exact h_.alloc _
 have hD : BxC W7 (w6.heap.size + 1) [.slice ua3 3 uc3, .int .i64 1000] := by
  rw [hW7]
  have h_ := BxC.made (w6.alloc (.cells #[.int .i64 0, .int .i64 1, .int .i64 0, .int .i64 100, .slice pa3 (exC 3).length pc3] 24)) [.slice ua3 3 uc3, .int .i64 1000] 27
  simp only [World.size_alloc] at h_
  exact h_
 have t_ := hS.below hS.2.2 a7; clear hS; have hS := t_; clear t_
 have t_ := hC.below hC.2.2 a7; clear hC; have hC := t_; clear t_
 have t_ := hX.below hX.2.2 a7; clear hX; have hX := t_; clear t_
 have t_ := r1.below (Nat.le_refl _) a7; clear r1; have r1 := t_; clear t_
 have t_ := q1.below (Nat.le_refl _) a7; clear q1; have q1 := t_; clear t_
 have t_ := q2.below (Nat.le_refl _) a7; clear q2; have q2 := t_; clear t_
 have t_ := d2.below (Nat.le_refl _) a7; clear d2; have d2 := t_; clear t_
 have t_ := r3.below (Nat.le_refl _) a7; clear r3; have r3 := t_; clear t_
 have t_ := q3.below (Nat.le_refl _) a7; clear q3; have q3 := t_; clear t_
 have t_ := hb.trans (a7.mono hb.size); clear hb; have hb := t_; clear t_
 clear hW7 a7
 have cS_0 := hS.1 0 _ rfl
 have cS_1 := hS.1 1 _ rfl
 have cS_2 := hS.1 2 _ rfl
 have cS_3 := hS.1 3 _ rfl
 have cS_4 := hS.1 4 _ rfl
 have zS := hS.2.2
 have cC_0 := hC.1 0 _ rfl
 have cC_1 := hC.1 1 _ rfl
 have zC := hC.2.2
 have cX_0 := hX.1 0 _ rfl
 have cX_1 := hX.1 1 _ rfl
 have cX_2 := hX.1 2 _ rfl
 have cX_3 := hX.1 3 _ rfl
 have cX_4 := hX.1 4 _ rfl
 have zX := hX.2.2
 have cU_0 := hU.1 0 _ rfl
 have cU_1 := hU.1 1 _ rfl
 have cU_2 := hU.1 2 _ rfl
 have cU_3 := hU.1 3 _ rfl
 have cU_4 := hU.1 4 _ rfl
 have zU := hU.2.2
 have cD_0 := hD.1 0 _ rfl
 have cD_1 := hD.1 1 _ rfl
 have zD := hD.2.2
 go_upto_region 6 with (go_at_call 8; (with_reducible refine (Make_val x5 v6 _ _ _ r3 q3).mono ?_); rintro e w8 ⟨uv5, cv5, rfl, ⟨ho5, hc5⟩, k8⟩; have q5 := ho5.row; have d5 := hc5.row; clear ho5 hc5; obtain ⟨ua5, uc5, huv5, -⟩ := id q5; simp only [List.length_nil] at huv5; subst huv5; obtain ⟨ca5, cc5, hcv5, -, -⟩ := d5.len; simp only [List.length_nil] at hcv5; subst hcv5; clear cS_0 cS_1 cS_2 cS_3 cS_4 zS cC_0 cC_1 zC cX_0 cX_1 cX_2 cX_3 cX_4 zX cU_0 cU_1 cU_2 cU_3 cU_4 zU cD_0 cD_1 zD; have t_ := hS.below hS.2.2 k8; clear hS; have hS := t_; clear t_; have t_ := hC.below hC.2.2 k8; clear hC; have hC := t_; clear t_; have t_ := hX.below hX.2.2 k8; clear hX; have hX := t_; clear t_; have t_ := hU.below hU.2.2 k8; clear hU; have hU := t_; clear t_; have t_ := hD.below hD.2.2 k8; clear hD; have hD := t_; clear t_; have t_ := r1.below (Nat.le_refl _) k8; clear r1; have r1 := t_; clear t_; have t_ := q1.below (Nat.le_refl _) k8; clear q1; have q1 := t_; clear t_; have t_ := q2.below (Nat.le_refl _) k8; clear q2; have q2 := t_; clear t_; have t_ := d2.below (Nat.le_refl _) k8; clear d2; have d2 := t_; clear t_; have t_ := r3.below (Nat.le_refl _) k8; clear r3; have r3 := t_; clear t_; have t_ := q3.below (Nat.le_refl _) k8; clear q3; have q3 := t_; clear t_; have t_ := hb.trans (k8.mono hb.size); clear hb; have hb := t_; clear t_; clear k8; have cS_0 := hS.1 0 _ rfl; have cS_1 := hS.1 1 _ rfl; have cS_2 := hS.1 2 _ rfl; have cS_3 := hS.1 3 _ rfl; have cS_4 := hS.1 4 _ rfl; have zS := hS.2.2; have cC_0 := hC.1 0 _ rfl; have cC_1 := hC.1 1 _ rfl; have zC := hC.2.2; have cX_0 := hX.1 0 _ rfl; have cX_1 := hX.1 1 _ rfl; have cX_2 := hX.1 2 _ rfl; have cX_3 := hX.1 3 _ rfl; have cX_4 := hX.1 4 _ rfl; have zX := hX.2.2; have cU_0 := hU.1 0 _ rfl; have cU_1 := hU.1 1 _ rfl; have cU_2 := hU.1 2 _ rfl; have cU_3 := hU.1 3 _ rfl; have cU_4 := hU.1 4 _ rfl; have zU := hU.2.2; have cD_0 := hD.1 0 _ rfl; have cD_1 := hD.1 1 _ rfl; have zD := hD.2.2)
 obtain ⟨W9, hW9⟩ : ∃ V : World, V = w8.alloc (.cells #[.slice ua5 0 uc5, .int .i64 0, .int .i64 0, .int .i64 0, .slice ca5 0 cc5] 35) := ⟨_, rfl⟩
 rw [← hW9]
 clear cS_0 cS_1 cS_2 cS_3 cS_4 zS cC_0 cC_1 zC cX_0 cX_1 cX_2 cX_3 cX_4 zX cU_0 cU_1 cU_2 cU_3 cU_4 zU cD_0 cD_1 zD
 have a9 : Below w8.heap.size w8 W9 := by rw [hW9]; ((with_reducible repeat' first | exact .refl _ _ | refine .alloc ?_ ?_ _ | refine .setCell ?_ ?_ _ | refine .drew ?_ | refine below_drewN ?_ _) <;> first | omega | simp <;> omega)
 have hZ : BxC W9 (w8.heap.size) [.slice ua5 0 uc5, .int .i64 0, .int .i64 0, .int .i64 0, .slice ca5 0 cc5] := by
  rw [hW9]
  have h_ := BxC.made (w8) [.slice ua5 0 uc5, .int .i64 0, .int .i64 0, .int .i64 0, .slice ca5 0 cc5] 35
  exact h_
 have t_ := hS.below hS.2.2 a9; clear hS; have hS := t_; clear t_
 have t_ := hC.below hC.2.2 a9; clear hC; have hC := t_; clear t_
 have t_ := hX.below hX.2.2 a9; clear hX; have hX := t_; clear t_
 have t_ := hU.below hU.2.2 a9; clear hU; have hU := t_; clear t_
 have t_ := hD.below hD.2.2 a9; clear hD; have hD := t_; clear t_
 have t_ := r1.below (Nat.le_refl _) a9; clear r1; have r1 := t_; clear t_
 have t_ := q1.below (Nat.le_refl _) a9; clear q1; have q1 := t_; clear t_
 have t_ := q2.below (Nat.le_refl _) a9; clear q2; have q2 := t_; clear t_
 have t_ := d2.below (Nat.le_refl _) a9; clear d2; have d2 := t_; clear t_
 have t_ := r3.below (Nat.le_refl _) a9; clear r3; have r3 := t_; clear t_
 have t_ := q3.below (Nat.le_refl _) a9; clear q3; have q3 := t_; clear t_
 have t_ := q5.below (Nat.le_refl _) a9; clear q5; have q5 := t_; clear t_
 have t_ := d5.below (Nat.le_refl _) a9; clear d5; have d5 := t_; clear t_
 have t_ := hb.trans (a9.mono hb.size); clear hb; have hb := t_; clear t_
 clear hW9 a9
 have cS_0 := hS.1 0 _ rfl
 have cS_1 := hS.1 1 _ rfl
 have cS_2 := hS.1 2 _ rfl
 have cS_3 := hS.1 3 _ rfl
 have cS_4 := hS.1 4 _ rfl
 have zS := hS.2.2
 have cC_0 := hC.1 0 _ rfl
 have cC_1 := hC.1 1 _ rfl
 have zC := hC.2.2
 have cX_0 := hX.1 0 _ rfl
 have cX_1 := hX.1 1 _ rfl
 have cX_2 := hX.1 2 _ rfl
 have cX_3 := hX.1 3 _ rfl
 have cX_4 := hX.1 4 _ rfl
 have zX := hX.2.2
 have cU_0 := hU.1 0 _ rfl
 have cU_1 := hU.1 1 _ rfl
 have cU_2 := hU.1 2 _ rfl
 have cU_3 := hU.1 3 _ rfl
 have cU_4 := hU.1 4 _ rfl
 have zU := hU.2.2
 have cD_0 := hD.1 0 _ rfl
 have cD_1 := hD.1 1 _ rfl
 have zD := hD.2.2
 have cZ_0 := hZ.1 0 _ rfl
 have cZ_1 := hZ.1 1 _ rfl
 have cZ_2 := hZ.1 2 _ rfl
 have cZ_3 := hZ.1 3 _ rfl
 have cZ_4 := hZ.1 4 _ rfl
 have zZ := hZ.2.2
 clear hZ
 go_upto_region 7 with (go_at_call 8; (with_reducible refine (Make_val x6 v7 _ _ _ r3 q3).mono ?_); rintro e w10 ⟨uv6, cv6, rfl, ⟨ho6, hc6⟩, k10⟩; have q6 := ho6.row; have d6 := hc6.row; clear ho6 hc6; obtain ⟨ua6, uc6, huv6, -⟩ := id q6; simp only [List.length_cons, List.length_nil, Nat.reduceAdd] at huv6; subst huv6; obtain ⟨ca6, cc6, hcv6, -, -⟩ := d6.len; simp only [v9] at hcv6; subst hcv6; clear cS_0 cS_1 cS_2 cS_3 cS_4 zS cC_0 cC_1 zC cX_0 cX_1 cX_2 cX_3 cX_4 zX cU_0 cU_1 cU_2 cU_3 cU_4 zU cD_0 cD_1 zD cZ_0 cZ_1 cZ_2 cZ_3 cZ_4 zZ; have t_ := hS.below hS.2.2 k10; clear hS; have hS := t_; clear t_; have t_ := hC.below hC.2.2 k10; clear hC; have hC := t_; clear t_; have t_ := hX.below hX.2.2 k10; clear hX; have hX := t_; clear t_; have t_ := hU.below hU.2.2 k10; clear hU; have hU := t_; clear t_; have t_ := hD.below hD.2.2 k10; clear hD; have hD := t_; clear t_; have t_ := r1.below (Nat.le_refl _) k10; clear r1; have r1 := t_; clear t_; have t_ := q1.below (Nat.le_refl _) k10; clear q1; have q1 := t_; clear t_; have t_ := q2.below (Nat.le_refl _) k10; clear q2; have q2 := t_; clear t_; have t_ := d2.below (Nat.le_refl _) k10; clear d2; have d2 := t_; clear t_; have t_ := r3.below (Nat.le_refl _) k10; clear r3; have r3 := t_; clear t_; have t_ := q3.below (Nat.le_refl _) k10; clear q3; have q3 := t_; clear t_; have t_ := q5.below (Nat.le_refl _) k10; clear q5; have q5 := t_; clear t_; have t_ := d5.below (Nat.le_refl _) k10; clear d5; have d5 := t_; clear t_; have t_ := hb.trans (k10.mono hb.size); clear hb; have hb := t_; clear t_; clear k10; have cS_0 := hS.1 0 _ rfl; have cS_1 := hS.1 1 _ rfl; have cS_2 := hS.1 2 _ rfl; have cS_3 := hS.1 3 _ rfl; have cS_4 := hS.1 4 _ rfl; have zS := hS.2.2; have cC_0 := hC.1 0 _ rfl; have cC_1 := hC.1 1 _ rfl; have zC := hC.2.2; have cX_0 := hX.1 0 _ rfl; have cX_1 := hX.1 1 _ rfl; have cX_2 := hX.1 2 _ rfl; have cX_3 := hX.1 3 _ rfl; have cX_4 := hX.1 4 _ rfl; have zX := hX.2.2; have cU_0 := hU.1 0 _ rfl; have cU_1 := hU.1 1 _ rfl; have cU_2 := hU.1 2 _ rfl; have cU_3 := hU.1 3 _ rfl; have cU_4 := hU.1 4 _ rfl; have zU := hU.2.2; have cD_0 := hD.1 0 _ rfl; have cD_1 := hD.1 1 _ rfl; have zD := hD.2.2)
 obtain ⟨W11, hW11⟩ : ∃ V : World, V = w10.alloc (.cells #[.slice ua6 3 uc6, .int .i64 1000, .int .i64 16, .int .i64 16, .slice ca6 3 cc6] 35) := ⟨_, rfl⟩
 rw [← hW11]
 clear cS_0 cS_1 cS_2 cS_3 cS_4 zS cC_0 cC_1 zC cX_0 cX_1 cX_2 cX_3 cX_4 zX cU_0 cU_1 cU_2 cU_3 cU_4 zU cD_0 cD_1 zD
 have a11 : Below w10.heap.size w10 W11 := by rw [hW11]; ((with_reducible repeat' first | exact .refl _ _ | refine .alloc ?_ ?_ _ | refine .setCell ?_ ?_ _ | refine .drew ?_ | refine below_drewN ?_ _) <;> first | omega | simp <;> omega)
 have hY : BxC W11 (w10.heap.size) [.slice ua6 3 uc6, .int .i64 1000, .int .i64 16, .int .i64 16, .slice ca6 3 cc6] := by
  rw [hW11]
  have h_ := BxC.made (w10) [.slice ua6 3 uc6, .int .i64 1000, .int .i64 16, .int .i64 16, .slice ca6 3 cc6] 35
  exact h_
 have t_ := hS.below hS.2.2 a11; clear hS; have hS := t_; clear t_
 have t_ := hC.below hC.2.2 a11; clear hC; have hC := t_; clear t_
 have t_ := hX.below hX.2.2 a11; clear hX; have hX := t_; clear t_
 have t_ := hU.below hU.2.2 a11; clear hU; have hU := t_; clear t_
 have t_ := hD.below hD.2.2 a11; clear hD; have hD := t_; clear t_
 have t_ := r1.below (Nat.le_refl _) a11; clear r1; have r1 := t_; clear t_
 have t_ := q1.below (Nat.le_refl _) a11; clear q1; have q1 := t_; clear t_
 have t_ := q2.below (Nat.le_refl _) a11; clear q2; have q2 := t_; clear t_
 have t_ := d2.below (Nat.le_refl _) a11; clear d2; have d2 := t_; clear t_
 have t_ := r3.below (Nat.le_refl _) a11; clear r3; have r3 := t_; clear t_
 have t_ := q3.below (Nat.le_refl _) a11; clear q3; have q3 := t_; clear t_
 have t_ := q5.below (Nat.le_refl _) a11; clear q5; have q5 := t_; clear t_
 have t_ := d5.below (Nat.le_refl _) a11; clear d5; have d5 := t_; clear t_
 have t_ := q6.below (Nat.le_refl _) a11; clear q6; have q6 := t_; clear t_
 have t_ := d6.below (Nat.le_refl _) a11; clear d6; have d6 := t_; clear t_
 have t_ := hb.trans (a11.mono hb.size); clear hb; have hb := t_; clear t_
 clear hW11 a11
 have cS_0 := hS.1 0 _ rfl
 have cS_1 := hS.1 1 _ rfl
 have cS_2 := hS.1 2 _ rfl
 have cS_3 := hS.1 3 _ rfl
 have cS_4 := hS.1 4 _ rfl
 have zS := hS.2.2
 have cC_0 := hC.1 0 _ rfl
 have cC_1 := hC.1 1 _ rfl
 have zC := hC.2.2
 have cX_0 := hX.1 0 _ rfl
 have cX_1 := hX.1 1 _ rfl
 have cX_2 := hX.1 2 _ rfl
 have cX_3 := hX.1 3 _ rfl
 have cX_4 := hX.1 4 _ rfl
 have zX := hX.2.2
 have cU_0 := hU.1 0 _ rfl
 have cU_1 := hU.1 1 _ rfl
 have cU_2 := hU.1 2 _ rfl
 have cU_3 := hU.1 3 _ rfl
 have cU_4 := hU.1 4 _ rfl
 have zU := hU.2.2
 have cD_0 := hD.1 0 _ rfl
 have cD_1 := hD.1 1 _ rfl
 have zD := hD.2.2
 have cY_0 := hY.1 0 _ rfl
 have cY_1 := hY.1 1 _ rfl
 have cY_2 := hY.1 2 _ rfl
 have cY_3 := hY.1 3 _ rfl
 have cY_4 := hY.1 4 _ rfl
 have zY := hY.2.2
 go_upto_region 8 with (go_at_call 9; (with_reducible refine (Check_val v11 v5 _ _ _ _ r1 q1 (CsRow.nil _)).mono ?_); rintro e w12 ⟨rfl, k12⟩; clear cS_0 cS_1 cS_2 cS_3 cS_4 zS cC_0 cC_1 zC cX_0 cX_1 cX_2 cX_3 cX_4 zX cU_0 cU_1 cU_2 cU_3 cU_4 zU cD_0 cD_1 zD cY_0 cY_1 cY_2 cY_3 cY_4 zY; have t_ := hS.below hS.2.2 k12; clear hS; have hS := t_; clear t_; have t_ := hC.below hC.2.2 k12; clear hC; have hC := t_; clear t_; have t_ := hX.below hX.2.2 k12; clear hX; have hX := t_; clear t_; have t_ := hU.below hU.2.2 k12; clear hU; have hU := t_; clear t_; have t_ := hD.below hD.2.2 k12; clear hD; have hD := t_; clear t_; have t_ := hY.below hY.2.2 k12; clear hY; have hY := t_; clear t_; have t_ := r1.below (Nat.le_refl _) k12; clear r1; have r1 := t_; clear t_; have t_ := q1.below (Nat.le_refl _) k12; clear q1; have q1 := t_; clear t_; have t_ := q2.below (Nat.le_refl _) k12; clear q2; have q2 := t_; clear t_; have t_ := d2.below (Nat.le_refl _) k12; clear d2; have d2 := t_; clear t_; have t_ := r3.below (Nat.le_refl _) k12; clear r3; have r3 := t_; clear t_; have t_ := q3.below (Nat.le_refl _) k12; clear q3; have q3 := t_; clear t_; have t_ := q5.below (Nat.le_refl _) k12; clear q5; have q5 := t_; clear t_; have t_ := d5.below (Nat.le_refl _) k12; clear d5; have d5 := t_; clear t_; have t_ := q6.below (Nat.le_refl _) k12; clear q6; have q6 := t_; clear t_; have t_ := d6.below (Nat.le_refl _) k12; clear d6; have d6 := t_; clear t_; have t_ := hb.trans (k12.mono hb.size); clear hb; have hb := t_; clear t_; clear k12; have cS_0 := hS.1 0 _ rfl; have cS_1 := hS.1 1 _ rfl; have cS_2 := hS.1 2 _ rfl; have cS_3 := hS.1 3 _ rfl; have cS_4 := hS.1 4 _ rfl; have zS := hS.2.2; have cC_0 := hC.1 0 _ rfl; have cC_1 := hC.1 1 _ rfl; have zC := hC.2.2; have cX_0 := hX.1 0 _ rfl; have cX_1 := hX.1 1 _ rfl; have cX_2 := hX.1 2 _ rfl; have cX_3 := hX.1 3 _ rfl; have cX_4 := hX.1 4 _ rfl; have zX := hX.2.2; have cU_0 := hU.1 0 _ rfl; have cU_1 := hU.1 1 _ rfl; have cU_2 := hU.1 2 _ rfl; have cU_3 := hU.1 3 _ rfl; have cU_4 := hU.1 4 _ rfl; have zU := hU.2.2; have cD_0 := hD.1 0 _ rfl; have cD_1 := hD.1 1 _ rfl; have zD := hD.2.2; have cY_0 := hY.1 0 _ rfl; have cY_1 := hY.1 1 _ rfl; have cY_2 := hY.1 2 _ rfl; have cY_3 := hY.1 3 _ rfl; have cY_4 := hY.1 4 _ rfl; have zY := hY.2.2)
 go_upto_region 9 with (go_at_call 12; (with_reducible refine (Limit_val v12 v13 _ _ _ _ _ (r3.below (Nat.le_refl _) (by ((with_reducible repeat' first | exact .refl _ _ | refine .alloc ?_ ?_ _ | refine .setCell ?_ ?_ _ | refine .drew ?_ | refine below_drewN ?_ _) <;> first | omega | simp <;> omega))) (q3.below (Nat.le_refl _) (by ((with_reducible repeat' first | exact .refl _ _ | refine .alloc ?_ ?_ _ | refine .setCell ?_ ?_ _ | refine .drew ?_ | refine below_drewN ?_ _) <;> first | omega | simp <;> omega))) (by simpa [encI] using isrow_lit w12 [1] 3 (by decide)) (isrow_empty _ _ _ (by omega))).mono ?_); rintro e w13 ⟨rfl, k13⟩; have kk_ : Below w12.heap.size w12 w13 := (by ((with_reducible repeat' first | exact .refl _ _ | exact k13 | refine .alloc ?_ ?_ _ | refine .setCell ?_ ?_ _ | refine .drew ?_ | refine below_drewN ?_ _ | refine Below.trans ?_ (k13.mono ?_)) <;> first | omega | simp <;> omega)); clear k13; have k13 := kk_; clear kk_; clear cS_0 cS_1 cS_2 cS_3 cS_4 zS cC_0 cC_1 zC cX_0 cX_1 cX_2 cX_3 cX_4 zX cU_0 cU_1 cU_2 cU_3 cU_4 zU cD_0 cD_1 zD cY_0 cY_1 cY_2 cY_3 cY_4 zY; have t_ := hS.below hS.2.2 k13; clear hS; have hS := t_; clear t_; have t_ := hC.below hC.2.2 k13; clear hC; have hC := t_; clear t_; have t_ := hX.below hX.2.2 k13; clear hX; have hX := t_; clear t_; have t_ := hU.below hU.2.2 k13; clear hU; have hU := t_; clear t_; have t_ := hD.below hD.2.2 k13; clear hD; have hD := t_; clear t_; have t_ := hY.below hY.2.2 k13; clear hY; have hY := t_; clear t_; have t_ := r1.below (Nat.le_refl _) k13; clear r1; have r1 := t_; clear t_; have t_ := q1.below (Nat.le_refl _) k13; clear q1; have q1 := t_; clear t_; have t_ := q2.below (Nat.le_refl _) k13; clear q2; have q2 := t_; clear t_; have t_ := d2.below (Nat.le_refl _) k13; clear d2; have d2 := t_; clear t_; have t_ := r3.below (Nat.le_refl _) k13; clear r3; have r3 := t_; clear t_; have t_ := q3.below (Nat.le_refl _) k13; clear q3; have q3 := t_; clear t_; have t_ := q5.below (Nat.le_refl _) k13; clear q5; have q5 := t_; clear t_; have t_ := d5.below (Nat.le_refl _) k13; clear d5; have d5 := t_; clear t_; have t_ := q6.below (Nat.le_refl _) k13; clear q6; have q6 := t_; clear t_; have t_ := d6.below (Nat.le_refl _) k13; clear d6; have d6 := t_; clear t_; have t_ := hb.trans (k13.mono hb.size); clear hb; have hb := t_; clear t_; clear k13; have cS_0 := hS.1 0 _ rfl; have cS_1 := hS.1 1 _ rfl; have cS_2 := hS.1 2 _ rfl; have cS_3 := hS.1 3 _ rfl; have cS_4 := hS.1 4 _ rfl; have zS := hS.2.2; have cC_0 := hC.1 0 _ rfl; have cC_1 := hC.1 1 _ rfl; have zC := hC.2.2; have cX_0 := hX.1 0 _ rfl; have cX_1 := hX.1 1 _ rfl; have cX_2 := hX.1 2 _ rfl; have cX_3 := hX.1 3 _ rfl; have cX_4 := hX.1 4 _ rfl; have zX := hX.2.2; have cU_0 := hU.1 0 _ rfl; have cU_1 := hU.1 1 _ rfl; have cU_2 := hU.1 2 _ rfl; have cU_3 := hU.1 3 _ rfl; have cU_4 := hU.1 4 _ rfl; have zU := hU.2.2; have cD_0 := hD.1 0 _ rfl; have cD_1 := hD.1 1 _ rfl; have zD := hD.2.2; have cY_0 := hY.1 0 _ rfl; have cY_1 := hY.1 1 _ rfl; have cY_2 := hY.1 2 _ rfl; have cY_3 := hY.1 3 _ rfl; have cY_4 := hY.1 4 _ rfl; have zY := hY.2.2)
 go_upto_region 10 with (go_at_call 12; (with_reducible refine (Limit_val rfl v14 _ _ _ _ _ r3 q3 (isrow_empty _ _ _ (by omega)) (isrow_empty _ _ _ (by omega))).mono ?_); rintro e w14 ⟨rfl, k14⟩; clear cS_0 cS_1 cS_2 cS_3 cS_4 zS cC_0 cC_1 zC cX_0 cX_1 cX_2 cX_3 cX_4 zX cU_0 cU_1 cU_2 cU_3 cU_4 zU cD_0 cD_1 zD cY_0 cY_1 cY_2 cY_3 cY_4 zY; have t_ := hS.below hS.2.2 k14; clear hS; have hS := t_; clear t_; have t_ := hC.below hC.2.2 k14; clear hC; have hC := t_; clear t_; have t_ := hX.below hX.2.2 k14; clear hX; have hX := t_; clear t_; have t_ := hU.below hU.2.2 k14; clear hU; have hU := t_; clear t_; have t_ := hD.below hD.2.2 k14; clear hD; have hD := t_; clear t_; have t_ := hY.below hY.2.2 k14; clear hY; have hY := t_; clear t_; have t_ := r1.below (Nat.le_refl _) k14; clear r1; have r1 := t_; clear t_; have t_ := q1.below (Nat.le_refl _) k14; clear q1; have q1 := t_; clear t_; have t_ := q2.below (Nat.le_refl _) k14; clear q2; have q2 := t_; clear t_; have t_ := d2.below (Nat.le_refl _) k14; clear d2; have d2 := t_; clear t_; have t_ := r3.below (Nat.le_refl _) k14; clear r3; have r3 := t_; clear t_; have t_ := q3.below (Nat.le_refl _) k14; clear q3; have q3 := t_; clear t_; have t_ := q5.below (Nat.le_refl _) k14; clear q5; have q5 := t_; clear t_; have t_ := d5.below (Nat.le_refl _) k14; clear d5; have d5 := t_; clear t_; have t_ := q6.below (Nat.le_refl _) k14; clear q6; have q6 := t_; clear t_; have t_ := d6.below (Nat.le_refl _) k14; clear d6; have d6 := t_; clear t_; have t_ := hb.trans (k14.mono hb.size); clear hb; have hb := t_; clear t_; clear k14; have cS_0 := hS.1 0 _ rfl; have cS_1 := hS.1 1 _ rfl; have cS_2 := hS.1 2 _ rfl; have cS_3 := hS.1 3 _ rfl; have cS_4 := hS.1 4 _ rfl; have zS := hS.2.2; have cC_0 := hC.1 0 _ rfl; have cC_1 := hC.1 1 _ rfl; have zC := hC.2.2; have cX_0 := hX.1 0 _ rfl; have cX_1 := hX.1 1 _ rfl; have cX_2 := hX.1 2 _ rfl; have cX_3 := hX.1 3 _ rfl; have cX_4 := hX.1 4 _ rfl; have zX := hX.2.2; have cU_0 := hU.1 0 _ rfl; have cU_1 := hU.1 1 _ rfl; have cU_2 := hU.1 2 _ rfl; have cU_3 := hU.1 3 _ rfl; have cU_4 := hU.1 4 _ rfl; have zU := hU.2.2; have cD_0 := hD.1 0 _ rfl; have cD_1 := hD.1 1 _ rfl; have zD := hD.2.2; have cY_0 := hY.1 0 _ rfl; have cY_1 := hY.1 1 _ rfl; have cY_2 := hY.1 2 _ rfl; have cY_3 := hY.1 3 _ rfl; have cY_4 := hY.1 4 _ rfl; have zY := hY.2.2)
 obtain ⟨cb, co, ck, u1, u2, hcv, hcb, ⟨e0, e1, e2⟩, s1, s2⟩ := d6.at_ (i := 2) (by rw [v9]; omega)
 rw [v10] at e2 s1 s2
 rw [v9] at hcv
 simp only [Value.slice.injEq] at hcv
 obtain ⟨rfl, -, rfl⟩ := hcv
 obtain ⟨l1, n1, rfl, -⟩ := id s1
 obtain ⟨l2, n2, rfl, -⟩ := id s2
 have hq : csEq ⟨[2], [], 16⟩ ⟨[2], [], 16⟩ = true := by decide
 simp only [List.length_cons, List.length_nil, Nat.reduceAdd] at e0 e1 e2 s1 s2
 generalize lmV ⟨0, 1, 0, 100, exC 3⟩ [0, 1, 2] 1000 [] [] = lz
 have hbz := hb
 have hzz := hb.size
 have HS1 := hide s1
 have HS2 := hide s2
 clear s1 s2 r1 q1 q2 d2 r3 q3 q5 d5 q6 d6 v1 v2 v3 v4 v5 v6 v7 v8 v9 v10 v11 v12 v13 v14 x4 x5 x6
 go_wp2_with (go_at_call 13; (with_reducible refine (R31SameCase_any ⟨[2], [], 16⟩ ⟨[2], [], 16⟩ _ _ _ _ _ (HS1.out.below (Nat.le_refl _) (by ((with_reducible repeat' first | exact .refl _ _ | refine .alloc ?_ ?_ _ | refine .setCell ?_ ?_ _ | refine .drew ?_ | refine below_drewN ?_ _) <;> first | omega | simp <;> omega))) (HS2.out.below (Nat.le_refl _) (by ((with_reducible repeat' first | exact .refl _ _ | refine .alloc ?_ ?_ _ | refine .setCell ?_ ?_ _ | refine .drew ?_ | refine below_drewN ?_ _) <;> first | omega | simp <;> omega))) (by simpa [encI] using isrow_lit w14 [2] 3 (by decide)) (isrow_empty _ _ _ (by omega))).mono ?_); rintro e w15 ⟨rfl, k15⟩; rw [hq])
 go_ret
 exact ⟨rfl, (by ((with_reducible repeat' first | exact .refl _ _ | exact k15 | exact hbz | refine .alloc ?_ ?_ _ | refine .setCell ?_ ?_ _ | refine .drew ?_ | refine below_drewN ?_ _ | refine Below.trans ?_ (k15.mono ?_) | refine Below.trans ?_ (hbz.mono ?_)) <;> first | omega | simp <;> omega))⟩
end Go.Proofs.Ytlmcoollkmhanaa
