
/- The reference of cert: limit. -/
import Derived.Test.YtlmcoollkmhanaaGreatCtM
import Derived.Test.YtlmcoollkmhanaaGreatCtQ
import Derived.Test.YtlmcoollkmhanaaGreatGg
namespace Go.Proofs.YtlmcoollkmhanaaGreat
open Go.RowKit

theorem cwTo_in1 {ws li lg : List Int} {k : Nat} (h : (k : Int) ∈ li) : cwTo ws li lg (k + 1) = cwTo ws li lg k := by rw [cwTo, if_pos (.inl h)]
theorem cwTo_in2 {ws li lg : List Int} {k : Nat} (h : (k : Int) ∈ lg) : cwTo ws li lg (k + 1) = cwTo ws li lg k := by rw [cwTo, if_pos (.inr h)]
theorem cwTo_out {ws li lg : List Int} {k : Nat} (h : (k : Int) ∉ li) (h2 : (k : Int) ∉ lg) : cwTo ws li lg (k + 1) = cwTo ws li lg k ++ [iAt ws k] := by rw [cwTo, if_neg (by rintro (h3 | h3); exact h h3; exact h2 h3)]
theorem cwTo_len (ws li lg : List Int) (k : Nat) : (cwTo ws li lg k).length ≤ k := by have := cwTo_length ws li lg k; omega
set_option maxRecDepth 100000 in
set_option maxHeartbeats 2000000 in
theorem R31limit_any (r f lo tm : Int) (pv : Value) (ps : List Pr) (uv : Value) (use : List Int) (ev : Int) (lv : Value) (li : List Int) (gv : Value) (lg : List Int) (w : World) (hp : PrRow w pv ps) (hu : IsRow w uv use) (hl : IsRow w lv li) (hg : IsRow w gv lg)
  (hr : rgB ⟨r, f, lo, tm, ps⟩ use ev = true) (hC : Choice ⟨r, f, lo, tm, ps⟩ use li lg) :
  Calls Tryz.prog 40 #[.agg #[.int .i64 r, .int .i64 f, .int .i64 lo, .int .i64 tm, pv], .agg #[uv, .int .i64 ev], lv, gv] w fun e w' => e = .returned (.int .i64 (lim ⟨r, f, lo, tm, ps⟩ use ev li lg)) ∧ Below w.heap.size w w' := by
 obtain ⟨i0, hi0, hz0, hz1, hz2⟩ := info_parts infoInt
 have HR := hide (fun (W : World) (hW : Below w.heap.size w W) => (And.intro (And.intro (hp.below (Nat.le_refl _) hW) (hu.below (Nat.le_refl _) hW)) (And.intro (hl.below (Nat.le_refl _) hW) (hg.below (Nat.le_refl _) hW)) : (PrRow W pv ps ∧ IsRow W uv use) ∧ IsRow W lv li ∧ IsRow W gv lg))
 obtain ⟨ua, uc, rfl, vq1, vq2, -⟩ := id hu
 obtain ⟨la, lc, rfl, -, -, -⟩ := id hl
 obtain ⟨ga, gc, rfl, -, -, -⟩ := id hg
 clear hp hu hl hg
 have hat := at_ok31 hr hC
 have hg := rg_elOk hr
 simp only at hat hg
 have hG : elEr r (ev + tm) = 0 := by unfold elEr; rw [hg]; rfl
 have hgb := grw_bd hg
 have hwb := worst_bd29 hat.1
 have hwle := hat.2.1
 have hwlen := hat.2.2
 have hE := spEr_ok hat.1
 obtain ⟨h2, h3, h4, h5, h6⟩ := (rgB_iff _ _ _).1 hr
 have hsi := (siN_iff _).1 ((siB_iff _).1 h2).1
 have hul := use_le h5 h4
 have hwd := si_wd h2
 have hspz := (spOk_iff _ _ _).1 (rg_spOk hr)
 simp only at h3 hsi hul hwd h4 hspz
 have hul2 : use.length ≤ 1000 := by omega
 have hul3 : use.length ≤ 16 := by have := hspz; rw [wdL_length] at this; omega
 obtain ⟨hi1, hi2, hi3, hi4, hi5⟩ := hsi
 have hf : 0 ≤ f ∧ f ≤ 16 := by have := hspz; rw [wdL_length] at this; omega
 obtain ⟨F, rfl⟩ : ∃ F : Nat, f = F := ⟨f.toNat, by omega⟩
 have Hwd := hide hwd
 have Hin := hide h4
 obtain ⟨X, hX⟩ : ∃ X, X = lim ⟨r, F, lo, tm, ps⟩ use ev li lg := ⟨_, rfl⟩
 rw [← hX] at hwle ⊢
 have hwsl : (wdL ps use).length = use.length := wdL_length _ _
 have hatl : atL (wdL ps use) li lg F = cwTo (wdL ps use) li lg use.length ++ List.replicate F 0 := by
  unfold atL cwL zsL
  rw [hwsl, Int.toNat_natCast]
 rw [hatl] at hwle hE hwb hwlen
 obtain ⟨ws, hws⟩ : ∃ ws, ws = wdL ps use := ⟨_, rfl⟩
 rw [← hws] at hwle hE hwb hwlen hwsl
 have Hws := hide hws
 have HE := hide hE
 have HW := hide hwle
 have HG := hide hG
 have Hwsl := hide hwsl
 generalize hGr : grw r (ev + tm) = G at *
 have HGr := hide hGr
 obtain ⟨W0, hW0⟩ : ∃ W : World, W = (w.alloc (.cells #[.int .i64 r, .int .i64 F, .int .i64 lo, .int .i64 tm, pv] 24)).alloc (.cells #[.slice ua use.length uc, .int .i64 ev] 27) := ⟨_, rfl⟩
 have HS := hide (ss_boxes hW0)
 clear hat hE hG hwle h2 h4 h5 h6 hwd hspz hatl hGr hX hwsl hws hr hC hg hul
 go_enter Tryz.func40, Tryz.ntmps40
 go_upto_region 1 with fail
 rw [← hW0]
 clear hW0
 have B0 : Below (w.heap.size + 2) W0 W0 := Below.refl _ _
 obtain ⟨⟨y0, y1, y2, y3, y4⟩, ⟨x0, x1⟩, z0, b0⟩ := HS.out W0 B0
 go_wp2_with (go_at_call 65; (with_reducible refine (R29Widths_any r F lo tm _ ps _ use ev _ (HR.out _ b0).1.1 (HR.out _ b0).1.2 hul2 Hin.out Hwd.out).mono ?_); rintro e w1 ⟨av, rfl, ho1, k1⟩; rw [← Hws.out] at ho1; have B1 : Below (w.heap.size + 2) W0 w1 := B0.trans (k1.mono z0); clear y0 y1 y2 y3 y4 x0 x1 z0 b0 k1 B0; obtain ⟨⟨y0, y1, y2, y3, y4⟩, ⟨x0, x1⟩, z0, b0⟩ := HS.out w1 B1)
 obtain ⟨aa, ac, hav, -, -⟩ := ho1.val
 subst hav
 rw [Hwsl.out]
 have Ho1 := hide ho1
 have HB1 := hide B1
 clear ho1 B1
 go_loopw [10, 11] (fun s10 s11 wx => ∃ k : Nat, k ≤ use.length ∧ s11 = .int .i64 k ∧ OwnIs wx w1.heap.size s10 (cwTo ws li lg k) ∧ Below w1.heap.size w1 wx) (fun _ s11 _ => use.length - (intOf s11).toNat)
 case atStart => exact ⟨0, Nat.zero_le _, rfl, OwnIs.nil _ _, Below.refl _ _⟩
 case round =>
  obtain ⟨k, hk, rfl, hown, hB⟩ := hrel
  have bw : Below w.heap.size w wr := b0.trans (hB.mono (by omega))
  have hzr := hB.size
  by_cases hlt : k < use.length
  ·obtain ⟨L, hL⟩ : ∃ L, L = cwTo ws li lg k := ⟨_, rfl⟩
   have hlk : L.length ≤ k := by rw [hL]; exact cwTo_len ws li lg k
   rw [← hL] at hown
   have hown' := hown
   unfold OwnIs at hown'
   have Hlow := hide (World.ownsRow.lt hown')
   have Hown := hide hown
   have HB := hide hB
   by_cases hm : (k : Int) ∈ li
   ·have hsn := cwTo_in1 (ws := ws) (lg := lg) hm
    rw [← hL] at hsn
    have Hsn := hide hsn
    have da : decide ((k : Int) ∈ li) = true := decide_eq_true hm
    obtain ⟨bb, hbb⟩ : ∃ bb, bb = decide ((k : Int) ∈ lg) := ⟨_, rfl⟩
    have db := hbb.symm
    clear hsn hL hm hown' hown hB hbb
    go_wp2_with (first | (go_at_call 20; (with_reducible refine (R31Has_any (.slice la li.length lc) li _ _ (HR.out _ bw).2.1).mono ?_); rintro e w2 ⟨rfl, rfl⟩; rw [da]) | (go_at_call 20; (with_reducible refine (R31Has_any (.slice ga lg.length gc) lg _ _ (HR.out _ bw).2.2).mono ?_); rintro e w2 ⟨rfl, rfl⟩; rw [db]))
    go_roundw
    case rel => exact ⟨k + 1, by omega, by go_num, by rw [Hsn.out]; exact Hown.out, HB.out⟩
    case measure => simp [intOf]; omega
   ·have da : decide ((k : Int) ∈ li) = false := decide_eq_false hm
    by_cases hm2 : (k : Int) ∈ lg
    ·have hsn := cwTo_in2 (ws := ws) (li := li) hm2
     rw [← hL] at hsn
     have Hsn := hide hsn
     have db : decide ((k : Int) ∈ lg) = true := decide_eq_true hm2
     clear hsn hL hm hm2 hown' hown hB
     go_wp2_with (first | (go_at_call 20; (with_reducible refine (R31Has_any (.slice la li.length lc) li _ _ (HR.out _ bw).2.1).mono ?_); rintro e w2 ⟨rfl, rfl⟩; rw [da]) | (go_at_call 20; (with_reducible refine (R31Has_any (.slice ga lg.length gc) lg _ _ (HR.out _ bw).2.2).mono ?_); rintro e w2 ⟨rfl, rfl⟩; rw [db]))
     go_roundw
     case rel => exact ⟨k + 1, by omega, by go_num, by rw [Hsn.out]; exact Hown.out, HB.out⟩
     case measure => simp [intOf]; omega
    ·have hsn := cwTo_out (ws := ws) hm hm2
     rw [← hL] at hsn
     have Hsn := hide hsn
     have db : decide ((k : Int) ∈ lg) = false := decide_eq_false hm2
     obtain ⟨a', cap', e', -, -, g3⟩ := Ho1.out.row.below (Nat.le_refl _) hB
     rw [Hwsl.out] at e' g3
     obtain ⟨bb, off, rfl, h4, h5⟩ := g3 k hlt
     cases e'
     obtain ⟨x, hx⟩ : ∃ x, x = iAt ws k := ⟨_, rfl⟩
     rw [← hx] at h5 Hsn
     have I1 : (0 : Int) ≤ (k : Int) := by omega
     have I2 : (k : Int) < (use.length : Int) := by omega
     clear hsn hL hm hm2 hown hB g3 hx
     go_wp2_with (first | (go_at_call 20; (with_reducible refine (R31Has_any (.slice la li.length lc) li _ _ (HR.out _ bw).2.1).mono ?_); rintro e w2 ⟨rfl, rfl⟩; rw [da]) | (go_at_call 20; (with_reducible refine (R31Has_any (.slice ga lg.length gc) lg _ _ (HR.out _ bw).2.2).mono ?_); rintro e w2 ⟨rfl, rfl⟩; rw [db]) | (at_builtin; refine wpList_append_own _ rfl _ _ 25 rfl w1.heap.size 3 i0 (.int .i64 0) 1 8 Tryz.underlying25 hi0 hz0 hz1 hz2 rfl (by decide) _ L.length (encI L) rfl (World.ownsRow.alloc hown' _) ⟨wr.heap.size, 0, none⟩ 1 1 [.int .i64 x] rfl rfl (cells_new wr [.int .i64 x] _) (by simp [Value.oneCell']) (by unfold maxLen; omega) (by omega) (by simp; omega) ?_; intro v3 w3 hown3 hg3 _))
     have hB3 : Below w1.heap.size w1 w3 := Below.grown (by ((with_reducible repeat' first | exact .refl _ _ | exact HB.out | refine .alloc ?_ ?_ _ | refine .setCell ?_ ?_ _ | refine .drew ?_ | refine below_drewN ?_ _ | refine Below.trans ?_ (HB.out.mono ?_)) <;> first | omega | simp <;> omega)) hg3 (by simp; omega) (fun r h => (Hlow.out r h).1)
     have hown4 : OwnIs w3 w1.heap.size v3 (L ++ [x]) := OwnIs.app hown3
     go_roundw
     case rel => exact ⟨k + 1, by omega, by go_num, by rw [Hsn.out]; exact hown4, hB3⟩
     case measure => simp [intOf]; omega
  ·obtain rfl : k = use.length := by omega
   clear y0 y1 y2 y3 y4 x0 x1
   go_wp2_with fail
   go_loopw [10, 14] (fun s10 s14 wx => ∃ j : Nat, j ≤ F ∧ s14 = .int .i64 j ∧ OwnIs wx w1.heap.size s10 (cwTo ws li lg use.length ++ List.replicate j 0) ∧ Below w1.heap.size w1 wx) (fun _ s14 _ => F - (intOf s14).toNat)
   case atStart => exact ⟨0, Nat.zero_le _, rfl, by simpa using hown, hB⟩
   case round =>
    obtain ⟨j, hj, rfl, hown, hB⟩ := hrel
    have bw : Below w.heap.size w wr := b0.trans (hB.mono (by omega))
    have hzr := hB.size
    obtain ⟨⟨y0, y1, y2, y3, y4⟩, ⟨x0, x1⟩, z1, b1⟩ := HS.out wr (HB1.out.trans (hB.mono z0))
    by_cases hlt : j < F
    ·obtain ⟨L, hL⟩ : ∃ L, L = cwTo ws li lg use.length ++ List.replicate j 0 := ⟨_, rfl⟩
     have hlk : L.length ≤ 16 + 16 := by
      have := cwTo_len ws li lg use.length
      rw [hL, List.length_append, List.length_replicate]
      omega
     have hsn : cwTo ws li lg use.length ++ List.replicate (j + 1) 0 = L ++ [0] := by rw [hL, List.replicate_succ', List.append_assoc]
     rw [← hL] at hown
     have hown' := hown
     unfold OwnIs at hown'
     have Hlow := hide (World.ownsRow.lt hown')
     have Hsn := hide hsn
     have HB := hide hB
     clear hown hL hsn hB
     go_wp2_with (at_builtin; refine wpList_append_own _ rfl _ _ 25 rfl w1.heap.size 3 i0 (.int .i64 0) 1 8 Tryz.underlying25 hi0 hz0 hz1 hz2 rfl (by decide) _ L.length (encI L) rfl (World.ownsRow.alloc hown' _) ⟨wr.heap.size, 0, none⟩ 1 1 [.int .i64 0] rfl rfl (cells_new wr [.int .i64 0] _) (by simp [Value.oneCell']) (by unfold maxLen; omega) (by omega) (by simp; omega) ?_; intro v3 w3 hown3 hg3 _)
     have hB3 : Below w1.heap.size w1 w3 := Below.grown (by ((with_reducible repeat' first | exact .refl _ _ | exact HB.out | refine .alloc ?_ ?_ _ | refine .setCell ?_ ?_ _ | refine .drew ?_ | refine below_drewN ?_ _ | refine Below.trans ?_ (HB.out.mono ?_)) <;> first | omega | simp <;> omega)) hg3 (by simp; omega) (fun r h => (Hlow.out r h).1)
     have hown4 : OwnIs w3 w1.heap.size v3 (L ++ [0]) := OwnIs.app hown3
     go_roundw
     case rel => exact ⟨j + 1, by omega, by go_num, by rw [Hsn.out]; exact hown4, hB3⟩
     case measure => simp [intOf]; omega
    ·obtain rfl : j = F := by omega
     have hlen : (cwTo ws li lg use.length ++ List.replicate j 0).length ≤ 1000000 := by
      have := cwTo_len ws li lg use.length
      rw [List.length_append, List.length_replicate]
      omega
     have HW2 := hide (fun (V : World) (s : Value) (h : IsRow V s (cwTo ws li lg use.length ++ List.replicate j 0)) => by
      have k := RWorst_any s (cwTo ws li lg use.length ++ List.replicate j 0) j 0 V h hlen
      rw [HE.out, HW.out] at k
      exact k)
     have HG2 := hide (fun (V : World) => by
      have k := R29Growth_any r (ev + tm) V
      rw [HG.out, HGr.out] at k
      exact k)
     have Hrow := hide (hown.row)
     have HB := hide (HB1.out.trans (hB.mono z0))
     have hxw : worst (cwTo ws li lg use.length ++ List.replicate j 0) j 0 = X - G := HW.out
     rw [hxw] at hwb
     have wx : IntKind.i64.wrap (X - G + G) = X := by rw [show X - G + G = X by omega]; exact IntWalk.i64_in _ (by omega)
     clear hown hlen hB hxw
     go_wp2_with (first | (go_at_call 66; (with_reducible refine (HW2.out _ _ (Hrow.out.below (Nat.le_refl _) (by ((with_reducible repeat' first | exact .refl _ _ | refine .alloc ?_ ?_ _ | refine .setCell ?_ ?_ _ | refine .drew ?_ | refine below_drewN ?_ _) <;> first | omega | simp <;> omega)))).mono ?_); rintro e w5 ⟨rfl, k5⟩; have B5 : Below (w.heap.size + 2) W0 w5 := HB.out.trans (k5.mono z1); clear y0 y1 y2 y3 y4 x0 x1 z1 b1 k5; obtain ⟨⟨y0, y1, y2, y3, y4⟩, ⟨x0, x1⟩, z1, b1⟩ := HS.out w5 B5) | (go_at_call 67; (with_reducible refine (HG2.out _).mono ?_); rintro e w6 ⟨rfl, k6⟩))
     go_ret
     exact ⟨rfl, (by ((with_reducible repeat' first | exact .refl _ _ | exact k6 | exact b1 | refine .alloc ?_ ?_ _ | refine .setCell ?_ ?_ _ | refine .drew ?_ | refine below_drewN ?_ _ | refine Below.trans ?_ (k6.mono ?_) | refine Below.trans ?_ (b1.mono ?_)) <;> first | omega | simp <;> omega))⟩
set_option maxRecDepth 100000 in
set_option maxHeartbeats 1000000 in
theorem R31Limit_any (r f lo tm : Int) (pv : Value) (ps : List Pr) (uv : Value) (use : List Int) (ev : Int) (lv : Value) (li : List Int) (gv : Value) (lg : List Int) (w : World) (hp : PrRow w pv ps) (hu : IsRow w uv use) (hl : IsRow w lv li) (hg : IsRow w gv lg) (hun : use.length ≤ 1000000) (hln : li.length ≤ 1000) :
  Calls Tryz.prog 15 #[.agg #[.int .i64 r, .int .i64 f, .int .i64 lo, .int .i64 tm, pv], .agg #[uv, .int .i64 ev], lv, gv] w fun e w' => e = .returned (.tuple #[.int .i64 (lmV ⟨r, f, lo, tm, ps⟩ use ev li lg), .int .i64 (lmE ⟨r, f, lo, tm, ps⟩ use ev li lg)]) ∧ Below w.heap.size w w' := by
 have HR := hide (fun (W : World) (hW : Below w.heap.size w W) => (And.intro (And.intro (hp.below (Nat.le_refl _) hW) (hu.below (Nat.le_refl _) hW)) (And.intro (hl.below (Nat.le_refl _) hW) (hg.below (Nat.le_refl _) hW)) : (PrRow W pv ps ∧ IsRow W uv use) ∧ IsRow W lv li ∧ IsRow W gv lg))
 obtain ⟨W0, hW0⟩ : ∃ W : World, W = (w.alloc (.cells #[.int .i64 r, .int .i64 f, .int .i64 lo, .int .i64 tm, pv] 24)).alloc (.cells #[uv, .int .i64 ev] 27) := ⟨_, rfl⟩
 obtain ⟨pa, pc, rfl, -, -⟩ := hp.len
 obtain ⟨ua, uc, rfl, -⟩ := id hu
 have HS := hide (ss_boxes hW0)
 clear hp hu hl hg
 unfold lmV lmE lmB
 cases hrg : rgB ⟨r, f, lo, tm, ps⟩ use ev with
 | false =>
  rw [Bool.false_and, if_neg (by simp), if_neg (by simp)]
  go_enter Tryz.func15, Tryz.ntmps15
  go_upto_region 1 with fail
  rw [← hW0]
  clear hW0
  have B0 : Below (w.heap.size + 2) W0 W0 := Below.refl _ _
  obtain ⟨⟨y0, y1, y2, y3, y4⟩, ⟨x0, x1⟩, z0, b0⟩ := HS.out W0 B0
  go_wp2_with (first | (go_at_call 30; (with_reducible refine (R29Right_any r f lo tm _ ps _ use ev _ (HR.out _ b0).1.1 (HR.out _ b0).1.2 hun).mono ?_); rintro e w1 ⟨rfl, k1⟩; rw [hrg]; have B1 : Below (w.heap.size + 2) W0 w1 := B0.trans (k1.mono z0); clear y0 y1 y2 y3 y4 x0 x1 z0 b0 k1 B0; obtain ⟨⟨y0, y1, y2, y3, y4⟩, ⟨x0, x1⟩, z0, b0⟩ := HS.out w1 B1))
  go_ret2
  exact ⟨rfl, (by ((with_reducible repeat' first | exact .refl _ _ | exact b0 | refine .alloc ?_ ?_ _ | refine .setCell ?_ ?_ _ | refine .drew ?_ | refine below_drewN ?_ _ | refine Below.trans ?_ (b0.mono ?_)) <;> first | omega | simp <;> omega))⟩
 | true =>
  rw [Bool.true_and]
  cases hco : coB ⟨r, f, lo, tm, ps⟩ use li lg with
  | false =>
   rw [if_neg (by simp), if_neg (by simp)]
   go_enter Tryz.func15, Tryz.ntmps15
   go_upto_region 1 with fail
   rw [← hW0]
   clear hW0
   have B0 : Below (w.heap.size + 2) W0 W0 := Below.refl _ _
   obtain ⟨⟨y0, y1, y2, y3, y4⟩, ⟨x0, x1⟩, z0, b0⟩ := HS.out W0 B0
   go_wp2_with (first | (go_at_call 30; (with_reducible refine (R29Right_any r f lo tm _ ps _ use ev _ (HR.out _ b0).1.1 (HR.out _ b0).1.2 hun).mono ?_); rintro e w1 ⟨rfl, k1⟩; rw [hrg]; have B1 : Below (w.heap.size + 2) W0 w1 := B0.trans (k1.mono z0); clear y0 y1 y2 y3 y4 x0 x1 z0 b0 k1 B0; obtain ⟨⟨y0, y1, y2, y3, y4⟩, ⟨x0, x1⟩, z0, b0⟩ := HS.out w1 B1) | (go_at_call 39; (with_reducible refine (R31Choice_any r f lo tm _ ps _ use ev _ li _ lg _ (HR.out _ b0).1.2 (HR.out _ b0).2.1 (HR.out _ b0).2.2 hln).mono ?_); rintro e w2 ⟨rfl, k2⟩; rw [hco]; have B2 : Below (w.heap.size + 2) W0 w2 := B1.trans (k2.mono z0); clear y0 y1 y2 y3 y4 x0 x1 z0 b0 k2 B1; obtain ⟨⟨y0, y1, y2, y3, y4⟩, ⟨x0, x1⟩, z0, b0⟩ := HS.out w2 B2))
   go_ret2
   exact ⟨rfl, (by ((with_reducible repeat' first | exact .refl _ _ | exact b0 | refine .alloc ?_ ?_ _ | refine .setCell ?_ ?_ _ | refine .drew ?_ | refine below_drewN ?_ _ | refine Below.trans ?_ (b0.mono ?_)) <;> first | omega | simp <;> omega))⟩
  | true =>
   have hC := (coB_iff _ _ _ _).1 hco
   rw [if_pos rfl, if_pos rfl]
   go_enter Tryz.func15, Tryz.ntmps15
   go_upto_region 1 with fail
   rw [← hW0]
   clear hW0
   have B0 : Below (w.heap.size + 2) W0 W0 := Below.refl _ _
   obtain ⟨⟨y0, y1, y2, y3, y4⟩, ⟨x0, x1⟩, z0, b0⟩ := HS.out W0 B0
   go_wp2_with (first | (go_at_call 30; (with_reducible refine (R29Right_any r f lo tm _ ps _ use ev _ (HR.out _ b0).1.1 (HR.out _ b0).1.2 hun).mono ?_); rintro e w1 ⟨rfl, k1⟩; rw [hrg]; have B1 : Below (w.heap.size + 2) W0 w1 := B0.trans (k1.mono z0); clear y0 y1 y2 y3 y4 x0 x1 z0 b0 k1 B0; obtain ⟨⟨y0, y1, y2, y3, y4⟩, ⟨x0, x1⟩, z0, b0⟩ := HS.out w1 B1) | (go_at_call 39; (with_reducible refine (R31Choice_any r f lo tm _ ps _ use ev _ li _ lg _ (HR.out _ b0).1.2 (HR.out _ b0).2.1 (HR.out _ b0).2.2 hln).mono ?_); rintro e w2 ⟨rfl, k2⟩; rw [hco]; have B2 : Below (w.heap.size + 2) W0 w2 := B1.trans (k2.mono z0); clear y0 y1 y2 y3 y4 x0 x1 z0 b0 k2 B1; obtain ⟨⟨y0, y1, y2, y3, y4⟩, ⟨x0, x1⟩, z0, b0⟩ := HS.out w2 B2) | (go_at_call 40; (with_reducible refine (R31limit_any r f lo tm _ ps _ use ev _ li _ lg _ (HR.out _ b0).1.1 (HR.out _ b0).1.2 (HR.out _ b0).2.1 (HR.out _ b0).2.2 hrg hC).mono ?_); rintro e w3 ⟨rfl, k3⟩))
   go_ret2
   exact ⟨rfl, (by ((with_reducible repeat' first | exact .refl _ _ | exact k3 | exact b0 | refine .alloc ?_ ?_ _ | refine .setCell ?_ ?_ _ | refine .drew ?_ | refine below_drewN ?_ _ | refine Below.trans ?_ (k3.mono ?_) | refine Below.trans ?_ (b0.mono ?_)) <;> first | omega | simp <;> omega))⟩
end Go.Proofs.YtlmcoollkmhanaaGreat
