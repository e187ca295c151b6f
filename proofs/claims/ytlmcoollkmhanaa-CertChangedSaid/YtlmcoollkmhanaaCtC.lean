
/- Package cert: Limit, walked. -/
import Derived.Test.YtlmcoollkmhanaaCtA
import Derived.Test.YtlmcoollkmhanaaGe
import Derived.Test.YtlmcoollkmhanaaGb
namespace Go.Proofs.Ytlmcoollkmhanaa
open Go.RowKit

theorem madeOne (n : Nat) : (madeCells #[.int .i64 0] n).toList = encI (List.replicate n 0) := by
 have h2 : encI (List.replicate n 0) = List.replicate n (.int .i64 0) := by simp [encI]
 rw [h2]
 apply List.ext_getElem
 ·simp [madeCells]
 ·intro i h1 h2
  simp [madeCells, Nat.mod_one]
theorem ownI_made (w : World) (base n : Nat) (hb : base ≤ w.heap.size) (hn : n ≤ 9223372036854775807) :
  OwnIs (w.alloc (.cells (madeCells #[.int .i64 0] n) 3)) base (.slice (some ⟨w.heap.size, 0, none⟩) n n) (List.replicate n 0) := by
 unfold OwnIs
 rw [List.length_replicate]
 refine ⟨by rw [encI_length, List.length_replicate, Nat.mul_one], .inr ⟨w.heap.size, n, madeCells #[.int .i64 0] n, rfl, hb, World.alloc_heap_new w _, Nat.le_refl _, hn, by rw [size_madeCells, Nat.mul_one], ?_⟩⟩
 rw [madeOne, List.take_of_length_le (by rw [encI_length, List.length_replicate]; omega)]
theorem cwTo_snoc_in (ws li lo : List Int) (k : Nat) (h : (k : Int) ∈ li ∨ (k : Int) ∈ lo) : cwTo ws li lo (k + 1) = cwTo ws li lo k := by rw [cwTo, if_pos h]
theorem cwTo_snoc_out (ws li lo : List Int) (k : Nat) (h : ¬ ((k : Int) ∈ li ∨ (k : Int) ∈ lo)) : cwTo ws li lo (k + 1) = cwTo ws li lo k ++ [iAt ws k] := by rw [cwTo, if_neg h]
theorem wdt_bd31 {s : Si} {use : List Int} {ev : Int} (h : rgB s use ev = true) : 0 ≤ wdt s use ev ∧ wdt s use ev ≤ 1004000000000010 := by
 have e1 : wdt s use ev = worst (wdL s.ps use) s.f s.lo + grw s.r (ev + s.tm) := by unfold wdt; rw [h]; rfl
 have h1 := worst_bd29 (rg_spOk h)
 have h2 := grw_bd (rg_elOk h)
 omega
set_option maxRecDepth 100000 in
set_option maxHeartbeats 2000000 in
theorem Limit_any (r f lo tm : Int) (pv : Value) (ps : List Pr) (uv : Value) (use : List Int) (ev : Int) (av : Value) (li : List Int) (bv : Value) (gl : List Int) (w : World) (hp : PrRow w pv ps) (hu : IsRow w uv use) (ha : IsRow w av li) (hg : IsRow w bv gl) :
  Calls Try.prog 12 #[.agg #[.int .i64 r, .int .i64 f, .int .i64 lo, .int .i64 tm, pv], .agg #[uv, .int .i64 ev], av, bv] w fun e w' => e = .returned (.tuple #[.int .i64 (lmV ⟨r, f, lo, tm, ps⟩ use ev li gl), .int .i64 (lmE ⟨r, f, lo, tm, ps⟩ use ev li gl)]) ∧ Below w.heap.size w w' := by
 obtain ⟨i0, hi0, hz0, hz1, hz2⟩ := info_parts infoInt
 obtain ⟨aa, ac, rfl, a1, a2, -⟩ := id ha
 obtain ⟨ba, bc, rfl, b1, b2, -⟩ := id hg
 obtain ⟨pa, pc, rfl, -, -⟩ := hp.len
 obtain ⟨ua, uc, rfl, -, -, -⟩ := id hu
 obtain ⟨W0, hW0⟩ : ∃ W : World, W = (w.alloc (.cells #[.int .i64 r, .int .i64 f, .int .i64 lo, .int .i64 tm, .slice pa ps.length pc] 24)).alloc (.cells #[.slice ua use.length uc, .int .i64 ev] 27) := ⟨_, rfl⟩
 have hS : ∀ V : World, Below (w.heap.size + 2) W0 V → (V.cell? ⟨w.heap.size, 0, none⟩ = some (.int .i64 r) ∧ V.cell? ⟨w.heap.size, 1, none⟩ = some (.int .i64 f) ∧ V.cell? ⟨w.heap.size, 2, none⟩ = some (.int .i64 lo) ∧ V.cell? ⟨w.heap.size, 3, none⟩ = some (.int .i64 tm) ∧ V.cell? ⟨w.heap.size, 4, none⟩ = some (.slice pa ps.length pc)) ∧
   (V.cell? ⟨w.heap.size + 1, 0, none⟩ = some (.slice ua use.length uc) ∧ V.cell? ⟨w.heap.size + 1, 1, none⟩ = some (.int .i64 ev)) ∧ (PrRow V (.slice pa ps.length pc) ps ∧ IsRow V (.slice ua use.length uc) use ∧ IsRow V (.slice aa li.length ac) li ∧ IsRow V (.slice ba gl.length bc) gl) ∧ Below w.heap.size w V ∧ w.heap.size + 2 ≤ V.heap.size := by
  intro V hV
  have bW : Below w.heap.size w W0 := by rw [hW0]; ((with_reducible repeat' first | exact .refl _ _ | refine .alloc ?_ ?_ _ | refine .setCell ?_ ?_ _ | refine .drew ?_ | refine below_drewN ?_ _) <;> first | omega | simp <;> omega)
  have zW : W0.heap.size = w.heap.size + 2 := by rw [hW0]; simp
  have hb := bW.trans (hV.mono (by omega))
  have h0 := (bk hV w.heap.size (by omega)).1
  have h1 := (bk hV (w.heap.size + 1) (by omega)).1
  refine ⟨⟨(h0 _).trans ?_, (h0 _).trans ?_, (h0 _).trans ?_, (h0 _).trans ?_, (h0 _).trans ?_⟩, ⟨(h1 _).trans ?_, (h1 _).trans ?_⟩, ⟨hp.below (Nat.le_refl _) hb, hu.below (Nat.le_refl _) hb, ha.below (Nat.le_refl _) hb, hg.below (Nat.le_refl _) hb⟩, hb, by have := hV.size; omega⟩ <;> (rw [hW0]; simp [go_sem])
 have HS := hide hS
 clear hS hp hu ha hg
 by_cases hB : lmB ⟨r, f, lo, tm, ps⟩ use ev li gl = true
 ·have hB2 := hB
  unfold lmB at hB2
  rw [Bool.and_eq_true, coB_iff] at hB2
  obtain ⟨hr, hC⟩ := hB2
  have hv : lmV ⟨r, f, lo, tm, ps⟩ use ev li gl = worst (clL (wdL ps use) li gl f) f 0 + grw r (ev + tm) := by unfold lmV; rw [if_pos hB]; rfl
  have he : lmE ⟨r, f, lo, tm, ps⟩ use ev li gl = 0 := by unfold lmE; rw [if_pos hB]
  rw [hv, he]
  have hsp := rg_spOk hr
  have hul : use.length ≤ 16 := (by have := (spOk_iff _ _ _).1 hsp; rw [wdL_length] at this; omega)
  have hrg := (rgB_iff _ _ _).1 hr
  have hsi := (siN_iff _).1 ((siB_iff _).1 hrg.1).1
  simp only at hsi hrg
  have hpk : ∀ k, k < use.length → pkW ⟨r, f, lo, tm, ps⟩ (iAt use k) = iAt (wdL ps use) k ∧ pkE ⟨r, f, lo, tm, ps⟩ (iAt use k) = 0 := fun k hk => by
   have := hrg.2.2.1 k hk
   unfold pkW pkE pkB
   rw [hrg.1, decide_eq_true (show 0 ≤ iAt use k ∧ iAt use k < ps.length from this), wdL_at ps use k hk]
   exact ⟨rfl, rfl⟩
  have hok := cl_ok hr hC
  simp only at hok
  have hwE := spEr_ok hok
  have hel := rg_elOk hr
  simp only at hel
  have hgE : elEr r (ev + tm) = 0 := by unfold elEr; rw [if_pos hel]
  have hlm := lim_le hr hC
  have hwb := wdt_bd31 hr
  unfold lim at hlm
  simp only at hlm
  have hgb := grw_bd hel
  have w1 : IntKind.i64.wrap (ev + tm) = ev + tm := IntWalk.i64_in _ (by omega)
  have w2 : IntKind.i64.wrap (worst (clL (wdL ps use) li gl f) f 0 + grw r (ev + tm)) = worst (clL (wdL ps use) li gl f) f 0 + grw r (ev + tm) := IntWalk.i64_in _ (by omega)
  have hrT := fun W h h' => wdRight_any r f lo tm (.slice pa ps.length pc) ps (.slice ua use.length uc) use ev W h h'
  rw [hr] at hrT
  have hl1 := fun W h => isList_any (.slice aa li.length ac) li f use.length W h
  have hl2 := fun W h => isList_any (.slice ba gl.length bc) gl lo use.length W h
  have hcm := fun W h h' => common_any (.slice aa li.length ac) li (.slice ba gl.length bc) gl W h h'
  have c1 := hC.a
  have c2 := hC.b
  simp only at c1 c2
  rw [c1] at hl1
  rw [c2] at hl2
  rw [hC.c] at hcm
  have hWo := fun v W h => Worst_any v (clL (wdL ps use) li gl f) f 0 W h
  rw [hwE] at hWo
  have hGr := fun W => wdGrowth_any r (ev + tm) W
  rw [hgE] at hGr
  generalize hg : grw r (ev + tm) = G at *
  generalize hw : worst (clL (wdL ps use) li gl f) f 0 = X at *
  obtain ⟨F, hF⟩ : ∃ F : Nat, f = (F : Int) := ⟨f.toNat, by omega⟩
  have hF5 : F ≤ 5 := by omega
  have hzs : zsL f = List.replicate F 0 := by unfold zsL; rw [hF]; rfl
  have Hpk := hide hpk
  have HrT := hide hrT
  have Hl1 := hide hl1
  have Hl2 := hide hl2
  have Hcm := hide hcm
  have HWo := hide hWo
  have HGr := hide hGr
  have Hzs := hide hzs
  clear hB hr hC hv he hsp hrg hsi hpk hok hwE hel hgE hlm hwb hgb hrT hl1 hl2 hcm hWo hGr c1 c2 hzs hg hw
  subst hF
  go_enter Try.func12, Try.ntmps12
  go_upto_region 1 with fail
  rw [← hW0]
  clear hW0
  have B0 : Below (w.heap.size + 2) W0 W0 := Below.refl _ _
  obtain ⟨⟨y0, y1, y2, y3, y4⟩, ⟨x0, x1⟩, -, -, yz⟩ := HS.out W0 B0
  have yq := Nat.lt_of_succ_le yz
  have ys : w.heap.size < W0.heap.size := by omega
  go_wp2_with fail
  refine (HrT.out _ (HS.out _ B0).2.2.1.1 (HS.out _ B0).2.2.1.2.1).mono ?_
  rintro e w1 ⟨rfl, b1⟩
  have B1 : Below (w.heap.size + 2) W0 w1 := B0.trans (b1.mono (HS.out _ B0).2.2.2.2)
  clear y0 y1 y2 y3 y4 x0 x1 yz yq ys b1 B0
  obtain ⟨⟨y0, y1, y2, y3, y4⟩, ⟨x0, x1⟩, -, -, yz⟩ := HS.out w1 B1
  have yq := Nat.lt_of_succ_le yz
  have ys : w.heap.size < w1.heap.size := by omega
  go_wp2_with fail
  refine (Hl1.out _ (HS.out _ B1).2.2.1.2.2.1).mono ?_
  rintro e wq ⟨rfl, rfl⟩
  go_wp2_with fail
  refine (Hl2.out _ (HS.out _ B1).2.2.1.2.2.2).mono ?_
  rintro e wq ⟨rfl, rfl⟩
  go_wp2_with fail
  refine (Hcm.out _ (HS.out _ B1).2.2.1.2.2.1 (HS.out _ B1).2.2.1.2.2.2).mono ?_
  rintro e w2 ⟨rfl, b2⟩
  have B2 : Below (w.heap.size + 2) W0 w2 := B1.trans (b2.mono (HS.out _ B1).2.2.2.2)
  clear y0 y1 y2 y3 y4 x0 x1 yz yq ys b2 B1
  obtain ⟨⟨y0, y1, y2, y3, y4⟩, ⟨x0, x1⟩, -, -, yz⟩ := HS.out w2 B2
  have yq := Nat.lt_of_succ_le yz
  have ys : w.heap.size < w2.heap.size := by omega
  go_upto_region 4 with fail
  have hmk : (Instr.makeSlice 25 (.int .i64 F) (.int .i64 F)).run Try.prog w2 = .ok (.slice (some ⟨w2.heap.size, 0, none⟩) F F) (w2.alloc (.cells (madeCells #[.int .i64 0] F) 3)) := by
   have := run_makeSlice (P := Try.prog) w2 25 3 i0 (.int .i64 0) Try.underlying25 hi0 hz0 .i64 .i64 F F (by omega) (Int.le_refl _) (by rw [hz1]; omega) (by rw [hz2]; omega) (by omega)
   rw [hz1] at this
   simpa [Value.cells] using this
  have ho0 := ownI_made w2 (w.heap.size + 2) F (by omega) (by omega)
  have HO0 := hide ho0
  clear ho0
  go_upto_region 5 with fail
  have bm : Below w2.heap.size w2 (w2.alloc (.cells (madeCells #[.int .i64 0] F) 3)) := (by ((with_reducible repeat' first | exact .refl _ _ | refine .alloc ?_ ?_ _ | refine .setCell ?_ ?_ _ | refine .drew ?_ | refine below_drewN ?_ _) <;> first | omega | simp <;> omega))
  have BM : Below (w.heap.size + 2) W0 (w2.alloc (.cells (madeCells #[.int .i64 0] F) 3)) := B2.trans (bm.mono (HS.out _ B2).2.2.2.2)
  obtain ⟨gz, hgz⟩ : ∃ g, g = w2.heap.size := ⟨_, rfl⟩
  have HO1 := hide HO0.out
  rw [← hgz] at HO1
  rw [← hgz]
  clear hgz bm hmk HO0 y0 y1 y2 y3 y4 x0 x1 yz yq ys B2
  generalize w2.alloc (.cells (madeCells #[.int .i64 0] F) 3) = wm at *
  obtain ⟨⟨y0, y1, y2, y3, y4⟩, ⟨x0, x1⟩, -, -, yz⟩ := HS.out wm BM
  have yq := Nat.lt_of_succ_le yz
  have ys : w.heap.size < wm.heap.size := by omega
  go_wp2_with fail
  clear y0 y1 y2 y3 y4 x0 x1 yz yq ys
  go_loopw [11, 53] (fun s11 s53 wx => ∃ k : Nat, k ≤ use.length ∧ s53 = .int .i64 k ∧ OwnIs wx (w.heap.size + 2) s11 (zsL (F : Int) ++ cwTo (wdL ps use) li gl k) ∧ Below (w.heap.size + 2) W0 wx) (fun _ s53 _ => use.length - (intOf s53).toNat)
  case atStart => exact ⟨0, Nat.zero_le _, rfl, by rw [Hzs.out, cwTo, List.append_nil]; exact HO1.out, BM⟩
  case round =>
   obtain ⟨k, hk, rfl, hown, hB⟩ := hrel
   clear HO1 BM
   obtain ⟨⟨y0, y1, y2, y3, y4⟩, ⟨x0, x1⟩, -, -, yz⟩ := HS.out wr hB
   have yq := Nat.lt_of_succ_le yz
   have ys : w.heap.size < wr.heap.size := by omega
   by_cases hlt : k < use.length
   ·obtain ⟨ub, uo, uc', hue, -, -, hub, -, huc⟩ := ((HS.out _ hB).2.2.1.2.1).at0 (by omega)
    cases hue
    have hu0 := huc k hlt
    have hpw := Hpk.out k hlt
    have hsi := fun h => cwTo_snoc_in (wdL ps use) li gl k h
    have hso := fun h => cwTo_snoc_out (wdL ps use) li gl k h
    have Hpw := hide hpw
    have Hsi := hide hsi
    have Hso := hide hso
    clear hpw hsi hso huc
    generalize iAt use k = q at *
    generalize iAt (wdL ps use) k = pw at *
    have I3 : (0 : Int) ≤ (k : Int) := by omega
    have I4 : (k : Int) < (use.length : Int) := by omega
    obtain ⟨oa, ocap, hov, ho1, ho2⟩ := hown.val
    have hlen := cwTo_length (wdL ps use) li gl k
    have hzl : (zsL (F : Int)).length = F := by unfold zsL; rw [List.length_replicate]; omega
    have hlow := World.ownsRow.lt hown
    have hown' := hown
    unfold OwnIs at hown'
    rw [hov] at hown'
    obtain ⟨L, hL⟩ : ∃ L, L = zsL (F : Int) ++ cwTo (wdL ps use) li gl k := ⟨_, rfl⟩
    have hLl : L.length ≤ 21 := by rw [hL, List.length_append, hzl]; omega
    have hL2 : L.length = F + (cwTo (wdL ps use) li gl k).length := by rw [hL, List.length_append, hzl]
    rw [← hL] at hown' hov hown
    subst hov
    have HL := hide hL
    have Hown := hide hown
    have Hown' := hide hown'
    have Hlow := hide hlow
    clear hlen hzl hL hL2 hown hown' hlow ho1 ho2
    by_cases h1 : (k : Int) ∈ li
    ·have d1 : decide ((k : Int) ∈ li) = true := decide_eq_true h1
     have H1 := hide h1
     clear h1
     go_wp2_with fail
     refine (ContainsN_any _ li _ _ (HS.out _ hB).2.2.1.2.2.1).mono ?_
     rintro e wq ⟨rfl, rfl⟩
     rw [d1]
     go_wp2_with fail
     go_roundw
     case rel => exact ⟨k + 1, by omega, by go_num, by rw [Hsi.out (.inl H1.out), ← HL.out]; exact Hown.out, hB⟩
     case measure => simp [intOf]; omega
    ·have d1 : decide ((k : Int) ∈ li) = false := decide_eq_false h1
     by_cases h2 : (k : Int) ∈ gl
     ·have d2 : decide ((k : Int) ∈ gl) = true := decide_eq_true h2
      have H2 := hide h2
      clear h1 h2
      go_wp2_with fail
      refine (ContainsN_any _ li _ _ (HS.out _ hB).2.2.1.2.2.1).mono ?_
      rintro e wq ⟨rfl, rfl⟩
      rw [d1]
      go_wp2_with fail
      refine (ContainsN_any _ gl _ _ (HS.out _ hB).2.2.1.2.2.2).mono ?_
      rintro e wq ⟨rfl, rfl⟩
      rw [d2]
      go_wp2_with fail
      go_roundw
      case rel => exact ⟨k + 1, by omega, by go_num, by rw [Hsi.out (.inr H2.out), ← HL.out]; exact Hown.out, hB⟩
      case measure => simp [intOf]; omega
     ·have d2 : decide ((k : Int) ∈ gl) = false := decide_eq_false h2
      have HN := hide (show ¬ ((k : Int) ∈ li ∨ (k : Int) ∈ gl) from fun h => h.elim h1 h2)
      clear h1 h2
      go_wp2_with fail
      refine (ContainsN_any _ li _ _ (HS.out _ hB).2.2.1.2.2.1).mono ?_
      rintro e wq ⟨rfl, rfl⟩
      rw [d1]
      go_wp2_with fail
      refine (ContainsN_any _ gl _ _ (HS.out _ hB).2.2.1.2.2.2).mono ?_
      rintro e wq ⟨rfl, rfl⟩
      rw [d2]
      go_wp2_with fail
      refine (wdPeer_any r (F : Int) lo tm _ ps _ _ (HS.out _ hB).2.2.1.1).mono ?_
      rintro e w1 ⟨rfl, k1⟩
      rw [Hpw.out.1, Hpw.out.2]
      have B1 : Below (w.heap.size + 2) W0 w1 := hB.trans (k1.mono yz)
      have hown1 := ownsRow_below Hown'.out k1
      have zz := k1.size
      have z9 : w.heap.size + 2 ≤ w1.heap.size := by omega
      clear y0 y1 y2 y3 y4 x0 x1 yz yq ys hu0
      go_wp2_with (at_builtin; refine wpList_append_own _ rfl _ _ 25 rfl (w.heap.size + 2) 3 i0 (.int .i64 0) 1 8 Try.underlying25 hi0 hz0 hz1 hz2 rfl (by decide) _ L.length (encI L) rfl (World.ownsRow.alloc hown1 _) ⟨w1.heap.size, 0, none⟩ 1 1 [.int .i64 pw] rfl rfl (cells_new w1 [.int .i64 pw] _) (by simp [Value.oneCell']) (by unfold maxLen; omega) (by omega) (by simp; omega) ?_; intro v3 w3 hown3 hg3 _)
      have hB3 : Below (w.heap.size + 2) W0 w3 := Below.grown (by ((with_reducible repeat' first | exact .refl _ _ | exact B1 | refine .alloc ?_ ?_ _ | refine .setCell ?_ ?_ _ | refine .drew ?_ | refine below_drewN ?_ _ | refine Below.trans ?_ (B1.mono ?_)) <;> first | omega | simp <;> omega)) hg3 (by simp; omega) (fun r h => (Hlow.out r h).1)
      go_roundw
      case rel => exact ⟨k + 1, by omega, by go_num, by rw [Hso.out HN.out, ← List.append_assoc, ← HL.out]; exact OwnIs.app hown3, hB3⟩
      case measure => simp [intOf]; omega
   ·obtain rfl : k = use.length := by omega
    have hcl : zsL (F : Int) ++ cwTo (wdL ps use) li gl use.length = clL (wdL ps use) li gl (F : Int) := by unfold clL cwL; rw [wdL_length]
    rw [hcl] at hown
    have hrow := hown.row
    obtain ⟨oa, ocap, rfl, -, -⟩ := hown.val
    clear hcl hown
    go_wp2_with fail
    refine (HWo.out _ _ hrow).mono ?_
    rintro e w1 ⟨rfl, k1⟩
    have B1 : Below (w.heap.size + 2) W0 w1 := hB.trans (k1.mono yz)
    clear y0 y1 y2 y3 y4 x0 x1 yz yq ys k1 hrow hB
    obtain ⟨⟨y0, y1, y2, y3, y4⟩, ⟨x0, x1⟩, -, -, yz⟩ := HS.out w1 B1
    have yq := Nat.lt_of_succ_le yz
    have ys : w.heap.size < w1.heap.size := by omega
    go_wp2_with fail
    refine (HGr.out _).mono ?_
    rintro e w21 ⟨rfl, b21⟩
    have B21 : Below (w.heap.size + 2) W0 w21 := B1.trans (b21.mono (HS.out _ B1).2.2.2.2)
    clear y0 y1 y2 y3 y4 x0 x1 yz yq ys b21 B1
    obtain ⟨⟨y0, y1, y2, y3, y4⟩, ⟨x0, x1⟩, -, -, yz⟩ := HS.out w21 B21
    have yq := Nat.lt_of_succ_le yz
    have ys : w.heap.size < w21.heap.size := by omega
    go_wp2_with fail
    refine bodyPost_ret (v := .tuple #[.int .i64 (X + G), .int .i64 0]) (by simp [results, Try.results12, go_sem, *]) rfl ⟨rfl, (HS.out _ B21).2.2.2.1⟩
 ·have hv : lmV ⟨r, f, lo, tm, ps⟩ use ev li gl = 0 := by unfold lmV; rw [if_neg hB]
  have he : lmE ⟨r, f, lo, tm, ps⟩ use ev li gl = 1 := by unfold lmE; rw [if_neg hB]
  have hB2 : lmB ⟨r, f, lo, tm, ps⟩ use ev li gl = false := by simpa using hB
  unfold lmB coB at hB2
  simp only at hB2
  rw [hv, he]
  have Hl1 := hide (fun W h => isList_any (.slice aa li.length ac) li f use.length W h)
  have Hl2 := hide (fun W h => isList_any (.slice ba gl.length bc) gl lo use.length W h)
  have Hcm := hide (fun W h h' => common_any (.slice aa li.length ac) li (.slice ba gl.length bc) gl W h h')
  clear hB hv he
  cases hr : rgB ⟨r, f, lo, tm, ps⟩ use ev with
  | false =>
   clear hB2
   go_enter Try.func12, Try.ntmps12
   go_upto_region 1 with fail
   rw [← hW0]
   clear hW0
   have B0 : Below (w.heap.size + 2) W0 W0 := Below.refl _ _
   obtain ⟨⟨y0, y1, y2, y3, y4⟩, ⟨x0, x1⟩, -, -, yz⟩ := HS.out W0 B0
   have yq := Nat.lt_of_succ_le yz
   have ys : w.heap.size < W0.heap.size := by omega
   go_wp2_with fail
   refine (wdRight_any r f lo tm _ ps _ use ev _ (HS.out _ B0).2.2.1.1 (HS.out _ B0).2.2.1.2.1).mono ?_
   rintro e w1 ⟨rfl, b1⟩
   rw [hr]
   have B1 : Below (w.heap.size + 2) W0 w1 := B0.trans (b1.mono (HS.out _ B0).2.2.2.2)
   clear y0 y1 y2 y3 y4 x0 x1 yz yq ys b1 B0
   obtain ⟨⟨y0, y1, y2, y3, y4⟩, ⟨x0, x1⟩, -, -, yz⟩ := HS.out w1 B1
   have yq := Nat.lt_of_succ_le yz
   have ys : w.heap.size < w1.heap.size := by omega
   go_wp2_with fail
   refine bodyPost_ret (v := .tuple #[.int .i64 0, .int .i64 1]) (by simp [results, Try.results12, go_sem]) rfl ⟨rfl, (HS.out _ B1).2.2.2.1⟩
  | true =>
   rw [hr, Bool.true_and] at hB2
   cases h1 : isB li f use.length with
   | false =>
    clear hB2
    go_enter Try.func12, Try.ntmps12
    go_upto_region 1 with fail
    rw [← hW0]
    clear hW0
    have B0 : Below (w.heap.size + 2) W0 W0 := Below.refl _ _
    obtain ⟨⟨y0, y1, y2, y3, y4⟩, ⟨x0, x1⟩, -, -, yz⟩ := HS.out W0 B0
    have yq := Nat.lt_of_succ_le yz
    have ys : w.heap.size < W0.heap.size := by omega
    go_wp2_with fail
    refine (wdRight_any r f lo tm _ ps _ use ev _ (HS.out _ B0).2.2.1.1 (HS.out _ B0).2.2.1.2.1).mono ?_
    rintro e w1 ⟨rfl, b1⟩
    rw [hr]
    have B1 : Below (w.heap.size + 2) W0 w1 := B0.trans (b1.mono (HS.out _ B0).2.2.2.2)
    clear y0 y1 y2 y3 y4 x0 x1 yz yq ys b1 B0
    obtain ⟨⟨y0, y1, y2, y3, y4⟩, ⟨x0, x1⟩, -, -, yz⟩ := HS.out w1 B1
    have yq := Nat.lt_of_succ_le yz
    have ys : w.heap.size < w1.heap.size := by omega
    go_wp2_with fail
    refine (Hl1.out _ (HS.out _ B1).2.2.1.2.2.1).mono ?_
    rintro e wq ⟨rfl, rfl⟩
    rw [h1]
    go_wp2_with fail
    refine bodyPost_ret (v := .tuple #[.int .i64 0, .int .i64 1]) (by simp [results, Try.results12, go_sem]) rfl ⟨rfl, (HS.out _ B1).2.2.2.1⟩
   | true =>
    rw [h1, Bool.true_and] at hB2
    cases h2 : isB gl lo use.length with
    | false =>
     clear hB2
     go_enter Try.func12, Try.ntmps12
     go_upto_region 1 with fail
     rw [← hW0]
     clear hW0
     have B0 : Below (w.heap.size + 2) W0 W0 := Below.refl _ _
     obtain ⟨⟨y0, y1, y2, y3, y4⟩, ⟨x0, x1⟩, -, -, yz⟩ := HS.out W0 B0
     have yq := Nat.lt_of_succ_le yz
     have ys : w.heap.size < W0.heap.size := by omega
     go_wp2_with fail
     refine (wdRight_any r f lo tm _ ps _ use ev _ (HS.out _ B0).2.2.1.1 (HS.out _ B0).2.2.1.2.1).mono ?_
     rintro e w1 ⟨rfl, b1⟩
     rw [hr]
     have B1 : Below (w.heap.size + 2) W0 w1 := B0.trans (b1.mono (HS.out _ B0).2.2.2.2)
     clear y0 y1 y2 y3 y4 x0 x1 yz yq ys b1 B0
     obtain ⟨⟨y0, y1, y2, y3, y4⟩, ⟨x0, x1⟩, -, -, yz⟩ := HS.out w1 B1
     have yq := Nat.lt_of_succ_le yz
     have ys : w.heap.size < w1.heap.size := by omega
     go_wp2_with fail
     refine (Hl1.out _ (HS.out _ B1).2.2.1.2.2.1).mono ?_
     rintro e wq ⟨rfl, rfl⟩
     rw [h1]
     go_wp2_with fail
     refine (Hl2.out _ (HS.out _ B1).2.2.1.2.2.2).mono ?_
     rintro e wq ⟨rfl, rfl⟩
     rw [h2]
     go_wp2_with fail
     refine bodyPost_ret (v := .tuple #[.int .i64 0, .int .i64 1]) (by simp [results, Try.results12, go_sem]) rfl ⟨rfl, (HS.out _ B1).2.2.2.1⟩
    | true =>
     have h3 : cmB li gl = true := by
      rw [h2, Bool.true_and] at hB2
      simpa using hB2
     clear hB2
     go_enter Try.func12, Try.ntmps12
     go_upto_region 1 with fail
     rw [← hW0]
     clear hW0
     have B0 : Below (w.heap.size + 2) W0 W0 := Below.refl _ _
     obtain ⟨⟨y0, y1, y2, y3, y4⟩, ⟨x0, x1⟩, -, -, yz⟩ := HS.out W0 B0
     have yq := Nat.lt_of_succ_le yz
     have ys : w.heap.size < W0.heap.size := by omega
     go_wp2_with fail
     refine (wdRight_any r f lo tm _ ps _ use ev _ (HS.out _ B0).2.2.1.1 (HS.out _ B0).2.2.1.2.1).mono ?_
     rintro e w1 ⟨rfl, b1⟩
     rw [hr]
     have B1 : Below (w.heap.size + 2) W0 w1 := B0.trans (b1.mono (HS.out _ B0).2.2.2.2)
     clear y0 y1 y2 y3 y4 x0 x1 yz yq ys b1 B0
     obtain ⟨⟨y0, y1, y2, y3, y4⟩, ⟨x0, x1⟩, -, -, yz⟩ := HS.out w1 B1
     have yq := Nat.lt_of_succ_le yz
     have ys : w.heap.size < w1.heap.size := by omega
     go_wp2_with fail
     refine (Hl1.out _ (HS.out _ B1).2.2.1.2.2.1).mono ?_
     rintro e wq ⟨rfl, rfl⟩
     rw [h1]
     go_wp2_with fail
     refine (Hl2.out _ (HS.out _ B1).2.2.1.2.2.2).mono ?_
     rintro e wq ⟨rfl, rfl⟩
     rw [h2]
     go_wp2_with fail
     refine (Hcm.out _ (HS.out _ B1).2.2.1.2.2.1 (HS.out _ B1).2.2.1.2.2.2).mono ?_
     rintro e w2 ⟨rfl, b2⟩
     rw [h3]
     have B2 : Below (w.heap.size + 2) W0 w2 := B1.trans (b2.mono (HS.out _ B1).2.2.2.2)
     clear y0 y1 y2 y3 y4 x0 x1 yz yq ys b2 B1
     obtain ⟨⟨y0, y1, y2, y3, y4⟩, ⟨x0, x1⟩, -, -, yz⟩ := HS.out w2 B2
     have yq := Nat.lt_of_succ_le yz
     have ys : w.heap.size < w2.heap.size := by omega
     go_wp2_with fail
     refine bodyPost_ret (v := .tuple #[.int .i64 0, .int .i64 1]) (by simp [results, Try.results12, go_sem]) rfl ⟨rfl, (HS.out _ B2).2.2.2.1⟩
end Go.Proofs.Ytlmcoollkmhanaa
