
/- The laws of cert: the choice that an integer leads to. -/
import Derived.Test.YtlmcoollkmhanaaGreatCtY
namespace Go.Proofs.YtlmcoollkmhanaaGreat
open Go.RowKit

theorem chR_pos : ∀ (l : List Int) (k : Nat), k ≤ l.length → 0 < (chR l k).length
 | l, 0, _ => by rw [chR_zero]; simp
 | [], k + 1, h => by simp at h
 | a :: l, k + 1, h => by
  have ih := chR_pos l k (by simpa using h)
  rw [chR_cons, List.length_append, List.length_map]
  omega
theorem plFrom_ge (wo : List Int) (n : Nat) : n ≤ (plFrom wo n 0).length + wo.length := by
 have hr : (toI (List.range n)).Nodup := by
  unfold toI
  refine List.Pairwise.map _ (R := (· ≠ ·)) (fun a b h => ?_) List.nodup_range
  intro e; exact h (by omega)
 have h := nodup_sub_length (toI (List.range n)) (plFrom wo n 0 ++ wo) hr fun y hy => by
  rw [List.mem_append, plFrom_mem]
  unfold toI at hy
  rw [List.mem_map] at hy
  obtain ⟨i, hi, rfl⟩ := hy
  rw [List.mem_range] at hi
  by_cases hw : (i : Int) ∈ wo
  ·exact .inr hw
  ·exact .inl ⟨by omega, hw⟩
 rw [toI_length, List.length_range, List.length_append] at h
 exact h
set_option maxRecDepth 100000 in
set_option maxHeartbeats 2000000 in
theorem picked_any (r f lo tm : Int) (pv : Value) (ps : List Pr) (uv : Value) (use : List Int) (ev : Int) (x : Int) (w : World) (hp : PrRow w pv ps) (hu : IsRow w uv use) (hr : rgB ⟨r, f, lo, tm, ps⟩ use ev = true) (h8 : use.length ≤ 8) (hx : 0 ≤ x ∧ x ≤ 65535) :
  Calls Tryz.prog 17 #[.agg #[.int .i64 r, .int .i64 f, .int .i64 lo, .int .i64 tm, pv], .agg #[uv, .int .i64 ev], .int .u16 x] w fun e w' => ∃ av gv li lg, e = .returned (.tuple #[av, gv]) ∧ (Choice ⟨r, f, lo, tm, ps⟩ use li lg ∧ IsRow w' av li ∧ IsRow w' gv lg) ∧ Below w.heap.size w w' := by
 obtain ⟨i0, hi0, hz0, hz1, hz2⟩ := info_parts infoInt
 have HR := hide (fun (W : World) (hW : Below w.heap.size w W) => (And.intro (hp.below (Nat.le_refl _) hW) (hu.below (Nat.le_refl _) hW) : PrRow W pv ps ∧ IsRow W uv use))
 obtain ⟨ua, uc, rfl, -⟩ := id hu
 obtain ⟨pa, pc, rfl, -, -⟩ := hp.len
 have hspz := (spOk_iff _ _ _).1 (rg_spOk hr)
 simp only at hspz
 obtain ⟨F, rfl⟩ : ∃ F : Nat, f = F := ⟨f.toNat, by omega⟩
 obtain ⟨LO, rfl⟩ : ∃ L : Nat, lo = L := ⟨lo.toNat, by omega⟩
 have hF : F ≤ 16 ∧ LO ≤ 16 ∧ F + LO ≤ use.length := by have := hspz; rw [wdL_length] at this; omega
 obtain ⟨W0, hW0⟩ : ∃ W : World, W = (w.alloc (.cells #[.int .i64 r, .int .i64 F, .int .i64 LO, .int .i64 tm, .slice pa ps.length pc] 24)).alloc (.cells #[.slice ua use.length uc, .int .i64 ev] 27) := ⟨_, rfl⟩
 have HS := hide (ss_boxes hW0)
 obtain ⟨L1, hL1⟩ : ∃ L, L = chR (plFrom [] use.length 0) F := ⟨_, rfl⟩
 have hL1n : L1.length ≤ 256 := by rw [hL1]; exact ch_256 _ _ h8
 have hL1p : 0 < L1.length := by
  rw [hL1]
  refine chR_pos _ _ ?_
  have := plFrom_ge [] use.length
  rw [List.length_nil] at this
  omega
 have HL1 := hide hL1
 have hpl : (toI (List.range use.length)).length ≤ 16 := by rw [toI_length, List.length_range]; omega
 have hll : (toI (List.range use.length)).length = use.length := by rw [toI_length, List.length_range]
 have Hll := hide hll
 clear hp hu hspz hL1 hll
 go_enter Tryz.func17, Tryz.ntmps17
 go_upto_region 1 with fail
 rw [← hW0]
 clear hW0
 have B0 : Below (w.heap.size + 2) W0 W0 := Below.refl _ _
 obtain ⟨⟨y0, y1, y2, y3, y4⟩, ⟨x0, x1⟩, z0, b0⟩ := HS.out W0 B0
 go_wp2_with fail
 go_loopw [8, 16] (fun s8 s16 wx => ∃ k : Nat, k ≤ use.length ∧ s16 = .int .i64 k ∧ OwnIs wx (w.heap.size + 2) s8 (toI (List.range k)) ∧ Below (w.heap.size + 2) W0 wx) (fun _ s16 _ => use.length - (intOf s16).toNat)
 case atStart => exact ⟨0, Nat.zero_le _, rfl, ⟨by simp [toI, encI], .inl ⟨rfl, rfl⟩⟩, B0⟩
 case round =>
  obtain ⟨k, hk, rfl, hown, hB⟩ := hrel
  by_cases hlt : k < use.length
  ·have hlk : (toI (List.range k)).length = k := by rw [toI_length, List.length_range]
   have hown' := hown
   unfold OwnIs at hown'
   rw [hlk] at hown'
   have Hlow := hide (World.ownsRow.lt hown')
   have HB := hide hB
   have hzB := hB.size
   clear hown hB
   go_wp2_with (at_builtin; refine wpList_append_own _ rfl _ _ 25 rfl (w.heap.size + 2) 3 i0 (.int .i64 0) 1 8 Tryz.underlying25 hi0 hz0 hz1 hz2 rfl (by decide) _ k (encI (toI (List.range k))) rfl (World.ownsRow.alloc hown' _) ⟨wr.heap.size, 0, none⟩ 1 1 [.int .i64 k] rfl rfl (cells_new wr [.int .i64 k] _) (by simp [Value.oneCell']) (by unfold maxLen; omega) (by omega) (by simp; omega) ?_; intro v3 w3 hown3 hg3 _)
   have hB3 : Below (w.heap.size + 2) W0 w3 := Below.grown (by ((with_reducible repeat' first | exact .refl _ _ | exact HB.out | refine .alloc ?_ ?_ _ | refine .setCell ?_ ?_ _ | refine .drew ?_ | refine below_drewN ?_ _ | refine Below.trans ?_ (HB.out.mono ?_)) <;> first | omega | simp <;> omega)) hg3 (by simp; omega) (fun r h => (Hlow.out r h).1)
   have hown4 : OwnIs w3 (w.heap.size + 2) v3 (toI (List.range k) ++ [(k : Int)]) := OwnIs.app (by rw [hlk]; exact hown3)
   go_roundw
   case rel => exact ⟨k + 1, by omega, by go_num, by rw [toI_range]; exact hown4, hB3⟩
   case measure => simp [intOf]; omega
  ·obtain rfl : k = use.length := by omega
   obtain ⟨aa, ac, hav, -, -⟩ := hown.val
   rw [Hll.out] at hav
   subst hav
   clear y0 y1 y2 y3 y4 x0 x1 z0 b0
   obtain ⟨⟨y0, y1, y2, y3, y4⟩, ⟨x0, x1⟩, z0, b0⟩ := HS.out wr hB
   have Hrow := hide hown.row
   have HB := hide hB
   clear hown hB
   go_upto_region 8 with (go_at_call 41; (with_reducible refine (R31Choose_any F (toI (List.range use.length)) _ _ Hrow.out hpl hF.1).mono ?_); rintro e w2 ⟨lv, rfl, ho2, k2⟩; rw [places_all, ← HL1.out] at ho2; obtain ⟨lb, lc, hlv, -, -⟩ := ho2.row.len; subst hlv)
   have B2 : Below (w.heap.size + 2) W0 w2 := HB.out.trans (k2.mono z0)
   have hz2w := k2.size
   clear y0 y1 y2 y3 y4 x0 x1 z0 b0
   obtain ⟨⟨y0, y1, y2, y3, y4⟩, ⟨x0, x1⟩, z0, b0⟩ := HS.out w2 B2
   obtain ⟨m, hm⟩ : ∃ m : Nat, x % (L1.length : Int) = m := ⟨(x % (L1.length : Int)).toNat, by have := Int.emod_nonneg x (show (L1.length : Int) ≠ 0 by omega); omega⟩
   have hml : m < L1.length := by have := Int.emod_lt_of_pos x (show (0 : Int) < (L1.length : Int) by omega); omega
   obtain ⟨b1, o1, c1, u1, e1, g1, g2, hn1⟩ := ho2.at_ hml
   cases e1
   obtain ⟨X, hX⟩ : ∃ X, X = lsAt L1 m := ⟨_, rfl⟩
   rw [← hX] at hn1
   have hXm : X ∈ chR (plFrom [] use.length 0) F := by rw [hX, ← HL1.out]; exact lsAt_mem L1 m hml
   have hXl : X.length = F := ((mem_chR _ _ _).1 hXm).2
   obtain ⟨L2, hL2⟩ : ∃ L, L = chR (plFrom X use.length 0) LO := ⟨_, rfl⟩
   have hL2n : L2.length ≤ 256 := by rw [hL2]; exact ch_256 _ _ h8
   have hL2p : 0 < L2.length := by
    rw [hL2]
    refine chR_pos _ _ ?_
    have := plFrom_ge X use.length
    omega
   have hpx : (plFrom X use.length 0).length ≤ 16 := by have := plFrom_len X use.length 0; omega
   obtain ⟨ux, uxc, rfl, -, -, -⟩ := id hn1.1
   have Hxr := hide hn1.1
   have HXm := hide hXm
   have HL2 := hide hL2
   have HB2 := hide B2
   have Hb2 := hide b0
   have wx : IntKind.i64.wrap x = x := IntWalk.i64_in _ (by omega)
   have I1 : (0 : Int) ≤ (m : Int) := by omega
   have I2 : (m : Int) < (L1.length : Int) := by omega
   have n1 : ¬ (L1.length : Int) = 0 := by omega
   have n2 : ((L1.length : Int) == 0) = false := by rw [beq_eq_false_iff_ne]; exact n1
   have hx0 : 0 ≤ x := hx.1
   have hl0 : (0 : Int) < (L1.length : Int) := by omega
   have Hrow2 := hide (Hrow.out.below (Nat.le_refl _) k2)
   clear hn1 hXm hL2 hX B2 k2 ho2 hXl
   go_upto_region 9 with fail
   have zd : w2.drew.heap.size = w2.heap.size := rfl
   have HT0 := hide (fun (V : World) (hV : Below w2.heap.size w2 V) => (HS.out V (HB2.out.trans (hV.mono z0))).1.2.2.1)
   go_region_held3 (fun V => V.cell? ⟨w.heap.size, 2, none⟩ = some (.int .i64 (LO : Int))) (exact HT0.out _ (by ((with_reducible repeat' first | exact .refl _ _ | exact k4 | exact k3 | refine .alloc ?_ ?_ _ | refine .setCell ?_ ?_ _ | refine .drew ?_ | refine below_drewN ?_ _ | refine Below.trans ?_ (k4.mono ?_) | refine Below.trans ?_ (k3.mono ?_)) <;> first | omega | simp <;> omega)))
    (first | (go_at_call 42; (with_reducible refine (R31Without_any _ (toI (List.range use.length)) _ X _ (Hrow2.out.below (Nat.le_refl _) (by ((with_reducible repeat' first | exact .refl _ _ | refine .alloc ?_ ?_ _ | refine .setCell ?_ ?_ _ | refine .drew ?_ | refine below_drewN ?_ _) <;> first | omega | simp <;> omega))) (Hxr.out.below (Nat.le_refl _) (by ((with_reducible repeat' first | exact .refl _ _ | refine .alloc ?_ ?_ _ | refine .setCell ?_ ?_ _ | refine .drew ?_ | refine below_drewN ?_ _) <;> first | omega | simp <;> omega))) (by rw [toI_length, List.length_range]; omega)).mono ?_); rintro e w3 ⟨v3, rfl, ho3, k3⟩; rw [wou_places] at ho3; have z3 := k3.size) | (go_at_call 41; (with_reducible refine (R31Choose_any LO (plFrom X use.length 0) _ _ ho3.row hpx hF.2.1).mono ?_); rintro e w4 ⟨gv, rfl, ho4, k4⟩; rw [← HL2.out] at ho4; have z4 := k4.size))
   have B4 : Below w2.heap.size w2 w4 := (by ((with_reducible repeat' first | exact .refl _ _ | exact k4 | exact k3 | refine .alloc ?_ ?_ _ | refine .setCell ?_ ?_ _ | refine .drew ?_ | refine below_drewN ?_ _ | refine Below.trans ?_ (k4.mono ?_) | refine Below.trans ?_ (k3.mono ?_)) <;> first | omega | simp <;> omega))
   obtain ⟨gb, gc, hgv, -, -⟩ := ho4.row.len
   subst hgv
   obtain ⟨q, hq⟩ : ∃ q : Nat, x / 7 % (L2.length : Int) = q := ⟨(x / 7 % (L2.length : Int)).toNat, by have := Int.emod_nonneg (x / 7) (show (L2.length : Int) ≠ 0 by omega); omega⟩
   have hql : q < L2.length := by have := Int.emod_lt_of_pos (x / 7) (show (0 : Int) < (L2.length : Int) by omega); omega
   obtain ⟨b2, o2, c2, u2, e2, g3, g4, hn2⟩ := ho4.at_ hql
   cases e2
   obtain ⟨Y, hY⟩ : ∃ Y, Y = lsAt L2 q := ⟨_, rfl⟩
   rw [← hY] at hn2
   have hYm : Y ∈ chR (plFrom X use.length 0) LO := by rw [hY, ← HL2.out]; exact lsAt_mem L2 q hql
   have hC : Choice ⟨r, F, LO, tm, ps⟩ use X Y := choice_at (f := F) (lo := LO) rfl rfl HXm.out hYm
   obtain ⟨uy, uyc, rfl, -, -, -⟩ := id hn2.1
   have hx7 : 0 ≤ x / 7 := by omega
   have w7 : IntKind.i64.wrap (x / 7) = x / 7 := IntWalk.i64_in _ (by omega)
   have I3 : (0 : Int) ≤ (q : Int) := by omega
   have I4 : (q : Int) < (L2.length : Int) := by omega
   have n3 : ¬ (L2.length : Int) = 0 := by omega
   have n4 : ((L2.length : Int) == 0) = false := by rw [beq_eq_false_iff_ne]; exact n3
   have HY := hide hn2.1
   have HX4 := hide (Hxr.out.below (Nat.le_refl _) B4)
   have HB4 := hide (Hb2.out.trans (B4.mono (by omega)))
   have HC := hide hC
   clear k3 k4 ho3 ho4 hY hYm hC hn2 B4
   go_wp2_with fail
   go_quiet (fail)
   go_wp2_with fail
   go_ret2
   exact ⟨_, _, X, Y, rfl, ⟨HC.out, HX4.out.below (Nat.le_refl _) (by ((with_reducible repeat' first | exact .refl _ _ | refine .alloc ?_ ?_ _ | refine .setCell ?_ ?_ _ | refine .drew ?_ | refine below_drewN ?_ _) <;> first | omega | simp <;> omega)), HY.out.below (Nat.le_refl _) (by ((with_reducible repeat' first | exact .refl _ _ | refine .alloc ?_ ?_ _ | refine .setCell ?_ ?_ _ | refine .drew ?_ | refine below_drewN ?_ _) <;> first | omega | simp <;> omega))⟩, (by ((with_reducible repeat' first | exact .refl _ _ | exact HB4.out | refine .alloc ?_ ?_ _ | refine .setCell ?_ ?_ _ | refine .drew ?_ | refine below_drewN ?_ _ | refine Below.trans ?_ (HB4.out.mono ?_)) <;> first | omega | simp <;> omega))⟩
end Go.Proofs.YtlmcoollkmhanaaGreat
