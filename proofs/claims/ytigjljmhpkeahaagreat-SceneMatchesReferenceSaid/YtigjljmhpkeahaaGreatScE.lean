
/- Package scene: the widths of a schedule, Clone of integers, what one peer answers in the worst scene. -/
import Derived.Test.YtigjljmhpkeahaaGreatScC
import Derived.Test.YtigjljmhpkeahaaGreatGs
import Derived.Test.YtigjljmhpkeahaaGreatApp
namespace Go.Proofs.YtigjljmhpkeahaaGreat
open Go.RowKit
attribute [local go_sem ↓] run_max_mx run_min_mn

def WsBox (V : World) (n : Nat) (r f lo tm : Int) (pv uv : Value) (ev at_ : Int) : Prop :=
 (V.cell? ⟨n, 0, none⟩ = some (.int .i64 r) ∧ V.cell? ⟨n, 1, none⟩ = some (.int .i64 f) ∧ V.cell? ⟨n, 2, none⟩ = some (.int .i64 lo) ∧ V.cell? ⟨n, 3, none⟩ = some (.int .i64 tm) ∧ V.cell? ⟨n, 4, none⟩ = some pv) ∧
 V.cell? ⟨n + 1, 0, none⟩ = some uv ∧ V.cell? ⟨n + 1, 1, none⟩ = some (.int .i64 ev) ∧ V.cell? ⟨n + 2, 0, none⟩ = some (.int .i64 at_)
theorem WsBox.of {V W : World} {n : Nat} {r f lo tm : Int} {pv uv : Value} {ev at_ : Int} (h : WsBox V n r f lo tm pv uv ev at_) {B : Nat} (hn : n + 3 ≤ B) (hB : Below B V W) : WsBox W n r f lo tm pv uv ev at_ := by
 obtain ⟨⟨y0, y1, y2, y3, y4⟩, x0, x1, x2⟩ := h
 have h0 := (bk hB n (by omega)).1
 have h1 := (bk hB (n + 1) (by omega)).1
 have h2 := (bk hB (n + 2) (by omega)).1
 exact ⟨⟨(h0 _).trans y0, (h0 _).trans y1, (h0 _).trans y2, (h0 _).trans y3, (h0 _).trans y4⟩, (h1 _).trans x0, (h1 _).trans x1, (h2 _).trans x2⟩
theorem wdL_snoc (ps : List Pr) (use : List Int) (k : Nat) (hk : k < use.length) : wdL ps (use.take (k + 1)) = wdL ps (use.take k) ++ [pWd (pu ps use k)] := wdL_take ps use k hk
set_option maxRecDepth 100000 in
set_option maxHeartbeats 1000000 in
theorem scWidths_any (r f lo tm : Int) (pv : Value) (ps : List Pr) (uv : Value) (use : List Int) (ev : Int) (w : World) (hp : PrRow w pv ps) (hu : IsRow w uv use) (hr : rgB ⟨r, f, lo, tm, ps⟩ use ev = true) :
  Calls Tryz.prog 32 #[.agg #[.int .i64 r, .int .i64 f, .int .i64 lo, .int .i64 tm, pv], .agg #[uv, .int .i64 ev]] w fun e w' => ∃ ov, e = .returned ov ∧ OwnIs w' w.heap.size ov (wdL ps use) ∧ Below w.heap.size w w' := by
 have hR : ∀ W : World, Below w.heap.size w W → PrRow W pv ps ∧ IsRow W uv use := fun W hW => ⟨hp.below (Nat.le_refl _) hW, hu.below (Nat.le_refl _) hW⟩
 have HR := hide hR
 obtain ⟨i0, hi0, hz0, hz1, hz2⟩ := info_parts infoInt
 obtain ⟨ua, uc, rfl, u1, u2, u3⟩ := hu
 have hul : use.length ≤ 16 := (by have := rg_spOk hr; have := (spOk_iff _ _ _).1 this; rw [wdL_length] at this; omega)
 have hrg := (rgB_iff _ _ _).1 hr
 have hpk : ∀ k, k < use.length → pkW ⟨r, f, lo, tm, ps⟩ (iAt use k) = pWd (pu ps use k) := fun k hk => by
  have := hrg.2.2.1 k hk
  unfold pkW pkB pu
  rw [hrg.1, decide_eq_true (show 0 ≤ iAt use k ∧ iAt use k < ps.length from this)]
  rfl
 have Hpk := hide hpk
 obtain ⟨W0, hW0⟩ : ∃ W : World, W = (w.alloc (.cells #[.int .i64 r, .int .i64 f, .int .i64 lo, .int .i64 tm, pv] 24)).alloc (.cells #[.slice ua use.length uc, .int .i64 ev] 27) := ⟨_, rfl⟩
 have hS : ∀ V : World, Below (w.heap.size + 2) W0 V → (V.cell? ⟨w.heap.size, 0, none⟩ = some (.int .i64 r) ∧ V.cell? ⟨w.heap.size, 1, none⟩ = some (.int .i64 f) ∧ V.cell? ⟨w.heap.size, 2, none⟩ = some (.int .i64 lo) ∧ V.cell? ⟨w.heap.size, 3, none⟩ = some (.int .i64 tm) ∧ V.cell? ⟨w.heap.size, 4, none⟩ = some pv) ∧ V.cell? ⟨w.heap.size + 1, 0, none⟩ = some (.slice ua use.length uc) ∧ w.heap.size + 2 ≤ V.heap.size ∧ Below w.heap.size w V := by
  intro V hV
  have bW : Below w.heap.size w W0 := by rw [hW0]; ((with_reducible repeat' first | exact .refl _ _ | refine .alloc ?_ ?_ _ | refine .setCell ?_ ?_ _ | refine .drew ?_ | refine below_drewN ?_ _) <;> first | omega | simp <;> omega)
  have zW : W0.heap.size = w.heap.size + 2 := by rw [hW0]; simp
  have hz := hV.size
  have h0 := (bk hV w.heap.size (by omega)).1
  have h1 := (bk hV (w.heap.size + 1) (by omega)).1
  refine ⟨⟨(h0 _).trans ?_, (h0 _).trans ?_, (h0 _).trans ?_, (h0 _).trans ?_, (h0 _).trans ?_⟩, (h1 _).trans ?_, by omega, bW.trans (hV.mono (by omega))⟩ <;> rw [hW0] <;> simp [go_sem]
 have HS := hide hS
 clear hR hS hp hrg hr hpk u3
 go_enter Tryz.func32, Tryz.ntmps32
 go_upto_region 1 with fail
 rw [← hW0]
 clear hW0
 have B0 : Below (w.heap.size + 2) W0 W0 := Below.refl _ _
 obtain ⟨⟨y0, y1, y2, y3, y4⟩, x0, z0, b0⟩ := HS.out W0 B0
 go_wp2_with fail
 clear y0 y1 y2 y3 y4 x0 z0 b0
 go_loopw [5, 13] (fun s5 s13 wx => ∃ k : Nat, k ≤ use.length ∧ s13 = .int .i64 k ∧ OwnIs wx (w.heap.size + 2) s5 (wdL ps (use.take k)) ∧ Below (w.heap.size + 2) W0 wx) (fun _ s13 _ => use.length - (intOf s13).toNat)
 case atStart => exact ⟨0, Nat.zero_le _, rfl, by rw [List.take_zero]; exact OwnIs.nil _ _, B0⟩
 case round =>
  obtain ⟨k, hk, rfl, hown, hB⟩ := hrel
  by_cases hlt : k < use.length
  ·obtain ⟨⟨y0, y1, y2, y3, y4⟩, x0, z0, b0⟩ := HS.out wr hB
   obtain ⟨ub, uo, uc', hue, -, -, hub, -, huc⟩ := (HR.out _ b0).2.at0 (by omega)
   cases hue
   have hu0 := huc k hlt
   have hpw := Hpk.out k hlt
   have hsn := wdL_snoc ps use k hlt
   have hlk : (wdL ps (use.take k)).length = k := by rw [wdL_length, List.length_take]; omega
   generalize iAt use k = q at *
   generalize pWd (pu ps use k) = pw at *
   have I3 : (0 : Int) ≤ (k : Int) := by omega
   have I4 : (k : Int) < (use.length : Int) := by omega
   obtain ⟨oa, ocap, hov, ho1, ho2⟩ := hown.val
   have hlow := World.ownsRow.lt hown
   have hown' := hown
   unfold OwnIs at hown'
   rw [hlk] at hown' hov
   subst hov
   have Hpw := hide hpw
   have Hlk := hide hlk
   have Hsn := hide hsn
   clear hpw hlk hsn hown huc
   go_wp2_with (first | (go_at_call 80; (with_reducible refine (wdPeer_any r f lo tm _ ps _ _ (HR.out _ b0).1).mono ?_); rintro e w1 ⟨rfl, k1⟩; rw [Hpw.out]; have B1 : Below (w.heap.size + 2) W0 w1 := hB.trans (k1.mono z0); have hown1 := ownsRow_below hown' k1; have zz := k1.size; clear y0 y1 y2 y3 y4 x0 hu0) | (at_builtin; refine wpList_append_own _ rfl _ _ 25 rfl (w.heap.size + 2) 3 i0 (.int .i64 0) 1 8 Tryz.underlying25 hi0 hz0 hz1 hz2 rfl (by decide) _ k (encI (wdL ps (use.take k))) rfl (World.ownsRow.alloc hown1 _) ⟨w1.heap.size, 0, none⟩ 1 1 [.int .i64 pw] rfl rfl (cells_new w1 [.int .i64 pw] _) (by simp [Value.oneCell']) (by unfold maxLen; omega) (by omega) (by simp; omega) ?_; intro v3 w3 hown3 hg3 _))
   have hB3 : Below (w.heap.size + 2) W0 w3 := Below.grown (by ((with_reducible repeat' first | exact .refl _ _ | exact B1 | refine .alloc ?_ ?_ _ | refine .setCell ?_ ?_ _ | refine .drew ?_ | refine below_drewN ?_ _ | refine Below.trans ?_ (B1.mono ?_)) <;> first | omega | simp <;> omega)) hg3 (by simp; omega) (fun r h => (hlow r h).1)
   go_roundw
   case rel => exact ⟨k + 1, by omega, by go_num, by rw [Hsn.out]; exact OwnIs.app (by rw [Hlk.out]; exact hown3), hB3⟩
   case measure => simp [intOf]; omega
  ·obtain rfl : k = use.length := by omega
   rw [List.take_length] at hown
   obtain ⟨-, -, z0, b0⟩ := HS.out wr hB
   go_wp2_with fail
   go_ret
   exact ⟨_, rfl, World.ownsRow.mono hown (by omega), b0⟩
set_option maxRecDepth 100000 in
set_option maxHeartbeats 400000 in
theorem IndexN_any (v : Value) (l : List Int) (x : Int) (w : World) (hv : IsRow w v l) :
  Calls Tryz.prog 87 #[v, .int .i64 x] w fun e w' => (∃ r : Int, e = .returned (.int .i64 r) ∧ (r < 0 ∧ x ∉ l ∨ 0 ≤ r ∧ x ∈ l)) ∧ w = w' := by
 obtain ⟨a, cap, rfl, h1, h2, h3⟩ := hv
 go_enter Tryz.func87, Tryz.ntmps87
 go_wp2
 go_loop [5, 8] (fun _ i => ∃ k : Nat, k ≤ l.length ∧ i = .int .i64 k ∧ Hid (∀ j, j < k → iAt l j ≠ x)) (fun _ i => l.length - (intOf i).toNat)
 case atStart => exact ⟨0, Nat.zero_le _, rfl, hide (fun j hj => by omega)⟩
 case round =>
  obtain ⟨k, hk, rfl, Hall⟩ := hrel
  by_cases hlt : k < l.length
  ·obtain ⟨b, off, rfl, h4, h5⟩ := h3 k hlt
   have hm := iAt_mem hlt
   clear h3
   by_cases hb : iAt l k = x
   ·rw [hb] at h5 hm
    have Hm := hide hm
    have d1 : (x == x) = true := by simp
    clear hm hb
    go_wp2
    go_ret
    exact ⟨⟨_, rfl, .inr ⟨by omega, Hm.out⟩⟩, rfl⟩
   ·have d1 : (x == iAt l k) = false := by rw [beq_eq_false_iff_ne]; exact fun h => hb h.symm
    have Hb := hide hb
    clear hb hm
    go_wp2
    go_round
    case rel => exact ⟨k + 1, by omega, by go_num, hide (fun j hj => by
     rcases Nat.lt_or_ge j k with h | h
     ·exact Hall.out j h
     ·obtain rfl : j = k := by omega
      exact Hb.out)⟩
    case measure => simp [intOf]; omega
  ·clear h3
   go_wp2
   go_ret
   refine ⟨⟨_, rfl, .inl ⟨by omega, fun hx => ?_⟩⟩, rfl⟩
   obtain ⟨j, hj, e⟩ := List.mem_iff_getElem.1 hx
   exact Hall.out j (by omega) (by rw [iAt_lt l j hj]; exact e)
set_option maxRecDepth 100000 in
set_option maxHeartbeats 400000 in
theorem ContainsN_any (v : Value) (l : List Int) (x : Int) (w : World) (hv : IsRow w v l) :
  Calls Tryz.prog 36 #[v, .int .i64 x] w fun e w' => e = .returned (.bool (decide (x ∈ l))) ∧ w = w' := by
 go_enter Tryz.func36, Tryz.ntmps36
 go_wp2_with (go_at_call 87; refine (IndexN_any v l x _ hv).mono ?_; rintro e w' ⟨⟨r, rfl, hr⟩, rfl⟩; have Hr := hide hr; clear hr)
 go_ret
 refine ⟨ret_bool ?_, rfl⟩
 rcases Hr.out with ⟨h1, h2⟩ | ⟨h1, h2⟩ <;> simp [h2] <;> omega
theorem isrow_cells {w : World} {b off n cap : Nat} {l : List Int} (h : IsRow w (.slice (some ⟨b, off, none⟩) n cap) l) : ∀ j u, (encI l)[j]? = some u → w.cell? ((⟨b, off, none⟩ : Addr).add j) = some u := by
 obtain ⟨a, cap', e, h1, h2, h3⟩ := h
 cases e
 intro j u hj
 have hjl : j < l.length := by
  rw [← encI_length]
  exact (List.getElem?_eq_some_iff.1 hj).1
 obtain ⟨b', off', e, _, h5⟩ := h3 j hjl
 cases e
 rw [encI_at l j hjl] at hj
 cases hj
 rw [Go.WideShapes.add_plain]
 exact h5
theorem owns_newI {w : World} {base q : Nat} (hh : w.heap[q]? = some (.cells #[] 3)) (h : base ≤ q) : w.ownsRow base 3 1 (.slice (some ⟨q, 0, none⟩) 0 0) 0 [] :=
 ⟨rfl, .inr ⟨q, 0, #[], rfl, h, hh, Nat.le_refl _, Nat.zero_le _, rfl, rfl⟩⟩
set_option maxRecDepth 100000 in
set_option maxHeartbeats 400000 in
theorem CloneI_any (v : Value) (c : List Int) (w : World) (hv : IsRow w v c) (h1 : 1 ≤ c.length) (h2 : c.length ≤ 1000) :
  Calls Tryz.prog 37 #[v] w fun e w' => ∃ v', e = .returned v' ∧ OwnIs w' w.heap.size v' c ∧ Below w.heap.size w w' := by
 obtain ⟨b, off, cap, rfl, g1, g2, g4, g5⟩ := hv.at0 (by omega)
 obtain ⟨i0, hi0, hz0, hz1, hz2⟩ := info_parts infoInt
 have hnil : ∀ W : World, (binOp .eql 25 (.slice (some ⟨b, off, none⟩) c.length cap) (.slice none 0 0)).run Tryz.prog W = .ok (.bool false) W := fun W => Lib.run_eql_slice_nil W _ _ _ _ _ _ _ Tryz.underlying25
 clear g5
 go_enter Tryz.func37, Tryz.ntmps37
 go_wp2_with (at_builtin; refine wpList_append_own _ rfl _ _ 25 rfl w.heap.size 3 i0 (.int .i64 0) 1 8 Tryz.underlying25 hi0 hz0 hz1 hz2 rfl (by decide) _ 0 [] rfl (owns_newI (base := w.heap.size) (World.alloc_heap_new w _) (Nat.le_refl _)) ⟨b, off, none⟩ c.length cap (encI c) rfl (by simp [encI_length]) (isrow_cells (hv.below (Nat.le_refl _) ((Below.refl _ _).alloc (Nat.le_refl _) _))) (encI_one c) (by unfold maxLen; omega) (by omega) (by simp) ?_; intro v3 w3 hown3 hg3 _)
 go_ret
 refine ⟨_, rfl, ?_, ((Below.refl _ _).alloc (Nat.le_refl _) _).grown hg3 (by simp) (fun r h => by cases h; exact Nat.le_refl _)⟩
 rw [Nat.zero_add, List.nil_append] at hown3
 exact hown3
end Go.Proofs.YtigjljmhpkeahaaGreat
