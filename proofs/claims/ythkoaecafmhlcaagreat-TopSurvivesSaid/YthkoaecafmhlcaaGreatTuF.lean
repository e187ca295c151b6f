/- Package copies: Elect of two who are left. -/
import Derived.Test.YthkoaecafmhlcaaGreatJ33
namespace Go.Proofs.YthkoaecafmhlcaaGreat
open Go.RowKit
attribute [local simp] size_drewT
theorem own_new0i {w : World} {base q : Nat} (hh : w.heap[q]? = some (.cells #[] 3)) (h : base ≤ q) : w.ownsRow base 3 1 (.slice (some ⟨q, 0, none⟩) 0 0) 0 [] :=
 ⟨by simp, .inr ⟨q, 0, #[], rfl, h, hh, Nat.le_refl _, by unfold maxLen; omega, by simp, by simp⟩⟩
set_option maxRecDepth 100000 in
set_option maxHeartbeats 1000000 in
theorem CloneI2_any (v : Value) (c : List Int) (w : World) (hv : IsRow w v c) (h1 : 1 ≤ c.length) (h2 : c.length ≤ 1000) :
  Calls Tryz.prog 34 #[v] w fun e w' => ∃ v', e = .returned v' ∧ OwnIs w' w.heap.size v' c ∧ Below w.heap.size w w' := by
 obtain ⟨i0, hi0, hz0, hz1, hz2⟩ := info_parts infoInt
 obtain ⟨b, off, cap, rfl, g1, g2, g4, g5⟩ := hv.at0 (by omega)
 have hnil : ∀ W : World, (binOp .eql 55 (.slice (some ⟨b, off, none⟩) c.length cap) (.slice none 0 0)).run Tryz.prog W = .ok (.bool false) W := fun W => Lib.run_eql_slice_nil W _ _ _ _ _ _ _ Tryz.underlying55
 have Hs := hide (fun (V : World) (hV : Below w.heap.size w V) => src_is (hv.below (Nat.le_refl _) hV))
 clear g5 hv
 go_enter Tryz.func34, Tryz.ntmps34
 go_wp2_with (at_builtin; refine wpList_append_src _ rfl _ _ 55 rfl w.heap.size 3 i0 (.int .i64 0) 1 8 Tryz.underlying55 hi0 hz0 hz1 hz2 rfl (by decide) _ 0 [] rfl (own_new0i (base := w.heap.size) (World.alloc_heap_new w _) (Nat.le_refl _)) _ c.length (encI c) rfl (Hs.out _ ((Below.refl _ _).alloc (Nat.le_refl _) _)) (encI_one c) (by unfold maxLen; omega) (by omega) (by simp) ?_; intro v3 w3 hown3 hg3 _)
 go_ret
 refine ⟨_, rfl, ?_, ((Below.refl _ _).alloc (Nat.le_refl _) _).grown hg3 (by simp) (fun r h => by cases h; exact Nat.le_refl _)⟩
 rw [Nat.zero_add, List.nil_append] at hown3
 exact hown3
set_option maxHeartbeats 1000000 in
set_option maxRecDepth 100000 in
set_option maxHeartbeats 400000 in
theorem Compact2_any (v : Value) (x y : Int) (w : World) (hv : IsRow w v [x, y]) (hne : y ≠ x) :
  Calls Tryz.prog 33 #[v] w fun e w' => e = .returned v ∧ Below w.heap.size w w' := by
 obtain ⟨b, off, cap, rfl, -, -, hlt0, -, hcl⟩ := hv.at0 (by simp)
 have x0 : w.cell? ⟨b, off, none⟩ = some (.int .i64 x) := hcl 0 (by simp)
 have x1 : w.cell? ⟨b, off + 1, none⟩ = some (.int .i64 y) := hcl 1 (by simp)
 have d1 : (y == x) = false := by rw [beq_eq_false_iff_ne]; exact hne
 have d2 : decide (y = x) = false := decide_eq_false hne
 have HX := hide (fun (V : World) (hV : Below w.heap.size w V) => And.intro ((hV.cell (p := ⟨b, off, none⟩) hlt0).trans x0) ((hV.cell (p := ⟨b, off + 1, none⟩) hlt0).trans x1))
 clear hv hcl x0 x1
 go_enter Tryz.func33, Tryz.ntmps33
 go_wp2_with fail
 go_loopw [3] (fun s3 wx => (s3 = .int .i64 1 ∨ s3 = .int .i64 2) ∧ Below w.heap.size w wx) (fun s3 _ => 2 - (intOf s3).toNat)
 case atStart => exact ⟨.inl rfl, .refl _ _⟩
 case round =>
  obtain ⟨hh, hB⟩ := hrel
  obtain ⟨y0, y1⟩ := HX.out wr hB
  rcases hh with rfl | rfl
  ·have mixed : Tryz.prog.follows Departure.mixedOrders = true := by kernel_rfl
   go_upto_region 6 with fail
   go_quiet (fail)
   go_wp2_with fail
   go_roundw
   case rel => exact ⟨.inr (by go_num), (by ((with_reducible repeat' first | exact .refl _ _ | exact hB | refine .alloc ?_ ?_ _ | refine .setCell ?_ ?_ _ | refine .drew ?_ | refine below_drewN ?_ _ | refine Below.trans ?_ (hB.mono ?_)) <;> first | omega | simp <;> omega))⟩
   case measure => simp [intOf]
  ·go_wp2_with fail
   go_ret
   exact ⟨rfl, hB⟩
theorem CpOk.lt {l : List Cp} {D : List Tx} (h : CpOk l D) : ∀ (i j : Nat), i < j → j < l.length → (cpAt l i).id < (cpAt l j).id
 | i, 0, h1, _ => by omega
 | i, j + 1, h1, h2 => by
  have h3 := (h.ids (j + 1) h2).2 (by omega)
  rw [Nat.add_sub_cancel] at h3
  rcases Nat.lt_or_ge i j with h4 | h4
  ·exact Int.lt_trans (h.lt i j h4 (by omega)) h3
  ·obtain rfl : i = j := by omega
   exact h3
theorem CpOk.first {l : List Cp} {D : List Tx} (h : CpOk l D) {i : Nat} (hi : i < l.length) : ∀ j, j < i → (cpAt l j).id ≠ (cpAt l i).id := fun j hj e => by
 have := h.lt j i hj hi
 omega
set_option maxRecDepth 100000 in
set_option maxHeartbeats 400000 in
theorem cElect1_any (v : Value) (l : List Cp) (n : Int) (i : Nat) (lb : Nat) (w : World) (h : CpR w v l) (hb : w.cell? ⟨lb, 0, none⟩ = some v) (hi : i < l.length) (hw : (cpAt l i).id = n) (hf : ∀ j, j < i → (cpAt l j).id ≠ n) (hl : l.length ≤ 100) :
  Calls Tryz.prog 31 #[.int .i64 n, .pointer (some ⟨lb, 0, none⟩)] w fun e w' => e = .returned (.bool false) ∧ Below w.heap.size w w' := by
 have HF := hide (find_any v l n i w h hi hw hf hl)
 obtain ⟨a1, cap1, rfl, -⟩ := h.len
 have d1 : decide ((i : Int) < 0) = false := decide_eq_false (by omega)
 clear h hi hw hf
 go_enter Tryz.func31, Tryz.ntmps31
 go_wp2_with (go_at_call 32; (with_reducible refine HF.out.mono ?_); rintro e w1 ⟨rfl, k1⟩)
 go_ret
 exact ⟨rfl, k1⟩
set_option maxHeartbeats 1000000 in
set_option maxRecDepth 100000 in
set_option maxHeartbeats 400000 in
theorem IndexI31_any (av : Value) (zs : List Int) (v : Value) (l : List Cp) (lb : Nat) (w : World) (ha : IsRow w av zs) (h : CpR w v l) (hb : w.cell? ⟨lb, 0, none⟩ = some v) (hz : ∀ k, k < zs.length → ∃ i, i < l.length ∧ (cpAt l i).id = iAt zs k ∧ ∀ j, j < i → (cpAt l j).id ≠ iAt zs k) (hl : l.length ≤ 100) (hzl : zs.length ≤ 100) :
  Calls Tryz.prog 79 #[av, .func (.func 31) #[] #[.pointer (some ⟨lb, 0, none⟩)]] w fun e w' => e = .returned (.int .i64 (-1)) ∧ Below w.heap.size w w' := by
 have hlb := World.block_lt_of_cell? _ _ hb
 simp only at hlb
 have HC0 := hide (fun (k : Nat) (hk : k < zs.length) (V : World) (hV : Below w.heap.size w V) => (let ⟨i, h1, h2, h3⟩ := hz k hk; cElect1_any v l (iAt zs k) i lb V (h.below (Nat.le_refl _) hV) ((hV.cell (p := ⟨lb, 0, none⟩) hlb).trans hb) h1 h2 h3 hl))
 obtain ⟨aa, ac, rfl, -, -, -⟩ := id ha
 have HI := hide (fun (V : World) (hV : Below w.heap.size w V) => ha.below (Nat.le_refl _) hV)
 clear ha h hb hz
 go_enter Tryz.func79, Tryz.ntmps79
 go_wp2_with fail
 go_loopw [8] (fun s8 wx => ∃ (k : Nat), k ≤ zs.length ∧ s8 = .int .i64 k ∧ Below w.heap.size w wx) (fun s8 _ => zs.length - (intOf s8).toNat)
 case atStart => exact ⟨0, Nat.zero_le _, rfl, Below.refl _ _⟩
 case round =>
  obtain ⟨k, hk, rfl, hB⟩ := hrel
  by_cases hlt : k < zs.length
  ·obtain ⟨b, off, cap', hbv, -, -, hlt0, -, hcl⟩ := (HI.out wr hB).at0 (by omega)
   cases hbv
   have x0 := hcl k hlt
   have HC := hide (HC0.out k hlt wr hB)
   have I1 : (0 : Int) ≤ (k : Int) := by omega
   have I2 : (k : Int) < (zs.length : Int) := by omega
   have hz := hB.size
   clear hcl
   generalize iAt zs k = z at *
   go_wp2_with (go_at_call 31; (with_reducible refine HC.out.mono ?_); rintro e w1 ⟨rfl, b1⟩; have B1 : Below w.heap.size w w1 := (by ((with_reducible repeat' first | exact .refl _ _ | exact b1 | exact hB | refine .alloc ?_ ?_ _ | refine .setCell ?_ ?_ _ | refine .drew ?_ | refine below_drewN ?_ _ | refine Below.trans ?_ (b1.mono ?_) | refine Below.trans ?_ (hB.mono ?_)) <;> first | omega | simp <;> omega)))
   go_roundw
   case rel => exact ⟨k + 1, by omega, by go_num, B1⟩
   case measure => simp [intOf]; omega
  ·obtain rfl : k = zs.length := by omega
   go_wp2_with fail
   go_ret
   exact ⟨rfl, hB⟩
set_option maxRecDepth 100000 in
set_option maxHeartbeats 400000 in
theorem ContainsI31_any (av : Value) (zs : List Int) (v : Value) (l : List Cp) (lb : Nat) (w : World) (ha : IsRow w av zs) (h : CpR w v l) (hb : w.cell? ⟨lb, 0, none⟩ = some v) (hz : ∀ k, k < zs.length → ∃ i, i < l.length ∧ (cpAt l i).id = iAt zs k ∧ ∀ j, j < i → (cpAt l j).id ≠ iAt zs k) (hl : l.length ≤ 100) (hzl : zs.length ≤ 100) :
  Calls Tryz.prog 35 #[av, .func (.func 31) #[] #[.pointer (some ⟨lb, 0, none⟩)]] w fun e w' => e = .returned (.bool false) ∧ Below w.heap.size w w' := by
 have HI := hide (IndexI31_any av zs v l lb w ha h hb hz hl hzl)
 obtain ⟨aa, ac, rfl, -, -, -⟩ := id ha
 clear ha h hb hz
 go_enter Tryz.func35, Tryz.ntmps35
 go_wp2_with (go_at_call 79; (with_reducible refine HI.out.mono ?_); rintro e w1 ⟨rfl, b1⟩)
 go_ret
 exact ⟨rfl, b1⟩
theorem srtI_two {x y : Int} (h : x < y) : srtI [x, y] = [x, y] := by
 unfold srtI
 refine List.mergeSort_of_pairwise ?_
 simp
 omega
def elW (X Y : Cp) : Int := if X.log.length < Y.log.length then Y.id else X.id
set_option maxHeartbeats 4000000 in
set_option maxRecDepth 100000 in
set_option maxHeartbeats 400000 in
theorem Elect_any (v : Value) (l : List Cp) (D : List Tx) (av : Value) (ix iy : Nat) (w : World) (h : CpR w v l) (ho : CpOk l D) (ha : IsRow w av [(cpAt l ix).id, (cpAt l iy).id]) (hxy : ix < iy) (hiy : iy < l.length) (h3 : l.length ≤ 3) :
  Calls Tryz.prog 12 #[v, av] w fun e w' => e = .returned (.tuple #[.int .i64 (elW (cpAt l ix) (cpAt l iy)), .int .i64 0]) ∧ Below w.heap.size w w' := by
 have hmf : ∀ (fn : Fn) (first cap : Array Value) (w : World), (Instr.makeFunc fn first cap).run Tryz.prog w = .ok (.func fn first cap) w := fun _ _ _ _ => rfl
 have hn1 := ho.n1
 have hid := ho.lt ix iy hxy hiy
 have HV := hide (fun (V : World) (hV : Below w.heap.size w V) => cpValid_any v l D V (h.below (Nat.le_refl _) hV) ho)
 have HI := hide (fun (V : World) (hV : Below w.heap.size w V) => h.below (Nat.le_refl _) hV)
 have HFx := hide (fun (V : World) (hV : Below w.heap.size w V) => find_any v l (cpAt l ix).id ix V (h.below (Nat.le_refl _) hV) (by omega) rfl (ho.first (by omega)) (by omega))
 have HFy := hide (fun (V : World) (hV : Below w.heap.size w V) => find_any v l (cpAt l iy).id iy V (h.below (Nat.le_refl _) hV) hiy rfl (ho.first hiy) (by omega))
 have HCo := hide (fun (V : World) (sv : Value) (lb : Nat) (hV : Below w.heap.size w V) (hs : IsRow V sv [(cpAt l ix).id, (cpAt l iy).id]) (hb : V.cell? ⟨lb, 0, none⟩ = some v) => ContainsI31_any sv [(cpAt l ix).id, (cpAt l iy).id] v l lb V hs (h.below (Nat.le_refl _) hV) hb (fun k hk => by
  match k, hk with
  | 0, _ => exact ⟨ix, by omega, rfl, ho.first (by omega)⟩
  | 1, _ => exact ⟨iy, hiy, rfl, ho.first hiy⟩
  | k + 2, hk => simp at hk; omega) (by omega) (by simp))
 obtain ⟨b, off, cap, lvx, hbv, hlt0, x0, x1, hrx⟩ := CpR.at_ h (i := ix) (by omega)
 obtain ⟨b', off', cap', lvy, hbv', -, y0, y1, hry⟩ := CpR.at_ h (i := iy) hiy
 subst hbv
 cases hbv'
 obtain ⟨ax, cx, rfl, -⟩ := hrx.len
 obtain ⟨ay, cy, rfl, -⟩ := hry.len
 obtain ⟨aa, ac, rfl, -, -, -⟩ := id ha
 have HA := hide (fun (V : World) (hV : Below w.heap.size w V) => ha.below (Nat.le_refl _) hV)
 clear h ho ha hrx hry
 generalize cpAt l ix = X at *
 generalize cpAt l iy = Y at *
 obtain ⟨xi, xl⟩ := X
 obtain ⟨yi, yl⟩ := Y
 dsimp only [List.length_cons, List.length_nil] at *
 obtain ⟨W, hW⟩ : ∃ V, V = w.alloc (.cells #[.slice (some ⟨b, off, none⟩) l.length cap] 46) := ⟨_, rfl⟩
 have hb : BxC W w.heap.size [.slice (some ⟨b, off, none⟩) l.length cap] := by rw [hW]; exact BxC.made w _ _
 have hB : Below w.heap.size w W := by rw [hW]; ((with_reducible repeat' first | exact .refl _ _ | refine .alloc ?_ ?_ _ | refine .setCell ?_ ?_ _ | refine .drew ?_ | refine below_drewN ?_ _) <;> first | omega | simp <;> omega)
 go_enter Tryz.func12, Tryz.ntmps12
 go_upto_region 1 with fail
 rw [← hW]
 clear hW
 have chb_0 := hb.1 0 _ rfl; have fhb := hb.2.1; have zhb := hb.2.2
 go_upto_region 3 with (go_at_call 26; (with_reducible refine (HV.out _ hB).mono ?_); rintro e w1 ⟨rfl, k1⟩; have tb := hb.below hb.2.2 k1; clear chb_0 fhb zhb hb; have hb := tb; clear tb; have chb_0 := hb.1 0 _ rfl; have fhb := hb.2.1; have zhb := hb.2.2; have t_ := hB.trans (k1.mono hB.size); clear hB; have hB := t_; clear t_ k1)
 have hrow1 := HA.out _ hB
 have hse := srtI_two hid
 have HSo := hide (Sorted_any w1.heap.size _ _ w1 (w1.alloc (.cells #[.slice aa 2 ac] 55)) hrow1 (by simp) (by simp) (fun q hq => Below.heap_alloc _ _ _ hq) (Nat.le_refl _) (by simp [go_sem]))
 rw [hse] at HSo
 have b1a : Below w1.heap.size w1 (w1.alloc (.cells #[.slice aa 2 ac] 55)) := (by ((with_reducible repeat' first | exact .refl _ _ | refine .alloc ?_ ?_ _ | refine .setCell ?_ ?_ _ | refine .drew ?_ | refine below_drewN ?_ _) <;> first | omega | simp <;> omega))
 have hVa := Values_any (.slice aa 2 ac) _ w1 hrow1
 have HVa := hide hVa
 clear hrow1 hVa hse
 go_upto_region 5 with (first
  | (go_at_call 30; (with_reducible refine HVa.out.mono ?_); rintro e w2 ⟨rfl, rfl⟩)
  | (go_at_call 29; (with_reducible refine HSo.out.mono ?_); rintro e w3 ⟨sv, rfl, so, k3⟩; have k3' : Below w1.heap.size w1 w3 := b1a.trans (k3.mono (by simp)); have hs := so.row; obtain ⟨sa, sc, rfl⟩ : ∃ a c, sv = .slice a 2 c := ownsRow_val so; have tb := hb.below hb.2.2 k3'; clear chb_0 fhb zhb hb; have hb := tb; clear tb; have chb_0 := hb.1 0 _ rfl; have fhb := hb.2.1; have zhb := hb.2.2; have t_ := hB.trans (k3'.mono hB.size); clear hB; have hB := t_; clear t_; clear k3 k3' so))
 clear b1a HSo HVa
 have HCl := hide (CloneI2_any _ _ w3 hs (by simp) (by simp))
 have hne : yi ≠ xi := by omega
 go_upto_region 7 with (first
  | (go_at_call 34; (with_reducible refine HCl.out.mono ?_); rintro e w4 ⟨cv, rfl, co, k4⟩; have hcr := co.row; obtain ⟨ca, cc, rfl⟩ : ∃ a c, cv = .slice a 2 c := ownsRow_val co; have ts := hs.below (Nat.le_refl _) k4; clear hs; have hs := ts; clear ts; have tb := hb.below hb.2.2 k4; clear chb_0 fhb zhb hb; have hb := tb; clear tb; have chb_0 := hb.1 0 _ rfl; have fhb := hb.2.1; have zhb := hb.2.2; have t_ := hB.trans (k4.mono hB.size); clear hB; have hB := t_; clear t_; clear k4 co)
  | (go_at_call 33; (with_reducible refine (Compact2_any _ xi yi _ hcr hne).mono ?_); rintro e w5 ⟨rfl, k5⟩; have ts := hs.below (Nat.le_refl _) k5; clear hs; have hs := ts; clear ts; have tb := hb.below hb.2.2 k5; clear chb_0 fhb zhb hb; have hb := tb; clear tb; have chb_0 := hb.1 0 _ rfl; have fhb := hb.2.1; have zhb := hb.2.2; have t_ := hB.trans (k5.mono hB.size); clear hB; have hB := t_; clear t_; clear k5 hcr)
  | (go_at_call 35; (with_reducible refine (HCo.out _ _ w.heap.size hB hs chb_0).mono ?_); rintro e w6 ⟨rfl, k6⟩; have ts := hs.below (Nat.le_refl _) k6; clear hs; have hs := ts; clear ts; have tb := hb.below hb.2.2 k6; clear chb_0 fhb zhb hb; have hb := tb; clear tb; have chb_0 := hb.1 0 _ rfl; have fhb := hb.2.1; have zhb := hb.2.2; have t_ := hB.trans (k6.mono hB.size); clear hB; have hB := t_; clear t_; clear k6))
 have d4 : decide ((4 : Int) ≤ (l.length : Int)) = false := decide_eq_false (by omega)
 have d5 : ¬ (4 : Int) ≤ (l.length : Int) := by omega
 obtain ⟨b2, off2, cap2, hbv2, -, -, hlt2, -, hcl2⟩ := hs.at0 (by simp)
 cases hbv2
 have s0 : w6.cell? ⟨b2, off2, none⟩ = some (.int .i64 xi) := hcl2 0 (by simp)
 have s1 : w6.cell? ⟨b2, off2 + 1, none⟩ = some (.int .i64 yi) := hcl2 1 (by simp)
 have X0 := (hB.cell (p := ⟨b, off + ix * 2, none⟩) hlt0).trans x0
 have X1 := (hB.cell (p := ⟨b, off + ix * 2 + 1, none⟩) hlt0).trans x1
 have Y0 := (hB.cell (p := ⟨b, off + iy * 2, none⟩) hlt0).trans y0
 have Y1 := (hB.cell (p := ⟨b, off + iy * 2 + 1, none⟩) hlt0).trans y1
 have z6 := hB.size
 have hb6 : b < w6.heap.size := by omega
 have HX := hide (fun (V : World) (hV : Below w6.heap.size w6 V) => And.intro ((hV.cell (p := ⟨w.heap.size, 0, none⟩) zhb).trans chb_0) (And.intro ((hV.cell (p := ⟨_, _, none⟩) hb6).trans X0) (And.intro ((hV.cell (p := ⟨_, _, none⟩) hb6).trans X1) (And.intro ((hV.cell (p := ⟨_, _, none⟩) hb6).trans Y0) ((hV.cell (p := ⟨_, _, none⟩) hb6).trans Y1)))))
 have HS2 := hide (fun (V : World) (hV : Below w6.heap.size w6 V) => And.intro ((hV.cell (p := ⟨_, _, none⟩) hlt2).trans s0) ((hV.cell (p := ⟨_, _, none⟩) hlt2).trans s1))
 have HB6 := hide hB
 clear s1 X0 X1 Y0 Y1 x0 x1 y0 y1 hcl2 hs HCl HCo HV
 go_wp2_with fail
 clear chb_0 zhb fhb hb s0
 go_loopw [41, 8] (fun s41 s8 wx => ((s41 = .int .i64 0 ∧ s8 = .int .i64 xi) ∨ (s41 = .int .i64 1 ∧ s8 = .int .i64 xi) ∨ (s41 = .int .i64 2 ∧ s8 = .int .i64 (elW ⟨xi, xl⟩ ⟨yi, yl⟩))) ∧ Below w6.heap.size w6 wx) (fun s41 _ _ => 2 - (intOf s41).toNat)
 case atStart => exact ⟨.inl ⟨rfl, rfl⟩, .refl _ _⟩
 case round =>
  obtain ⟨hh, hBr⟩ := hrel
  obtain ⟨s0, s1⟩ := HS2.out wr hBr
  have hz := hBr.size
  have hBw : Below w.heap.size w wr.drew := (HB6.out.trans (hBr.mono z6)).drew
  have hBq : Below wr.drew.heap.size wr.drew wr.drew := .refl _ _
  have zd : wr.drew.heap.size = wr.heap.size := rfl
  have hzw : w.heap.size ≤ wr.drew.heap.size := hBw.size
  have HS := hide (fun (V : World) (hV : Below wr.drew.heap.size wr.drew V) => HX.out V (hBr.drew.trans (hV.mono (by rw [zd]; exact hz))))
  obtain ⟨c0, X0, X1, Y0, Y1⟩ := HX.out wr hBr
  have J0 : (0 : Int) ≤ (ix : Int) := by omega
  have J1 : (ix : Int) < (l.length : Int) := by omega
  have J2 : (0 : Int) ≤ (iy : Int) := by omega
  have J3 : (iy : Int) < (l.length : Int) := by omega
  have hwb : b < wr.heap.size := by omega
  have hww : w.heap.size < wr.heap.size := by have := World.block_lt_of_cell? _ _ c0; simpa using this
  rcases hh with ⟨rfl, rfl⟩ | ⟨rfl, rfl⟩ | ⟨rfl, rfl⟩
  ·have e1 : decide ((xl.length : Int) < (xl.length : Int)) = false := decide_eq_false (by omega)
   go_upto_region 13 with fail
   go_region_held3 (fun V => V.cell? ⟨w.heap.size, 0, none⟩ = some (.slice (some ⟨b, off, none⟩) l.length cap) ∧ V.cell? ⟨b, off + ix * 2, none⟩ = some (.int .i64 xi) ∧ V.cell? ⟨b, off + ix * 2 + 1, none⟩ = some (.slice ax xl.length cx) ∧ V.cell? ⟨b, off + iy * 2, none⟩ = some (.int .i64 yi) ∧ V.cell? ⟨b, off + iy * 2 + 1, none⟩ = some (.slice ay yl.length cy)) (exact HS.out _ hBq)
    (first
     | (go_at_call 32; (with_reducible refine (HFx.out _ (hBw.trans (hBq.mono hzw))).mono ?_); rintro e wq ⟨rfl, kq⟩; have t_ := hBq.trans (kq.mono hBq.size); clear hBq; have hBq := t_; clear t_ kq)
     | (go_at_call 32; (with_reducible refine (HFy.out _ (hBw.trans (hBq.mono hzw))).mono ?_); rintro e wq ⟨rfl, kq⟩; have t_ := hBq.trans (kq.mono hBq.size); clear hBq; have hBq := t_; clear t_ kq)
     | (go_at_call 27; (with_reducible refine (csize_any xi ax xl.length cx _).mono ?_); rintro e wq ⟨rfl, kq⟩; have t_ := hBq.trans (kq.mono hBq.size); clear hBq; have hBq := t_; clear t_ kq)
     | (go_at_call 27; (with_reducible refine (csize_any yi ay yl.length cy _).mono ?_); rintro e wq ⟨rfl, kq⟩; have t_ := hBq.trans (kq.mono hBq.size); clear hBq; have hBq := t_; clear t_ kq))
   have HBn := hide (show Below w6.heap.size w6 wq from hBr.drew.trans (hBq.mono (by rw [zd]; exact hz)))
   clear hBq HS c0 X0 X1 Y0 Y1 s0 s1
   go_wp2_with fail
   go_roundw
   case rel => exact ⟨.inr (.inl ⟨by go_num, rfl⟩), HBn.out⟩
   case measure => simp [intOf]
  ·by_cases hc : xl.length < yl.length
   ·have e1 : decide ((xl.length : Int) < (yl.length : Int)) = true := decide_eq_true (by omega)
    have e2 : (xl.length : Int) < (yl.length : Int) := by omega
    go_upto_region 13 with fail
    go_region_held3 (fun V => V.cell? ⟨w.heap.size, 0, none⟩ = some (.slice (some ⟨b, off, none⟩) l.length cap) ∧ V.cell? ⟨b, off + ix * 2, none⟩ = some (.int .i64 xi) ∧ V.cell? ⟨b, off + ix * 2 + 1, none⟩ = some (.slice ax xl.length cx) ∧ V.cell? ⟨b, off + iy * 2, none⟩ = some (.int .i64 yi) ∧ V.cell? ⟨b, off + iy * 2 + 1, none⟩ = some (.slice ay yl.length cy)) (exact HS.out _ hBq)
     (first
      | (go_at_call 32; (with_reducible refine (HFx.out _ (hBw.trans (hBq.mono hzw))).mono ?_); rintro e wq ⟨rfl, kq⟩; have t_ := hBq.trans (kq.mono hBq.size); clear hBq; have hBq := t_; clear t_ kq)
      | (go_at_call 32; (with_reducible refine (HFy.out _ (hBw.trans (hBq.mono hzw))).mono ?_); rintro e wq ⟨rfl, kq⟩; have t_ := hBq.trans (kq.mono hBq.size); clear hBq; have hBq := t_; clear t_ kq)
      | (go_at_call 27; (with_reducible refine (csize_any xi ax xl.length cx _).mono ?_); rintro e wq ⟨rfl, kq⟩; have t_ := hBq.trans (kq.mono hBq.size); clear hBq; have hBq := t_; clear t_ kq)
      | (go_at_call 27; (with_reducible refine (csize_any yi ay yl.length cy _).mono ?_); rintro e wq ⟨rfl, kq⟩; have t_ := hBq.trans (kq.mono hBq.size); clear hBq; have hBq := t_; clear t_ kq))
    have HBn := hide (show Below w6.heap.size w6 wq from hBr.drew.trans (hBq.mono (by rw [zd]; exact hz)))
    clear hBq HS c0 X0 X1 Y0 Y1 s0 s1
    go_wp2_with fail
    go_roundw
    case rel => exact ⟨.inr (.inr ⟨by go_num, by unfold elW; rw [if_pos hc]⟩), HBn.out⟩
    case measure => simp [intOf]
   ·have e1 : decide ((xl.length : Int) < (yl.length : Int)) = false := decide_eq_false (by omega)
    have e2 : ¬ (xl.length : Int) < (yl.length : Int) := by omega
    go_upto_region 13 with fail
    go_region_held3 (fun V => V.cell? ⟨w.heap.size, 0, none⟩ = some (.slice (some ⟨b, off, none⟩) l.length cap) ∧ V.cell? ⟨b, off + ix * 2, none⟩ = some (.int .i64 xi) ∧ V.cell? ⟨b, off + ix * 2 + 1, none⟩ = some (.slice ax xl.length cx) ∧ V.cell? ⟨b, off + iy * 2, none⟩ = some (.int .i64 yi) ∧ V.cell? ⟨b, off + iy * 2 + 1, none⟩ = some (.slice ay yl.length cy)) (exact HS.out _ hBq)
     (first
      | (go_at_call 32; (with_reducible refine (HFx.out _ (hBw.trans (hBq.mono hzw))).mono ?_); rintro e wq ⟨rfl, kq⟩; have t_ := hBq.trans (kq.mono hBq.size); clear hBq; have hBq := t_; clear t_ kq)
      | (go_at_call 32; (with_reducible refine (HFy.out _ (hBw.trans (hBq.mono hzw))).mono ?_); rintro e wq ⟨rfl, kq⟩; have t_ := hBq.trans (kq.mono hBq.size); clear hBq; have hBq := t_; clear t_ kq)
      | (go_at_call 27; (with_reducible refine (csize_any xi ax xl.length cx _).mono ?_); rintro e wq ⟨rfl, kq⟩; have t_ := hBq.trans (kq.mono hBq.size); clear hBq; have hBq := t_; clear t_ kq)
      | (go_at_call 27; (with_reducible refine (csize_any yi ay yl.length cy _).mono ?_); rintro e wq ⟨rfl, kq⟩; have t_ := hBq.trans (kq.mono hBq.size); clear hBq; have hBq := t_; clear t_ kq))
    have HBn := hide (show Below w6.heap.size w6 wq from hBr.drew.trans (hBq.mono (by rw [zd]; exact hz)))
    clear hBq HS c0 X0 X1 Y0 Y1 s0 s1
    go_wp2_with fail
    go_roundw
    case rel => exact ⟨.inr (.inr ⟨by go_num, by unfold elW; rw [if_neg hc]⟩), HBn.out⟩
    case measure => simp [intOf]
  ·obtain ⟨R, hR⟩ : ∃ r, r = elW ⟨xi, xl⟩ ⟨yi, yl⟩ := ⟨_, rfl⟩
   rw [← hR]
   have HR := hide hR
   clear hR
   go_wp2_with fail
   exact bodyPost_ret (v := .tuple #[.int .i64 R, .int .i64 0]) (by simp [results, Tryz.results12, go_sem]) rfl ⟨by rw [← HR.out], HB6.out.trans (hBr.mono z6)⟩
end Go.Proofs.YthkoaecafmhlcaaGreat
