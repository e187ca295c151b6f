/- Parts TuD TuE of the proof, joined. -/
import Derived.Test.YthkoaecafmhlcaaGreatTuC
import Derived.Test.YthkoaecafmhlcaaGreatTsU
import Derived.Test.YthkoaecafmhlcaaGreatJ05
/- Package copies: a copy begins as the longest one does; Valid. -/
namespace Go.Proofs.YthkoaecafmhlcaaGreat
open Go.RowKit
attribute [local simp] size_drewT
set_option maxHeartbeats 2000000 in
set_option maxRecDepth 100000 in
set_option maxHeartbeats 400000 in
theorem cValid2_any (i : Int) (lv gv : Value) (L D : List Tx) (lb : Nat) (w : World) (h : TxR w lv L) (hg : TxR w gv D) (hp : D.take L.length = L) (hl : L.length ≤ D.length) (hD : D.length ≤ 2000) (hb : w.cell? ⟨lb, 0, none⟩ = some gv) (h8 : ∀ i, i < L.length → (txAt L i).rd.length ≤ 8 ∧ (txAt L i).wr.length ≤ 8) :
  Calls Tryz.prog 65 #[.agg #[.int .i64 i, lv], .pointer (some ⟨lb, 0, none⟩)] w fun e w' => e = .returned (.bool false) ∧ Below w.heap.size w w' := by
 have hlb := World.block_lt_of_cell? _ _ hb
 simp only at hlb
 obtain ⟨a1, c1, rfl, -⟩ := h.len
 obtain ⟨a2, c2, rfl, o1, o2⟩ := hg.len
 have hT := hg.take L.length hl
 rw [hp] at hT
 have HE := hide (fun (V : World) (hV : Below w.heap.size w V) => EqualFunc_any (.slice a1 L.length c1) (.slice a2 L.length c2) L V (h.below (Nat.le_refl _) hV) (hT.below (Nat.le_refl _) hV) h8 (by omega))
 have I1 : (0 : Int) ≤ (L.length : Int) := by omega
 have I2 : (L.length : Int) ≤ (c2 : Int) := by omega
 have I3 : (L.length : Int) ≤ (D.length : Int) := by omega
 clear h hg hT hp h8
 obtain ⟨W, hW⟩ : ∃ W, W = w.alloc (.cells #[.int .i64 i, .slice a1 L.length c1] 52) := ⟨_, rfl⟩
 have q0 : W.cell? ⟨w.heap.size, 0, none⟩ = some (.int .i64 i) := by rw [hW]; simp
 have q1 : W.cell? ⟨w.heap.size, 1, none⟩ = some (.slice a1 L.length c1) := by rw [hW]; simp
 have b0 : Below w.heap.size w W := by rw [hW]; ((with_reducible repeat' first | exact .refl _ _ | refine .alloc ?_ ?_ _ | refine .setCell ?_ ?_ _ | refine .drew ?_ | refine below_drewN ?_ _) <;> first | omega | simp <;> omega)
 have hz2 : w.heap.size < W.heap.size := by rw [hW]; simp
 have q2 : W.cell? ⟨lb, 0, none⟩ = some (.slice a2 D.length c2) := (b0.cell (p := ⟨lb, 0, none⟩) hlb).trans hb
 have hz3 : lb < W.heap.size := by omega
 clear hb
 go_enter Tryz.func65, Tryz.ntmps65
 go_upto_region 1 with fail
 rw [← hW]
 clear hW
 have zd : W.drew.heap.size = W.heap.size := rfl
 have HA := hide (fun (V : World) (hV : Below W.heap.size W V) => And.intro ((hV.cell (p := ⟨_, _, none⟩) hz2).trans q0) (And.intro ((hV.cell (p := ⟨_, _, none⟩) hz2).trans q1) ((hV.cell (p := ⟨_, _, none⟩) hz3).trans q2)))
 go_region_held3 (fun V => V.cell? ⟨w.heap.size, 0, none⟩ = some (.int .i64 i) ∧ V.cell? ⟨w.heap.size, 1, none⟩ = some (.slice a1 L.length c1) ∧ V.cell? ⟨lb, 0, none⟩ = some (.slice a2 D.length c2)) (exact HA.out _ (by ((with_reducible repeat' first | exact .refl _ _ | exact k2 | exact k1 | refine .alloc ?_ ?_ _ | refine .setCell ?_ ?_ _ | refine .drew ?_ | refine below_drewN ?_ _ | refine Below.trans ?_ (k2.mono ?_) | refine Below.trans ?_ (k1.mono ?_)) <;> first | omega | simp <;> omega)))
  (first | (go_at_call 27; (with_reducible refine (csize_any i a1 L.length c1 _).mono ?_); rintro e w1 ⟨rfl, k1⟩; have z1 := k1.size) | (go_at_call 66; (with_reducible refine (HE.out _ (by ((with_reducible repeat' first | exact .refl _ _ | exact k1 | exact b0 | refine .alloc ?_ ?_ _ | refine .setCell ?_ ?_ _ | refine .drew ?_ | refine below_drewN ?_ _ | refine Below.trans ?_ (k1.mono ?_) | refine Below.trans ?_ (b0.mono ?_)) <;> first | omega | simp <;> omega))).mono ?_); rintro e w2 ⟨rfl, k2⟩; have z2 := k2.size))
 all_goals
  go_wp2_with fail
  go_ret
  refine ⟨rfl, (by ((with_reducible repeat' first | exact .refl _ _ | exact k2 | exact k1 | exact b0 | refine .alloc ?_ ?_ _ | refine .setCell ?_ ?_ _ | refine .drew ?_ | refine below_drewN ?_ _ | refine Below.trans ?_ (k2.mono ?_) | refine Below.trans ?_ (k1.mono ?_) | refine Below.trans ?_ (b0.mono ?_)) <;> first | omega | simp <;> omega))⟩
set_option maxHeartbeats 1000000 in
set_option maxRecDepth 100000 in
set_option maxHeartbeats 400000 in
theorem IndexCp65_any (v : Value) (l : List Cp) (gv : Value) (D : List Tx) (lb : Nat) (w : World) (h : CpR w v l) (hg : TxR w gv D) (hb : w.cell? ⟨lb, 0, none⟩ = some gv) (hD : D.length ≤ 2000) (hr : ∀ i, i < l.length → D.take (cpAt l i).log.length = (cpAt l i).log ∧ (cpAt l i).log.length ≤ D.length) (h8 : ∀ t, t ∈ D → t.rd.length ≤ 8 ∧ t.wr.length ≤ 8) (hl : l.length ≤ 100) :
  Calls Tryz.prog 77 #[v, .func (.func 65) #[] #[.pointer (some ⟨lb, 0, none⟩)]] w fun e w' => e = .returned (.int .i64 (-1)) ∧ Below w.heap.size w w' := by
 have hlb := World.block_lt_of_cell? _ _ hb
 simp only at hlb
 obtain ⟨a1, cap1, rfl, -⟩ := h.len
 have HI := hide (fun (V : World) (hV : Below w.heap.size w V) => h.below (Nat.le_refl _) hV)
 have HC0 := hide (fun (k : Nat) (hk : k < l.length) (lv : Value) (V : World) (hV : Below w.heap.size w V) (hlv : TxR V lv (cpAt l k).log) => cValid2_any (cpAt l k).id lv gv (cpAt l k).log D lb V hlv (hg.below (Nat.le_refl _) hV) (hr k hk).1 (hr k hk).2 hD ((hV.cell (p := ⟨lb, 0, none⟩) hlb).trans hb) (fun i hi => by
  have := (hr k hk).1
  refine h8 _ ?_
  have hm := txAt_mem hi
  rw [← this] at hm ⊢
  exact List.mem_of_mem_take hm))
 clear h hr hg hb h8
 go_enter Tryz.func77, Tryz.ntmps77
 go_wp2_with fail
 go_loopw [8] (fun s8 wx => ∃ (k : Nat), k ≤ l.length ∧ s8 = .int .i64 k ∧ Below w.heap.size w wx) (fun s8 _ => l.length - (intOf s8).toNat)
 case atStart => exact ⟨0, Nat.zero_le _, rfl, Below.refl _ _⟩
 case round =>
  obtain ⟨k, hk, rfl, hB⟩ := hrel
  by_cases hlt : k < l.length
  ·obtain ⟨b, off, cap', lv, hbv, hlt0, x0, x1, hrd⟩ := CpR.at_ (HI.out wr hB) (i := k) hlt
   cases hbv
   have I1 : (0 : Int) ≤ (k : Int) := by omega
   have I2 : (k : Int) < (l.length : Int) := by omega
   have hz := hB.size
   have HC := hide (HC0.out k hlt lv wr hB hrd)
   obtain ⟨al, cl, rfl, -⟩ := hrd.len
   clear hrd
   generalize cpAt l k = C at *
   obtain ⟨ci, cl'⟩ := C
   dsimp only at *
   go_wp2_with (go_at_call 65; (with_reducible refine HC.out.mono ?_); rintro e w1 ⟨rfl, b1⟩; have B1 : Below w.heap.size w w1 := (by ((with_reducible repeat' first | exact .refl _ _ | exact b1 | exact hB | refine .alloc ?_ ?_ _ | refine .setCell ?_ ?_ _ | refine .drew ?_ | refine below_drewN ?_ _ | refine Below.trans ?_ (b1.mono ?_) | refine Below.trans ?_ (hB.mono ?_)) <;> first | omega | simp <;> omega)))
   go_roundw
   case rel => exact ⟨k + 1, by omega, by go_num, B1⟩
   case measure => simp [intOf]; omega
  ·obtain rfl : k = l.length := by omega
   go_wp2_with fail
   go_ret
   exact ⟨rfl, hB⟩
set_option maxRecDepth 100000 in
set_option maxHeartbeats 400000 in
theorem ContainsCp65_any (v : Value) (l : List Cp) (gv : Value) (D : List Tx) (lb : Nat) (w : World) (h : CpR w v l) (hg : TxR w gv D) (hb : w.cell? ⟨lb, 0, none⟩ = some gv) (hD : D.length ≤ 2000) (hr : ∀ i, i < l.length → D.take (cpAt l i).log.length = (cpAt l i).log ∧ (cpAt l i).log.length ≤ D.length) (h8 : ∀ t, t ∈ D → t.rd.length ≤ 8 ∧ t.wr.length ≤ 8) (hl : l.length ≤ 100) :
  Calls Tryz.prog 72 #[v, .func (.func 65) #[] #[.pointer (some ⟨lb, 0, none⟩)]] w fun e w' => e = .returned (.bool false) ∧ Below w.heap.size w w' := by
 have HI := hide (IndexCp65_any v l gv D lb w h hg hb hD hr h8 hl)
 obtain ⟨a, cap, rfl, -⟩ := h.len
 clear h hr hg hb h8
 go_enter Tryz.func72, Tryz.ntmps72
 go_wp2_with (go_at_call 77; (with_reducible refine HI.out.mono ?_); rintro e w1 ⟨rfl, b1⟩)
 go_ret
 exact ⟨rfl, b1⟩
structure CpOk (l : List Cp) (D : List Tx) : Prop where
 n1 : 1 ≤ l.length ∧ l.length ≤ 7
 ids : ∀ i, i < l.length → 1 ≤ (cpAt l i).id ∧ (0 < i → (cpAt l (i - 1)).id < (cpAt l i).id)
 top : ∀ i, i < l.length → (cpAt l i).id ≤ 64
 pre : ∀ i, i < l.length → D.take (cpAt l i).log.length = (cpAt l i).log ∧ (cpAt l i).log.length ≤ D.length
 good : GoodD D
 len : D.length ≤ 2000
theorem field_cp1 (i : Int) (a : Option Addr) (n c : Nat) (w : World) : (Instr.field 52 (.agg #[.int .i64 i, .slice a n c]) 1).run Tryz.prog w = .ok (.slice a n c) w := by
 kernel_rfl
set_option maxHeartbeats 2000000 in
set_option maxRecDepth 100000 in
set_option maxHeartbeats 400000 in
theorem cpValid_any (v : Value) (l : List Cp) (D : List Tx) (w : World) (h : CpR w v l) (ho : CpOk l D) :
  Calls Tryz.prog 26 #[v] w fun e w' => e = .returned (.bool true) ∧ Below w.heap.size w w' := by
 have hmf : ∀ (fn : Fn) (first cap : Array Value) (w : World), (Instr.makeFunc fn first cap).run Tryz.prog w = .ok (.func fn first cap) w := fun _ _ _ _ => rfl
 have hn1 := ho.n1
 have HO := hide ho
 have HI := hide (fun (V : World) (hV : Below w.heap.size w V) => h.below (Nat.le_refl _) hV)
 have HRi := hide (risingCp_any v l w h ho.ids (by omega))
 have HMx := hide (fun (V : World) (hV : Below w.heap.size w V) => MaxFunc_any v l V (h.below (Nat.le_refl _) hV) (by omega) (by omega))
 obtain ⟨a1, cap1, rfl, -⟩ := h.len
 have d1 : ((l.length : Int) == 0) = false := by rw [beq_eq_false_iff_ne]; omega
 have d2 : decide ((7 : Int) < (l.length : Int)) = false := decide_eq_false (by omega)
 obtain ⟨kx, hkx⟩ : ∃ k, k = l.length - 1 := ⟨_, rfl⟩
 have hkl : kx < l.length := by omega
 have w3 : IntKind.i64.wrap ((l.length : Int) - 1) = (kx : Int) := by rw [IntKind.wrap_i64]; omega
 have I1 : (0 : Int) ≤ (kx : Int) := by omega
 have I2 : (kx : Int) < (l.length : Int) := by omega
 have htop := ho.top kx hkl
 clear h ho hkx
 go_enter Tryz.func26, Tryz.ntmps26
 go_wp2_with (go_at_call 60; (with_reducible refine HRi.out.mono ?_); rintro e w1 ⟨rfl, b1⟩; obtain ⟨b, off, cap', lv, hbv, hlt0, x0, x1, -⟩ := CpR.at_ (HI.out w1 b1) (i := kx) hkl; cases hbv; have d3 : decide ((64 : Int) < (cpAt l kx).id) = false := decide_eq_false (by omega))
 clear x0 x1
 refine (HMx.out w1 b1).mono ?_
 rintro e w2 ⟨⟨m, lv2, rfl, hm, hrm, hmx⟩, k2⟩
 have B2 : Below w.heap.size w w2 := b1.trans (k2.mono b1.size)
 have hpm := HO.out.pre m hm
 obtain ⟨Dm, hDm⟩ : ∃ x, x = (cpAt l m).log := ⟨_, rfl⟩
 rw [← hDm] at hrm hmx hpm
 have hgood : GoodD Dm := HO.out.good.sub (by rw [← hpm.1]; exact List.take_sublist _ _)
 have hDl : Dm.length ≤ 2000 := by have := HO.out.len; omega
 have hpre : ∀ i, i < l.length → Dm.take (cpAt l i).log.length = (cpAt l i).log ∧ (cpAt l i).log.length ≤ Dm.length := fun i hi => by
  refine ⟨?_, hmx i hi⟩
  rw [← hpm.1, List.take_take, Nat.min_eq_left (hmx i hi)]
  exact (HO.out.pre i hi).1
 have hmem := fun i (hi : i < Dm.length) => hgood.2 _ (txAt_mem hi)
 have hris : ∀ i, i < Dm.length → 1 ≤ (txAt Dm i).ts ∧ (0 < i → (txAt Dm (i - 1)).ts < (txAt Dm i).ts) := fun i hi => by
  refine ⟨(hmem i hi).2, fun h0 => ?_⟩
  rw [txAt_lt hi, txAt_lt (show i - 1 < Dm.length by omega)]
  exact List.pairwise_iff_getElem.1 hgood.1 (i - 1) i (by omega) hi (by omega)
 have HCt := hide (fun (V : World) (hV : Below w2.heap.size w2 V) => ContainsTx69_any lv2 Dm V (hrm.below (Nat.le_refl _) hV) hmem hDl)
 have HRt := hide (fun (V : World) (hV : Below w2.heap.size w2 V) => risingTx_any lv2 Dm V (hrm.below (Nat.le_refl _) hV) hris (by omega))
 obtain ⟨am, cm, rfl, -⟩ := hrm.len
 have HCc := hide (fun (V : World) (hV : Below w2.heap.size w2 V) (hb : V.cell? ⟨w2.heap.size, 0, none⟩ = some (.slice am Dm.length cm)) => ContainsCp65_any _ l (.slice am Dm.length cm) Dm w2.heap.size V (HI.out V (B2.trans (hV.mono B2.size))) (hrm.below (Nat.le_refl _) hV) hb hDl hpre (fun t ht => ⟨(hgood.2 t ht).1.2.2.2.2.1, (hgood.2 t ht).1.2.2.2.2.2⟩) (by omega))
 have hfl := fun (W : World) => field_cp1 (cpAt l m).id am Dm.length cm W
 have d5 : decide ((Dm.length : Int) ≤ 2000) = true := decide_eq_true (by omega)
 have d6 : (Dm.length : Int) ≤ 2000 := by omega
 obtain ⟨W, hW⟩ : ∃ V, V = w2.alloc (.cells #[.slice am Dm.length cm] 35) := ⟨_, rfl⟩
 have hb : BxC W w2.heap.size [.slice am Dm.length cm] := by rw [hW]; exact BxC.made w2 _ _
 have hB : Below w2.heap.size w2 W := by rw [hW]; ((with_reducible repeat' first | exact .refl _ _ | refine .alloc ?_ ?_ _ | refine .setCell ?_ ?_ _ | refine .drew ?_ | refine below_drewN ?_ _) <;> first | omega | simp <;> omega)
 clear hrm hmx hpm hDm hgood hpre hmem hris HRi HMx b1 k2
 go_upto_region 4 with fail
 rw [← hW]
 clear hW
 have chb_0 := hb.1 0 _ rfl; have fhb := hb.2.1; have zhb := hb.2.2
 go_wp2_with (first
  | (go_at_call 68; (with_reducible refine (HCt.out _ hB).mono ?_); rintro e w3 ⟨rfl, k3⟩; have tb := hb.below hb.2.2 k3; clear chb_0 fhb zhb hb; have hb := tb; clear tb; have chb_0 := hb.1 0 _ rfl; have fhb := hb.2.1; have zhb := hb.2.2; have t_ := hB.trans (k3.mono hB.size); clear hB; have hB := t_; clear t_ k3)
  | (go_at_call 70; (with_reducible refine (HRt.out _ hB).mono ?_); rintro e w4 ⟨rfl, k4⟩; have tb := hb.below hb.2.2 k4; clear chb_0 fhb zhb hb; have hb := tb; clear tb; have chb_0 := hb.1 0 _ rfl; have fhb := hb.2.1; have zhb := hb.2.2; have t_ := hB.trans (k4.mono hB.size); clear hB; have hB := t_; clear t_ k4)
  | (go_at_call 72; (with_reducible refine (HCc.out _ hB chb_0).mono ?_); rintro e w5 ⟨rfl, k5⟩; have t_ := hB.trans (k5.mono hB.size); clear hB; have hB := t_; clear t_ k5))
 go_ret
 exact ⟨rfl, B2.trans (hB.mono B2.size)⟩
end Go.Proofs.YthkoaecafmhlcaaGreat
/- Package copies: find, Safe. -/
namespace Go.Proofs.YthkoaecafmhlcaaGreat
open Go.RowKit
attribute [local simp] size_drewT
set_option maxRecDepth 100000 in
set_option maxHeartbeats 400000 in
theorem cfind1_any (i : Int) (lv : Value) (a : Option Addr) (n c : Nat) (hlv : lv = .slice a n c) (want : Int) (pb : Nat) (w : World) (hb : w.cell? ⟨pb, 0, none⟩ = some (.int .i64 want)) :
  Calls Tryz.prog 78 #[.agg #[.int .i64 i, lv], .pointer (some ⟨pb, 0, none⟩)] w fun e w' => e = .returned (.bool (decide (i = want))) ∧ Below w.heap.size w w' := by
 subst hlv
 have hlb := World.block_lt_of_cell? _ _ hb
 simp only at hlb
 go_enter Tryz.func78, Tryz.ntmps78
 go_wp2_with fail
 go_ret
 exact ⟨by first | rfl | simp, (by ((with_reducible repeat' first | exact .refl _ _ | refine .alloc ?_ ?_ _ | refine .setCell ?_ ?_ _ | refine .drew ?_ | refine below_drewN ?_ _) <;> first | omega | simp <;> omega))⟩
set_option maxHeartbeats 1000000 in
set_option maxRecDepth 100000 in
set_option maxHeartbeats 400000 in
theorem IndexCp78_any (v : Value) (l : List Cp) (want : Int) (i : Nat) (pb : Nat) (w : World) (h : CpR w v l) (hb : w.cell? ⟨pb, 0, none⟩ = some (.int .i64 want)) (hi : i < l.length) (hw : (cpAt l i).id = want) (hf : ∀ j, j < i → (cpAt l j).id ≠ want) (hl : l.length ≤ 100) :
  Calls Tryz.prog 77 #[v, .func (.func 78) #[] #[.pointer (some ⟨pb, 0, none⟩)]] w fun e w' => e = .returned (.int .i64 i) ∧ Below w.heap.size w w' := by
 have hlb := World.block_lt_of_cell? _ _ hb
 simp only at hlb
 obtain ⟨a1, cap1, rfl, -⟩ := h.len
 have HI := hide (fun (V : World) (hV : Below w.heap.size w V) => h.below (Nat.le_refl _) hV)
 have HC0 := hide (fun (id : Int) (a : Option Addr) (n c : Nat) (V : World) (hV : Below w.heap.size w V) => cfind1_any id (.slice a n c) a n c rfl want pb V ((hV.cell (p := ⟨pb, 0, none⟩) hlb).trans hb))
 have HF := hide hf
 have HW := hide hw
 clear h hb hf hw
 go_enter Tryz.func77, Tryz.ntmps77
 go_wp2_with fail
 go_loopw [8] (fun s8 wx => ∃ (k : Nat), k ≤ i ∧ s8 = .int .i64 k ∧ Below w.heap.size w wx) (fun s8 _ => l.length - (intOf s8).toNat)
 case atStart => exact ⟨0, Nat.zero_le _, rfl, Below.refl _ _⟩
 case round =>
  obtain ⟨k, hk, rfl, hB⟩ := hrel
  have hlt : k < l.length := by omega
  obtain ⟨b, off, cap', lv, hbv, hlt0, x0, x1, hrd⟩ := CpR.at_ (HI.out wr hB) (i := k) hlt
  cases hbv
  have I1 : (0 : Int) ≤ (k : Int) := by omega
  have I2 : (k : Int) < (l.length : Int) := by omega
  have hz := hB.size
  obtain ⟨al, cl, rfl, -⟩ := hrd.len
  clear hrd
  rcases Nat.lt_or_ge k i with hki | hki
  ·have hne := HF.out k hki
   generalize cpAt l k = C at *
   obtain ⟨ci, cl'⟩ := C
   dsimp only at *
   have HC := hide (HC0.out ci al cl'.length cl wr hB)
   rw [decide_eq_false hne] at HC
   clear hne
   go_wp2_with (go_at_call 78; (with_reducible refine HC.out.mono ?_); rintro e w1 ⟨rfl, b1⟩; have B1 : Below w.heap.size w w1 := (by ((with_reducible repeat' first | exact .refl _ _ | exact b1 | exact hB | refine .alloc ?_ ?_ _ | refine .setCell ?_ ?_ _ | refine .drew ?_ | refine below_drewN ?_ _ | refine Below.trans ?_ (b1.mono ?_) | refine Below.trans ?_ (hB.mono ?_)) <;> first | omega | simp <;> omega)))
   go_roundw
   case rel => exact ⟨k + 1, by omega, by go_num, B1⟩
   case measure => simp [intOf]; omega
  ·obtain rfl : k = i := by omega
   have heq := HW.out
   generalize cpAt l k = C at *
   obtain ⟨ci, cl'⟩ := C
   dsimp only at *
   have HC := hide (HC0.out ci al cl'.length cl wr hB)
   rw [decide_eq_true heq] at HC
   clear heq
   go_wp2_with (go_at_call 78; (with_reducible refine HC.out.mono ?_); rintro e w1 ⟨rfl, b1⟩; have B1 : Below w.heap.size w w1 := (by ((with_reducible repeat' first | exact .refl _ _ | exact b1 | exact hB | refine .alloc ?_ ?_ _ | refine .setCell ?_ ?_ _ | refine .drew ?_ | refine below_drewN ?_ _ | refine Below.trans ?_ (b1.mono ?_) | refine Below.trans ?_ (hB.mono ?_)) <;> first | omega | simp <;> omega)))
   go_ret
   exact ⟨rfl, B1⟩
set_option maxHeartbeats 1000000 in
set_option maxRecDepth 100000 in
set_option maxHeartbeats 400000 in
theorem find_any (v : Value) (l : List Cp) (want : Int) (i : Nat) (w : World) (h : CpR w v l) (hi : i < l.length) (hw : (cpAt l i).id = want) (hf : ∀ j, j < i → (cpAt l j).id ≠ want) (hl : l.length ≤ 100) :
  Calls Tryz.prog 32 #[v, .int .i64 want] w fun e w' => e = .returned (.int .i64 i) ∧ Below w.heap.size w w' := by
 have hmf : ∀ (fn : Fn) (first cap : Array Value) (w : World), (Instr.makeFunc fn first cap).run Tryz.prog w = .ok (.func fn first cap) w := fun _ _ _ _ => rfl
 have HX := hide (IndexCp78_any v l want i w.heap.size (w.alloc (.cells #[.int .i64 want] 3)) (h.below (Nat.le_refl _) (by ((with_reducible repeat' first | exact .refl _ _ | refine .alloc ?_ ?_ _ | refine .setCell ?_ ?_ _ | refine .drew ?_ | refine below_drewN ?_ _) <;> first | omega | simp <;> omega))) (by simp) hi hw hf hl)
 obtain ⟨a1, cap1, rfl, -⟩ := h.len
 clear h hi hw hf
 go_enter Tryz.func32, Tryz.ntmps32
 go_wp2_with (go_at_call 77; (with_reducible refine HX.out.mono ?_); rintro e w1 ⟨rfl, b1⟩; have B1 : Below w.heap.size w w1 := (by ((with_reducible repeat' first | exact .refl _ _ | exact b1 | refine .alloc ?_ ?_ _ | refine .setCell ?_ ?_ _ | refine .drew ?_ | refine below_drewN ?_ _ | refine Below.trans ?_ (b1.mono ?_)) <;> first | omega | simp <;> omega)))
 go_ret
 exact ⟨rfl, B1⟩
def szC (l : List Cp) : List Int := l.map fun c => (c.log.length : Int)
theorem szC_length (l : List Cp) : (szC l).length = l.length := List.length_map _
theorem szC_take (l : List Cp) {k : Nat} (h : k < l.length) : szC (l.take (k + 1)) = szC (l.take k) ++ [((cpAt l k).log.length : Int)] := by
 unfold szC
 rw [List.take_succ_eq_append_getElem h, List.map_append, cpAt_lt h]
 rfl
set_option maxHeartbeats 2000000 in
set_option maxRecDepth 100000 in
set_option maxHeartbeats 400000 in
theorem Safe_any (v : Value) (l : List Cp) (D : List Tx) (w : World) (h : CpR w v l) (ho : CpOk l D) :
  Calls Tryz.prog 11 #[v] w fun e w' => e = .returned (.tuple #[.int .i64 (iAt (srtI (szC l)) (l.length - l.length / 2 - 1)), .int .i64 0]) ∧ Below w.heap.size w w' := by
 obtain ⟨i0, hi0, hz0, hz1, hz2⟩ := info_parts infoInt
 have hn1 := ho.n1
 have HV := hide (cpValid_any v l D w h ho)
 have HI := hide (fun (V : World) (hV : Below w.heap.size w V) => h.below (Nat.le_refl _) hV)
 obtain ⟨a1, cap1, rfl, -⟩ := h.len
 clear h ho
 go_enter Tryz.func11, Tryz.ntmps11
 go_wp2_with (go_at_call 26; (with_reducible refine HV.out.mono ?_); rintro e w1 ⟨rfl, b1⟩)
 go_loopw [12, 4] (fun s12 s4 wx => ∃ (k : Nat), k ≤ l.length ∧ s12 = .int .i64 k ∧ Hid (OwnIs wx w.heap.size s4 (szC (l.take k))) ∧ Below w.heap.size w wx) (fun s12 _ _ => l.length - (intOf s12).toNat)
 case atStart => exact ⟨0, Nat.zero_le _, rfl, hide (OwnIs.nil _ _), b1⟩
 case round =>
  clear b1
  obtain ⟨k, hk, rfl, HO, hB⟩ := hrel
  have hzB := hB.size
  have hlk : (szC (l.take k)).length = k := by rw [szC_length, List.length_take]; omega
  have hown := HO.out
  unfold OwnIs at hown
  rw [hlk] at hown
  obtain ⟨oa, oc, rfl⟩ := ownsRow_val hown
  by_cases hlt : k < l.length
  ·obtain ⟨b, off, cap', lv, hbv, hlt0, x0, x1, hrd⟩ := CpR.at_ (HI.out wr hB) (i := k) hlt
   cases hbv
   obtain ⟨al, cl, rfl, -⟩ := hrd.len
   clear hrd
   have HT := hide (szC_take l hlt)
   have Hlow := hide (fun r (e : (Value.slice oa k oc).ownBlock = some r) => (World.ownsRow.lt hown r e).1)
   have HY := hide hown
   have HLK := hide hlk
   generalize cpAt l k = C at *
   obtain ⟨ci, cl'⟩ := C
   dsimp only at *
   have I1 : (0 : Int) ≤ (k : Int) := by omega
   have I2 : (k : Int) < (l.length : Int) := by omega
   clear HO hown hlk
   go_wp2_with (first
    | (go_at_call 27; (with_reducible refine (csize_any ci al cl'.length cl _).mono ?_); rintro e w2 ⟨rfl, k2⟩; have K2 : Below wr.heap.size wr w2 := (by ((with_reducible repeat' first | exact .refl _ _ | exact k2 | refine .alloc ?_ ?_ _ | refine .setCell ?_ ?_ _ | refine .drew ?_ | refine below_drewN ?_ _ | refine Below.trans ?_ (k2.mono ?_)) <;> first | omega | simp <;> omega)); have B2 : Below w.heap.size w w2 := hB.trans (K2.mono hzB); have z2 := B2.size; clear k2)
    | (at_builtin; refine wpList_append_src _ rfl _ _ 55 rfl w.heap.size 3 i0 (.int .i64 0) 1 8 Tryz.underlying55 hi0 hz0 hz1 hz2 rfl (by decide) _ k (encI (szC (l.take k))) rfl (World.ownsRow.alloc (ownsRow_below HY.out K2) _) _ 1 [.int .i64 (cl'.length : Int)] rfl (isLitSrc w2 _ [.int .i64 (cl'.length : Int)] 3 rfl) (by simp [Value.oneCell']) (by unfold maxLen; omega) (by omega) (by simp; omega) ?_; intro v6 w6 hown6 hg6 _; obtain ⟨a6, c6, rfl⟩ := ownsRow_val hown6; have b6 : Below w.heap.size w w6 := Below.grown (B2.alloc (by omega) _) hg6 (by simp; omega) (fun r e => Hlow.out r e); have HO6 := hide hown6; clear hown6 hg6))
   go_roundw
   case rel => exact ⟨k + 1, by omega, by go_num, hide (by rw [HT.out]; have h_ := HO6.out; unfold OwnIs; rw [encI_append, List.length_append, HLK.out]; exact h_), b6⟩
   case measure => simp [intOf]; omega
  ·obtain rfl : k = l.length := by omega
   have HS := hide (SortI_any (.slice oa l.length oc) (szC (l.take l.length)) w.heap.size wr HO.out hzB (by rw [hlk]; omega))
   clear HO hown
   rw [List.take_length] at HS hlk
   obtain ⟨Z, hZ⟩ : ∃ z, z = srtI (szC l) := ⟨_, rfl⟩
   rw [← hZ] at HS
   have hZl : Z.length = l.length := by rw [hZ, srtI_length, hlk]
   obtain ⟨m, hm⟩ : ∃ m, m = l.length - l.length / 2 - 1 := ⟨_, rfl⟩
   have HE := hide (And.intro hZ hm)
   have HZl := hide hZl
   have hml : m < l.length := by omega
   have w1_ : IntKind.i64.wrap ((l.length : Int) - (l.length : Int) / 2) = ((l.length - l.length / 2 : Nat) : Int) := by rw [IntKind.wrap_i64]; omega
   have w2_ : IntKind.i64.wrap (((l.length - l.length / 2 : Nat) : Int) - 1) = (m : Int) := by rw [IntKind.wrap_i64]; omega
   have I1 : (0 : Int) ≤ (m : Int) := by omega
   have I2 : (m : Int) < (l.length : Int) := by omega
   clear hZ hm hZl
   go_upto_region 10 with (go_at_call 28; (with_reducible refine HS.out.mono ?_); rintro e w2 ⟨rfl, o2, k2⟩)
   obtain ⟨b, off, cap', hbv, -, -, -, hcl⟩ := o2.row.at0 (by rw [HZl.out]; omega)
   rw [HZl.out] at hbv
   cases hbv
   have x0 := hcl.2 m (by rw [HZl.out]; exact hml)
   go_wp2_with fail
   exact bodyPost_ret (v := .tuple #[.int .i64 (iAt Z m), .int .i64 0]) (by simp [results, Tryz.results11, go_sem]) rfl ⟨by rw [← HE.out.1, ← HE.out.2], hB.trans k2⟩
end Go.Proofs.YthkoaecafmhlcaaGreat
