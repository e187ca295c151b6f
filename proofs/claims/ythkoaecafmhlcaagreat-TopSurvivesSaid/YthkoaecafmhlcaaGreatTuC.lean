/- Package copies: the longest of copies (slices.MaxFunc). -/
import Derived.Test.YthkoaecafmhlcaaGreatTuB
namespace Go.Proofs.YthkoaecafmhlcaaGreat
open Go.RowKit
attribute [local simp] size_drewT
theorem cmpI_pos (a b : Int) : 0 < Lib.compareInt a b ↔ b < a := by
 unfold Lib.compareInt
 split <;> (try split) <;> omega
set_option maxHeartbeats 1000000 in
set_option maxRecDepth 100000 in
set_option maxHeartbeats 400000 in
theorem cValid1_any (i1 i2 : Int) (a1 a2 : Option Addr) (n1 n2 c1 c2 : Nat) (w : World) :
  Calls Tryz.prog 63 #[.agg #[.int .i64 i1, .slice a1 n1 c1], .agg #[.int .i64 i2, .slice a2 n2 c2]] w fun e w' => e = .returned (.int .i64 (Lib.compareInt n1 n2)) ∧ Below w.heap.size w w' := by
 obtain ⟨r, hr⟩ : ∃ R, R = Lib.compareInt n1 n2 := ⟨_, rfl⟩
 have HC := hide (fun W => hr ▸ Compare_any n1 n2 W)
 rw [← hr]
 clear hr
 obtain ⟨W, hW⟩ : ∃ W, W = (w.alloc (.cells #[.int .i64 i1, .slice a1 n1 c1] 52)).alloc (.cells #[.int .i64 i2, .slice a2 n2 c2] 52) := ⟨_, rfl⟩
 have q0 : W.cell? ⟨w.heap.size, 0, none⟩ = some (.int .i64 i1) := by rw [hW]; simp
 have q1 : W.cell? ⟨w.heap.size, 1, none⟩ = some (.slice a1 n1 c1) := by rw [hW]; simp
 have q2 : W.cell? ⟨w.heap.size + 1, 0, none⟩ = some (.int .i64 i2) := by rw [hW]; simp
 have q3 : W.cell? ⟨w.heap.size + 1, 1, none⟩ = some (.slice a2 n2 c2) := by rw [hW]; simp
 have b0 : Below w.heap.size w W := by rw [hW]; ((with_reducible repeat' first | exact .refl _ _ | refine .alloc ?_ ?_ _ | refine .setCell ?_ ?_ _ | refine .drew ?_ | refine below_drewN ?_ _) <;> first | omega | simp <;> omega)
 have hz : w.heap.size + 1 < W.heap.size := by rw [hW]; simp
 have hz2 : w.heap.size < W.heap.size := by omega
 go_enter Tryz.func63, Tryz.ntmps63
 go_upto_region 1 with fail
 rw [← hW]
 clear hW
 have zd : W.drew.heap.size = W.heap.size := rfl
 have HA := hide (fun (V : World) (hV : Below W.heap.size W V) => And.intro ((hV.cell (p := ⟨_, _, none⟩) hz2).trans q0) (And.intro ((hV.cell (p := ⟨_, _, none⟩) hz2).trans q1) (And.intro ((hV.cell (p := ⟨_, _, none⟩) hz).trans q2) ((hV.cell (p := ⟨_, _, none⟩) hz).trans q3))))
 go_region_held3 (fun V => V.cell? ⟨w.heap.size, 0, none⟩ = some (.int .i64 i1) ∧ V.cell? ⟨w.heap.size, 1, none⟩ = some (.slice a1 n1 c1) ∧ V.cell? ⟨w.heap.size + 1, 0, none⟩ = some (.int .i64 i2) ∧ V.cell? ⟨w.heap.size + 1, 1, none⟩ = some (.slice a2 n2 c2)) (exact HA.out _ (by ((with_reducible repeat' first | exact .refl _ _ | exact k2 | exact k1 | refine .alloc ?_ ?_ _ | refine .setCell ?_ ?_ _ | refine .drew ?_ | refine below_drewN ?_ _ | refine Below.trans ?_ (k2.mono ?_) | refine Below.trans ?_ (k1.mono ?_)) <;> first | omega | simp <;> omega)))
  (first | (go_at_call 27; (with_reducible refine (csize_any i1 a1 n1 c1 _).mono ?_); rintro e w1 ⟨rfl, k1⟩; have z1 := k1.size) | (go_at_call 27; (with_reducible refine (csize_any i2 a2 n2 c2 _).mono ?_); rintro e w2 ⟨rfl, k2⟩; have z2 := k2.size) | (go_at_call 64; (with_reducible refine (HC.out _).mono ?_); rintro e w3 ⟨rfl, rfl⟩))
 all_goals
  go_wp2_with fail
  go_ret
  refine ⟨rfl, (by ((with_reducible repeat' first | exact .refl _ _ | exact k2 | exact k1 | exact b0 | refine .alloc ?_ ?_ _ | refine .setCell ?_ ?_ _ | refine .drew ?_ | refine below_drewN ?_ _ | refine Below.trans ?_ (k2.mono ?_) | refine Below.trans ?_ (k1.mono ?_) | refine Below.trans ?_ (b0.mono ?_)) <;> first | omega | simp <;> omega))⟩
set_option maxHeartbeats 2000000 in
set_option maxRecDepth 100000 in
set_option maxHeartbeats 400000 in
theorem MaxFunc_any (v : Value) (l : List Cp) (w : World) (h : CpR w v l) (h1 : 1 ≤ l.length) (hl : l.length ≤ 100) :
  Calls Tryz.prog 62 #[v, .func (.func 63) #[] #[]] w fun e w' => (∃ (m : Nat) (lv : Value), e = .returned (.agg #[.int .i64 (cpAt l m).id, lv]) ∧ m < l.length ∧ TxR w' lv (cpAt l m).log ∧ ∀ i, i < l.length → (cpAt l i).log.length ≤ (cpAt l m).log.length) ∧ Below w.heap.size w w' := by
 have HI := hide h
 obtain ⟨b, off, cap, lv0, rfl, hlt0, x0, x1, hr0⟩ := CpR.at_ h (i := 0) (by omega)
 obtain ⟨a0, c0, rfl, -⟩ := hr0.len
 simp only [Nat.zero_mul, Nat.add_zero] at x0 x1
 have HR0 := hide hr0
 obtain ⟨C0, hC0⟩ : ∃ c, c = cpAt l 0 := ⟨_, rfl⟩
 rw [← hC0] at x0 x1 HR0
 obtain ⟨i0, L0⟩ := C0
 dsimp only at x0 x1 HR0
 have HC0 := hide hC0
 have d1 : decide ((l.length : Int) < 1) = false := decide_eq_false (by omega)
 clear h hr0 hC0
 go_enter Tryz.func62, Tryz.ntmps62
 obtain ⟨W, hW⟩ : ∃ V, V = (w.alloc (.cells #[.int .i64 0, .slice none 0 0] 52)).alloc (.cells #[.int .i64 i0, .slice a0 L0.length c0] 52) := ⟨_, rfl⟩
 have ha : BxC W w.heap.size [.int .i64 0, .slice none 0 0] := by rw [hW]; exact (BxC.made w _ _).alloc _
 have hb : BxC W (w.heap.size + 1) [.int .i64 i0, .slice a0 L0.length c0] := by
  have h_ := BxC.made (w.alloc (.cells #[.int .i64 0, .slice none 0 0] 52)) [.int .i64 i0, .slice a0 L0.length c0] 52
  rw [World.size_alloc] at h_
  rw [hW]; exact h_
 have hB : Below w.heap.size w W := by rw [hW]; ((with_reducible repeat' first | exact .refl _ _ | refine .alloc ?_ ?_ _ | refine .setCell ?_ ?_ _ | refine .drew ?_ | refine below_drewN ?_ _) <;> first | omega | simp <;> omega)
 have I0 : (0 : Int) < (l.length : Int) := by omega
 go_upto_region 4 with fail
 rw [← hW]
 clear hW
 go_wp2_with fail
 go_loopw [6] (fun s6 wx => ∃ (k m : Nat) (i : Int) (lv : Value) (L : List Tx), 1 ≤ k ∧ k ≤ l.length ∧ s6 = .int .i64 k ∧ m < l.length ∧ Hid (BxC wx (w.heap.size + 1) [.int .i64 i, lv]) ∧ Hid (TxR w lv L ∧ cpAt l m = ⟨i, L⟩ ∧ ∀ j, j < k → (cpAt l j).log.length ≤ L.length) ∧ Hid (BxC wx w.heap.size [.int .i64 0, .slice none 0 0]) ∧ Below w.heap.size w wx) (fun s6 _ => l.length - (intOf s6).toNat)
 case atStart => exact ⟨1, 0, i0, _, L0, Nat.le_refl _, h1, rfl, by omega, hide hb, hide ⟨HR0.out, HC0.out.symm, fun j hj => by obtain rfl : j = 0 := (by omega); rw [← HC0.out]; exact Nat.le_refl _⟩, hide ha, hB⟩
 case round =>
  clear ha hb hB HR0 HC0 x0 x1
  obtain ⟨k, m, im, lv, Lm, hk1, hk, rfl, hm, HX, HT, HA0, hB⟩ := hrel
  obtain ⟨am, cm, rfl, -⟩ := HT.out.1.len
  have hb := HX.out
  have hz := hB.size
  by_cases hlt : k < l.length
  ·obtain ⟨b', off', cap', lk, hbv, hlt1, y0', y1', hrk⟩ := CpR.at_ HI.out (i := k) hlt
   cases hbv
   obtain ⟨ak, ck, rfl, -⟩ := hrk.len
   have y0 := (hB.cell (p := ⟨_, _, none⟩) hlt1).trans y0'
   have y1 := (hB.cell (p := ⟨_, _, none⟩) hlt1).trans y1'
   have HRk := hide hrk
   obtain ⟨Ck, hCk⟩ : ∃ c, c = cpAt l k := ⟨_, rfl⟩
   rw [← hCk] at y0 y1 HRk
   obtain ⟨ik, Lk⟩ := Ck
   dsimp only at y0 y1 HRk
   have HCk := hide hCk
   obtain ⟨r, hr⟩ : ∃ r, r = Lib.compareInt (Lk.length : Int) (Lm.length : Int) := ⟨_, rfl⟩
   have hrp := cmpI_pos (Lk.length : Int) (Lm.length : Int)
   rw [← hr] at hrp
   have HC := hide (fun (V : World) => hr ▸ cValid1_any ik im ak am Lk.length Lm.length ck cm V)
   have HP := hide hrp
   have chb_0 := hb.1 0 _ rfl; have chb_1 := hb.1 1 _ rfl; have fhb := hb.2.1; have zhb := hb.2.2
   have I1 : (0 : Int) ≤ (k : Int) := by omega
   have I2 : (k : Int) < (l.length : Int) := by omega
   have hwb : b < wr.heap.size := by omega
   have zd : wr.drew.heap.size = wr.heap.size := rfl
   clear y0' y1' hrk hCk hrp hr
   go_upto_region 7 with fail
   have HA := hide (fun (V : World) (hV : Below wr.heap.size wr V) => And.intro ((hV.cell (p := ⟨_, _, none⟩) hwb).trans y0) (And.intro ((hV.cell (p := ⟨_, _, none⟩) hwb).trans y1) (And.intro ((hV.cell (p := ⟨_, _, none⟩) zhb).trans chb_0) ((hV.cell (p := ⟨_, _, none⟩) zhb).trans chb_1))))
   go_region_held3 (fun V => V.cell? ⟨b, off + k * 2, none⟩ = some (.int .i64 ik) ∧ V.cell? ⟨b, off + k * 2 + 1, none⟩ = some (.slice ak Lk.length ck) ∧ V.cell? ⟨w.heap.size + 1, 0, none⟩ = some (.int .i64 im) ∧ V.cell? ⟨w.heap.size + 1, 1, none⟩ = some (.slice am Lm.length cm)) (exact HA.out _ (by ((with_reducible repeat' first | exact .refl _ _ | exact k1 | refine .alloc ?_ ?_ _ | refine .setCell ?_ ?_ _ | refine .drew ?_ | refine below_drewN ?_ _ | refine Below.trans ?_ (k1.mono ?_)) <;> first | omega | simp <;> omega)))
    ((go_at_call 63; (with_reducible refine (HC.out _).mono ?_); rintro e w1 ⟨rfl, k1⟩; have z1 := k1.size))
   have K1 : Below wr.heap.size wr w1 := (by ((with_reducible repeat' first | exact .refl _ _ | exact k1 | refine .alloc ?_ ?_ _ | refine .setCell ?_ ?_ _ | refine .drew ?_ | refine below_drewN ?_ _ | refine Below.trans ?_ (k1.mono ?_)) <;> first | omega | simp <;> omega))
   have B1 : Below w.heap.size w w1 := hB.trans (K1.mono hz)
   have t_ := hb.below hb.2.2 K1
   clear chb_0 chb_1 fhb zhb hb
   have hb := t_
   clear t_
   have HA1 := hide (HA0.out.below HA0.out.2.2 K1)
   have z1' := K1.cell (p := ⟨b, off + k * 2, none⟩) hwb
   have z2' := K1.cell (p := ⟨b, off + k * 2 + 1, none⟩) hwb
   have y0n := z1'.trans y0
   have y1n := z2'.trans y1
   have chb_0 := hb.1 0 _ rfl; have chb_1 := hb.1 1 _ rfl; have fhb := hb.2.1; have zhb := hb.2.2
   clear y0 y1 z1' z2' k1 K1 HA0
   by_cases hr0 : 0 < r
   ·have e0 : decide (0 < r) = true := decide_eq_true hr0
    have hle := HP.out.1 hr0
    go_wp2_with fail
    go_roundw
    case rel => exact ⟨k + 1, k, ik, .slice ak Lk.length ck, Lk, by omega, by omega, by go_num, hlt, hide ((hb.set 0 _ (by simp)).set 1 _ (by simp)), hide ⟨HRk.out, HCk.out.symm, fun j hj => by
      rcases Nat.lt_or_ge j k with h1 | h1
      ·have := HT.out.2.2 j h1
       omega
      ·obtain rfl : j = k := (by omega)
       rw [← HCk.out]
       exact Nat.le_refl _⟩, hide ((HA1.out.setNe (p := ⟨w.heap.size + 1, 0, none⟩) (by dsimp only; omega) _).setNe (p := ⟨w.heap.size + 1, 1, none⟩) (by dsimp only; omega) _), (B1.setCell (p := ⟨w.heap.size + 1, 0, none⟩) (Nat.le_succ _) _).setCell (p := ⟨w.heap.size + 1, 1, none⟩) (Nat.le_succ _) _⟩
    case measure => simp [intOf]; omega
   ·have e0 : decide (0 < r) = false := decide_eq_false hr0
    have hle : ¬ (Lm.length : Int) < (Lk.length : Int) := fun h => hr0 (HP.out.2 h)
    go_wp2_with fail
    go_roundw
    case rel => exact ⟨k + 1, m, im, .slice am Lm.length cm, Lm, by omega, by omega, by go_num, hm, hide hb, hide ⟨HT.out.1, HT.out.2.1, fun j hj => by
      rcases Nat.lt_or_ge j k with h1 | h1
      ·exact HT.out.2.2 j h1
      ·obtain rfl : j = k := (by omega)
       rw [← HCk.out]
       show Lk.length ≤ _
       omega⟩, HA1, B1⟩
    case measure => simp [intOf]; omega
  ·obtain rfl : k = l.length := by omega
   have ha := HA0.out
   have cha_0 := ha.1 0 _ rfl; have cha_1 := ha.1 1 _ rfl; have fha := ha.2.1; have zha := ha.2.2
   have chb_0 := hb.1 0 _ rfl; have chb_1 := hb.1 1 _ rfl; have fhb := hb.2.1; have zhb := hb.2.2
   go_wp2_with fail
   have e2 := (ha.set 0 (.int .i64 im) (by simp)).set 1 (.slice am Lm.length cm) (by simp)
   have bV := (hB.setCell (p := ⟨w.heap.size, 0, none⟩) (Nat.le_refl _) (.int .i64 im)).setCell (p := ⟨w.heap.size, 1, none⟩) (Nat.le_refl _) (.slice am Lm.length cm)
   have HRm := HT.out.1.below (Nat.le_refl _) bV
   generalize (wr.setCell ⟨w.heap.size, 0, none⟩ (.int .i64 im)).setCell ⟨w.heap.size, 1, none⟩ (.slice am Lm.length cm) = V at *
   dsimp only [List.set] at e2
   have q0 := e2.1 0 _ rfl
   have q1 := e2.1 1 _ rfl
   have HF := hide (And.intro HT.out.2 HRm)
   have HB := hide bV
   clear HRm bV
   refine bodyPost_ret (v := .agg #[.int .i64 im, .slice am Lm.length cm]) (by simp [results, Tryz.results62, go_sem, q0, q1]) rfl ⟨⟨m, .slice am Lm.length cm, by rw [HF.out.1.1], hm, by rw [HF.out.1.1]; exact HF.out.2, fun i hi => by rw [HF.out.1.1]; exact HF.out.1.2 i hi⟩, HB.out⟩
end Go.Proofs.YthkoaecafmhlcaaGreat
