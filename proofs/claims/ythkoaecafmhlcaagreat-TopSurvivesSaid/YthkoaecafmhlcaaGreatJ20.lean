/- Parts TsM TsN of the proof, joined. -/
import Derived.Test.YthkoaecafmhlcaaGreatJ19
import Derived.Test.YthkoaecafmhlcaaGreatJ02
import Derived.Test.YthkoaecafmhlcaaGreatJ00
/- Package commit: newest (a map that the call makes). -/
namespace Go.Proofs.YthkoaecafmhlcaaGreat
open Go.RowKit
attribute [local go_sem ↓] run_max_mx run_min_mn
attribute [local simp] size_drewT

theorem wf_lit {x : Int} (h : -9223372036854775808 ≤ x ∧ x ≤ 9223372036854775807) : (Lit.int .i64 x).wf = true := by
 simpa [Lit.wf, IntKind.min, IntKind.max, IntKind.signed, IntKind.bits] using h
def TsM (m : Int → Int) : Prop := ∀ y, 0 ≤ m y ∧ m y ≤ 3000000000000000
theorem TsM.put {m : Int → Int} (h : TsM m) (k v : Int) (hv : 0 ≤ v ∧ v ≤ 3000000000000000) : TsM (fun y => if y = k then v else m y) := fun y => by
 dsimp only
 split
 ·exact hv
 ·exact h y
set_option maxRecDepth 100000 in
set_option maxHeartbeats 2000000 in
theorem newest_any (stv opv : Value) (L : Ld) (w : World) (h : LdRd w stv opv L) (hL : VL L) :
  Calls Tryz.prog 49 #[valL stv opv L.last] w fun e w' => (∃ b n m, e = .returned (.map (some b)) ∧ OwnM w' b n m ∧ w.heap.size ≤ b) ∧ Below w.heap.size w w' := by
 have HO := hide (fun (V : World) (hV : Below w.heap.size w V) => h.below (Nat.le_refl _) hV)
 have HL := hide hL
 obtain ⟨last, S, O⟩ := L
 dsimp only at *
 obtain ⟨a1, cap1, rfl, -⟩ := id h.1
 obtain ⟨a2, cap2, rfl, o1, o2⟩ := h.2.len
 dsimp only [valL] at *
 have hS : S.length ≤ 4000 := by have := hL.2.2.2.2.1; dsimp only at this; omega
 have hO : O.length ≤ 2000 := hL.2.2.2.1
 obtain ⟨W, hW⟩ : ∃ V, V = (w.alloc (.cells #[.int .i64 last, .slice a1 S.length cap1, .slice a2 O.length cap2] 38)).alloc (.map #[] 0) := ⟨_, rfl⟩
 have hbx : BxC W w.heap.size [.int .i64 last, .slice a1 S.length cap1, .slice a2 O.length cap2] := by rw [hW]; exact (BxC.made w _ _).alloc _
 have hM0 : OwnM W (w.heap.size + 1) 0 (fun _ => 0) := by
  have h_ := ownM_made (w.alloc (.cells #[.int .i64 last, .slice a1 S.length cap1, .slice a2 O.length cap2] 38))
  simp only [World.size_alloc] at h_
  rw [hW]
  exact h_
 have b0 : Below (w.heap.size + 1) (w.alloc (.cells #[.int .i64 last, .slice a1 S.length cap1, .slice a2 O.length cap2] 38)) W := by rw [hW]; ((with_reducible repeat' first | exact .refl _ _ | refine .alloc ?_ ?_ _ | refine .setCell ?_ ?_ _ | refine .drew ?_ | refine below_drewN ?_ _) <;> first | omega | simp <;> omega)
 have b00 : Below w.heap.size w W := by rw [hW]; ((with_reducible repeat' first | exact .refl _ _ | refine .alloc ?_ ?_ _ | refine .setCell ?_ ?_ _ | refine .drew ?_ | refine below_drewN ?_ _) <;> first | omega | simp <;> omega)
 have zW : w.heap.size + 1 < W.heap.size := by rw [hW]; simp
 have HB := hide (fun (V : World) (hV : Below (w.heap.size + 1) W V) => hbx.below (Nat.lt_succ_self _) hV)
 have HB0 := hide b00
 have c1 := hbx.1 1 _ rfl
 clear h hL hbx b0 b00
 have hmm := @run_makeMap Tryz.prog
 go_enter Tryz.func49, Tryz.ntmps49
 go_upto_region 2 with fail
 rw [← hW]
 clear hW
 go_wp2_with fail
 clear c1
 go_loopw [14] (fun s14 wx => ∃ (k n : Nat) (m : Int → Int), k ≤ S.length ∧ s14 = .int .i64 k ∧ n ≤ k ∧ Hid (OwnM wx (w.heap.size + 1) n m ∧ TsM m) ∧ W.heap.size ≤ wx.heap.size ∧ Below (w.heap.size + 1) W wx) (fun s14 _ => S.length - (intOf s14).toNat)
 case atStart => exact ⟨0, 0, _, Nat.zero_le _, rfl, Nat.le_refl _, hide ⟨hM0, fun y => by omega⟩, Nat.le_refl _, .refl _ _⟩
 case round =>
  clear hM0
  obtain ⟨k, n, m, hk, rfl, hn, HM, hz, hB⟩ := hrel
  have hbx := HB.out wr hB
  by_cases hlt : k < S.length
  ·obtain ⟨b, off, cap', hb, hlt0, x0, x1, x2, x3⟩ := VRow.at_ (HO.out wr (HB0.out.trans (hB.mono (by omega)))).1 (i := k) hlt
   cases hb
   have hwf := HL.out.2.1 _ (vAt_mem hlt)
   obtain ⟨⟨ek, et, ex, eg⟩, hev⟩ : ∃ v, v = vAt S k := ⟨_, rfl⟩
   dsimp only at x0 x1 x2 x3 hwf
   rw [← hev] at x0 x1 x2 x3 hwf
   dsimp only at x0 x1 x2 x3
   obtain ⟨hw1, hw2, -⟩ := hwf
   dsimp only at hw1 hw2
   have I1 : (0 : Int) ≤ (k : Int) := by omega
   have I2 : (k : Int) < (S.length : Int) := by omega
   have hbA : Below wr.heap.size wr (wr.alloc (.cells #[.int .i64 ek, .int .i64 et, .int .i64 ex, .bool eg] 64)) := (by ((with_reducible repeat' first | exact .refl _ _ | refine .alloc ?_ ?_ _ | refine .setCell ?_ ?_ _ | refine .drew ?_ | refine below_drewN ?_ _) <;> first | omega | simp <;> omega))
   have hM1 := HM.out.1.below hbA (HM.out.1.lt)
   have hlk := hM1.look ek (wf_lit (by omega))
   have hmx := mx_spec (m ek) et
   have hmr := HM.out.2 ek
   have HT := hide (HM.out.2.put ek (mx (m ek) et) (by omega))
   have HV1 := hide (wf_lit (x := ek) (by omega))
   have HV2 := hide (wf_lit (x := mx (m ek) et) (by omega))
   have HM1 := hide hM1
   have HbA := hide hbA
   clear hev hw1 hw2 hM1 hmx hmr hbx hbA
   go_wp2_with (at_mapUpdate; refine wpList_set_ownM _ rfl _ _ _ rfl (w.heap.size + 1) n _ rfl HM1.out (by unfold maxLen; omega) _ (mx (m ek) et) rfl rfl HV1.out HV2.out ?_; intro w5 hM5 hg5; have hz5 := hg5.size)
   have hB5 : Below (w.heap.size + 1) W w5 := Below.grown (show Below (w.heap.size + 1) W (wr.alloc (.cells #[.int .i64 ek, .int .i64 et, .int .i64 ex, .bool eg] 64)) from hB.trans (HbA.out.mono (by omega))) hg5 (by simp only [World.size_alloc]; omega) (fun r h => by cases h; exact Nat.le_refl _)
   have hzz : W.heap.size ≤ w5.heap.size := by simp only [World.size_alloc] at hz5; omega
   have HMn := hide (And.intro hM5 HT.out)
   clear hM5 hg5
   go_wp2_with fail
   go_roundw
   case rel => exact ⟨k + 1, n + 1, _, by omega, by go_num, by omega, HMn, hzz, hB5⟩
   case measure => simp [intOf]; omega
  ·obtain rfl : k = S.length := by omega
   have c2 := hbx.1 2 _ rfl
   have hzb := hbx.2.2
   clear hbx
   go_wp2_with fail
   clear c2
   go_loopw [32] (fun s32 wx => ∃ (k n : Nat) (m : Int → Int), k ≤ O.length ∧ s32 = .int .i64 k ∧ n ≤ 4000 + 8 * k ∧ Hid (OwnM wx (w.heap.size + 1) n m ∧ TsM m) ∧ W.heap.size ≤ wx.heap.size ∧ Below (w.heap.size + 1) W wx) (fun s32 _ => O.length - (intOf s32).toNat)
   case atStart => exact ⟨0, n, m, Nat.zero_le _, rfl, by omega, HM, hz, hB⟩
   case round =>
    clear HM hz hB hn hk hzb
    clear n m
    obtain ⟨k, n, m, hk, rfl, hn, HM, hz, hB⟩ := hrel
    by_cases hlt : k < O.length
    ·obtain ⟨b, off, cap', rv, wv, hb, hlt0, y0, y1, y2, y3, hrd⟩ := TxR.at_ (HO.out w (Below.refl _ _)).2 (i := k) hlt
     cases hb
     have hBw : Below w.heap.size w wr := HB0.out.trans (hB.mono (Nat.le_succ _))
     have x0 := (hBw.cell (p := ⟨b, off + k * 4, none⟩) hlt0).trans y0
     have x1 := (hBw.cell (p := ⟨b, off + k * 4 + 1, none⟩) hlt0).trans y1
     have x2 := (hBw.cell (p := ⟨b, off + k * 4 + 2, none⟩) hlt0).trans y2
     have x3 := (hBw.cell (p := ⟨b, off + k * 4 + 3, none⟩) hlt0).trans y3
     clear y0 y1 y2 y3 hBw
     have hfm := (HL.out.2.2.2.2.2.1.2 _ (txAt_mem hlt)).1
     obtain ⟨ar, cr, rfl, -⟩ := id hrd.1
     obtain ⟨aw, cw, rfl, -⟩ := id hrd.2
     generalize htx : txAt O k = T at *
     obtain ⟨ti, tt, rl, wl⟩ := T
     dsimp only at x0 x1 x2 x3 hrd hfm
     have hl8 : wl.length ≤ 8 := hfm.2.2.2.2.2
     have htr : 0 ≤ tt ∧ tt ≤ 3000000000000000 := hfm.2.2.2.1
     have HFm := hide hfm.2.1
     obtain ⟨X, hX⟩ : ∃ V, V = wr.alloc (.cells #[.int .i64 ti, .int .i64 tt, .slice ar rl.length cr, .slice aw wl.length cw] 28) := ⟨_, rfl⟩
     obtain ⟨Qb, hQb⟩ : ∃ Q, Q = wr.heap.size := ⟨_, rfl⟩
     have hbX : BxC X Qb [.int .i64 ti, .int .i64 tt, .slice ar rl.length cr, .slice aw wl.length cw] := by rw [hX, hQb]; exact BxC.made wr _ _
     have bX : Below wr.heap.size wr X := by rw [hX]; ((with_reducible repeat' first | exact .refl _ _ | refine .alloc ?_ ?_ _ | refine .setCell ?_ ?_ _ | refine .drew ?_ | refine below_drewN ?_ _) <;> first | omega | simp <;> omega)
     have hMX := HM.out.1.below bX HM.out.1.lt
     have zX := bX.size
     have HMX := hide (And.intro hMX HM.out.2)
     have HWr := hide (fun (V : World) (hV : Below w.heap.size w V) => hrd.2.below (Nat.le_refl _) hV)
     have hzX := hbX.2.2
     have cX3 := hbX.1 3 _ rfl
     have HbX := hide hbX
     have HBX := hide (hB.trans (bX.mono (show w.heap.size + 1 ≤ wr.heap.size by omega)))
     have HbX0 := hide bX
     have I1 : (0 : Int) ≤ (k : Int) := by omega
     have I2 : (k : Int) < (O.length : Int) := by omega
     clear hfm htx hrd hbX bX hMX HM
     go_upto_region 10 with fail
     have hzQ : w.heap.size + 1 < Qb := by omega
     rw [← hX, ← hQb]
     clear hX hQb
     go_wp2_with fail
     clear cX3
     go_loopw [39] (fun s39 wx => ∃ (j n : Nat) (m : Int → Int), j ≤ wl.length ∧ s39 = .int .i64 j ∧ n ≤ 4000 + 8 * k + j ∧ Hid (OwnM wx (w.heap.size + 1) n m ∧ TsM m) ∧ Hid (X.grownBy wx (some (w.heap.size + 1))) ∧ X.heap.size ≤ wx.heap.size) (fun s39 _ => wl.length - (intOf s39).toNat)
     case atStart => exact ⟨0, n, m, Nat.zero_le _, rfl, by omega, HMX, hide (World.grownBy.refl X _), Nat.le_refl _⟩
     case round =>
      clear HMX
      clear hn n m
      obtain ⟨j, n, m, hj, rfl, hn, HM, HG, hzx⟩ := hrel
      have hzw : w.heap.size + 1 < X.heap.size := by omega
      have hBr : Below (w.heap.size + 1) W wr := Below.grown HBX.out HG.out (by omega) (fun r h => by cases h; exact Nat.le_refl _)
      by_cases hjl : j < wl.length
      ·obtain ⟨b', off', cap3, hb, hlt1, u0, u1, u2⟩ := WRow.at_ (HWr.out wr (HB0.out.trans (hBr.mono (Nat.le_succ _)))) (i := j) hjl
       cases hb
       have hw := HFm.out j hjl
       unfold WrI at hw
       obtain ⟨⟨ek, ex, eg⟩, hel⟩ : ∃ x, x = wAt wl j := ⟨_, rfl⟩
       rw [← hel] at u0 u1 u2 hw
       dsimp only at u0 u1 u2 hw
       have hek := hw.1
       have zq := HbX.out.2.2
       have cQ1 : wr.cell? ⟨Qb, 1, none⟩ = some (.int .i64 tt) := (World.cell?_of_block (a := ⟨Qb, 1, none⟩) (HG.out.block Qb zq (by simp; omega))).trans (HbX.out.1 1 _ rfl)
       have zQr : Qb < wr.heap.size := by omega
       have J1 : (0 : Int) ≤ (j : Int) := by omega
       have J2 : (j : Int) < (wl.length : Int) := by omega
       have hbA : Below wr.heap.size wr (wr.alloc (.cells #[.int .i64 ek, .int .i64 ex, .bool eg] 74)) := (by ((with_reducible repeat' first | exact .refl _ _ | refine .alloc ?_ ?_ _ | refine .setCell ?_ ?_ _ | refine .drew ?_ | refine below_drewN ?_ _) <;> first | omega | simp <;> omega))
       have HM1 := hide (HM.out.1.below hbA HM.out.1.lt)
       have HT := hide (HM.out.2.put ek tt htr)
       have HV1 := hide (wf_lit (x := ek) (by omega))
       have HV2 := hide (wf_lit (x := tt) (by omega))
       have HbA := hide hbA
       have HGA := hide (HG.out)
       have HBr := hide hBr
       clear hel hw hek hbA HM HG hBr
       go_wp2_with (at_mapUpdate; refine wpList_set_ownM _ rfl _ _ _ rfl (w.heap.size + 1) n _ rfl HM1.out (by unfold maxLen; omega) _ tt rfl rfl HV1.out HV2.out ?_; intro w5 hM5 hg5; have hz5 := hg5.size)
       have hg6 : X.grownBy w5 (some (w.heap.size + 1)) := by
        refine ⟨hg5.os.trans (HbA.out.os.trans HGA.out.os), hg5.tape.trans (HbA.out.tape.trans HGA.out.tape), hg5.output.trans (HbA.out.output.trans HGA.out.output), by simp only [World.size_alloc] at hz5; omega, fun q hq hne => ?_⟩
        rw [hg5.block q (by simp only [World.size_alloc]; omega) hne, HbA.out.block q (by omega), HGA.out.block q hq hne]
       have HMn := hide (And.intro hM5 HT.out)
       have HGn := hide hg6
       have hzz : X.heap.size ≤ w5.heap.size := hg6.size
       clear hM5 hg5 hg6
       go_wp2_with fail
       go_roundw
       case rel => exact ⟨j + 1, n + 1, _, by omega, by go_num, by omega, HMn, HGn, hzz⟩
       case measure => simp [intOf]; omega
      ·obtain rfl : j = wl.length := by omega
       have HMn := HM
       have HBr := hide hBr
       have hzz : W.heap.size ≤ wr.heap.size := by omega
       clear HM HG
       go_wp2_with fail
       go_roundw
       case rel => exact ⟨k + 1, n, m, by omega, by go_num, by omega, HMn, hzz, HBr.out⟩
       case measure => simp [intOf]; omega
    ·obtain rfl : k = O.length := by omega
     go_wp2_with fail
     go_ret
     exact ⟨⟨_, _, _, rfl, HM.out.1, by omega⟩, HB0.out.trans (hB.mono (Nat.le_succ _))⟩
end Go.Proofs.YthkoaecafmhlcaaGreat
/- Package commit: the functions inside Stamp. -/
namespace Go.Proofs.YthkoaecafmhlcaaGreat
open Go.RowKit
attribute [local go_sem ↓] run_max_mx run_min_mn
attribute [local simp] size_drewT

abbrev zeroL : Value := .agg #[.int .i64 0, .slice none 0 0, .slice none 0 0]
abbrev zeroT : Value := .agg #[.int .i64 0, .int .i64 0, .slice none 0 0, .slice none 0 0]
set_option maxRecDepth 100000 in
set_option maxHeartbeats 1000000 in
theorem Stamp1_any (x : Int) (w : World) : Calls Tryz.prog 47 #[.int .i64 x] w fun e w' => e = .returned (.tuple #[zeroL, zeroT, .int .i64 x]) ∧ Below w.heap.size w w' := by
 go_enter Tryz.func47, Tryz.ntmps47
 go_wp2_with fail
 refine bodyPost_ret (v := .tuple #[zeroL, zeroT, .int .i64 x]) (by simp [results, Tryz.results47, go_sem, zeroL, zeroT]) rfl ⟨rfl, (by ((with_reducible repeat' first | exact .refl _ _ | refine .alloc ?_ ?_ _ | refine .setCell ?_ ?_ _ | refine .drew ?_ | refine below_drewN ?_ _) <;> first | omega | simp <;> omega))⟩
def RetB (e : Ending) : Prop := ∃ r : Bool, e = .returned (.bool r)
set_option maxRecDepth 100000 in
set_option maxHeartbeats 1000000 in
theorem Stamp2_any (sk st : Int) (kb b n : Nat) (m : Int → Int) (w : World) (hk : w.cell? ⟨kb, 0, none⟩ = some (.map (some b))) (hM : OwnM w b n m) (h1 : 1 ≤ sk ∧ sk ≤ 1000) :
  Calls Tryz.prog 51 #[.agg #[.int .i64 sk, .int .i64 st], .pointer (some ⟨kb, 0, none⟩)] w fun e w' => RetB e ∧ Below w.heap.size w w' := by
 have hlt := World.block_lt_of_cell? _ _ hk
 have hbA : Below w.heap.size w (w.alloc (.cells #[.int .i64 sk, .int .i64 st] 113)) := (by ((with_reducible repeat' first | exact .refl _ _ | refine .alloc ?_ ?_ _ | refine .setCell ?_ ?_ _ | refine .drew ?_ | refine below_drewN ?_ _) <;> first | omega | simp <;> omega))
 have hlk := (hM.below hbA hM.lt).look sk (wf_lit (by omega))
 have hk2 := (hbA.cell (p := ⟨kb, 0, none⟩) hlt).trans hk
 clear hM h1 hbA
 go_enter Tryz.func51, Tryz.ntmps51
 go_wp2_with fail
 go_ret
 exact ⟨⟨_, rfl⟩, (by ((with_reducible repeat' first | exact .refl _ _ | refine .alloc ?_ ?_ _ | refine .setCell ?_ ?_ _ | refine .drew ?_ | refine below_drewN ?_ _) <;> first | omega | simp <;> omega))⟩
set_option maxRecDepth 100000 in
set_option maxHeartbeats 1000000 in
theorem IndexFuncSn_any (v : Value) (l : List (Int × Int)) (kb b n : Nat) (m : Int → Int) (w : World) (hv : SRow w v l) (hl : ∀ i, i < l.length → 1 ≤ (l.getD i (0, 0)).1 ∧ (l.getD i (0, 0)).1 ≤ 1000) (hk : w.cell? ⟨kb, 0, none⟩ = some (.map (some b))) (hM : OwnM w b n m) :
  Calls Tryz.prog 88 #[v, .func (.func 51) #[] #[.pointer (some ⟨kb, 0, none⟩)]] w fun e w' => (∃ r : Int, e = .returned (.int .i64 r) ∧ -9223372036854775808 ≤ r ∧ r ≤ 9223372036854775807) ∧ Below w.heap.size w w' := by
 have hlt := World.block_lt_of_cell? _ _ hk
 have HC := hide (fun (i : Nat) (hi : i < l.length) (V : World) (hV : Below w.heap.size w V) => Stamp2_any (l.getD i (0, 0)).1 (l.getD i (0, 0)).2 kb b n m V ((hV.cell (p := ⟨kb, 0, none⟩) hlt).trans hk) (hM.below hV hM.lt) (hl i hi))
 have HV := hide (fun (V : World) (hV : Below w.heap.size w V) => Rws.below hv (Nat.le_refl _) hV)
 obtain ⟨a, cap, rfl, h1, h2, -⟩ := id hv
 clear hv hk hM hl
 go_enter Tryz.func88, Tryz.ntmps88
 go_wp2_with fail
 go_loopw [8] (fun s8 wr => ∃ k : Nat, k ≤ l.length ∧ s8 = .int .i64 k ∧ Below w.heap.size w wr) (fun s8 _ => l.length - (intOf s8).toNat)
 case atStart => exact ⟨0, Nat.zero_le _, rfl, .refl _ _⟩
 case round =>
  obtain ⟨k, hk, rfl, hB⟩ := hrel
  by_cases hlt : k < l.length
  ·obtain ⟨b', off, cap', hb, hlt0, x0, x1⟩ := SRow.at_ (HV.out wr hB) (i := k) hlt
   cases hb
   have HC2 := hide (HC.out k hlt wr hB)
   generalize (l.getD k (0, 0)).1 = sk at *
   generalize (l.getD k (0, 0)).2 = st at *
   have I1 : (0 : Int) ≤ (k : Int) := by omega
   have I2 : (k : Int) < (l.length : Int) := by omega
   have hz := hB.size
   go_wp2_with ((with_reducible refine HC2.out.mono ?_); rintro e w1 ⟨⟨r, rfl⟩, b1⟩)
   ·go_ret
    exact ⟨⟨_, rfl, by omega, by omega⟩, (by ((with_reducible repeat' first | exact .refl _ _ | exact b1 | exact hB | refine .alloc ?_ ?_ _ | refine .setCell ?_ ?_ _ | refine .drew ?_ | refine below_drewN ?_ _ | refine Below.trans ?_ (b1.mono ?_) | refine Below.trans ?_ (hB.mono ?_)) <;> first | omega | simp <;> omega))⟩
   ·go_roundw
    case rel => exact ⟨k + 1, by omega, by go_num, (by ((with_reducible repeat' first | exact .refl _ _ | exact b1 | exact hB | refine .alloc ?_ ?_ _ | refine .setCell ?_ ?_ _ | refine .drew ?_ | refine below_drewN ?_ _ | refine Below.trans ?_ (b1.mono ?_) | refine Below.trans ?_ (hB.mono ?_)) <;> first | omega | simp <;> omega))⟩
    case measure => simp [intOf]; omega
  ·go_wp2_with fail
   go_ret
   exact ⟨⟨_, rfl, by omega, by omega⟩, hB⟩
set_option maxRecDepth 100000 in
set_option maxHeartbeats 1000000 in
theorem ContainsFuncSn_any (v : Value) (l : List (Int × Int)) (kb b n : Nat) (m : Int → Int) (w : World) (hv : SRow w v l) (hl : ∀ i, i < l.length → 1 ≤ (l.getD i (0, 0)).1 ∧ (l.getD i (0, 0)).1 ≤ 1000) (hk : w.cell? ⟨kb, 0, none⟩ = some (.map (some b))) (hM : OwnM w b n m) :
  Calls Tryz.prog 50 #[v, .func (.func 51) #[] #[.pointer (some ⟨kb, 0, none⟩)]] w fun e w' => RetB e ∧ Below w.heap.size w w' := by
 have HI := hide (IndexFuncSn_any v l kb b n m w hv hl hk hM)
 obtain ⟨a, cap, rfl, -⟩ := id hv
 clear hv hl hk hM
 go_enter Tryz.func50, Tryz.ntmps50
 go_wp2_with (go_at_call 88; (with_reducible refine HI.out.mono ?_); rintro e w1 ⟨⟨r, rfl, r1, r2⟩, b1⟩)
 go_ret
 exact ⟨⟨_, rfl⟩, b1⟩
end Go.Proofs.YthkoaecafmhlcaaGreat
