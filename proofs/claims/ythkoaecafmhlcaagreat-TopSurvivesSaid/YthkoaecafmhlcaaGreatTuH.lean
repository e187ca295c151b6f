/- The statement's r14Around, r14Last. -/
import Derived.Test.YthkoaecafmhlcaaGreatTuG
namespace Go.Proofs.YthkoaecafmhlcaaGreat
open Go.RowKit
attribute [local go_sem ↓] run_max_mx run_min_mn
attribute [local simp] size_drewT
def arLo (a l : Int) : Int := mx 0 (a - l)
def arHi (a r : Int) : Int := mn 3000000000000000 (a + r)
set_option maxRecDepth 100000 in
set_option maxHeartbeats 400000 in
theorem Around_any (a l r : Int) (w : World) (ha : 0 ≤ a ∧ a ≤ 1000000000000) (hl : 0 ≤ l ∧ l ≤ 65535) (hr : 0 ≤ r ∧ r ≤ 65535) :
  Calls Tryz.prog 18 #[.int .i64 a, .int .u16 l, .int .u16 r] w fun e w' => e = .returned (.agg #[.int .i64 (arLo a l), .int .i64 (arHi a r)]) ∧ Below w.heap.size w w' := by
 have w1 : IntKind.i64.wrap l = l := by rw [IntKind.wrap_i64]; omega
 have w2 : IntKind.i64.wrap r = r := by rw [IntKind.wrap_i64]; omega
 have w3 : IntKind.i64.wrap (a - l) = a - l := by rw [IntKind.wrap_i64]; omega
 have w4 : IntKind.i64.wrap (a + r) = a + r := by rw [IntKind.wrap_i64]; omega
 obtain ⟨X, hX⟩ : ∃ x, x = arLo a l := ⟨_, rfl⟩
 obtain ⟨Y, hY⟩ : ∃ x, x = arHi a r := ⟨_, rfl⟩
 rw [← hX, ← hY]
 unfold arLo at hX
 unfold arHi at hY
 have HX := hide (And.intro hX hY)
 clear hX hY
 go_enter Tryz.func18, Tryz.ntmps18
 go_wp2_with fail
 exact bodyPost_ret (v := .agg #[.int .i64 (mx 0 (a - l)), .int .i64 (mn 3000000000000000 (a + r))]) (by simp [results, Tryz.results18, go_sem]) rfl ⟨by rw [HX.out.1, HX.out.2], (by ((with_reducible repeat' first | exact .refl _ _ | refine .alloc ?_ ?_ _ | refine .setCell ?_ ?_ _ | refine .drew ?_ | refine below_drewN ?_ _) <;> first | omega | simp <;> omega))⟩
theorem around_valid {a l r : Int} (ha : 0 ≤ a ∧ a ≤ 1000000000000) (hl : 0 ≤ l ∧ l ≤ 65535) (hr : 0 ≤ r ∧ r ≤ 65535) : validB (arLo a l) (arHi a r) = true ∧ arHi a r = a + r := by
 unfold arLo arHi
 refine ⟨(validB_iff _ _).2 ?_, ?_⟩
 ·unfold mx mn
  split <;> split <;> omega
 ·unfold mn
  split <;> omega
def rlA (L : List Tx) (k t : Int) (i j : Nat) : Ver := rlF ver0 (ShV L i j) k t
theorem rlA_succ {L : List Tx} {k t : Int} {i j : Nat} (hj : j < (txAt L i).wr.length) : rlA L k t i (j + 1) = (if (wAt (txAt L i).wr j).key = k ∧ (txAt L i).ts ≤ t then verW (txAt L i).ts (wAt (txAt L i).wr j) else rlA L k t i j) := by
 have hv : j < (vers (txAt L i)).length := by rw [vers_length]; exact hj
 have hvat : vAt (vers (txAt L i)) j = verW (txAt L i).ts (wAt (txAt L i).wr j) := by
  rw [vAt_lt hv, wAt_lt hj]
  simp [vers]
 unfold rlA ShV
 rw [take_snocT (vers (txAt L i)) ver0 j hv, ← List.append_assoc, rlF_append]
 show rlF _ [vAt (vers (txAt L i)) j] k t = _
 rw [hvat]
 rfl
theorem rlA_next {L : List Tx} {k t : Int} {i : Nat} (h : i < L.length) : rlA L k t i (txAt L i).wr.length = rlA L k t (i + 1) 0 := by
 unfold rlA
 rw [← shV_next h, vers_length]
theorem rlA_end (L : List Tx) (k t : Int) : rlA L k t L.length 0 = rlast (evs L) k t := by
 unfold rlA
 rw [shV_zero, List.take_length]
 rfl
set_option maxRecDepth 100000 in
set_option maxHeartbeats 4000000 in
theorem Last_any (v : Value) (L : List Tx) (key ts : Int) (w : World) (h : TxR w v L) (h8 : ∀ t, t ∈ L → t.wr.length ≤ 8) (hL : L.length ≤ 100) :
  Calls Tryz.prog 16 #[v, .int .i64 key, .int .i64 ts] w fun e w' => e = .returned (.tuple #[valV (atV (rlast (evs L) key ts)), .bool (atB (rlast (evs L) key ts))]) ∧ Below w.heap.size w w' := by
 rw [← rlA_end]
 have HI := hide (fun (V : World) (hV : Below w.heap.size w V) => h.below (Nat.le_refl _) hV)
 have H8 := hide h8
 obtain ⟨la, lc, rfl, -⟩ := h.len
 clear h h8
 obtain ⟨W, hW⟩ : ∃ V, V = (w.alloc (.cells #[.int .i64 0, .int .i64 0, .int .i64 0, .bool false] 64)).alloc (.cells #[.int .i64 0, .int .i64 0, .int .i64 0, .bool false] 64) := ⟨_, rfl⟩
 have ha : BxC W w.heap.size [.int .i64 0, .int .i64 0, .int .i64 0, .bool false] := by rw [hW]; exact (BxC.made w _ _).alloc _
 have hb : BxC W (w.heap.size + 1) [.int .i64 0, .int .i64 0, .int .i64 0, .bool false] := by
  have h_ := BxC.made (w.alloc (.cells #[.int .i64 0, .int .i64 0, .int .i64 0, .bool false] 64)) [.int .i64 0, .int .i64 0, .int .i64 0, .bool false] 64
  rw [World.size_alloc] at h_
  rw [hW]; exact h_
 have hB : Below w.heap.size w W := by rw [hW]; ((with_reducible repeat' first | exact .refl _ _ | refine .alloc ?_ ?_ _ | refine .setCell ?_ ?_ _ | refine .drew ?_ | refine below_drewN ?_ _) <;> first | omega | simp <;> omega)
 go_enter Tryz.func16, Tryz.ntmps16
 go_upto_region 2 with fail
 rw [← hW]
 clear hW
 go_wp2_with fail
 go_loopw [15] (fun s15 wx => ∃ (i : Nat), i ≤ L.length ∧ s15 = .int .i64 i ∧ Hid (BxC wx (w.heap.size + 1) (encVr (rlA L key ts i 0))) ∧ Hid (BxC wx w.heap.size [.int .i64 0, .int .i64 0, .int .i64 0, .bool false]) ∧ Below w.heap.size w wx) (fun s15 _ => L.length - (intOf s15).toNat)
 case atStart => exact ⟨0, Nat.zero_le _, rfl, hide hb, hide ha, hB⟩
 case round =>
  clear ha hb hB
  obtain ⟨i, hi, rfl, HX, HA, hB⟩ := hrel
  by_cases hlt : i < L.length
  ·obtain ⟨b, off, cap', rv, wv, hbv, hlt0, x0', x1', x2', x3', hrd⟩ := TxR.at_ (HI.out _ (Below.refl _ _)) (i := i) hlt
   cases hbv
   have x0 := (hB.cell (p := ⟨_, _, none⟩) hlt0).trans x0'
   have x1 := (hB.cell (p := ⟨_, _, none⟩) hlt0).trans x1'
   have x2 := (hB.cell (p := ⟨_, _, none⟩) hlt0).trans x2'
   have x3 := (hB.cell (p := ⟨_, _, none⟩) hlt0).trans x3'
   clear x0' x1' x2' x3'
   have hfm8 : (txAt L i).wr.length ≤ 8 := H8.out _ (txAt_mem hlt)
   have HSt := hide (fun j hj => @rlA_succ L key ts i j hj)
   have HNx := hide (rlA_next (L := L) (k := key) (t := ts) (i := i) hlt)
   obtain ⟨ar, cr, rfl, -⟩ := id hrd.1
   obtain ⟨aw, cw, rfl, -⟩ := id hrd.2
   generalize htx : txAt L i = T at *
   obtain ⟨ti, tt, rl, wl⟩ := T
   dsimp only at *
   have I1 : (0 : Int) ≤ (i : Int) := by omega
   have I2 : (i : Int) < (L.length : Int) := by omega
   have hz := hB.size
   have HRd := hide (fun (V : World) (hV : Below w.heap.size w V) => hrd.2.below (Nat.le_refl _) hV)
   obtain ⟨W3, hW3⟩ : ∃ V, V = wr.alloc (.cells #[.int .i64 ti, .int .i64 tt, .slice ar rl.length cr, .slice aw wl.length cw] 28) := ⟨_, rfl⟩
   have hb3 : BxC W3 wr.heap.size [.int .i64 ti, .int .i64 tt, .slice ar rl.length cr, .slice aw wl.length cw] := by rw [hW3]; exact BxC.made wr _ _
   have hB3 : Below wr.heap.size wr W3 := by rw [hW3]; ((with_reducible repeat' first | exact .refl _ _ | refine .alloc ?_ ?_ _ | refine .setCell ?_ ?_ _ | refine .drew ?_ | refine below_drewN ?_ _) <;> first | omega | simp <;> omega)
   have HX3 := hide (HX.out.below HX.out.2.2 hB3)
   have HA3 := hide (HA.out.below HA.out.2.2 hB3)
   have hB3n := hB.trans (hB3.mono hz)
   have z3 := hB3.size
   have hw1 : w.heap.size + 1 < wr.heap.size := HX.out.2.2
   go_upto_region 5 with fail
   rw [← hW3]
   clear hW3 hrd htx HX HA x0 x1 x2 x3
   have c3 := hb3.1 3 _ rfl
   go_wp2_with fail
   clear c3
   obtain ⟨B10, hB10⟩ : ∃ b, b = wr.heap.size := ⟨_, rfl⟩
   rw [← hB10]
   rw [← hB10] at hb3
   have h10 : w.heap.size + 2 ≤ B10 := by omega
   clear hB10
   go_loopw [22] (fun s22 wx => ∃ (j : Nat), j ≤ wl.length ∧ s22 = .int .i64 j ∧ Hid (BxC wx (w.heap.size + 1) (encVr (rlA L key ts i j))) ∧ Hid (BxC wx w.heap.size [.int .i64 0, .int .i64 0, .int .i64 0, .bool false]) ∧ Hid (BxC wx B10 [.int .i64 ti, .int .i64 tt, .slice ar rl.length cr, .slice aw wl.length cw]) ∧ Below w.heap.size w wx) (fun s22 _ => wl.length - (intOf s22).toNat)
   case atStart => exact ⟨0, Nat.zero_le _, rfl, HX3, HA3, hide hb3, hB3n⟩
   case round =>
    clear HX3 HA3 hb3 hB3 hB3n z3 hw1 hB hz
    obtain ⟨j, hj, rfl, HX, HA, HT3, hB6⟩ := hrel
    by_cases hjl : j < wl.length
    ·obtain ⟨b', off', cap3, hbv, hlt1, y0, y1, y2⟩ := WRow.at_ (HRd.out _ hB6) (i := j) hjl
     cases hbv
     have hst := HSt.out j hjl
     obtain ⟨⟨ok, ot, ox, og⟩, hO⟩ : ∃ o, o = rlA L key ts i j := ⟨_, rfl⟩
     rw [← hO] at HX hst
     generalize wAt wl j = ww at *
     obtain ⟨ek, ex, eg⟩ := ww
     dsimp only [verW] at hst y0 y1 y2
     have J1 : (0 : Int) ≤ (j : Int) := by omega
     have J2 : (j : Int) < (wl.length : Int) := by omega
     have hz6 := hB6.size
     have hx8 : BxC wr (w.heap.size + 1) [.int .i64 ok, .int .i64 ot, .int .i64 ox, .bool og] := HX.out
     have hx3 := HT3.out
     have hx0 := HA.out
     have chx8_0 := hx8.1 0 _ rfl; have chx8_1 := hx8.1 1 _ rfl; have chx8_2 := hx8.1 2 _ rfl; have chx8_3 := hx8.1 3 _ rfl; have fhx8 := hx8.2.1; have zhx8 := hx8.2.2
     have chx3_0 := hx3.1 0 _ rfl; have chx3_1 := hx3.1 1 _ rfl; have chx3_2 := hx3.1 2 _ rfl; have chx3_3 := hx3.1 3 _ rfl; have fhx3 := hx3.2.1; have zhx3 := hx3.2.2
     have chx0_0 := hx0.1 0 _ rfl; have chx0_1 := hx0.1 1 _ rfl; have chx0_2 := hx0.1 2 _ rfl; have chx0_3 := hx0.1 3 _ rfl; have fhx0 := hx0.2.1; have zhx0 := hx0.2.2
     have HW0 := hide (And.intro hx8 (And.intro hx3 hx0))
     have hbne : B10 ≠ w.heap.size + 1 := by omega
     by_cases hk : ek = key
     ·subst hk
      by_cases ht : tt ≤ ts
      ·have e2 : decide (tt ≤ ts) = true := decide_eq_true ht
       rw [if_pos ⟨rfl, ht⟩] at hst
       have HS := hide hst
       clear hst hO HX HT3 HA
       go_wp2_with fail
       obtain ⟨h8_, h3_, h0_⟩ := HW0.out
       obtain ⟨V, hV⟩ : ∃ V : World, V = (((((wr.setCell ⟨w.heap.size + 1, 0, none⟩ (.int .i64 ek)).setCell ⟨w.heap.size + 1, 1, none⟩ (.int .i64 tt)).setCell ⟨w.heap.size + 1, 2, none⟩ (.int .i64 ex)).setCell ⟨w.heap.size + 1, 3, none⟩ (.bool eg)).alloc (.cells #[.int .i64 ek, .int .i64 ex, .bool eg] 74)) := ⟨_, rfl⟩
       have q8 : BxC V (w.heap.size + 1) [.int .i64 ek, .int .i64 tt, .int .i64 ex, .bool eg] := by rw [hV]; exact (((((h8_.set 0 (.int .i64 ek) (by simp)).set 1 (.int .i64 tt) (by simp)).set 2 (.int .i64 ex) (by simp)).set 3 (.bool eg) (by simp)).alloc (.cells #[.int .i64 ek, .int .i64 ex, .bool eg] 74))
       have q0 : BxC V w.heap.size [.int .i64 0, .int .i64 0, .int .i64 0, .bool false] := by rw [hV]; exact (((((h0_.setNe (p := ⟨w.heap.size + 1, 0, none⟩) (by dsimp only; omega) (.int .i64 ek)).setNe (p := ⟨w.heap.size + 1, 1, none⟩) (by dsimp only; omega) (.int .i64 tt)).setNe (p := ⟨w.heap.size + 1, 2, none⟩) (by dsimp only; omega) (.int .i64 ex)).setNe (p := ⟨w.heap.size + 1, 3, none⟩) (by dsimp only; omega) (.bool eg)).alloc (.cells #[.int .i64 ek, .int .i64 ex, .bool eg] 74))
       have q3 := (((((h3_.setNe (p := ⟨w.heap.size + 1, 0, none⟩) (by dsimp only; omega) (.int .i64 ek)).setNe (p := ⟨w.heap.size + 1, 1, none⟩) (by dsimp only; omega) (.int .i64 tt)).setNe (p := ⟨w.heap.size + 1, 2, none⟩) (by dsimp only; omega) (.int .i64 ex)).setNe (p := ⟨w.heap.size + 1, 3, none⟩) (by dsimp only; omega) (.bool eg)).alloc (.cells #[.int .i64 ek, .int .i64 ex, .bool eg] 74))
       rw [← hV] at q3
       have bV : Below w.heap.size w V := by rw [hV]; ((with_reducible repeat' first | exact .refl _ _ | exact hB6 | refine .alloc ?_ ?_ _ | refine .setCell ?_ ?_ _ | refine .drew ?_ | refine below_drewN ?_ _ | refine Below.trans ?_ (hB6.mono ?_)) <;> first | omega | simp <;> omega)
       rw [← hV]
       clear hV h8_ h3_ h0_ HW0
       go_roundw
       case rel => exact ⟨j + 1, by omega, by go_num, hide (by rw [HS.out]; exact q8), hide q0, hide q3, bV⟩
       case measure => simp [intOf]; omega
      ·have e2 : decide (tt ≤ ts) = false := decide_eq_false ht
       rw [if_neg (by rintro ⟨-, h⟩; exact ht h)] at hst
       have HS := hide hst
       clear hst hO HX HT3 HA
       go_wp2_with fail
       obtain ⟨h8_, h3_, h0_⟩ := HW0.out
       go_roundw
       case rel => exact ⟨j + 1, by omega, by go_num, hide (by rw [HS.out]; exact h8_.alloc _), hide (h0_.alloc _), hide (h3_.alloc _), (by ((with_reducible repeat' first | exact .refl _ _ | exact hB6 | refine .alloc ?_ ?_ _ | refine .setCell ?_ ?_ _ | refine .drew ?_ | refine below_drewN ?_ _ | refine Below.trans ?_ (hB6.mono ?_)) <;> first | omega | simp <;> omega))⟩
       case measure => simp [intOf]; omega
     ·have e1 : decide (ek = key) = false := decide_eq_false hk
      have e3 : (ek == key) = false := by rw [beq_eq_false_iff_ne]; exact hk
      rw [if_neg (by rintro ⟨h, -⟩; exact hk h)] at hst
      have HS := hide hst
      clear hst hO HX HT3 HA
      go_wp2_with fail
      obtain ⟨h8_, h3_, h0_⟩ := HW0.out
      go_roundw
      case rel => exact ⟨j + 1, by omega, by go_num, hide (by rw [HS.out]; exact h8_.alloc _), hide (h0_.alloc _), hide (h3_.alloc _), (by ((with_reducible repeat' first | exact .refl _ _ | exact hB6 | refine .alloc ?_ ?_ _ | refine .setCell ?_ ?_ _ | refine .drew ?_ | refine below_drewN ?_ _ | refine Below.trans ?_ (hB6.mono ?_)) <;> first | omega | simp <;> omega))⟩
      case measure => simp [intOf]; omega
    ·obtain rfl : j = wl.length := by omega
     have HX9 := HX
     rw [HNx.out] at HX9
     clear HX HT3
     go_wp2_with fail
     go_roundw
     case rel => exact ⟨i + 1, by omega, by go_num, HX9, HA, hB6⟩
     case measure => simp [intOf]; omega
  ·obtain rfl : i = L.length := by omega
   obtain ⟨⟨ok, ot, ox, og⟩, hO⟩ : ∃ o, o = rlA L key ts L.length 0 := ⟨_, rfl⟩
   rw [← hO] at HX
   have HOe := hide hO
   have hx8 : BxC wr (w.heap.size + 1) [.int .i64 ok, .int .i64 ot, .int .i64 ox, .bool og] := HX.out
   have hx0 := HA.out
   have chx8_0 := hx8.1 0 _ rfl; have chx8_1 := hx8.1 1 _ rfl; have chx8_2 := hx8.1 2 _ rfl; have chx8_3 := hx8.1 3 _ rfl; have fhx8 := hx8.2.1; have zhx8 := hx8.2.2
   have chx0_0 := hx0.1 0 _ rfl; have chx0_1 := hx0.1 1 _ rfl; have chx0_2 := hx0.1 2 _ rfl; have chx0_3 := hx0.1 3 _ rfl; have fhx0 := hx0.2.1; have zhx0 := hx0.2.2
   have HA0 := hide hx0
   clear hO HX HA hx8 hx0
   cases og with
   | true =>
    go_wp2_with fail
    obtain ⟨V, hV⟩ : ∃ V : World, V = ((((wr.setCell ⟨w.heap.size, 0, none⟩ (.int .i64 0)).setCell ⟨w.heap.size, 1, none⟩ (.int .i64 0)).setCell ⟨w.heap.size, 2, none⟩ (.int .i64 0)).setCell ⟨w.heap.size, 3, none⟩ (.bool false)) := ⟨_, rfl⟩
    have q0 := ((((HA0.out.set 0 (.int .i64 0) (by simp)).set 1 (.int .i64 0) (by simp)).set 2 (.int .i64 0) (by simp)).set 3 (.bool false) (by simp))
    rw [← hV] at q0
    have bV : Below w.heap.size w V := by rw [hV]; ((with_reducible repeat' first | exact .refl _ _ | exact hB | refine .alloc ?_ ?_ _ | refine .setCell ?_ ?_ _ | refine .drew ?_ | refine below_drewN ?_ _ | refine Below.trans ?_ (hB.mono ?_)) <;> first | omega | simp <;> omega)
    rw [← hV]
    clear hV
    dsimp only [List.set] at q0
    have r0 := q0.1 0 _ rfl
    have r1 := q0.1 1 _ rfl
    have r2 := q0.1 2 _ rfl
    have r3 := q0.1 3 _ rfl
    exact bodyPost_ret (v := .tuple #[.agg #[.int .i64 0, .int .i64 0, .int .i64 0, .bool false], .bool false]) (by simp [results, Tryz.results16, go_sem, r0, r1, r2, r3]) rfl ⟨by rw [← HOe.out]; simp [atV, atB, valV, ver0], bV⟩
   | false =>
    by_cases h0 : ok = 0
    ·subst h0
     go_wp2_with fail
     obtain ⟨V, hV⟩ : ∃ V : World, V = ((((wr.setCell ⟨w.heap.size, 0, none⟩ (.int .i64 0)).setCell ⟨w.heap.size, 1, none⟩ (.int .i64 0)).setCell ⟨w.heap.size, 2, none⟩ (.int .i64 0)).setCell ⟨w.heap.size, 3, none⟩ (.bool false)) := ⟨_, rfl⟩
     have q0 := ((((HA0.out.set 0 (.int .i64 0) (by simp)).set 1 (.int .i64 0) (by simp)).set 2 (.int .i64 0) (by simp)).set 3 (.bool false) (by simp))
     rw [← hV] at q0
     have bV : Below w.heap.size w V := by rw [hV]; ((with_reducible repeat' first | exact .refl _ _ | exact hB | refine .alloc ?_ ?_ _ | refine .setCell ?_ ?_ _ | refine .drew ?_ | refine below_drewN ?_ _ | refine Below.trans ?_ (hB.mono ?_)) <;> first | omega | simp <;> omega)
     rw [← hV]
     clear hV
     dsimp only [List.set] at q0
     have r0 := q0.1 0 _ rfl
     have r1 := q0.1 1 _ rfl
     have r2 := q0.1 2 _ rfl
     have r3 := q0.1 3 _ rfl
     exact bodyPost_ret (v := .tuple #[.agg #[.int .i64 0, .int .i64 0, .int .i64 0, .bool false], .bool false]) (by simp [results, Tryz.results16, go_sem, r0, r1, r2, r3]) rfl ⟨by rw [← HOe.out]; simp [atV, atB, valV, ver0], bV⟩
    ·have e1 : decide (ok = 0) = false := decide_eq_false h0
     have e2 : (ok == 0) = false := by rw [beq_eq_false_iff_ne]; exact h0
     go_wp2_with fail
     obtain ⟨V, hV⟩ : ∃ V : World, V = ((((wr.setCell ⟨w.heap.size, 0, none⟩ (.int .i64 ok)).setCell ⟨w.heap.size, 1, none⟩ (.int .i64 ot)).setCell ⟨w.heap.size, 2, none⟩ (.int .i64 ox)).setCell ⟨w.heap.size, 3, none⟩ (.bool false)) := ⟨_, rfl⟩
     have q0 := ((((HA0.out.set 0 (.int .i64 ok) (by simp)).set 1 (.int .i64 ot) (by simp)).set 2 (.int .i64 ox) (by simp)).set 3 (.bool false) (by simp))
     rw [← hV] at q0
     have bV : Below w.heap.size w V := by rw [hV]; ((with_reducible repeat' first | exact .refl _ _ | exact hB | refine .alloc ?_ ?_ _ | refine .setCell ?_ ?_ _ | refine .drew ?_ | refine below_drewN ?_ _ | refine Below.trans ?_ (hB.mono ?_)) <;> first | omega | simp <;> omega)
     rw [← hV]
     clear hV
     dsimp only [List.set] at q0
     have r0 := q0.1 0 _ rfl
     have r1 := q0.1 1 _ rfl
     have r2 := q0.1 2 _ rfl
     have r3 := q0.1 3 _ rfl
     exact bodyPost_ret (v := .tuple #[.agg #[.int .i64 ok, .int .i64 ot, .int .i64 ox, .bool false], .bool true]) (by simp [results, Tryz.results16, go_sem, r0, r1, r2, r3]) rfl ⟨by rw [← HOe.out]; simp [atV, atB, valV, h0], bV⟩
end Go.Proofs.YthkoaecafmhlcaaGreat
