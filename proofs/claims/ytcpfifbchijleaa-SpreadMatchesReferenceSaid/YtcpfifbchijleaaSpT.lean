/- The reference of layer 15: Place. -/
import Derived.Test.YtcpfifbchijleaaSpL
import Derived.Test.YtcpfifbchijleaaSpN
namespace Go.Proofs.Ytcpfifbchijleaa
open Go.RowKit
attribute [local go_sem ↓] run_max_mx run_min_mn
theorem own_formT {w : World} {base : Nat} {v : Value} {l : List Int} (h : OwnIs w base v (toI (ordL l))) (hl : 0 < l.length) : ∃ g cap, v = .slice (some ⟨g, 0, none⟩) l.length cap ∧ g < w.heap.size ∧ l.length ≤ cap ∧ cap ≤ 9223372036854775807 ∧ ∀ i, i < l.length → w.cell? ⟨g, i, none⟩ = some (.int .i64 (nAt (ordL l) i)) := by
  obtain ⟨b, cap, e, h1, h2, h3, h4, h5⟩ := own_hold (o := ordL l) h (by rw [ordL_length]; exact hl)
  rw [ordL_length] at e h3
  exact ⟨b, cap, e, h2, h3, h4, fun i hi => by have := h5.1 i (by rw [ordL_length]; exact hi); rwa [Nat.zero_add] at this⟩
theorem own_formD {w : World} {base : Nat} {v : Value} {D : List Int} (h : OwnIs w base v D) (hl : 0 < D.length) : ∃ g cap, v = .slice (some ⟨g, 0, none⟩) D.length cap ∧ g < w.heap.size ∧ D.length ≤ cap ∧ cap ≤ 9223372036854775807 ∧ ∀ i, i < D.length → w.cell? ⟨g, i, none⟩ = some (.int .i64 (iAt D i)) := by
  obtain ⟨g, cap, e, hb, hlt⟩ := World.ownsRow.form h hl
  subst e
  obtain ⟨h1, h2⟩ : D.length ≤ cap ∧ cap ≤ 9223372036854775807 := by
    rcases h.2 with ⟨hv, _⟩ | ⟨g', cap', cur, hv, hg, hc, hn, hm, _⟩
    · simp at hv
    · simp only [Value.slice.injEq] at hv; obtain ⟨-, -, rfl⟩ := hv; exact ⟨hn, hm⟩
  exact ⟨g, cap, rfl, hlt, h1, h2, fun i hi => (World.ownsRow.cellAt h i (by rw [Nat.mul_one]; exact hi)).trans (encI_at D i hi)⟩
set_option maxRecDepth 100000 in
set_option maxHeartbeats 4000000 in
theorem RPlace_ok (v : Value) (l : List Int) (f : Nat) (lost x : Int) (w : World) (hv : IsRow w v l) (hok : spOk l f lost = true) (hx : 0 ≤ x ∧ x ≤ 3000000000000000) :
    Calls Try.prog 17 #[v, .int .i64 f, .int .i64 lost, .int .i64 x] w fun e w' => ∃ ov, e = .returned (.tuple #[ov, .int .i64 (placeEr l f lost x)]) ∧ OwnIv w' w.heap.size ov (placeL l f lost x) ∧ Below w.heap.size w w' := by
  have hv' := hv
  obtain ⟨a, cap, rfl, h1, h2, h3⟩ := hv
  obtain ⟨m1, m2, m3, m4, m5, m6⟩ := sp_mk hok
  have hi := (spOk_iff l f lost).1 hok
  have hb1 := hi.2.1
  have hb2 := hi.2.2.1
  have hl0 := hi.1.1.1
  have hwd := srt_bd l hi.1.2
  have hbb := bestP_bd hwd (spM l f lost) (spK l f lost) m3 m4
  have hax := plAll_bd hwd (spM l f lost) (spK l f lost) x m3 m4
  have hlb := fun t => plLeft_bd hwd (spM l f lost) (spK l f lost) t m3 m4
  have hin : inB x 0 3000000000000000 = true := by simp [inB]; omega
  have her : placeEr l f lost x = if (plAll l (spM l f lost) (spK l f lost) x (spM l f lost)).1 < 0 ∨ 3000000000000000 < (plAll l (spM l f lost) (spK l f lost) x (spM l f lost)).2 then 3 else 0 := by unfold placeEr; rw [if_pos hok, if_pos hin]
  have hpl : placeL l f lost x = if placeEr l f lost x = 0 then plLie l (spM l f lost) (spK l f lost) x f else [] := by unfold placeL; simp
  have hbt := bestP_take (srt l) (spM l f lost) (spK l f lost) m3 m4 (by rw [srt_length]; exact m5)
  have hml : ((srt l).take (spM l f lost)).length = spM l f lost := by rw [List.length_take, srt_length]; omega
  have hwd2 : ∀ i, 0 ≤ iAt ((srt l).take (spM l f lost)) i ∧ iAt ((srt l).take (spM l f lost)) i ≤ 1000000000000 := fun i => by
    rcases Nat.lt_or_ge i (spM l f lost) with h | h
    · rw [take_at _ _ _ h]; exact hwd i
    · have : iAt ((srt l).take (spM l f lost)) i = 0 := by simp [iAt, List.getD_eq_getElem?_getD, List.getElem?_take, show ¬ i < spM l f lost by omega]
      omega
  have hat := fun i (hi : i < spM l f lost) => take_at (srt l) (spM l f lost) i hi
  have he := spEr_ok hok
  obtain ⟨i0, hi0, hz0, hz1, hz2⟩ := info_parts infoIv2
  have He := hide he
  have Hok := hide hok
  have Her := hide her
  have Hpl := hide hpl
  have Hwd := hide hwd
  have Hax := hide hax
  have Hlb := hide hlb
  have Hbt := hide hbt
  have Hml := hide hml
  have Hwd2 := hide hwd2
  have Hat := hide hat
  have HD := hide (show (srt l).take (spM l f lost) = (srt l).take (spM l f lost) from rfl)
  have mf : spM l f lost + f ≤ l.length := by omega
  have hk : (l.length : Int) - lost - 2 * f = (spK l f lost : Nat) := m2.symm
  have hk1 : IntKind.i64.wrap (2 * (f : Int)) = 2 * f := IntWalk.i64_in _ (by omega)
  generalize hDq : (srt l).take (spM l f lost) = D at *
  generalize hmq : spM l f lost = m at *
  generalize hkq : spK l f lost = k at *
  have HDq := hide hDq
  have HM := hide m1
  have Hmq := hide hmq
  clear hok her hpl hi hwd hax hlb h3 hbt hml hwd2 hat he m1 m2 hDq hmq hkq HD
  go_enter Try.func17, Try.ntmps17
  go_wp2_with fail
  refine (Rcheck_any _ l f lost _ hv' (by omega)).mono ?_
  rintro e w1 ⟨rfl, b1⟩
  rw [He.out]
  go_wp2_with fail
  refine (ROrder_any _ l _ (hv'.below (Nat.le_refl _) b1) (by omega)).mono ?_
  rintro e w2 ⟨ov, rfl, ho, b2⟩
  have z1 := b1.size
  have B2 : Below w.heap.size w w2 := (by ((repeat' (first | exact Below.refl _ _ | exact b1 | exact b2 | refine Below.alloc ?_ ?_ _ | refine Below.setCell ?_ ?_ _ | refine Below.drew ?_ | refine below_drewN ?_ _ | refine Below.trans ?_ (b1.mono ?_) | refine Below.trans ?_ (b2.mono ?_))) <;> (first | omega | (simp; done) | (simp; omega))))
  have z2 := B2.size
  obtain ⟨g, gcap, rfl, g1, g2, g3, g4⟩ := own_formT ho (by omega)
  clear ho b1 b2
  go_wp2_with fail
  refine (Rright_any _ l f lost _ (hv'.below (Nat.le_refl _) B2) Hok.out).mono ?_
  rintro e w3 ⟨dv, rfl, hd, b3⟩
  rw [Hmq.out, HDq.out] at hd
  have z3 := b3.size
  have hdr := hd.row
  obtain ⟨q, qcap, rfl, q1, q2, q3, q4⟩ := own_formD hd (by rw [Hml.out]; omega)
  rw [Hml.out] at q2 q4 hdr
  rw [Hml.out]
  have B3 : Below w.heap.size w w3 := (by ((repeat' (first | exact Below.refl _ _ | exact B2 | exact b3 | refine Below.alloc ?_ ?_ _ | refine Below.setCell ?_ ?_ _ | refine Below.drew ?_ | refine below_drewN ?_ _ | refine Below.trans ?_ (B2.mono ?_) | refine Below.trans ?_ (b3.mono ?_))) <;> (first | omega | (simp; done) | (simp; omega))))
  clear hd
  go_wp2_with fail
  refine (RBest_any _ D k _ hdr m3 (by rw [Hml.out]; exact m4) (by rw [Hml.out]; omega) Hwd2.out).mono ?_
  rintro e w4 ⟨rfl, b4⟩
  rw [Hbt.out]
  obtain ⟨j, hj⟩ : ∃ j : Nat, (bestP (srt l) m k).1 = j := ⟨(bestP (srt l) m k).1.toNat, by omega⟩
  have hjk : j ≤ k := by omega
  rw [hj]
  have z4 := b4.size
  have B4 : Below w.heap.size w w4 := (by ((repeat' (first | exact Below.refl _ _ | exact B3 | exact b4 | refine Below.alloc ?_ ?_ _ | refine Below.setCell ?_ ?_ _ | refine Below.drew ?_ | refine below_drewN ?_ _ | refine Below.trans ?_ (B3.mono ?_) | refine Below.trans ?_ (b4.mono ?_))) <;> (first | omega | (simp; done) | (simp; omega))))
  have o4 : ∀ i, i < l.length → w4.cell? ⟨g, i, none⟩ = some (.int .i64 (nAt (ordL l) i)) := fun i hi => (b4.cell (p := ⟨g, i, none⟩) (by show g < w3.heap.size; omega)).trans ((b3.cell (p := ⟨g, i, none⟩) g1).trans (g4 i hi))
  have e4 : ∀ i, i < m → w4.cell? ⟨q, i, none⟩ = some (.int .i64 (iAt (srt l) i)) := fun i hi => (b4.cell (p := ⟨q, i, none⟩) q1).trans (by rw [q4 i hi, Hat.out i hi])
  have O4 := hide o4
  have E4 := hide e4
  have hg4 : g < w4.heap.size := by omega
  have hq4 : q < w4.heap.size := by omega
  obtain ⟨i1, hi1⟩ : ∃ i1, k - 1 = i1 := ⟨_, rfl⟩
  have ec := e4 i1 (by omega)
  have hwk : IntKind.i64.wrap ((k : Int) - 1) = i1 := by rw [IntWalk.i64_in _ (by omega)]; omega
  have hwk2 : (k : Int) - 1 = i1 := by omega
  have hi1m : i1 < m := by omega
  have HX : Hid (mn (iAt (srt l) i1) (bestP (srt l) m k).2 = plX l m k) := by show _ = _; rw [← hi1]; rfl
  have Hi1 := hide hi1
  clear o4 e4 g4 q4 b3 b4 hdr hi1
  have hmk : ∀ W : World, (Instr.makeSlice 30 (.int .i64 l.length) (.int .i64 l.length)).run Try.prog W = .ok (.slice (some ⟨W.heap.size, 0, none⟩) l.length l.length) (W.alloc (.cells (madeCells #[.int .i64 0, .int .i64 0] (l.length * 2)) 46)) := fun W => by
    have := run_makeSlice (P := Try.prog) W 30 46 i0 (.agg #[.int .i64 0, .int .i64 0]) Try.underlying30 hi0 hz0 .i64 .i64 l.length l.length (by omega) (Int.le_refl _) (by rw [hz1]; omega) (by rw [hz2]; omega) (by omega)
    rw [hz1] at this
    simpa [Value.cells] using this
  have ho0 := (ownIv_made w4 w4.heap.size l.length (Nat.le_refl _) (by omega))
  have hb0 : Below w4.heap.size w4 (w4.alloc (.cells (madeCells #[.int .i64 0, .int .i64 0] (l.length * 2)) 46)) := (by ((repeat' (first | exact Below.refl _ _ | refine Below.alloc ?_ ?_ _ | refine Below.setCell ?_ ?_ _ | refine Below.drew ?_ | refine below_drewN ?_ _)) <;> (first | omega | (simp; done) | (simp; omega))))
  have Hmk := hide (hmk w4)
  have hmk4 := hmk w4
  clear hmk Hmk
  go_upto_region 14 with fail
  rw [HX.out]
  clear hmk4 hwk hwk2 ec
  generalize w4.alloc (.cells (madeCells #[.int .i64 0, .int .i64 0] (l.length * 2)) 46) = W0 at *
  go_wp2_with fail
  go_loopw [18, 19, 20] (fun s18 s19 s20 wr => ∃ (t : Nat) (c : List Iv), t ≤ m ∧ s20 = .int .i64 (t : Int) ∧ s18 = .int .i64 (plAll l m k x t).1 ∧ s19 = .int .i64 (plAll l m k x t).2 ∧ Hid (c = plOut l m k x t) ∧ OwnIv wr w4.heap.size (.slice (some ⟨w4.heap.size, 0, none⟩) c.length l.length) c ∧ Below w4.heap.size w4 wr) (fun _ _ s20 _ => m - (intOf s20).toNat)
  case atStart => exact ⟨0, List.replicate l.length (0, 0), Nat.zero_le _, by go_num, rfl, rfl, hide rfl, by rw [List.length_replicate]; exact ho0, hb0⟩
  case round =>
    obtain ⟨t, c, ht, rfl, rfl, rfl, Hc, hown, hB⟩ := hrel
    have hz := hB.size
    have hcl : c.length = l.length := by rw [Hc.out]; exact plOut_length l m k x t
    by_cases hlt : t < m
    · have hD := Hwd.out t
      have hL0 := Hlb.out t
      have hAx := Hax.out t
      have eD := (hB.cell (p := ⟨q, t, none⟩) hq4).trans (E4.out t hlt)
      have eO := (hB.cell (p := ⟨g, t, none⟩) hg4).trans (O4.out t (by omega))
      have hqb := ordL_bd l t (by omega)
      obtain ⟨y, hy⟩ : ∃ y, y = nAt (ordL l) t := ⟨_, rfl⟩
      rw [← hy] at eO hqb
      have Hy := hide hy
      have f0 := World.ownsRow.frozenAt hown (y * 2)
      have f1 := World.ownsRow.frozenAt hown (y * 2 + 1)
      obtain ⟨u0, k0⟩ : ∃ u, wr.cell? ⟨w4.heap.size, y * 2, none⟩ = some u := ⟨_, (World.ownsRow.cellAt hown (y * 2) (by omega)).trans (List.getElem?_eq_getElem (by rw [encL_length]; omega))⟩
      obtain ⟨u1, k1⟩ : ∃ u, wr.cell? ⟨w4.heap.size, y * 2 + 1, none⟩ = some u := ⟨_, (World.ownsRow.cellAt hown (y * 2 + 1) (by omega)).trans (List.getElem?_eq_getElem (by rw [encL_length]; omega))⟩
      have Hcl := hide hcl
      clear hy hcl
      have HLd : Hid (plLeft l m k t = if (t : Int) + 1 ≤ (j : Int) then plX l m k else if t + 1 ≤ k then iAt (srt l) t else 0) := by show _ = _; unfold plLeft; rw [hj]
      have Hj := hide hj
      clear hj
      generalize hdt : iAt (srt l) t = dt at *
      have hP : plP l m k x t = (x - plLeft l m k t, x - plLeft l m k t + dt) := by unfold plP; rw [hdt]
      have HP := hide hP
      have Hdt := hide hdt
      generalize plLeft l m k t = L at *
      clear hP hdt
      go_upto_if 75 with fail
      go_cut [21] (fun s21 wx => s21 = .int .i64 L ∧ wr = wx)
      case first =>
        by_cases hA : t < j
        · have hL : L = plX l m k := by rw [HLd.out, if_pos (by omega)]
          have HL := hide hL
          have hA2 : decide ((t : Int) < j) = true := decide_eq_true (by omega)
          have hA3 : decide (t < j) = true := decide_eq_true hA
          clear hL
          go_wp2_with fail
          go_meet
          exact ⟨by rw [HL.out], rfl⟩
        · have hA2 : decide ((t : Int) < j) = false := decide_eq_false (by omega)
          have hA3 : decide (t < j) = false := decide_eq_false hA
          by_cases hK : t < k
          · have hL : L = dt := by rw [HLd.out, if_neg (by omega), if_pos (by omega)]
            have HL := hide hL
            have hK3 : decide (t < k) = true := decide_eq_true hK
            clear hL
            go_wp2_with fail
            go_meet
            exact ⟨by rw [HL.out], rfl⟩
          · have hL : L = 0 := by rw [HLd.out, if_neg (by omega), if_neg (by omega)]
            have HL := hide hL
            have hK3 : decide (t < k) = false := decide_eq_false hK
            clear hL
            go_wp2_with fail
            go_meet
            exact ⟨by rw [HL.out], rfl⟩
      case rest =>
        obtain ⟨rfl, rfl⟩ := hcut
        have wwt : IntKind.i64.wrap (t : Int) = t := IntWalk.i64_in _ (by omega)
        have ww1 : IntKind.i64.wrap (x - L) = x - L := IntWalk.i64_in _ (by omega)
        have ww2 : IntKind.i64.wrap (x - L + dt) = x - L + dt := IntWalk.i64_in _ (by omega)
        have htl : t < l.length := by omega
        go_upto_region 22 with fail
        go_still_tail 18, (by kernel_rfl)
        change wpList _ _ _ _ _ wr.drew
        have bd : Below wr.heap.size wr wr.drew := (Below.refl _ _).drew
        have hof := hown.below (Nat.le_refl _) bd
        have f0' : wr.drew.frozen? ⟨w4.heap.size, y * 2, none⟩ = false := f0
        have f1' : wr.drew.frozen? ⟨w4.heap.size, y * 2 + 1, none⟩ = false := f1
        have k0' : wr.drew.cell? ⟨w4.heap.size, y * 2, none⟩ = some u0 := k0
        have k1' : wr.drew.cell? ⟨w4.heap.size, y * 2 + 1, none⟩ = some u1 := k1
        have eD' : wr.drew.cell? ⟨q, t, none⟩ = some (.int .i64 dt) := eD
        have hBd : Below w4.heap.size w4 wr.drew := hB.drew
        clear f0 f1 k0 k1 eD eO bd hown hB
        generalize wr.drew = V2 at *
        go_upto_region 23 with fail
        have hql : y < c.length := by rw [Hcl.out]; exact hqb
        have hX := OwnP.set hof y hql (x - L, x - L + dt)
        have HXl : Hid (c.set y (x - L, x - L + dt) = plOut l m k x (t + 1)) := by show _ = _; rw [plOut, ← Hy.out, Hc.out, HP.out]
        have eX := (cell_two (V := V2) (b := w4.heap.size) (i := y * 2) (j := y * 2 + 1) (u := .int .i64 (x - L)) (v := .int .i64 (x - L + dt)) (p := q) (by omega) t).trans eD'
        have xB : Below w4.heap.size w4 ((V2.setCell ⟨w4.heap.size, y * 2, none⟩ (.int .i64 (x - L))).setCell ⟨w4.heap.size, y * 2 + 1, none⟩ (.int .i64 (x - L + dt))) := (hBd.setCell (p := ⟨w4.heap.size, y * 2, none⟩) (Nat.le_refl _) _).setCell (p := ⟨w4.heap.size, y * 2 + 1, none⟩) (Nat.le_refl _) _
        have HA : Hid (plAll l m k x (t + 1) = (mn (plAll l m k x t).1 (x - L), mx (plAll l m k x t).2 (x - L + dt))) := by show _ = _; rw [plAll, HP.out]
        clear eD' hBd k0' k1' f0' f1' hof hql
        generalize (V2.setCell ⟨w4.heap.size, y * 2, none⟩ (.int .i64 (x - L))).setCell ⟨w4.heap.size, y * 2 + 1, none⟩ (.int .i64 (x - L + dt)) = X at *
        generalize c.set y (x - L, x - L + dt) = c2 at *
        go_wp2_with fail
        go_roundw
        case rel => exact ⟨t + 1, c2, by omega, by go_num, by rw [HA.out], by rw [HA.out], HXl, hX, xB⟩
        case measure => simp [intOf]; omega
    · obtain rfl : m = t := by omega
      have z4' := B4.size
      clear hlt ht
      by_cases her : (plAll l m k x m).1 < 0 ∨ 3000000000000000 < (plAll l m k x m).2
      · have Hpe : Hid (placeEr l f lost x = 3) := by show _ = _; rw [Her.out, if_pos her]
        have Hpl2 : Hid (placeL l f lost x = []) := by show _ = _; rw [Hpl.out, if_neg (by rw [Hpe.out]; omega)]
        by_cases h0 : (plAll l m k x m).1 < 0
        · clear her
          have d0 : decide ((plAll l m k x m).1 < 0) = true := decide_eq_true h0
          go_wp2_with fail
          go_ret2
          exact ⟨_, by rw [Hpe.out]; rfl, by rw [Hpl2.out]; exact OwnP.nil _ _, B4.trans (hB.mono z4')⟩
        · have h2 : 3000000000000000 < (plAll l m k x m).2 := by omega
          have d0 : decide ((plAll l m k x m).1 < 0) = false := decide_eq_false h0
          have d2 : decide (3000000000000000 < (plAll l m k x m).2) = true := decide_eq_true h2
          clear her
          go_wp2_with fail
          go_ret2
          exact ⟨_, by rw [Hpe.out]; rfl, by rw [Hpl2.out]; exact OwnP.nil _ _, B4.trans (hB.mono z4')⟩
      · have h1' : ¬ (plAll l m k x m).1 < 0 := by omega
        have h2' : ¬ 3000000000000000 < (plAll l m k x m).2 := by omega
        have d0 : decide ((plAll l m k x m).1 < 0) = false := decide_eq_false h1'
        have d2 : decide (3000000000000000 < (plAll l m k x m).2) = false := decide_eq_false h2'
        have Hpe : Hid (placeEr l f lost x = 0) := by show _ = _; rw [Her.out, if_neg her]
        have Hpl2 : Hid (placeL l f lost x = plLie l m k x f) := by show _ = _; rw [Hpl.out, if_pos Hpe.out]
        clear her
        go_wp2_with fail
        clear d0 d2
        go_loopw [22] (fun s22 wx => ∃ (s : Nat) (d : List Iv), s ≤ f ∧ s22 = .int .i64 ((m + s : Nat) : Int) ∧ Hid (d = plLie l m k x s) ∧ OwnIv wx w4.heap.size (.slice (some ⟨w4.heap.size, 0, none⟩) d.length l.length) d ∧ Below w4.heap.size w4 wx) (fun s22 _ => m + f - (intOf s22).toNat)
        case atStart => exact ⟨0, c, Nat.zero_le _, by go_num, Hc, hown, hB⟩
        case round =>
          obtain ⟨s, d, hs, rfl, Hd, hod, hBx⟩ := hrel
          have hdl : d.length = l.length := by rw [Hd.out]; exact plLie_length l m k x s
          obtain ⟨n, hn⟩ : ∃ n, m + s = n := ⟨_, rfl⟩
          rw [hn]
          have wwn : IntKind.i64.wrap ((m : Int) + f) = m + f := IntWalk.i64_in _ (by omega)
          by_cases hsf : s < f
          · have hnf : (n : Int) < m + f := by omega
            have hnl : n < l.length := by omega
            have hqb := ordL_bd l n hnl
            have c5 := (hBx.cell (p := ⟨g, n, none⟩) hg4).trans (O4.out n hnl)
            have hsn : plLie l m k x (s + 1) = d.set (nAt (ordL l) n) (plAll l m k x m) := by rw [plLie, Hd.out, hn]
            have Hsn := hide hsn
            generalize nAt (ordL l) n = y at *
            have f0 := World.ownsRow.frozenAt hod (y * 2)
            have f1 := World.ownsRow.frozenAt hod (y * 2 + 1)
            obtain ⟨u0, k0⟩ : ∃ u, wr.cell? ⟨w4.heap.size, y * 2, none⟩ = some u := ⟨_, (World.ownsRow.cellAt hod (y * 2) (by omega)).trans (List.getElem?_eq_getElem (by rw [encL_length]; omega))⟩
            obtain ⟨u1, k1⟩ : ∃ u, wr.cell? ⟨w4.heap.size, y * 2 + 1, none⟩ = some u := ⟨_, (World.ownsRow.cellAt hod (y * 2 + 1) (by omega)).trans (List.getElem?_eq_getElem (by rw [encL_length]; omega))⟩
            have Hdl := hide hdl
            have Hn := hide hn
            have hnm : n < m + f := by omega
            clear hsn hdl hn
            go_wp2_with fail
            go_roundw
            case rel =>
              refine ⟨s + 1, d.set y (plAll l m k x m), by omega, congrArg (Value.int .i64) (by have := Hn.out; omega), hide Hsn.out.symm, OwnP.set hod y (by rw [Hdl.out]; exact hqb) _, (hBx.setCell (p := ⟨w4.heap.size, y * 2, none⟩) (Nat.le_refl _) _).setCell (p := ⟨w4.heap.size, y * 2 + 1, none⟩) (Nat.le_refl _) _⟩
            case measure => simp [intOf]; omega
          · obtain rfl : f = s := by omega
            have ho4 := hod
            rw [hdl, Hd.out] at ho4
            have hnf : ¬ (n : Int) < m + f := by omega
            have hnm : ¬ n < m + f := by omega
            rw [hdl] at hod
            clear hdl hn
            go_wp2_with fail
            go_ret2
            exact ⟨_, by rw [Hpe.out]; rfl, by rw [Hpl2.out]; exact World.ownsRow.mono ho4 z4', B4.trans (hBx.mono z4')⟩
end Go.Proofs.Ytcpfifbchijleaa
