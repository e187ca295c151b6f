/- The reference's Order, right and Worst. -/
import Derived.Test.YtcpfifbchijleaaSpK
import Derived.Test.YtcpfifbchijleaaSpD
import Derived.Laws.MakeOwn
import Derived.Laws.OwnMore
namespace Go.Proofs.Ytcpfifbchijleaa
open Go.RowKit
attribute [local go_sem ↓] run_max_mx run_min_mn

theorem ownIs_made (w : World) (base n : Nat) (hb : base ≤ w.heap.size) (hn : n ≤ 9223372036854775807) :
    OwnIs (w.alloc (.cells (madeCells #[.int .i64 0] n) 3)) base (.slice (some ⟨w.heap.size, 0, none⟩) n n) (List.replicate n 0) := by
  unfold OwnIs
  rw [List.length_replicate]
  refine ⟨by simp [encI], .inr ⟨w.heap.size, n, madeCells #[.int .i64 0] n, rfl, hb, World.alloc_heap_new w _, Nat.le_refl _, hn, by rw [size_madeCells]; simp, ?_⟩⟩
  rw [toList_madeCells_one]
  simp [encI]
theorem OwnIs.set {w : World} {base g cap : Nat} {c : List Int} (h : OwnIs w base (.slice (some ⟨g, 0, none⟩) c.length cap) c) (i : Nat) (a : Int) :
    OwnIs (w.setCell ⟨g, i, none⟩ (.int .i64 a)) base (.slice (some ⟨g, 0, none⟩) (c.set i a).length cap) (c.set i a) := by
  unfold OwnIs
  rw [List.length_set]
  have hs := (World.ownsRow.stored h i (.int .i64 a)).1
  have e : (encI c).set i (.int .i64 a) = encI (c.set i a) := by simp [encI, List.map_set]
  rw [← e]
  exact hs
theorem iAt_set (c : List Int) (i j : Nat) (a : Int) (hi : i < c.length) : iAt (c.set i a) j = if i = j then a else iAt c j := by
  by_cases h : i = j
  · subst h; rw [if_pos rfl]; simp [iAt, List.getD_eq_getElem?_getD, hi]
  · rw [if_neg h]; simp [iAt, List.getD_eq_getElem?_getD, List.getElem?_set_ne h]
set_option maxRecDepth 100000 in
set_option maxHeartbeats 1000000 in
theorem ROrder_any (v : Value) (l : List Int) (w : World) (hv : IsRow w v l) (hl : l.length ≤ 100) :
    Calls Try.prog 28 #[v] w fun e w' => ∃ ov, e = .returned ov ∧ OwnIs w' w.heap.size ov (toI (ordL l)) ∧ Below w.heap.size w w' := by
  have hv' := hv
  obtain ⟨a, cap, rfl, h1, h2, h3⟩ := hv
  obtain ⟨i0, hi, hz0, hz1, hz2⟩ := info_parts infoIs
  have hmk : (Instr.makeSlice 22 (.int .i64 l.length) (.int .i64 l.length)).run Try.prog w = .ok (.slice (some ⟨w.heap.size, 0, none⟩) l.length l.length) (w.alloc (.cells (madeCells #[.int .i64 0] l.length) 3)) := by
    have := run_makeSlice (P := Try.prog) w 22 3 i0 (.int .i64 0) Try.underlying22 hi hz0 .i64 .i64 l.length l.length (by omega) (Int.le_refl _) (by rw [hz1]; omega) (by rw [hz2]; omega) (by omega)
    rw [hz1] at this
    simpa [Value.cells] using this
  have hb0 : Below w.heap.size w (w.alloc (.cells (madeCells #[.int .i64 0] l.length) 3)) := (by ((repeat' (first | exact Below.refl _ _ | refine Below.alloc ?_ ?_ _ | refine Below.setCell ?_ ?_ _ | refine Below.drew ?_ | refine below_drewN ?_ _)) <;> (first | omega | (simp; done) | (simp; omega))))
  have ho0 := ownIs_made w w.heap.size l.length (Nat.le_refl _) (by omega)
  clear h3
  go_enter Try.func28, Try.ntmps28
  go_wp2
  clear hmk
  go_loopw [4] (fun s4 wr => ∃ (i : Nat) (xs : List Int), i ≤ l.length ∧ s4 = .int .i64 i ∧ Hid (xs.length = l.length) ∧ OwnIs wr w.heap.size (.slice (some ⟨w.heap.size, 0, none⟩) xs.length l.length) xs ∧ Hid (∀ j, j < i → iAt xs (plc l j l.length) = j) ∧ Below w.heap.size w wr) (fun s4 _ => l.length - (intOf s4).toNat)
  case atStart => exact ⟨0, List.replicate l.length 0, Nat.zero_le _, rfl, hide (by simp), by rw [List.length_replicate]; exact ho0, hide (fun j hj => by omega), hb0⟩
  case round =>
    obtain ⟨i, xs, hi', rfl, Hl, hown, Hx, hB⟩ := hrel
    have hz := hB.size
    by_cases hlt : i < l.length
    · go_wp2
      obtain ⟨wo, hwo⟩ : ∃ wo : World, wo = wr := ⟨_, rfl⟩
      subst hwo
      go_loopw [5, 6] (fun s5 s6 wx => ∃ k : Nat, k ≤ l.length ∧ s6 = .int .i64 k ∧ s5 = .int .i64 (plc l i k : Nat) ∧ ∃ nq, wx = wo.drewN nq) (fun _ s6 _ => l.length - (intOf s6).toNat)
      case atStart => exact ⟨0, Nat.zero_le _, rfl, rfl, 0, rfl⟩
      case round =>
        obtain ⟨k, hk, rfl, rfl, nq, rfl⟩ := hrel
        have hpl := plc_le l i k
        by_cases hkl : k < l.length
        · have hst := hide (show plc l i (k + 1) = if aheadB l k i = true then plc l i k + 1 else plc l i k from rfl)
          have hrow := (hv'.below (Nat.le_refl _) hB).below (Nat.le_refl _) (below_drewN (Below.refl _ _) nq)
          by_cases hah : aheadB l k i = true
          · go_wp2_with (go_at_call 44; refine (Rahead_any _ l k i _ hrow hkl hlt).mono ?_; rintro e w' ⟨rfl, n2, rfl⟩; rw [hah])
            go_roundw
            case rel => exact ⟨k + 1, by omega, by go_num, by rw [hst.out, if_pos hah]; go_num, _, rfl⟩
            case measure => simp [intOf]; omega
          · have hah' : aheadB l k i = false := by simpa using hah
            clear hah
            go_wp2_with (go_at_call 44; refine (Rahead_any _ l k i _ hrow hkl hlt).mono ?_; rintro e w' ⟨rfl, n2, rfl⟩; rw [hah'])
            go_roundw
            case rel => exact ⟨k + 1, by omega, by go_num, by rw [hst.out, if_neg (by simp [hah'])], _, rfl⟩
            case measure => simp [intOf]; omega
        · obtain rfl : k = l.length := by omega
          have hp := plc_at hlt
          have Hp := hide hp
          have hp1 := hp.1
          clear hp
          have ho2 : OwnIs (wo.drewN nq) w.heap.size (.slice (some ⟨w.heap.size, 0, none⟩) xs.length l.length) xs := hown.below (Nat.le_refl _) (below_drewN (Below.refl _ _) nq)
          have hB2 : Below w.heap.size w (wo.drewN nq) := below_drewN hB nq
          have hcell : (wo.drewN nq).cell? ⟨w.heap.size, plc l i l.length, none⟩ = some (.int .i64 (iAt xs (plc l i l.length))) := by
            have := World.ownsRow.cellAt ho2 (plc l i l.length) (by rw [Hl.out]; omega)
            rw [this]
            exact encI_at xs _ (by rw [Hl.out]; exact hp1)
          have hfz : (wo.drewN nq).frozen? ⟨w.heap.size, plc l i l.length, none⟩ = false := World.ownsRow.frozenAt ho2 _
          have hxl : plc l i l.length < xs.length := by rw [Hl.out]; exact hp1
          clear hown hB
          generalize wo.drewN nq = wz at *
          go_wp2
          go_roundw
          case rel =>
            refine ⟨i + 1, xs.set (plc l i l.length) i, by omega, by go_num, hide (by rw [List.length_set]; exact Hl.out), ho2.set _ _, hide (fun j hj => ?_), hB2.setCell (p := ⟨w.heap.size, plc l i l.length, none⟩) (Nat.le_refl _) _⟩
            rw [iAt_set _ _ _ _ hxl]
            by_cases hji : j = i
            · subst hji; rw [if_pos rfl]
            · rw [if_neg (fun e => hji (plc_inj hlt (by omega) e).symm)]
              exact Hx.out j (by omega)
          case measure => simp [intOf]; omega
    · obtain rfl : i = l.length := by omega
      have hfin : xs = toI (ordL l) := by
        refine ints_ext (by rw [Hl.out, toI_length, ordL_length]) fun p hp => ?_
        rw [Hl.out] at hp
        obtain ⟨i, h1, h2, h3⟩ := plc_onto hp
        have := Hx.out i h1
        rw [h2] at this
        rw [this, toI_at _ _ (by rw [ordL_length]; exact hp), h3]
      have Hfin := hide hfin
      have hown2 : OwnIs wr w.heap.size (.slice (some ⟨w.heap.size, 0, none⟩) l.length l.length) xs := by have h := hown; rwa [Hl.out] at h
      clear hfin hown
      go_wp2
      go_ret
      exact ⟨_, rfl, by rw [← Hfin.out]; exact hown2, hB⟩

theorem take_at (D : List Int) (m i : Nat) (h : i < m) : iAt (D.take m) i = iAt D i := by simp [iAt, List.getD_eq_getElem?_getD, h]
set_option maxRecDepth 100000 in
set_option maxHeartbeats 1000000 in
theorem Rright_any (v : Value) (l : List Int) (f lost : Int) (w : World) (hv : IsRow w v l) (hok : spOk l f lost = true) :
    Calls Try.prog 25 #[v, .int .i64 f, .int .i64 lost] w fun e w' => ∃ ov, e = .returned ov ∧ OwnIs w' w.heap.size ov ((srt l).take (spM l f lost)) ∧ Below w.heap.size w w' := by
  have hv' := hv
  obtain ⟨a, cap, rfl, h1, h2, h3⟩ := hv
  obtain ⟨m1, m2, m3, m4, m5, m6⟩ := sp_mk hok
  have hb := (spOk_iff l f lost).1 hok
  have hb1 := hb.2.1
  have hb2 := hb.2.2.1
  obtain ⟨i0, hi, hz0, hz1, hz2⟩ := info_parts infoIs
  generalize spM l f lost = m at *
  clear hok hb m2 m3 m4
  go_enter Try.func25, Try.ntmps25
  go_wp2_with fail
  refine (ROrder_any _ l _ hv' (by omega)).mono ?_
  rintro e w1 ⟨ov, rfl, ho, b1⟩
  have hro := ho.row
  obtain ⟨oa, ocap, hov, o1, o2, o3⟩ := hro
  rw [toI_length, ordL_length] at hov o3
  subst hov
  clear ho o1
  have z1 := b1.size
  go_wp2_with fail
  have M1 := hide m1
  have hmm : (l.length : Int) - lost - f = m := m1.symm
  have hlf : 0 ≤ (l.length : Int) - lost - f := by omega
  clear m1
  go_loopw [8, 9] (fun s8 s9 wr => ∃ i : Nat, i ≤ m ∧ s9 = .int .i64 i ∧ OwnIs wr w1.heap.size s8 ((srt l).take i) ∧ Below w1.heap.size w1 wr) (fun _ s9 _ => m - (intOf s9).toNat)
  case atStart => exact ⟨0, Nat.zero_le _, rfl, by rw [List.take_zero]; exact OwnIs.nil _ _, Below.refl _ _⟩
  case round =>
    obtain ⟨i, him, rfl, hown, hB⟩ := hrel
    have hlen : ((srt l).take i).length = i := by rw [List.length_take, srt_length]; omega
    have hBw : Below w.heap.size w wr := (by ((repeat' (first | exact Below.refl _ _ | exact b1 | exact hB | refine Below.alloc ?_ ?_ _ | refine Below.setCell ?_ ?_ _ | refine Below.drew ?_ | refine below_drewN ?_ _ | refine Below.trans ?_ (b1.mono ?_) | refine Below.trans ?_ (hB.mono ?_))) <;> (first | omega | (simp; done) | (simp; omega))))
    by_cases hlt : i < m
    · obtain ⟨b, off, rfl, r1, r2⟩ := o3 i (by omega)
      rw [toI_at _ _ (by rw [ordL_length]; omega)] at r2
      have r2' := (hB.cell (p := ⟨b, off + i, none⟩) r1).trans r2
      have hod := ordL_bd l i (by omega)
      obtain ⟨b2, off2, rfl, t1, t2⟩ := h3 (nAt (ordL l) i) hod
      have t2' := (hBw.cell (p := ⟨b2, off2 + nAt (ordL l) i, none⟩) t1).trans t2
      have hsn : (srt l).take (i + 1) = (srt l).take i ++ [iAt l (nAt (ordL l) i)] := by
        rw [take_snoc_is _ _ (by rw [srt_length]; omega), srt_at l i (by omega)]
      have Hsn := hide hsn
      generalize nAt (ordL l) i = x at *
      have hil : i < l.length := by omega
      obtain ⟨ua, ucap, hu, u1, u2⟩ := hown.val
      have hlow := World.ownsRow.lt hown
      have hown' := hown
      unfold OwnIs at hown'
      rw [hlen] at hown' hu
      subst hu
      have Hlen := hide hlen
      have hz := hB.size
      clear hlen hsn r2 t2 o3 h3 hown
      go_wp2_with (at_builtin; refine wpList_append_own _ rfl _ _ 22 rfl w1.heap.size 3 i0 (.int .i64 0) 1 8 Try.underlying22 hi hz0 hz1 hz2 rfl (by decide) _ i (encI ((srt l).take i)) rfl (World.ownsRow.alloc hown' _) ⟨wr.heap.size, 0, none⟩ 1 1 [.int .i64 (iAt l x)] rfl rfl (cells_new wr [.int .i64 (iAt l x)] _) (by simp [Value.oneCell']) (by unfold maxLen; omega) (by omega) (by simp; omega) ?_; intro v3 w3 hown3 hg3 _)
      go_roundw
      case rel =>
        refine ⟨i + 1, by omega, by go_num, by rw [Hsn.out]; exact OwnIs.app (by rw [Hlen.out]; exact hown3), ?_⟩
        exact (hB.alloc (by omega) _).grown hg3 (by simp; omega) (fun r h => (hlow r h).1)
      case measure => simp [intOf]; omega
    · obtain rfl : i = m := by omega
      clear o3 h3
      go_wp2
      go_ret
      exact ⟨_, rfl, hown.mono z1, hBw⟩
theorem best_take (D : List Int) (m k : Nat) (hk : 1 ≤ k) (hkm : k ≤ m) : ∀ t, t ≤ k - jLo m k + 1 → bst (D.take m) k (jLo m k) t = bst D k (jLo m k) t
  | 0, _ => rfl
  | t + 1, h => by
    have e : vJ (D.take m) k (jLo m k + t) = vJ D k (jLo m k + t) := by
      have h1 : 2 * k - m ≤ jLo m k := by unfold jLo; omega
      unfold vJ
      rw [take_at D m (k - 1) (by omega), take_at D m (2 * k - (jLo m k + t) - 1) (by omega)]
      by_cases hj : 0 < jLo m k + t
      · rw [if_pos hj, if_pos hj, take_at D m _ (by unfold jLo at *; omega)]
      · rw [if_neg hj, if_neg hj]
    show (if vJ (D.take m) k (jLo m k + t) > (bst (D.take m) k (jLo m k) t).2 then _ else _) = (if vJ D k (jLo m k + t) > (bst D k (jLo m k) t).2 then _ else _)
    rw [e, best_take D m k hk hkm t (by omega)]
theorem bestP_take (D : List Int) (m k : Nat) (hk : 1 ≤ k) (hkm : k ≤ m) (hm : m ≤ D.length) : bestP (D.take m) (D.take m).length k = bestP D m k := by
  have e : (D.take m).length = m := by rw [List.length_take]; omega
  rw [e]
  exact best_take D m k hk hkm _ (Nat.le_refl _)
set_option maxRecDepth 100000 in
set_option maxHeartbeats 400000 in
theorem RWorst_any (v : Value) (l : List Int) (f lost : Int) (w : World) (hv : IsRow w v l) (hlen : l.length ≤ 1000000) :
    Calls Try.prog 12 #[v, .int .i64 f, .int .i64 lost] w fun e w' => e = .returned (.tuple #[.int .i64 (worst l f lost), .int .i64 (spEr l f lost)]) ∧ Below w.heap.size w w' := by
  have hv' := hv
  obtain ⟨a, cap, rfl, h1, h2, h3⟩ := hv
  clear h3
  cases hok : spOk l f lost with
  | true =>
    have he := spEr_ok hok
    obtain ⟨m1, m2, m3, m4, m5, m6⟩ := sp_mk hok
    have hb := (spOk_iff l f lost).1 hok
    have hb1 := hb.2.1
    have hb2 := hb.2.2.1
    have hd := srt_bd l hb.1.2
    have hbt := bestP_take (srt l) (spM l f lost) (spK l f lost) m3 m4 (by rw [srt_length]; exact m5)
    have hml : ((srt l).take (spM l f lost)).length = spM l f lost := by rw [List.length_take, srt_length]; omega
    have hwd : ∀ i, 0 ≤ iAt ((srt l).take (spM l f lost)) i ∧ iAt ((srt l).take (spM l f lost)) i ≤ 1000000000000 := fun i => by
      rcases Nat.lt_or_ge i (spM l f lost) with h | h
      · rw [take_at _ _ _ h]; exact hd i
      · have : iAt ((srt l).take (spM l f lost)) i = 0 := by simp [iAt, List.getD_eq_getElem?_getD, List.getElem?_take, show ¬ i < spM l f lost by omega]
        omega
    rw [he, worst_ok hok, ← hbt]
    have Hok := hide hok
    have Hwd := hide hwd
    have Hml := hide hml
    have hk : (l.length : Int) - lost - 2 * f = (spK l f lost : Nat) := m2.symm
    have He := hide he
    have hk1 : IntKind.i64.wrap (2 * f) = 2 * f := IntWalk.i64_in _ (by omega)
    generalize hkq : spK l f lost = k at *
    generalize hDq : (srt l).take (spM l f lost) = D at *
    have HD := hide hDq
    clear hok hd hb hbt m2 hwd hml he hkq hDq
    go_enter Try.func12, Try.ntmps12
    go_wp2_with fail
    refine (Rcheck_any _ l f lost _ hv' hlen).mono ?_
    rintro e w1 ⟨rfl, b1⟩
    rw [He.out]
    go_wp2_with fail
    refine (Rright_any _ l f lost _ (hv'.below (Nat.le_refl _) b1) Hok.out).mono ?_
    rintro e w2 ⟨ov, rfl, ho, b2⟩
    rw [HD.out] at ho
    have hr := ho.row
    have z1 := b1.size
    have hB2 : Below w.heap.size w w2 := (by ((repeat' (first | exact Below.refl _ _ | exact b1 | exact b2 | refine Below.alloc ?_ ?_ _ | refine Below.setCell ?_ ?_ _ | refine Below.drew ?_ | refine below_drewN ?_ _ | refine Below.trans ?_ (b1.mono ?_) | refine Below.trans ?_ (b2.mono ?_))) <;> (first | omega | (simp; done) | (simp; omega))))
    have z2 := hB2.size
    clear ho
    go_wp2_with fail
    refine (RBest_any _ D k _ hr m3 (by rw [Hml.out]; exact m4) (by rw [Hml.out]; omega) Hwd.out).mono ?_
    rintro e w3 ⟨rfl, b3⟩
    go_wp2_with fail
    go_ret2
    exact ⟨rfl, (by ((repeat' (first | exact Below.refl _ _ | exact hB2 | exact b3 | refine Below.alloc ?_ ?_ _ | refine Below.setCell ?_ ?_ _ | refine Below.drew ?_ | refine below_drewN ?_ _ | refine Below.trans ?_ (hB2.mono ?_) | refine Below.trans ?_ (b3.mono ?_))) <;> (first | omega | (simp; done) | (simp; omega))))⟩
  | false =>
    rw [worst_no hok]
    have hne : (spEr l f lost == 0) = false := by rw [beq_eq_false_iff_ne]; rcases spEr_no hok with h | h <;> omega
    have hne2 : (spEr l f lost != 0) = true := by rw [bne_iff_ne]; rcases spEr_no hok with h | h <;> omega
    clear hok
    go_enter Try.func12, Try.ntmps12
    go_wp2_with fail
    refine (Rcheck_any _ l f lost _ hv' hlen).mono ?_
    rintro e w1 ⟨rfl, b1⟩
    go_wp2_with fail
    go_ret2
    exact ⟨rfl, b1⟩
end Go.Proofs.Ytcpfifbchijleaa
