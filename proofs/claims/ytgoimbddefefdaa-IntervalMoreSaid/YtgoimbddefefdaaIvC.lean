/- The reference's Hull, Same and after: what each call returns. -/
import Derived.Test.YtgoimbddefefdaaIvB
namespace Go.Proofs.Ytgoimbddefefdaa
open Go.RowKit
theorem run_eql_iv (w : World) (a b c d : Int) : (binOp .eql 24 (.agg #[.int .i64 a, .int .i64 b]) (.agg #[.int .i64 c, .int .i64 d])).run Try.prog w = .ok (.bool (ivEq a b c d)) w := by
  simp [go_sem, Try.underlying24]
  by_cases h1 : a = c <;> by_cases h2 : b = d <;> simp [ivEq, h1, h2]
theorem run_neq_iv (w : World) (a b c d : Int) : (binOp .neq 24 (.agg #[.int .i64 a, .int .i64 b]) (.agg #[.int .i64 c, .int .i64 d])).run Try.prog w = .ok (.bool (!ivEq a b c d)) w := by
  simp [go_sem, Try.underlying24]
  by_cases h1 : a = c <;> by_cases h2 : b = d <;> simp [ivEq, h1, h2]
attribute [local go_sem ↓] run_max_mx run_min_mn run_eql_iv run_neq_iv
theorem list_ext {l1 l2 : List Iv} (hl : l1.length = l2.length) (h : ∀ j, j < l1.length → iLo l1 j = iLo l2 j ∧ iHi l1 j = iHi l2 j) : l1 = l2 := by
  apply List.ext_getElem hl
  intro i h1 h2
  have := h i h1
  simp only [iLo, iHi, List.getD_eq_getElem?_getD, List.getElem?_eq_getElem h1, List.getElem?_eq_getElem h2, Option.getD_some] at this
  exact Prod.ext this.1 this.2

set_option maxRecDepth 100000 in
set_option maxHeartbeats 400000 in
theorem RSame_any (v1 v2 : Value) (l1 l2 : List Iv) (w : World) (hv1 : IvRow w v1 l1) (hv2 : IvRow w v2 l2) :
    Calls Try.prog 24 #[v1, v2] w fun e w' => e = .returned (.bool (decide (l1 = l2))) ∧ Below w.heap.size w w' := by
  obtain ⟨a, cap, rfl, h1, h2, h3⟩ := hv1
  obtain ⟨a', cap', rfl, h1', h2', h3'⟩ := hv2
  by_cases hlen : l1.length = l2.length
  · have hne : ((l1.length : Int) != (l2.length : Int)) = false := by simp [hlen]
    have hlen' := hide hlen; clear hlen
    go_enter Try.func24, Try.ntmps24
    go_wp2
    go_loopw [5] (fun i wr => ∃ k : Nat, k ≤ l1.length ∧ i = .int .i64 k ∧ (∀ j, j < k → iLo l1 j = iLo l2 j ∧ iHi l1 j = iHi l2 j) ∧ Below w.heap.size w wr) (fun i _ => l1.length - (intOf i).toNat)
    case atStart => exact ⟨0, Nat.zero_le _, rfl, fun j hj => by omega, Below.refl _ _⟩
    case round =>
      obtain ⟨k, hk, rfl, hall, hB⟩ := hrel
      have Hall := hide hall; clear hall
      by_cases hlt : k < l1.length
      · obtain ⟨b, off, rfl, h4, h5, h6⟩ := h3 k hlt
        obtain ⟨b', off', rfl, h4', h5', h6'⟩ := h3' k (by have := hlen'.out; omega)
        have g5 := (hB.cell (p := ⟨b, off + k * 2, none⟩) h4).trans h5
        have g6 := (hB.cell (p := ⟨b, off + k * 2 + 1, none⟩) h4).trans h6
        have g5' := (hB.cell (p := ⟨b', off' + k * 2, none⟩) h4').trans h5'
        have g6' := (hB.cell (p := ⟨b', off' + k * 2 + 1, none⟩) h4').trans h6'
        have hlt' : k < l2.length := by have := hlen'.out; omega
        clear h5 h6 h3 h5' h6' h3'
        by_cases heq : ivEq (iLo l1 k) (iHi l1 k) (iLo l2 k) (iHi l2 k) = true
        · go_wp2_with fail
          go_quiet (fail)
          go_wp2
          go_roundw
          case rel =>
            refine ⟨k + 1, by omega, by go_num, ?_, (by ((repeat' (first | exact Below.refl _ _ | exact hB | refine Below.alloc ?_ ?_ _ | refine Below.setCell ?_ ?_ _ | refine Below.drew ?_ | refine below_drewN ?_ _ | refine Below.trans ?_ (hB.mono ?_))) <;> (first | omega | (simp; done) | (simp; omega))))⟩
            intro j hj
            rcases Nat.lt_or_ge j k with h | h
            · exact Hall.out j h
            · obtain rfl : j = k := by omega
              simpa [ivEq] using heq
          case measure => simp [intOf]; omega
        · have heq' : ivEq (iLo l1 k) (iHi l1 k) (iLo l2 k) (iHi l2 k) = false := by simpa using heq
          clear heq
          go_wp2_with fail
          go_quiet (fail)
          go_wp2
          go_ret
          refine ⟨ret_bool ?_, (by ((repeat' (first | exact Below.refl _ _ | exact hB | refine Below.alloc ?_ ?_ _ | refine Below.setCell ?_ ?_ _ | refine Below.drew ?_ | refine below_drewN ?_ _ | refine Below.trans ?_ (hB.mono ?_))) <;> (first | omega | (simp; done) | (simp; omega))))⟩
          symm; rw [decide_eq_false_iff_not]
          rintro rfl
          simp [ivEq] at heq'
      · go_wp2
        go_ret
        refine ⟨ret_bool ?_, hB⟩
        symm; rw [decide_eq_true_iff]
        exact list_ext hlen'.out fun j hj => Hall.out j (by omega)
  · have hne : ((l1.length : Int) != (l2.length : Int)) = true := by rw [bne_iff_ne]; omega
    have hlen' := hide hlen; clear hlen
    go_enter Try.func24, Try.ntmps24
    go_wp2
    go_ret
    refine ⟨ret_bool ?_, Below.refl _ _⟩
    symm; rw [decide_eq_false_iff_not]
    rintro rfl
    exact hlen'.out rfl

set_option maxRecDepth 100000 in
set_option maxHeartbeats 1000000 in
theorem RHull_any (v : Value) (l : List Iv) (w : World) (hv : IvRow w v l) :
    Calls Try.prog 17 #[v] w fun e w' => e = .returned (.tuple #[.agg #[.int .i64 (hullLo l), .int .i64 (hullHi l)], .int .i64 (hullEr l)]) ∧ Below w.heap.size w w' := by
  have hv' := hv
  by_cases hl : hullOk l = true
  · have hfin : hullLo l = hLo l (l.length - 1) ∧ hullHi l = hHi l (l.length - 1) ∧ hullEr l = 0 := by simp [hullLo, hullHi, hullEr, hl]
    rw [hfin.1, hfin.2.1, hfin.2.2]
    clear hfin
    simp only [hullOk, Bool.and_eq_true, decide_eq_true_eq] at hl
    obtain ⟨hl, hne⟩ := hl
    obtain ⟨b, off, cap, rfl, h1, h2, h4, h5, h6, h7⟩ := hv'.at0 (by omega)
    have hne' : ((l.length : Int) == 0) = false := by rw [beq_eq_false_iff_ne]; omega
    have hne2 : 0 < l.length := by omega
    clear hne
    go_enter Try.func17, Try.ntmps17
    go_wp2_with fail
    refine (RList_any _ l _ (hv.below (Nat.le_refl _) ((Below.refl _ _).alloc (Nat.le_refl _) _))).mono ?_
    rintro e w0 ⟨rfl, hb0⟩
    have hB0 : Below w.heap.size w w0 := (by ((repeat' (first | exact Below.refl _ _ | exact hb0 | refine Below.alloc ?_ ?_ _ | refine Below.setCell ?_ ?_ _ | refine Below.drew ?_ | refine below_drewN ?_ _ | refine Below.trans ?_ (hb0.mono ?_))) <;> (first | omega | (simp; done) | (simp; omega))))
    have h5' := (hB0.cell (p := ⟨b, off, none⟩) h4).trans h5
    have h6' := (hB0.cell (p := ⟨b, off + 1, none⟩) h4).trans h6
    obtain ⟨c0, f0⟩ := bk hb0 w.heap.size (by simp)
    have hz0 := hb0.size
    simp only [World.size_alloc] at hz0
    go_wp2_with fail
    clear h5' h6'
    go_loopw [6] (fun i wr => ∃ k : Nat, k + 1 ≤ l.length ∧ i = .int .i64 ((k : Int) + 1) ∧ Below w0.heap.size w0 wr ∧ w0.heap.size < wr.heap.size ∧
        wr.cell? ⟨w0.heap.size, 0, none⟩ = some (.int .i64 (hLo l k)) ∧ wr.cell? ⟨w0.heap.size, 1, none⟩ = some (.int .i64 (hHi l k)) ∧ ∀ o, wr.frozen? ⟨w0.heap.size, o, none⟩ = false) (fun i _ => l.length - (intOf i).toNat)
    case atStart => exact ⟨0, by omega, rfl, (by ((repeat' (first | exact Below.refl _ _ | refine Below.alloc ?_ ?_ _ | refine Below.setCell ?_ ?_ _ | refine Below.drew ?_ | refine below_drewN ?_ _)) <;> (first | omega | (simp; done) | (simp; omega)))), by simp, by simp [hLo], by simp [hHi], by simp⟩
    case round =>
      obtain ⟨k, hk, rfl, hB, hz, g1, g2, g3⟩ := hrel
      by_cases hlt : k + 1 < l.length
      · obtain ⟨h8, h9⟩ := h7 (k + 1) hlt
        have h8' := ((hB0.trans (hB.mono (by omega))).cell (p := ⟨b, off + (k + 1) * 2, none⟩) h4).trans h8
        have h9' := ((hB0.trans (hB.mono (by omega))).cell (p := ⟨b, off + (k + 1) * 2 + 1, none⟩) h4).trans h9
        clear h8 h9 h7
        go_wp2
        go_region
        go_wp2
        have g1' : (wr.drew.setCell ⟨w0.heap.size, 0, none⟩ (.int .i64 (mn (hLo l k) (iLo l (k + 1))))).cell? ⟨w0.heap.size, 1, none⟩ = some (.int .i64 (hHi l k)) := by simp [go_sem, *]
        go_region
        go_wp2
        go_roundw
        case rel => exact ⟨k + 1, by omega, by go_num, (by ((repeat' (first | exact Below.refl _ _ | exact hB | refine Below.alloc ?_ ?_ _ | refine Below.setCell ?_ ?_ _ | refine Below.drew ?_ | refine below_drewN ?_ _ | refine Below.trans ?_ (hB.mono ?_))) <;> (first | omega | (simp; done) | (simp; omega)))), by simp; omega, by simp [go_sem, hLo, *], by simp [go_sem, hHi, *], by simp [go_sem, *]⟩
        case measure => simp [intOf]; omega
      · obtain ⟨c1, f1⟩ := bk hB w.heap.size (by omega)
        go_wp2
        obtain rfl : k = l.length - 1 := by omega
        refine bodyPost_ret (v := .tuple #[.agg #[.int .i64 (hLo l (l.length - 1)), .int .i64 (hHi l (l.length - 1))], .int .i64 0]) (by simp_all [results, Try.results17, go_sem]) rfl ⟨rfl, ?_⟩
        all_goals ((repeat' (first | exact Below.refl _ _ | exact hB | exact hB0 | refine Below.alloc ?_ ?_ _ | refine Below.setCell ?_ ?_ _ | refine Below.drew ?_ | refine below_drewN ?_ _ | refine Below.trans ?_ (hB.mono ?_) | refine Below.trans ?_ (hB0.mono ?_))) <;> (first | omega | (simp; done) | (simp; omega)))
  · have hfin : hullLo l = 0 ∧ hullHi l = 0 ∧ hullEr l = 1 := by simp [hullLo, hullHi, hullEr, hl]
    rw [hfin.1, hfin.2.1, hfin.2.2]
    clear hfin
    obtain ⟨a, cap, rfl, h1, h2, h3⟩ := hv'
    clear h3
    by_cases hlb : listB l = true
    · have h0' : ((l.length : Int) == 0) = true := by
        rw [beq_iff_eq]
        simp only [hullOk, hlb, Bool.true_and, decide_eq_true_eq] at hl
        omega
      clear hl
      go_enter Try.func17, Try.ntmps17
      go_wp2_with fail
      refine (RList_any _ l _ (hv.below (Nat.le_refl _) ((Below.refl _ _).alloc (Nat.le_refl _) _))).mono ?_
      rintro e w0 ⟨rfl, hb0⟩
      obtain ⟨c0, f0⟩ := bk hb0 w.heap.size (by simp)
      have hz0 := hb0.size
      simp only [World.size_alloc] at hz0
      go_wp2_with fail
      refine bodyPost_ret (v := .tuple #[.agg #[.int .i64 0, .int .i64 0], .int .i64 1]) (by simp_all [results, Try.results17, go_sem]) rfl ⟨rfl, ?_⟩
      all_goals ((repeat' (first | exact Below.refl _ _ | exact hb0 | refine Below.alloc ?_ ?_ _ | refine Below.setCell ?_ ?_ _ | refine Below.drew ?_ | refine below_drewN ?_ _ | refine Below.trans ?_ (hb0.mono ?_))) <;> (first | omega | (simp; done) | (simp; omega)))
    · have hlb' : listB l = false := by simpa using hlb
      clear hl hlb
      go_enter Try.func17, Try.ntmps17
      go_wp2_with fail
      refine (RList_any _ l _ (hv.below (Nat.le_refl _) ((Below.refl _ _).alloc (Nat.le_refl _) _))).mono ?_
      rintro e w0 ⟨rfl, hb0⟩
      obtain ⟨c0, f0⟩ := bk hb0 w.heap.size (by simp)
      have hz0 := hb0.size
      simp only [World.size_alloc] at hz0
      go_wp2_with fail
      refine bodyPost_ret (v := .tuple #[.agg #[.int .i64 0, .int .i64 0], .int .i64 1]) (by simp_all [results, Try.results17, go_sem]) rfl ⟨rfl, ?_⟩
      all_goals ((repeat' (first | exact Below.refl _ _ | exact hb0 | refine Below.alloc ?_ ?_ _ | refine Below.setCell ?_ ?_ _ | refine Below.drew ?_ | refine below_drewN ?_ _ | refine Below.trans ?_ (hb0.mono ?_))) <;> (first | omega | (simp; done) | (simp; omega)))
end Go.Proofs.Ytgoimbddefefdaa
