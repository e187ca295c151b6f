/- CombineExact: for every list and number the statement answers true and leaves its arguments as they were. No condition. -/
import Derived.Test.YtbocjiepobccpaaCbL
import Derived.Test.YtbocjiepobccpaaFr
import Derived.Shelf.SlSortCmp.QuietGrown
namespace Go.Proofs.Ytbocjiepobccpaa
open Go.RowKit
attribute [local go_sem ↓] run_max_mx run_min_mn run_eql_iv run_neq_iv
theorem mem_each {c : List Iv} (h : Sep c) {k : Nat} (hk : k < c.length) : mem c (iLo c k) ∧ mem c (iHi c k) := by
  obtain ⟨p, hp, e1, e2⟩ := mem_of_at hk
  have := h.2 p hp
  exact ⟨⟨p, hp, by omega, by omega⟩, ⟨p, hp, by omega, by omega⟩⟩
theorem cb_none {l : List Iv} {f : Int} (h : setOk l f = true) (hc : cbEr l f ≠ 0) : cbEr l f = 21 ∧ setL l f = [] := by
  rcases cb_ways l f with ⟨q1, q2, q3⟩ | ⟨q1, q2, q3⟩ | ⟨q1, q2, q3⟩
  · exact absurd q3 hc
  · exact ⟨q3, q2⟩
  · exact absurd (setEr_ok h) q1
set_option maxRecDepth 100000 in
set_option maxHeartbeats 1000000 in
theorem CbExact_any (w : World) (v : Value) (l : List Iv) (hv : IvRow w v l) (f : Int) (hf : 0 ≤ f ∧ f ≤ 255) :
    Calls Try.prog 5 #[v, .int .u8 f] w fun e w' => e = .returned (.bool true) ∧ Below w.heap.size w w' := by
  have hv' := hv
  obtain ⟨a, cap, rfl, h1, h2, h3⟩ := hv
  clear h3
  by_cases hl : listB l = true
  case neg =>
    have hl' : listB l = false := by simpa using hl
    go_enter Try.func5, Try.ntmps5
    go_wp2_with fail
    refine (head_any _).mono ?_
    rintro e w1 ⟨rfl, b1⟩
    go_wp2_with fail
    refine (RList_any _ l _ (hv'.below (Nat.le_refl _) b1)).mono ?_
    rintro e w2 ⟨rfl, b2⟩
    rw [hl']
    go_wp2_with fail
    go_ret
    have := b1.size
    exact ⟨rfl, (by ((repeat' (first | exact Below.refl _ _ | exact b1 | exact b2 | refine Below.alloc ?_ ?_ _ | refine Below.setCell ?_ ?_ _ | refine Below.drew ?_ | refine below_drewN ?_ _ | refine Below.trans ?_ (b1.mono ?_) | refine Below.trans ?_ (b2.mono ?_))) <;> (first | omega | (simp; done) | (simp; omega))))⟩
  by_cases hfl : f < l.length
  case neg =>
    go_enter Try.func5, Try.ntmps5
    go_wp2_with fail
    refine (head_any _).mono ?_
    rintro e w1 ⟨rfl, b1⟩
    go_wp2_with fail
    refine (RList_any _ l _ (hv'.below (Nat.le_refl _) b1)).mono ?_
    rintro e w2 ⟨rfl, b2⟩
    rw [hl]
    go_wp2_with fail
    go_ret
    have := b1.size
    exact ⟨rfl, (by ((repeat' (first | exact Below.refl _ _ | exact b1 | exact b2 | refine Below.alloc ?_ ?_ _ | refine Below.setCell ?_ ?_ _ | refine Below.drew ?_ | refine below_drewN ?_ _ | refine Below.trans ?_ (b1.mono ?_) | refine Below.trans ?_ (b2.mono ?_))) <;> (first | omega | (simp; done) | (simp; omega))))⟩
  have hok : setOk l f = true := (setOk_iff l f).2 ⟨hl, hf.1, hfl⟩
  have her := setEr_ok hok
  have Her := hide her
  have Hok := hide hok
  clear hok her
  go_enter Try.func5, Try.ntmps5
  go_wp2_with fail
  refine (head_any _).mono ?_
  rintro e w1 ⟨rfl, b1⟩
  go_wp2_with fail
  refine (RList_any _ l _ (hv'.below (Nat.le_refl _) b1)).mono ?_
  rintro e w2 ⟨rfl, b2⟩
  rw [hl]
  have z1 := b1.size
  have hB2 : Below w.heap.size w w2 := (by ((repeat' (first | exact Below.refl _ _ | exact b1 | exact b2 | refine Below.alloc ?_ ?_ _ | refine Below.setCell ?_ ?_ _ | refine Below.drew ?_ | refine below_drewN ?_ _ | refine Below.trans ?_ (b1.mono ?_) | refine Below.trans ?_ (b2.mono ?_))) <;> (first | omega | (simp; done) | (simp; omega))))
  have z2 := hB2.size
  go_wp2_with fail
  refine (Set_any _ l _ _ (hv'.below (Nat.le_refl _) hB2)).mono ?_
  rintro e w3 ⟨sv, rfl, ho, b3⟩
  rw [Her.out]
  have hB3 : Below w.heap.size w w3 := (by ((repeat' (first | exact Below.refl _ _ | exact hB2 | exact b3 | refine Below.alloc ?_ ?_ _ | refine Below.setCell ?_ ?_ _ | refine Below.drew ?_ | refine below_drewN ?_ _ | refine Below.trans ?_ (hB2.mono ?_) | refine Below.trans ?_ (b3.mono ?_))) <;> (first | omega | (simp; done) | (simp; omega))))
  have z3 := hB3.size
  go_wp2_with fail
  refine (Combine_any _ l _ _ (hv'.below (Nat.le_refl _) hB3)).mono ?_
  rintro e w4 ⟨rfl, b4⟩
  have hr4 := ho.row.below (Nat.le_refl _) b4
  have hB4 : Below w.heap.size w w4 := (by ((repeat' (first | exact Below.refl _ _ | exact hB3 | exact b4 | refine Below.alloc ?_ ?_ _ | refine Below.setCell ?_ ?_ _ | refine Below.drew ?_ | refine below_drewN ?_ _ | refine Below.trans ?_ (hB3.mono ?_) | refine Below.trans ?_ (b4.mono ?_))) <;> (first | omega | (simp; done) | (simp; omega))))
  have z4 := hB4.size
  clear ho
  by_cases hce : cbEr l f = 0
  case neg =>
    have hn := cb_none Hok.out hce
    have hr4' := hr4
    rw [hn.2] at hr4'
    obtain ⟨sa, scap, rfl, s1, s2, s3⟩ := hr4'
    rw [hn.1]
    clear hr4 s3
    go_wp2_with fail
    go_ret
    exact ⟨rfl, (by ((repeat' (first | exact Below.refl _ _ | exact hB4 | refine Below.alloc ?_ ?_ _ | refine Below.setCell ?_ ?_ _ | refine Below.drew ?_ | refine below_drewN ?_ _ | refine Below.trans ?_ (hB4.mono ?_))) <;> (first | omega | (simp; done) | (simp; omega))))⟩
  have hpos := (cbEr_zero hce).2
  have hSep := hide (setL_spec Hok.out).1
  have hMem := hide (mem_setL Hok.out)
  have hcl := setL_length l f
  have hl64 := ((listB_iff l).1 hl).1
  have hcb : missTo l (cbLo l f) l.length ≤ f ∧ missTo l (cbHi l f) l.length ≤ f := by
    have := (setL_spec Hok.out).1.ends_mem hpos
    exact ⟨(mem_setL Hok.out _).1 this.1, (mem_setL Hok.out _).1 this.2⟩
  obtain ⟨hcb1, hcb2⟩ := hcb
  rw [hce]
  have hr4' := hr4
  obtain ⟨sa, scap, rfl, s1, s2, s3⟩ := hr4
  generalize hcq : setL l f = c at *
  have Hcq := hide hcq
  clear hcq hce
  go_wp2_with fail
  go_loopw [10] (fun s11 wx => ∃ k : Nat, k ≤ c.length ∧ s11 = .int .i64 k ∧ Below (w4.heap.size + 1) (w4.alloc (.cells #[.int .i64 (cbLo l f), .int .i64 (cbHi l f)] 29)) wx) (fun s11 _ => c.length - (intOf s11).toNat)
  case atStart => exact ⟨0, Nat.zero_le _, rfl, Below.refl _ _⟩
  case round =>
    obtain ⟨k, hk, rfl, hBx⟩ := hrel
    have hB4x : Below w4.heap.size w4 wr := (by ((repeat' (first | exact Below.refl _ _ | exact hBx | refine Below.alloc ?_ ?_ _ | refine Below.setCell ?_ ?_ _ | refine Below.drew ?_ | refine below_drewN ?_ _ | refine Below.trans ?_ (hBx.mono ?_))) <;> (first | omega | (simp; done) | (simp; omega))))
    have hBw : Below w.heap.size w wr := (by ((repeat' (first | exact Below.refl _ _ | exact hB4 | exact hB4x | refine Below.alloc ?_ ?_ _ | refine Below.setCell ?_ ?_ _ | refine Below.drew ?_ | refine below_drewN ?_ _ | refine Below.trans ?_ (hB4.mono ?_) | refine Below.trans ?_ (hB4x.mono ?_))) <;> (first | omega | (simp; done) | (simp; omega))))
    have zx := hB4x.size
    have zw := hBw.size
    have hvx := hv'.below (Nat.le_refl _) hBw
    by_cases hlt : k < c.length
    · obtain ⟨b, off, rfl, h4, h5, h6⟩ := s3 k hlt
      have h5' := (hB4x.cell (p := ⟨b, off + k * 2, none⟩) h4).trans h5
      have h6' := (hB4x.cell (p := ⟨b, off + k * 2 + 1, none⟩) h4).trans h6
      have m := mem_each hSep.out hlt
      have m1 := (hMem.out _).1 m.1
      have m2 := (hMem.out _).1 m.2
      clear h5 h6 m s3
      go_wp2_with fail
      refine (RMissing_any _ l _ _ hvx).mono ?_
      rintro e w5 ⟨rfl, b5⟩
      have y5 := (b5.cell (p := ⟨b, off + k * 2 + 1, none⟩) (by show b < _; omega)).trans h6'
      go_wp2_with fail
      refine (RMissing_any _ l _ _ (hvx.below (Nat.le_refl _) b5)).mono ?_
      rintro e w6 ⟨rfl, b6⟩
      have z5 := b5.size
      have b56 : Below wr.heap.size wr w6 := (by ((repeat' (first | exact Below.refl _ _ | exact b5 | exact b6 | refine Below.alloc ?_ ?_ _ | refine Below.setCell ?_ ?_ _ | refine Below.drew ?_ | refine below_drewN ?_ _ | refine Below.trans ?_ (b5.mono ?_) | refine Below.trans ?_ (b6.mono ?_))) <;> (first | omega | (simp; done) | (simp; omega))))
      go_wp2_with fail
      go_roundw
      case rel => exact ⟨k + 1, by omega, by go_num, hBx.trans (b56.mono (by have := hBx.size; simp only [World.size_alloc] at this; exact this))⟩
      case measure => simp [intOf]; omega
    · obtain rfl : k = c.length := by omega
      obtain ⟨cx, _⟩ := bk hBx w4.heap.size (by omega)
      have zxx := hBx.size
      simp only [World.size_alloc] at zxx
      have d0 : wr.cell? ⟨w4.heap.size, 0, none⟩ = some (.int .i64 (cbLo l f)) := by rw [cx]; simp
      have d1 : wr.cell? ⟨w4.heap.size, 1, none⟩ = some (.int .i64 (cbHi l f)) := by rw [cx]; simp
      have k4x : w4.heap.size < wr.heap.size := by omega
      go_wp2_with fail
      refine (RMissing_any _ l _ _ hvx).mono ?_
      rintro e w5 ⟨rfl, b5⟩
      have y5 := (b5.cell (p := ⟨w4.heap.size, 1, none⟩) (by show w4.heap.size < _; omega)).trans d1
      go_wp2_with fail
      refine (RMissing_any _ l _ _ (hvx.below (Nat.le_refl _) b5)).mono ?_
      rintro e w6 ⟨rfl, b6⟩
      have z5 := b5.size
      go_wp2_with fail
      go_ret
      exact ⟨ret_bool (by simp), (by ((repeat' (first | exact Below.refl _ _ | exact hBw | exact b5 | exact b6 | refine Below.alloc ?_ ?_ _ | refine Below.setCell ?_ ?_ _ | refine Below.drew ?_ | refine below_drewN ?_ _ | refine Below.trans ?_ (hBw.mono ?_) | refine Below.trans ?_ (b5.mono ?_) | refine Below.trans ?_ (b6.mono ?_))) <;> (first | omega | (simp; done) | (simp; omega))))⟩
set_option maxRecDepth 100000 in
theorem combineExact_holds : Rows.CombineExactSaid :=
  OpenClaim.holds_of_wide 5 Try.f5 rfl rfl rfl rfl rfl rfl rfl ⟨rfl, rfl, rfl, rfl, rfl⟩ rfl rfl rfl rfl rfl (by kernel_rfl) Try.func5 (by kernel_rfl)
    (of_decide_eq_true (by kernel_rfl)) (by unfold Func.isWrapper; rw [if_neg (of_decide_eq_false (by kernel_rfl))]; exact ⟨rfl, rfl⟩)
    (fun os started H enc _ => law_lifted started 5 Try.f5 Try.func5 (by kernel_rfl) Rows.combineExactSpec rfl rfl
      (fun ds h => by match ds, h with | [_, _], _ => exact ⟨rfl, rfl, rfl⟩)
      (fun t h => by
        rw [Try.params5] at h
        simp only [List.mem_cons, List.not_mem_nil, or_false] at h
        rcases h with rfl | rfl <;> exact ⟨by kernel_rfl, of_decide_eq_true (by kernel_rfl)⟩)
      (ChangeSpec.witness6 (enc := enc) (C := Try.checked) false ⟨#[], #[.slice none 0 0, .int .u8 0], []⟩ 8 (by kernel_rfl) (by kernel_rfl) (by kernel_rfl) (by kernel_rfl))
      (fun W base args ds p hA hok => by
        rw [Try.params5] at hA hok
        obtain ⟨v0, vs0, d0, ds0, p0, q0, hargs, rfl, rfl, h0, r0⟩ := ChangeShapes.trodAll_cons hA
        obtain ⟨v1, vs1, d1, ds1, p1, q1, rfl, rfl, rfl, h1, r1⟩ := ChangeShapes.trodAll_cons r0
        obtain ⟨rfl, rfl, rfl⟩ := ChangeShapes.trodAll_nil r1
        obtain rfl : args = #[v0, v1] := by rw [← Array.toArray_toList (xs := args), hargs]
        obtain ⟨l0, hl0, wl0⟩ := open_ivs (hok 0 _ v0 rfl rfl) h0
        obtain ⟨x1, rfl, hx1⟩ := open_u8 Try.underlying5 (hok 1 _ v1 rfl rfl) h1
        exact CbExact_any W v0 l0 hl0 x1 hx1))
end Go.Proofs.Ytbocjiepobccpaa
