/- CombineOutside: for every list and numbers the statement answers true and leaves its arguments as they were. No condition. -/
import Derived.Test.YtbocjiepobccpaaCbL
import Derived.Test.YtbocjiepobccpaaFr
import Derived.Shelf.SlSortCmp.QuietGrown
namespace Go.Proofs.Ytbocjiepobccpaa
open Go.RowKit
attribute [local go_sem ↓] run_max_mx run_min_mn run_eql_iv run_neq_iv
theorem below_grow {B : Nat} {a w : World} (h : Below B a w) (hB : B ≤ w.heap.size) (n : Nat) (os : Array Obj) : Below B a (Sort.grow (w.drewN n) os) :=
  (below_drewN h n).trans ⟨rfl, rfl, rfl, by rw [Sort.size_grow]; omega, fun k hk => Sort.heap_grow_old (w.drewN n) os (Nat.lt_of_lt_of_le hk hB)⟩
theorem out_not {l c : List Iv} {x : Int} (hx : mem c x) {j : Nat} (h : anyX (iLo l j) (iHi l j) c c.length = false) : hasB (iLo l j) (iHi l j) x = false := by
  cases hh : hasB (iLo l j) (iHi l j) x with
  | false => rfl
  | true =>
    simp only [hasB, decide_eq_true_eq] at hh
    rw [anyX_mem.2 ⟨x, hh.1, hh.2, hx⟩] at h; cases h
theorem outTo_miss {l c : List Iv} {x : Int} (hx : mem c x) : ∀ k, ((outTo l c k).length : Int) ≤ missTo l x k
  | 0 => by simp [outTo, missTo]
  | k + 1 => by
    have ih := outTo_miss (l := l) hx k
    unfold outTo missTo
    cases h : anyX (iLo l k) (iHi l k) c c.length with
    | true => rw [if_pos rfl]; split <;> omega
    | false =>
      have h2 := out_not hx h
      rw [if_neg (by simp), if_neg (by simp [h2])]
      simp; omega
theorem outTo_at {l c : List Iv} {n k : Nat} (hk : k < (outTo l c n).length) : ∃ j : Nat, j < n ∧ iAt (outTo l c n) k = j ∧ anyX (iLo l j) (iHi l j) c c.length = false := (outTo_mem l c n _).1 (iAt_mem hk)
theorem outTo_lt {l c : List Iv} {n k : Nat} (hk : k + 1 < (outTo l c n).length) : iAt (outTo l c n) k < iAt (outTo l c n) (k + 1) := by
  rw [iAt_lt _ _ hk, iAt_lt _ _ (by omega)]
  exact List.pairwise_iff_getElem.1 (outTo_sorted l c n) k (k + 1) (by omega) hk (by omega)
set_option maxRecDepth 100000 in
set_option maxHeartbeats 1000000 in
theorem CbOutside_any (w : World) (v : Value) (l : List Iv) (hv : IvRow w v l) (f : Int) (hf : 0 ≤ f ∧ f ≤ 255) (x : Int) :
    Calls Try.prog 7 #[v, .int .u8 f, .int .i64 x] w fun e w' => e = .returned (.bool true) ∧ Below w.heap.size w w' := by
  have hv' := hv
  obtain ⟨a, cap, rfl, h1, h2, h3⟩ := hv
  have hmb := missTo_bd l x l.length
  by_cases hl : listB l = true
  case neg =>
    have hl' : listB l = false := by simpa using hl
    clear h3
    go_enter Try.func7, Try.ntmps7
    go_wp2_with fail
    refine (head_any _).mono ?_
    rintro e w1 ⟨rfl, b1⟩
    go_wp2_with fail
    refine (RList_any _ l _ (hv'.below (Nat.le_refl _) b1)).mono ?_
    rintro e w2 ⟨rfl, b2⟩
    rw [hl']
    go_wp2_with fail
    go_ret
    have := b1.size
    exact ⟨rfl, (by ((repeat' (first | exact Below.refl _ _ | exact b1 | exact b2 | refine Below.alloc ?_ ?_ _ | refine Below.setCell ?_ ?_ _ | refine Below.drew ?_ | refine below_drewN ?_ _ | refine Below.trans ?_ (b1.mono ?_) | refine Below.trans ?_ (b2.mono ?_))) <;> (first | omega | (simp; done) | (simp; omega))))⟩
  by_cases hfl : f < l.length
  case neg =>
    clear h3
    go_enter Try.func7, Try.ntmps7
    go_wp2_with fail
    refine (head_any _).mono ?_
    rintro e w1 ⟨rfl, b1⟩
    go_wp2_with fail
    refine (RList_any _ l _ (hv'.below (Nat.le_refl _) b1)).mono ?_
    rintro e w2 ⟨rfl, b2⟩
    rw [hl]
    go_wp2_with fail
    go_ret
    have := b1.size
    exact ⟨rfl, (by ((repeat' (first | exact Below.refl _ _ | exact b1 | exact b2 | refine Below.alloc ?_ ?_ _ | refine Below.setCell ?_ ?_ _ | refine Below.drew ?_ | refine below_drewN ?_ _ | refine Below.trans ?_ (b1.mono ?_) | refine Below.trans ?_ (b2.mono ?_))) <;> (first | omega | (simp; done) | (simp; omega))))⟩
  by_cases hm : missTo l x l.length ≤ f
  case neg =>
    clear h3
    go_enter Try.func7, Try.ntmps7
    go_wp2_with fail
    refine (head_any _).mono ?_
    rintro e w1 ⟨rfl, b1⟩
    go_wp2_with fail
    refine (RList_any _ l _ (hv'.below (Nat.le_refl _) b1)).mono ?_
    rintro e w2 ⟨rfl, b2⟩
    rw [hl]
    have := b1.size
    go_wp2_with fail
    refine (RMissing_any _ l _ _ (hv'.below (Nat.le_refl _) (by ((repeat' (first | exact Below.refl _ _ | exact b1 | exact b2 | refine Below.alloc ?_ ?_ _ | refine Below.setCell ?_ ?_ _ | refine Below.drew ?_ | refine below_drewN ?_ _ | refine Below.trans ?_ (b1.mono ?_) | refine Below.trans ?_ (b2.mono ?_))) <;> (first | omega | (simp; done) | (simp; omega)))))).mono ?_
    rintro e w3 ⟨rfl, b3⟩
    have := b2.size
    go_wp2_with fail
    go_ret
    exact ⟨rfl, (by ((repeat' (first | exact Below.refl _ _ | exact b1 | exact b2 | exact b3 | refine Below.alloc ?_ ?_ _ | refine Below.setCell ?_ ?_ _ | refine Below.drew ?_ | refine below_drewN ?_ _ | refine Below.trans ?_ (b1.mono ?_) | refine Below.trans ?_ (b2.mono ?_) | refine Below.trans ?_ (b3.mono ?_))) <;> (first | omega | (simp; done) | (simp; omega))))⟩
  have hok : setOk l f = true := (setOk_iff l f).2 ⟨hl, hf.1, hfl⟩
  have hmem := (mem_setL hok x).2 hm
  have Hce := hide (cbEr_mem hmem)
  have hle : ((outL l f).length : Int) ≤ f := by
    have := outTo_miss (l := l) hmem l.length
    rw [← (set_valid (mem_pos hmem)).2.2.2.2.2] at this
    omega
  have hol := outL_length l f
  have hl64 := ((listB_iff l).1 hl).1
  have hat : ∀ k, k < (outL l f).length → ∃ j : Nat, j < l.length ∧ iAt (outL l f) k = j ∧ hasB (iLo l j) (iHi l j) x = false := by
    rw [(set_valid (mem_pos hmem)).2.2.2.2.2]
    intro k hk
    obtain ⟨j, h1, h2, h3⟩ := outTo_at hk
    exact ⟨j, h1, h2, out_not hmem h3⟩
  have hlt : ∀ k, k + 1 < (outL l f).length → iAt (outL l f) k < iAt (outL l f) (k + 1) := by
    rw [(set_valid (mem_pos hmem)).2.2.2.2.2]
    intro k hk
    exact outTo_lt hk
  have Hat := hide hat
  have Hlt := hide hlt
  clear hat hlt
  clear hok hmem
  go_enter Try.func7, Try.ntmps7
  go_wp2_with fail
  refine (head_any _).mono ?_
  rintro e w1 ⟨rfl, b1⟩
  go_wp2_with fail
  refine (RList_any _ l _ (hv'.below (Nat.le_refl _) b1)).mono ?_
  rintro e w2 ⟨rfl, b2⟩
  rw [hl]
  have z1 := b1.size
  have hB2 : Below w.heap.size w w2 := (by ((repeat' (first | exact Below.refl _ _ | exact b1 | exact b2 | refine Below.alloc ?_ ?_ _ | refine Below.setCell ?_ ?_ _ | refine Below.drew ?_ | refine below_drewN ?_ _ | refine Below.trans ?_ (b1.mono ?_) | refine Below.trans ?_ (b2.mono ?_))) <;> (first | omega | (simp; done) | (simp; omega))))
  have z2 := hB2.size
  go_wp2_with fail
  refine (RMissing_any _ l _ _ (hv'.below (Nat.le_refl _) hB2)).mono ?_
  rintro e w3 ⟨rfl, b3⟩
  have hB3 : Below w.heap.size w w3 := (by ((repeat' (first | exact Below.refl _ _ | exact hB2 | exact b3 | refine Below.alloc ?_ ?_ _ | refine Below.setCell ?_ ?_ _ | refine Below.drew ?_ | refine below_drewN ?_ _ | refine Below.trans ?_ (hB2.mono ?_) | refine Below.trans ?_ (b3.mono ?_))) <;> (first | omega | (simp; done) | (simp; omega))))
  have z3 := hB3.size
  go_wp2_with fail
  refine (Outside_any _ l _ _ (hv'.below (Nat.le_refl _) hB3)).mono ?_
  rintro e w4 ⟨sv, rfl, ho, b4⟩
  rw [Hce.out]
  have hr4 := ho.row
  have hB4 : Below w.heap.size w w4 := (by ((repeat' (first | exact Below.refl _ _ | exact hB3 | exact b4 | refine Below.alloc ?_ ?_ _ | refine Below.setCell ?_ ?_ _ | refine Below.drew ?_ | refine below_drewN ?_ _ | refine Below.trans ?_ (hB3.mono ?_) | refine Below.trans ?_ (b4.mono ?_))) <;> (first | omega | (simp; done) | (simp; omega))))
  have z4 := hB4.size
  obtain ⟨sa, scap, rfl, s1, s2, s3⟩ := hr4
  clear ho b1 b2 b3 b4 hB2 hB3
  generalize hoq : outL l f = o at *
  clear hoq
  go_wp2_with fail
  go_loopw [10] (fun s10 wx => ∃ k : Nat, k ≤ o.length ∧ s10 = .int .i64 k ∧ Below w.heap.size w wx ∧ Below w4.heap.size w4 wx) (fun s10 _ => o.length - (intOf s10).toNat)
  case atStart => exact ⟨0, Nat.zero_le _, rfl, hB4, Below.refl _ _⟩
  case round =>
    obtain ⟨k, hk, rfl, hB, hBc⟩ := hrel
    have hz := hB.size
    have hzc := hBc.size
    have mixed : Try.prog.follows .mixedOrders = true := by kernel_rfl
    by_cases hlt : k < o.length
    · obtain ⟨j, j1, j2, j3⟩ := Hat.out k hlt
      obtain ⟨b, off, rfl, h4, h5, h6⟩ := h3 j j1
      obtain ⟨b2, off2, rfl, q4, q5⟩ := s3 k hlt
      rw [j2] at q5
      have h5' := fun n os => cell_grown (Nat.lt_of_lt_of_le h4 hz) ((hB.cell (p := ⟨b, off + j * 2, none⟩) h4).trans h5) n os
      have h6' := fun n os => cell_grown (Nat.lt_of_lt_of_le h4 hz) ((hB.cell (p := ⟨b, off + j * 2 + 1, none⟩) h4).trans h6) n os
      have q5' := fun n os => cell_grown (Nat.lt_of_lt_of_le q4 hzc) ((hBc.cell (p := ⟨b2, off2 + k, none⟩) q4).trans q5) n os
      have j4 : ¬ l.length ≤ j := by omega
      have j5 : decide ((j : Int) < 0) = false := decide_eq_false (by omega)
      have j6 : decide (l.length ≤ j) = false := decide_eq_false (by omega)
      have j7 : decide ((l.length : Int) ≤ (j : Int)) = false := decide_eq_false (by omega)
      clear h5 h6
      cases k with
      | zero =>
        simp only [Nat.add_zero] at q5'
        clear j2 q5 s3 h3
        go_wp2_with fail
        refine wp_region_quiet_grown (by assumption) (by kernel_rfl) ?_
        repeat (go_big_quiet_step (first | (go_at_call 22; exact Calls.grown_of ((RHas_any _ _ _ _).mono (by rintro e w' ⟨rfl, rfl⟩; exact ⟨rfl, 0, _, by rw [World.drewN_zero]; exact Sort.alloc_eq_grow _ _⟩)))))
        refine wpQuiet_nil ?_
        intro _ hw'
        obtain ⟨⟨nq, osq⟩, hw''⟩ := hw'
        subst hw''
        go_wp2_with fail
        exact ⟨⟨1, by omega, by simp, below_grow hB hz _ _, below_grow hBc hzc _ _⟩, by simp [intOf]; omega⟩
      | succ k =>
        have hnx := Hlt.out k hlt
        obtain ⟨i, i1, i2, i3⟩ := Hat.out k (by omega)
        rw [j2, i2] at hnx
        obtain ⟨b3, off3, hb3, r4, r5⟩ := s3 k (by omega)
        cases hb3
        rw [i2] at r5
        have r5' := fun n os => cell_grown (Nat.lt_of_lt_of_le q4 hzc) ((hBc.cell (p := ⟨b2, off2 + k, none⟩) q4).trans r5) n os
        have i4 : ¬ j ≤ i := by omega
        have i5 : decide (j ≤ i) = false := decide_eq_false (by omega)
        have i6 : decide ((j : Int) ≤ (i : Int)) = false := decide_eq_false (by omega)
        clear j2 q5 s3 h3 i2 i3 i1 hnx r5
        go_wp2_with fail
        refine wp_region_quiet_grown (by assumption) (by kernel_rfl) ?_
        repeat (go_big_quiet_step (first | (go_at_call 22; exact Calls.grown_of ((RHas_any _ _ _ _).mono (by rintro e w' ⟨rfl, rfl⟩; exact ⟨rfl, 0, _, by rw [World.drewN_zero]; exact Sort.alloc_eq_grow _ _⟩)))))
        refine wpQuiet_nil ?_
        intro _ hw'
        obtain ⟨⟨nq, osq⟩, hw''⟩ := hw'
        subst hw''
        go_wp2_with fail
        exact ⟨⟨k + 1 + 1, by omega, by simp, below_grow hB hz _ _, below_grow hBc hzc _ _⟩, by simp [intOf]; omega⟩
    · obtain rfl : k = o.length := by omega
      go_wp2_with fail
      go_ret
      exact ⟨ret_bool (by first | (simp; done) | (simp; omega)), hB⟩
set_option maxRecDepth 100000 in
theorem combineOutside_holds : Rows.CombineOutsideSaid :=
  OpenClaim.holds_of_wide 7 Try.f7 rfl rfl rfl rfl rfl rfl rfl ⟨rfl, rfl, rfl, rfl, rfl⟩ rfl rfl rfl rfl rfl (by kernel_rfl) Try.func7 (by kernel_rfl)
    (of_decide_eq_true (by kernel_rfl)) (by unfold Func.isWrapper; rw [if_neg (of_decide_eq_false (by kernel_rfl))]; exact ⟨rfl, rfl⟩)
    (fun os started H enc _ => law_lifted started 7 Try.f7 Try.func7 (by kernel_rfl) Rows.combineOutsideSpec rfl rfl
      (fun ds h => by match ds, h with | [_, _, _], _ => exact ⟨rfl, rfl, rfl⟩)
      (fun t h => by
        rw [Try.params7] at h
        simp only [List.mem_cons, List.not_mem_nil, or_false] at h
        rcases h with rfl | rfl | rfl <;> exact ⟨by kernel_rfl, of_decide_eq_true (by kernel_rfl)⟩)
      (ChangeSpec.witness6 (enc := enc) (C := Try.checked) false ⟨#[], #[.slice none 0 0, .int .u8 0, .int .i64 0], []⟩ 8 (by kernel_rfl) (by kernel_rfl) (by kernel_rfl) (by kernel_rfl))
      (fun W base args ds p hA hok => by
        rw [Try.params7] at hA hok
        obtain ⟨v0, vs0, d0, ds0, p0, q0, hargs, rfl, rfl, h0, r0⟩ := ChangeShapes.trodAll_cons hA
        obtain ⟨v1, vs1, d1, ds1, p1, q1, rfl, rfl, rfl, h1, r1⟩ := ChangeShapes.trodAll_cons r0
        obtain ⟨v2, vs2, d2, ds2, p2, q2, rfl, rfl, rfl, h2, r2⟩ := ChangeShapes.trodAll_cons r1
        obtain ⟨rfl, rfl, rfl⟩ := ChangeShapes.trodAll_nil r2
        obtain rfl : args = #[v0, v1, v2] := by rw [← Array.toArray_toList (xs := args), hargs]
        obtain ⟨l0, hl0, wl0⟩ := open_ivs (hok 0 _ v0 rfl rfl) h0
        obtain ⟨x1, rfl, hx1⟩ := open_u8 Try.underlying5 (hok 1 _ v1 rfl rfl) h1
        obtain ⟨x2, rfl, hx2⟩ := open_i64 Try.underlying3 (hok 2 _ v2 rfl rfl) h2
        exact CbOutside_any W v0 l0 hl0 x1 hx1 x2))
end Go.Proofs.Ytbocjiepobccpaa
