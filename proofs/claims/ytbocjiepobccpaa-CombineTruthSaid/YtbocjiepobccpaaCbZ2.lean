/- CombineTruth: for every list and numbers the statement answers true and leaves its arguments as they were. No condition. -/
import Derived.Test.YtbocjiepobccpaaCbL
import Derived.Test.YtbocjiepobccpaaCbQ
import Derived.Test.YtbocjiepobccpaaFr
namespace Go.Proofs.Ytbocjiepobccpaa
open Go.RowKit
attribute [local go_sem ↓] run_max_mx run_min_mn run_eql_iv run_neq_iv
set_option maxRecDepth 100000 in
set_option maxHeartbeats 1000000 in
theorem CbTruth_any (w : World) (v : Value) (l : List Iv) (hv : IvRow w v l) (f : Int) (hf : 0 ≤ f ∧ f ≤ 255) (x : Int) :
    Calls Try.prog 4 #[v, .int .u8 f, .int .i64 x] w fun e w' => e = .returned (.bool true) ∧ Below w.heap.size w w' := by
  have hv' := hv
  obtain ⟨a, cap, rfl, h1, h2, h3⟩ := hv
  clear h3
  have hmb := missTo_bd l x l.length
  by_cases hl : listB l = true
  case neg =>
    have hl' : listB l = false := by simpa using hl
    go_enter Try.func4, Try.ntmps4
    go_wp2_with fail
    refine (head_any _).mono ?_
    rintro e w1 ⟨rfl, b1⟩
    go_wp2_with fail
    refine (RList_any _ l _ (hv'.below (Nat.le_refl _) b1)).mono ?_
    rintro e w2 ⟨rfl, b2⟩
    rw [hl']
    go_wp2_with fail
    go_ret
    have := b1.size
    exact ⟨rfl, (by ((repeat' (first | exact Below.refl _ _ | exact b1 | exact b2 | refine Below.alloc ?_ ?_ _ | refine Below.setCell ?_ ?_ _ | refine Below.drew ?_ | refine below_drewN ?_ _ | refine Below.trans ?_ (b1.mono ?_) | refine Below.trans ?_ (b2.mono ?_))) <;> (first | omega | (simp; done) | (simp; omega))))⟩
  by_cases hfl : f < l.length
  case neg =>
    go_enter Try.func4, Try.ntmps4
    go_wp2_with fail
    refine (head_any _).mono ?_
    rintro e w1 ⟨rfl, b1⟩
    go_wp2_with fail
    refine (RList_any _ l _ (hv'.below (Nat.le_refl _) b1)).mono ?_
    rintro e w2 ⟨rfl, b2⟩
    rw [hl]
    go_wp2_with fail
    go_ret
    have := b1.size
    exact ⟨rfl, (by ((repeat' (first | exact Below.refl _ _ | exact b1 | exact b2 | refine Below.alloc ?_ ?_ _ | refine Below.setCell ?_ ?_ _ | refine Below.drew ?_ | refine below_drewN ?_ _ | refine Below.trans ?_ (b1.mono ?_) | refine Below.trans ?_ (b2.mono ?_))) <;> (first | omega | (simp; done) | (simp; omega))))⟩
  by_cases hm : missTo l x l.length ≤ f
  case neg =>
    go_enter Try.func4, Try.ntmps4
    go_wp2_with fail
    refine (head_any _).mono ?_
    rintro e w1 ⟨rfl, b1⟩
    go_wp2_with fail
    refine (RList_any _ l _ (hv'.below (Nat.le_refl _) b1)).mono ?_
    rintro e w2 ⟨rfl, b2⟩
    rw [hl]
    have := b1.size
    go_wp2_with fail
    refine (RMissing_any _ l _ _ (hv'.below (Nat.le_refl _) (by ((repeat' (first | exact Below.refl _ _ | exact b1 | exact b2 | refine Below.alloc ?_ ?_ _ | refine Below.setCell ?_ ?_ _ | refine Below.drew ?_ | refine below_drewN ?_ _ | refine Below.trans ?_ (b1.mono ?_) | refine Below.trans ?_ (b2.mono ?_))) <;> (first | omega | (simp; done) | (simp; omega)))))).mono ?_
    rintro e w3 ⟨rfl, b3⟩
    have := b2.size
    go_wp2_with fail
    go_ret
    exact ⟨rfl, (by ((repeat' (first | exact Below.refl _ _ | exact b1 | exact b2 | exact b3 | refine Below.alloc ?_ ?_ _ | refine Below.setCell ?_ ?_ _ | refine Below.drew ?_ | refine below_drewN ?_ _ | refine Below.trans ?_ (b1.mono ?_) | refine Below.trans ?_ (b2.mono ?_) | refine Below.trans ?_ (b3.mono ?_))) <;> (first | omega | (simp; done) | (simp; omega))))⟩
  have hok : setOk l f = true := (setOk_iff l f).2 ⟨hl, hf.1, hfl⟩
  have her := setEr_ok hok
  have hmem := (mem_setL hok x).2 hm
  have hce := cbEr_mem hmem
  have hcb := cb_has hmem
  have hhas : hasB (cbLo l f) (cbHi l f) x = true := by simpa [hasB] using hcb
  have hin : decide (0 < dep (setL l f) x (setL l f).length) = true := decide_eq_true ((dep_pos_iff _ _).2 hmem)
  have Her := hide her
  have Hce := hide hce
  have Hhas := hide hhas
  have Hin := hide hin
  clear hok her hmem hce hcb hhas hin
  go_enter Try.func4, Try.ntmps4
  go_wp2_with fail
  refine (head_any _).mono ?_
  rintro e w1 ⟨rfl, b1⟩
  go_wp2_with fail
  refine (RList_any _ l _ (hv'.below (Nat.le_refl _) b1)).mono ?_
  rintro e w2 ⟨rfl, b2⟩
  rw [hl]
  have z1 := b1.size
  have hB2 : Below w.heap.size w w2 := (by ((repeat' (first | exact Below.refl _ _ | exact b1 | exact b2 | refine Below.alloc ?_ ?_ _ | refine Below.setCell ?_ ?_ _ | refine Below.drew ?_ | refine below_drewN ?_ _ | refine Below.trans ?_ (b1.mono ?_) | refine Below.trans ?_ (b2.mono ?_))) <;> (first | omega | (simp; done) | (simp; omega))))
  have z2 := hB2.size
  go_wp2_with fail
  refine (RMissing_any _ l _ _ (hv'.below (Nat.le_refl _) hB2)).mono ?_
  rintro e w3 ⟨rfl, b3⟩
  have hB3 : Below w.heap.size w w3 := (by ((repeat' (first | exact Below.refl _ _ | exact hB2 | exact b3 | refine Below.alloc ?_ ?_ _ | refine Below.setCell ?_ ?_ _ | refine Below.drew ?_ | refine below_drewN ?_ _ | refine Below.trans ?_ (hB2.mono ?_) | refine Below.trans ?_ (b3.mono ?_))) <;> (first | omega | (simp; done) | (simp; omega))))
  have z3 := hB3.size
  go_wp2_with fail
  refine (Set_any _ l _ _ (hv'.below (Nat.le_refl _) hB3)).mono ?_
  rintro e w4 ⟨sv, rfl, ho, b4⟩
  rw [Her.out]
  have hB4 : Below w.heap.size w w4 := (by ((repeat' (first | exact Below.refl _ _ | exact hB3 | exact b4 | refine Below.alloc ?_ ?_ _ | refine Below.setCell ?_ ?_ _ | refine Below.drew ?_ | refine below_drewN ?_ _ | refine Below.trans ?_ (hB3.mono ?_) | refine Below.trans ?_ (b4.mono ?_))) <;> (first | omega | (simp; done) | (simp; omega))))
  have z4 := hB4.size
  go_wp2_with fail
  refine (Combine_any _ l _ _ (hv'.below (Nat.le_refl _) hB4)).mono ?_
  rintro e w5 ⟨rfl, b5⟩
  rw [Hce.out]
  have hr := ho.row.below (Nat.le_refl _) b5
  have hB5 : Below w.heap.size w w5 := (by ((repeat' (first | exact Below.refl _ _ | exact hB4 | exact b5 | refine Below.alloc ?_ ?_ _ | refine Below.setCell ?_ ?_ _ | refine Below.drew ?_ | refine below_drewN ?_ _ | refine Below.trans ?_ (hB4.mono ?_) | refine Below.trans ?_ (b5.mono ?_))) <;> (first | omega | (simp; done) | (simp; omega))))
  have z5 := hB5.size
  clear ho b1 b2 b3 b4 hB2 hB3
  go_wp2_with fail
  refine (RIn_any _ (setL l f) x _ (hr.below (Nat.le_refl _) (by ((repeat' (first | exact Below.refl _ _ | refine Below.alloc ?_ ?_ _ | refine Below.setCell ?_ ?_ _ | refine Below.drew ?_ | refine below_drewN ?_ _)) <;> (first | omega | (simp; done) | (simp; omega)))))).mono ?_
  rintro e w6 ⟨rfl, b6⟩
  rw [Hin.out]
  obtain ⟨c6, _⟩ := bk b6 w5.heap.size (by simp)
  have z6 := b6.size
  simp only [World.size_alloc] at z6
  go_wp2_with fail
  refine (RHas_any _ _ _ _).mono ?_
  rintro e w7 ⟨rfl, rfl⟩
  rw [Hhas.out]
  go_wp2_with fail
  go_ret
  exact ⟨rfl, (by ((repeat' (first | exact Below.refl _ _ | exact hB5 | exact b6 | refine Below.alloc ?_ ?_ _ | refine Below.setCell ?_ ?_ _ | refine Below.drew ?_ | refine below_drewN ?_ _ | refine Below.trans ?_ (hB5.mono ?_) | refine Below.trans ?_ (b6.mono ?_))) <;> (first | omega | (simp; done) | (simp; omega))))⟩
set_option maxRecDepth 100000 in
theorem combineTruth_holds : Rows.CombineTruthSaid :=
  OpenClaim.holds_of_wide 4 Try.f4 rfl rfl rfl rfl rfl rfl rfl ⟨rfl, rfl, rfl, rfl, rfl⟩ rfl rfl rfl rfl rfl (by kernel_rfl) Try.func4 (by kernel_rfl)
    (of_decide_eq_true (by kernel_rfl)) (by unfold Func.isWrapper; rw [if_neg (of_decide_eq_false (by kernel_rfl))]; exact ⟨rfl, rfl⟩)
    (fun os started H enc _ => law_lifted started 4 Try.f4 Try.func4 (by kernel_rfl) Rows.combineTruthSpec rfl rfl
      (fun ds h => by match ds, h with | [_, _, _], _ => exact ⟨rfl, rfl, rfl⟩)
      (fun t h => by
        rw [Try.params4] at h
        simp only [List.mem_cons, List.not_mem_nil, or_false] at h
        rcases h with rfl | rfl | rfl <;> exact ⟨by kernel_rfl, of_decide_eq_true (by kernel_rfl)⟩)
      (ChangeSpec.witness6 (enc := enc) (C := Try.checked) false ⟨#[], #[.slice none 0 0, .int .u8 0, .int .i64 0], []⟩ 8 (by kernel_rfl) (by kernel_rfl) (by kernel_rfl) (by kernel_rfl))
      (fun W base args ds p hA hok => by
        rw [Try.params4] at hA hok
        obtain ⟨v0, vs0, d0, ds0, p0, q0, hargs, rfl, rfl, h0, r0⟩ := ChangeShapes.trodAll_cons hA
        obtain ⟨v1, vs1, d1, ds1, p1, q1, rfl, rfl, rfl, h1, r1⟩ := ChangeShapes.trodAll_cons r0
        obtain ⟨v2, vs2, d2, ds2, p2, q2, rfl, rfl, rfl, h2, r2⟩ := ChangeShapes.trodAll_cons r1
        obtain ⟨rfl, rfl, rfl⟩ := ChangeShapes.trodAll_nil r2
        obtain rfl : args = #[v0, v1, v2] := by rw [← Array.toArray_toList (xs := args), hargs]
        obtain ⟨l0, hl0, wl0⟩ := open_ivs (hok 0 _ v0 rfl rfl) h0
        obtain ⟨x1, rfl, hx1⟩ := open_u8 Try.underlying5 (hok 1 _ v1 rfl rfl) h1
        obtain ⟨x2, rfl, hx2⟩ := open_i64 Try.underlying3 (hok 2 _ v2 rfl rfl) h2
        exact CbTruth_any W v0 l0 hl0 x1 hx1 x2))
end Go.Proofs.Ytbocjiepobccpaa
