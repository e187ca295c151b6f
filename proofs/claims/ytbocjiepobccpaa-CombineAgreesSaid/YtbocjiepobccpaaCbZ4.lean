/- CombineAgrees: for every list and number the statement answers true and leaves its arguments as they were. No condition. -/
import Derived.Test.YtbocjiepobccpaaCbL
import Derived.Test.YtbocjiepobccpaaFr
namespace Go.Proofs.Ytbocjiepobccpaa
open Go.RowKit
attribute [local go_sem ↓] run_max_mx run_min_mn run_eql_iv run_neq_iv
/-- With f = 0: what is possible is one interval, the times that are in all intervals. -/
theorem miss_conv {l : List Iv} {s t u : Int} (h1 : s ≤ t) (h2 : t ≤ u) : ∀ k, missTo l s k = 0 → missTo l u k = 0 → missTo l t k = 0
  | 0, _, _ => rfl
  | k + 1, a, b => by
    have m1 := missTo_bd l s k
    have m2 := missTo_bd l u k
    unfold missTo at a b ⊢
    by_cases p : hasB (iLo l k) (iHi l k) s = true
    · by_cases q : hasB (iLo l k) (iHi l k) u = true
      · rw [if_pos p] at a
        rw [if_pos q] at b
        have r : hasB (iLo l k) (iHi l k) t = true := by simp [hasB] at *; omega
        rw [if_pos r]; exact miss_conv h1 h2 k a b
      · rw [if_neg q] at b; omega
    · rw [if_neg p] at a; omega
theorem agrees {l : List Iv} (hl : listB l = true) (hp : 0 < l.length) (x : Int) :
    (cbEr l 0 ≠ 0 → cbEr l 0 = 21 ∧ ¬ missTo l x l.length = 0) ∧ (cbEr l 0 = 0 → hasB (cbLo l 0) (cbHi l 0) x = decide (missTo l x l.length = 0) ∧ missTo l (cbLo l 0) l.length = 0) := by
  have hok : setOk l 0 = true := (setOk_iff l 0).2 ⟨hl, by omega, by omega⟩
  constructor
  · intro h
    rcases cb_ways l 0 with ⟨q1, q2, q3⟩ | ⟨q1, q2, q3⟩ | ⟨q1, q2, q3⟩
    · exact absurd q3 h
    · refine ⟨q3, fun h0 => ?_⟩
      have := (mem_setL hok x).2 (by omega)
      rw [q2] at this
      exact mem_nil this
    · exact absurd (setEr_ok hok) q1
  · intro h
    have hpos := (cbEr_zero h).2
    have he := (setL_spec hok).1.ends_mem hpos
    have m1 := (mem_setL hok _).1 he.1
    have m2 := (mem_setL hok _).1 he.2
    have b1 := missTo_bd l (iLo (setL l 0) 0) l.length
    have b2 := missTo_bd l (iHi (setL l 0) ((setL l 0).length - 1)) l.length
    refine ⟨?_, by unfold cbLo; omega⟩
    rw [Bool.eq_iff_iff]
    simp only [hasB, decide_eq_true_eq]
    constructor
    · rintro ⟨h1, h2⟩
      exact miss_conv h1 h2 _ (by unfold cbLo; omega) (by unfold cbHi; omega)
    · intro h0
      exact cb_has ((mem_setL hok x).2 (by omega))
set_option maxRecDepth 100000 in
set_option maxHeartbeats 1000000 in
theorem CbAgrees_any (w : World) (v : Value) (l : List Iv) (hv : IvRow w v l) (x : Int) :
    Calls Try.prog 6 #[v, .int .i64 x] w fun e w' => e = .returned (.bool true) ∧ Below w.heap.size w w' := by
  have hv' := hv
  obtain ⟨a, cap, rfl, h1, h2, h3⟩ := hv
  clear h3
  by_cases hl : listB l = true
  case neg =>
    have hl' : listB l = false := by simpa using hl
    go_enter Try.func6, Try.ntmps6
    go_wp2_with fail
    refine (head_any _).mono ?_
    rintro e w1 ⟨rfl, b1⟩
    go_wp2_with fail
    refine (RList_any _ l _ (hv'.below (Nat.le_refl _) b1)).mono ?_
    rintro e w2 ⟨rfl, b2⟩
    rw [hl']
    go_wp2_with fail
    go_ret
    have := b1.size
    exact ⟨rfl, (by ((repeat' (first | exact Below.refl _ _ | exact b1 | exact b2 | refine Below.alloc ?_ ?_ _ | refine Below.setCell ?_ ?_ _ | refine Below.drew ?_ | refine below_drewN ?_ _ | refine Below.trans ?_ (b1.mono ?_) | refine Below.trans ?_ (b2.mono ?_))) <;> (first | omega | (simp; done) | (simp; omega))))⟩
  by_cases hp : 0 < l.length
  case neg =>
    have h0 : ((l.length : Int) == 0) = true := by rw [beq_iff_eq]; omega
    clear hp
    go_enter Try.func6, Try.ntmps6
    go_wp2_with fail
    refine (head_any _).mono ?_
    rintro e w1 ⟨rfl, b1⟩
    go_wp2_with fail
    refine (RList_any _ l _ (hv'.below (Nat.le_refl _) b1)).mono ?_
    rintro e w2 ⟨rfl, b2⟩
    rw [hl]
    go_wp2_with fail
    go_ret
    have := b1.size
    exact ⟨rfl, (by ((repeat' (first | exact Below.refl _ _ | exact b1 | exact b2 | refine Below.alloc ?_ ?_ _ | refine Below.setCell ?_ ?_ _ | refine Below.drew ?_ | refine below_drewN ?_ _ | refine Below.trans ?_ (b1.mono ?_) | refine Below.trans ?_ (b2.mono ?_))) <;> (first | omega | (simp; done) | (simp; omega))))⟩
  have h0 : ((l.length : Int) == 0) = false := by rw [beq_eq_false_iff_ne]; omega
  have A := hide (agrees hl hp x)
  clear hp
  go_enter Try.func6, Try.ntmps6
  go_wp2_with fail
  refine (head_any _).mono ?_
  rintro e w1 ⟨rfl, b1⟩
  go_wp2_with fail
  refine (RList_any _ l _ (hv'.below (Nat.le_refl _) b1)).mono ?_
  rintro e w2 ⟨rfl, b2⟩
  rw [hl]
  have z1 := b1.size
  have hB2 : Below w.heap.size w w2 := (by ((repeat' (first | exact Below.refl _ _ | exact b1 | exact b2 | refine Below.alloc ?_ ?_ _ | refine Below.setCell ?_ ?_ _ | refine Below.drew ?_ | refine below_drewN ?_ _ | refine Below.trans ?_ (b1.mono ?_) | refine Below.trans ?_ (b2.mono ?_))) <;> (first | omega | (simp; done) | (simp; omega))))
  have z2 := hB2.size
  go_wp2_with fail
  refine (Combine_any _ l _ _ (hv'.below (Nat.le_refl _) hB2)).mono ?_
  rintro e w3 ⟨rfl, b3⟩
  have hB3 : Below w.heap.size w w3 := (by ((repeat' (first | exact Below.refl _ _ | exact hB2 | exact b3 | refine Below.alloc ?_ ?_ _ | refine Below.setCell ?_ ?_ _ | refine Below.drew ?_ | refine below_drewN ?_ _ | refine Below.trans ?_ (hB2.mono ?_) | refine Below.trans ?_ (b3.mono ?_))) <;> (first | omega | (simp; done) | (simp; omega))))
  have z3 := hB3.size
  go_wp2_with fail
  refine (RMissing_any _ l _ _ (hv'.below (Nat.le_refl _) (by ((repeat' (first | exact Below.refl _ _ | exact hB3 | refine Below.alloc ?_ ?_ _ | refine Below.setCell ?_ ?_ _ | refine Below.drew ?_ | refine below_drewN ?_ _ | refine Below.trans ?_ (hB3.mono ?_))) <;> (first | omega | (simp; done) | (simp; omega)))))).mono ?_
  rintro e w4 ⟨rfl, b4⟩
  obtain ⟨c4, _⟩ := bk b4 w3.heap.size (by simp)
  have z4 := b4.size
  simp only [World.size_alloc] at z4
  have hB4 : Below w.heap.size w w4 := (by ((repeat' (first | exact Below.refl _ _ | exact hB3 | exact b4 | refine Below.alloc ?_ ?_ _ | refine Below.setCell ?_ ?_ _ | refine Below.drew ?_ | refine below_drewN ?_ _ | refine Below.trans ?_ (hB3.mono ?_) | refine Below.trans ?_ (b4.mono ?_))) <;> (first | omega | (simp; done) | (simp; omega))))
  have d0 : w4.cell? ⟨w3.heap.size, 0, none⟩ = some (.int .i64 (cbLo l 0)) := by rw [c4]; simp
  have d1 : w4.cell? ⟨w3.heap.size, 1, none⟩ = some (.int .i64 (cbHi l 0)) := by rw [c4]; simp
  clear c4
  by_cases hce : cbEr l 0 = 0
  case neg =>
    have hn := A.out.1 hce
    have hm : (missTo l x l.length == 0) = false := by rw [beq_eq_false_iff_ne]; exact hn.2
    rw [hn.1]
    clear hce hn
    go_wp2_with fail
    go_ret
    exact ⟨rfl, (by ((repeat' (first | exact Below.refl _ _ | exact hB4 | refine Below.alloc ?_ ?_ _ | refine Below.setCell ?_ ?_ _ | refine Below.drew ?_ | refine below_drewN ?_ _ | refine Below.trans ?_ (hB4.mono ?_))) <;> (first | omega | (simp; done) | (simp; omega))))⟩
  have hn := A.out.2 hce
  have hn1 := hide hn.1
  have hn2 := hide hn.2
  rw [hce]
  clear hce hn
  have k34 : w3.heap.size < w4.heap.size := by omega
  go_wp2_with fail
  refine (RHas_any _ _ _ _).mono ?_
  rintro e w5 ⟨rfl, rfl⟩
  rw [hn1.out]
  go_wp2_with fail
  have heq : (decide (missTo l x l.length = 0) == (missTo l x l.length == 0)) = true := by
    by_cases h : missTo l x l.length = 0 <;> simp [h]
  refine (RMissing_any _ l _ _ (hv'.below (Nat.le_refl _) (by ((repeat' (first | exact Below.refl _ _ | exact hB4 | refine Below.alloc ?_ ?_ _ | refine Below.setCell ?_ ?_ _ | refine Below.drew ?_ | refine below_drewN ?_ _ | refine Below.trans ?_ (hB4.mono ?_))) <;> (first | omega | (simp; done) | (simp; omega)))))).mono ?_
  rintro e w6 ⟨rfl, b6⟩
  rw [hn2.out]
  go_wp2_with fail
  go_ret
  exact ⟨ret_bool (by simp), (by ((repeat' (first | exact Below.refl _ _ | exact hB4 | exact b6 | refine Below.alloc ?_ ?_ _ | refine Below.setCell ?_ ?_ _ | refine Below.drew ?_ | refine below_drewN ?_ _ | refine Below.trans ?_ (hB4.mono ?_) | refine Below.trans ?_ (b6.mono ?_))) <;> (first | omega | (simp; done) | (simp; omega))))⟩
set_option maxRecDepth 100000 in
theorem combineAgrees_holds : Rows.CombineAgreesSaid :=
  OpenClaim.holds_of_wide 6 Try.f6 rfl rfl rfl rfl rfl rfl rfl ⟨rfl, rfl, rfl, rfl, rfl⟩ rfl rfl rfl rfl rfl (by kernel_rfl) Try.func6 (by kernel_rfl)
    (of_decide_eq_true (by kernel_rfl)) (by unfold Func.isWrapper; rw [if_neg (of_decide_eq_false (by kernel_rfl))]; exact ⟨rfl, rfl⟩)
    (fun os started H enc _ => law_lifted started 6 Try.f6 Try.func6 (by kernel_rfl) Rows.combineAgreesSpec rfl rfl
      (fun ds h => by match ds, h with | [_, _], _ => exact ⟨rfl, rfl, rfl⟩)
      (fun t h => by
        rw [Try.params6] at h
        simp only [List.mem_cons, List.not_mem_nil, or_false] at h
        rcases h with rfl | rfl <;> exact ⟨by kernel_rfl, of_decide_eq_true (by kernel_rfl)⟩)
      (ChangeSpec.witness6 (enc := enc) (C := Try.checked) false ⟨#[], #[.slice none 0 0, .int .i64 0], []⟩ 8 (by kernel_rfl) (by kernel_rfl) (by kernel_rfl) (by kernel_rfl))
      (fun W base args ds p hA hok => by
        rw [Try.params6] at hA hok
        obtain ⟨v0, vs0, d0, ds0, p0, q0, hargs, rfl, rfl, h0, r0⟩ := ChangeShapes.trodAll_cons hA
        obtain ⟨v1, vs1, d1, ds1, p1, q1, rfl, rfl, rfl, h1, r1⟩ := ChangeShapes.trodAll_cons r0
        obtain ⟨rfl, rfl, rfl⟩ := ChangeShapes.trodAll_nil r1
        obtain rfl : args = #[v0, v1] := by rw [← Array.toArray_toList (xs := args), hargs]
        obtain ⟨l0, hl0, wl0⟩ := open_ivs (hok 0 _ v0 rfl rfl) h0
        obtain ⟨x1, rfl, hx1⟩ := open_i64 Try.underlying3 (hok 1 _ v1 rfl rfl) h1
        exact CbAgrees_any W v0 l0 hl0 x1))
end Go.Proofs.Ytbocjiepobccpaa
