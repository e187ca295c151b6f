/- Package combine and its reference: with at intervals, Combine; the reference's right, Set, Combine, Missing, SameInts. -/
import Derived.Test.YtbgfgpjgehkdjaaGreatCbA
namespace Go.Proofs.YtbgfgpjgehkdjaaGreat
open Go.RowKit
attribute [local go_sem ↓] run_max_mx run_min_mn run_eql_iv run_neq_iv

theorem cbVal_none {l : List Iv} {f : Int} (h : cbEr l f ≠ 0) : cbLo l f = 0 ∧ cbHi l f = 0 := by
  unfold cbLo cbHi
  cases hs : setOk l f with
  | false => rw [setL_no hs]; simp [iLo, iHi]
  | true =>
    by_cases h0 : (setL l f).length = 0
    · rw [List.eq_nil_of_length_eq_zero h0]; simp [iLo, iHi]
    · unfold cbEr at h; rw [if_pos hs, if_neg h0] at h; exact absurd rfl h
/-- The three ways that a list and a number may go. -/
theorem cb_ways (l : List Iv) (f : Int) : (setEr l f = 0 ∧ 0 < (setL l f).length ∧ cbEr l f = 0) ∨ (setEr l f = 0 ∧ setL l f = [] ∧ cbEr l f = 21) ∨ (setEr l f ≠ 0 ∧ setL l f = [] ∧ cbEr l f = setEr l f) := by
  cases hs : setOk l f with
  | false =>
    refine .inr (.inr ⟨?_, setL_no hs, ?_⟩)
    · rcases setEr_no hs with h | h <;> omega
    · unfold cbEr; rw [if_neg (by simp [hs])]
  | true =>
    have h1 := setEr_ok hs
    by_cases h0 : (setL l f).length = 0
    · exact .inr (.inl ⟨h1, List.eq_nil_of_length_eq_zero h0, by unfold cbEr; rw [if_pos hs, if_pos h0]⟩)
    · exact .inl ⟨h1, by omega, by unfold cbEr; rw [if_pos hs, if_neg h0]⟩

set_option maxRecDepth 100000 in
set_option maxHeartbeats 400000 in
theorem withIv_any (v : Value) (l : List Iv) (f : Int) (w : World) (hv : IvRow w v l) :
    Calls Tryz.prog 21 #[v, .int .i64 f, .func (.func 22) #[] #[]] w fun e w' =>
      e = .returned (.tuple #[.agg #[.int .i64 (cbLo l f), .int .i64 (cbHi l f)], .int .i64 (cbEr l f)]) ∧ Below w.heap.size w w' := by
  have hv' := hv
  obtain ⟨a, cap, rfl, h1, h2, h3⟩ := hv
  clear h3
  have hv2 : ∀ o o2, IvRow ((w.alloc o).alloc o2) (.slice a l.length cap) l := fun o o2 => hv'.below (Nat.le_refl _) (((Below.refl _ _).alloc (Nat.le_refl _) o).alloc (by simp) o2)
  rcases cb_ways l f with ⟨q1, q2, q3⟩ | ⟨q1, q2, q3⟩ | ⟨q1, q2, q3⟩
  · have Q3 := hide q3
    clear q3
    go_enter Tryz.func21, Tryz.ntmps21
    go_wp2_with fail
    refine (Set_any _ l _ _ (hv2 _ _)).mono ?_
    rintro e w1 ⟨sv, rfl, ho, hb1⟩
    rw [q1]
    obtain ⟨c0, f0⟩ := bk hb1 w.heap.size (by first | omega | (simp; done) | (simp; omega))
    obtain ⟨c1, f1⟩ := bk hb1 (w.heap.size + 1) (by first | omega | (simp; done) | (simp; omega))
    have hz1 := hb1.size
    simp only [World.size_alloc] at hz1
    have hrow := ho.row
    obtain ⟨sa, scap, rfl, s1, s2⟩ := ho.val
    have hne : (((setL l f).length : Int) == 0) = false := by rw [beq_eq_false_iff_ne]; omega
    clear ho q1
    go_wp2_with fail
    refine (Combine1_any _ (setL l f) _ hrow q2).mono ?_
    rintro e w2 ⟨rfl, hb2⟩
    have cc0 := (bk hb2 w.heap.size (by omega)).1
    have ff0 := (bk hb2 w.heap.size (by omega)).2
    have hz2 := hb2.size
    go_wp2_with fail
    rw [Q3.out]
    refine bodyPost_ret (v := .tuple #[.agg #[.int .i64 (cbLo l f), .int .i64 (cbHi l f)], .int .i64 0]) (by simp [results, Tryz.results21, go_sem, cbLo, cbHi, *]) rfl ⟨rfl, ?_⟩
    ((repeat' (first | exact Below.refl _ _ | exact hb1 | exact hb2 | refine Below.alloc ?_ ?_ _ | refine Below.setCell ?_ ?_ _ | refine Below.drew ?_ | refine below_drewN ?_ _ | refine Below.trans ?_ (hb1.mono ?_) | refine Below.trans ?_ (hb2.mono ?_))) <;> (first | omega | (simp; done) | (simp; omega)))
  · have Q3 := hide q3
    have q4 := cbVal_none (l := l) (f := f) (by omega)
    rw [q4.1, q4.2]
    have hlen : (setL l f).length = 0 := by rw [q2]; rfl
    clear q3 q4
    go_enter Tryz.func21, Tryz.ntmps21
    go_wp2_with fail
    refine (Set_any _ l _ _ (hv2 _ _)).mono ?_
    rintro e w1 ⟨sv, rfl, ho, hb1⟩
    rw [q1]
    obtain ⟨c0, f0⟩ := bk hb1 w.heap.size (by first | omega | (simp; done) | (simp; omega))
    obtain ⟨c1, f1⟩ := bk hb1 (w.heap.size + 1) (by first | omega | (simp; done) | (simp; omega))
    have hz1 := hb1.size
    simp only [World.size_alloc] at hz1
    obtain ⟨sa, scap, rfl, s1, s2⟩ := ho.val
    rw [hlen]
    clear ho q1 q2 hlen
    go_wp2_with fail
    rw [Q3.out]
    refine bodyPost_ret (v := .tuple #[.agg #[.int .i64 0, .int .i64 0], .int .i64 21]) (by simp [results, Tryz.results21, go_sem, *]) rfl ⟨rfl, ?_⟩
    ((repeat' (first | exact Below.refl _ _ | exact hb1 | refine Below.alloc ?_ ?_ _ | refine Below.setCell ?_ ?_ _ | refine Below.drew ?_ | refine below_drewN ?_ _ | refine Below.trans ?_ (hb1.mono ?_))) <;> (first | omega | (simp; done) | (simp; omega)))
  · have q4 := cbVal_none (l := l) (f := f) (by omega)
    rw [q4.1, q4.2, q3]
    have hne : (setEr l f == 0) = false := by rw [beq_eq_false_iff_ne]; exact q1
    have hne2 : (setEr l f != 0) = true := by rw [bne_iff_ne]; exact q1
    clear q3 q4 q1 q2
    go_enter Tryz.func21, Tryz.ntmps21
    go_wp2_with fail
    refine (Set_any _ l _ _ (hv2 _ _)).mono ?_
    rintro e w1 ⟨sv, rfl, ho, hb1⟩
    obtain ⟨c0, f0⟩ := bk hb1 w.heap.size (by first | omega | (simp; done) | (simp; omega))
    obtain ⟨c1, f1⟩ := bk hb1 (w.heap.size + 1) (by first | omega | (simp; done) | (simp; omega))
    have hz1 := hb1.size
    simp only [World.size_alloc] at hz1
    clear ho
    go_wp2_with fail
    refine bodyPost_ret (v := .tuple #[.agg #[.int .i64 0, .int .i64 0], .int .i64 (setEr l f)]) (by simp [results, Tryz.results21, go_sem, *]) rfl ⟨rfl, ?_⟩
    ((repeat' (first | exact Below.refl _ _ | exact hb1 | refine Below.alloc ?_ ?_ _ | refine Below.setCell ?_ ?_ _ | refine Below.drew ?_ | refine below_drewN ?_ _ | refine Below.trans ?_ (hb1.mono ?_))) <;> (first | omega | (simp; done) | (simp; omega)))

set_option maxRecDepth 100000 in
set_option maxHeartbeats 400000 in
theorem Combine_any (v : Value) (l : List Iv) (f : Int) (w : World) (hv : IvRow w v l) :
    Calls Tryz.prog 9 #[v, .int .i64 f] w fun e w' =>
      e = .returned (.tuple #[.agg #[.int .i64 (cbLo l f), .int .i64 (cbHi l f)], .int .i64 (cbEr l f)]) ∧ Below w.heap.size w w' := by
  have hv2 : ∀ o, IvRow (w.alloc o) v l := fun o => hv.below (Nat.le_refl _) ((Below.refl _ _).alloc (Nat.le_refl _) o)
  go_enter Tryz.func9, Tryz.ntmps9
  go_wp2_with fail
  refine (withIv_any _ l _ _ (hv2 _)).mono ?_
  rintro e w1 ⟨rfl, hb1⟩
  obtain ⟨c0, f0⟩ := bk hb1 w.heap.size (by first | omega | (simp; done) | (simp; omega))
  have hz1 := hb1.size
  simp only [World.size_alloc] at hz1
  go_wp2_with fail
  refine bodyPost_ret (v := .tuple #[.agg #[.int .i64 (cbLo l f), .int .i64 (cbHi l f)], .int .i64 (cbEr l f)]) (by simp [results, Tryz.results9, go_sem, *]) rfl ⟨rfl, ?_⟩
  ((repeat' (first | exact Below.refl _ _ | exact hb1 | refine Below.alloc ?_ ?_ _ | refine Below.setCell ?_ ?_ _ | refine Below.drew ?_ | refine below_drewN ?_ _ | refine Below.trans ?_ (hb1.mono ?_))) <;> (first | omega | (simp; done) | (simp; omega)))

end Go.Proofs.YtbgfgpjgehkdjaaGreat
