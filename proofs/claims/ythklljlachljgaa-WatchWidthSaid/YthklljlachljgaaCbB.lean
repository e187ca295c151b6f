/- Package combine and its reference: with at intervals, Combine; the reference's right, Set, Combine, Missing, SameInts. -/
import Derived.Test.YthklljlachljgaaCbA
namespace Go.Proofs.Ythklljlachljgaa
open Go.RowKit
attribute [local go_sem ↓] run_max_mx run_min_mn run_eql_iv run_neq_iv

theorem cbVal_none {l : List Iv} {f : Int} (h : cbEr l f ≠ 0) : cbLo l f = 0 ∧ cbHi l f = 0 := by
  unfold cbLo cbHi
  cases hs : setOk l f with
  | false => rw [setL_no hs]; simp [iLo, iHi]
  | true =>
    by_cases h0 : (setL l f).length = 0
    · rw [List.eq_nil_of_length_eq_zero h0]; simp [iLo, iHi]
    · unfold cbEr at h; rw [if_pos hs, if_neg h0] at h; exact absurd rfl h
/-- The three ways that a list and a number may go. -/
theorem cb_ways (l : List Iv) (f : Int) : (setEr l f = 0 ∧ 0 < (setL l f).length ∧ cbEr l f = 0) ∨ (setEr l f = 0 ∧ setL l f = [] ∧ cbEr l f = 21) ∨ (setEr l f ≠ 0 ∧ setL l f = [] ∧ cbEr l f = setEr l f) := by
  cases hs : setOk l f with
  | false =>
    refine .inr (.inr ⟨?_, setL_no hs, ?_⟩)
    · rcases setEr_no hs with h | h <;> omega
    · unfold cbEr; rw [if_neg (by simp [hs])]
  | true =>
    have h1 := setEr_ok hs
    by_cases h0 : (setL l f).length = 0
    · exact .inr (.inl ⟨h1, List.eq_nil_of_length_eq_zero h0, by unfold cbEr; rw [if_pos hs, if_pos h0]⟩)
    · exact .inl ⟨h1, by omega, by unfold cbEr; rw [if_pos hs, if_neg h0]⟩

set_option maxRecDepth 100000 in
set_option maxHeartbeats 400000 in
theorem withIv_any (v : Value) (l : List Iv) (f : Int) (w : World) (hv : IvRow w v l) :
    Calls Try.prog 33 #[v, .int .i64 f, .func (.func 34) #[] #[]] w fun e w' =>
      e = .returned (.tuple #[.agg #[.int .i64 (cbLo l f), .int .i64 (cbHi l f)], .int .i64 (cbEr l f)]) ∧ Below w.heap.size w w' := by
  have hv' := hv
  obtain ⟨a, cap, rfl, h1, h2, h3⟩ := hv
  clear h3
  have hv2 : ∀ o o2, IvRow ((w.alloc o).alloc o2) (.slice a l.length cap) l := fun o o2 => hv'.below (Nat.le_refl _) (((Below.refl _ _).alloc (Nat.le_refl _) o).alloc (by simp) o2)
  rcases cb_ways l f with ⟨q1, q2, q3⟩ | ⟨q1, q2, q3⟩ | ⟨q1, q2, q3⟩
  · have Q3 := hide q3
    clear q3
    go_enter Try.func33, Try.ntmps33
    go_wp2_with fail
    refine (Set_any _ l _ _ (hv2 _ _)).mono ?_
    rintro e w1 ⟨sv, rfl, ho, hb1⟩
    rw [q1]
    obtain ⟨c0, f0⟩ := bk hb1 w.heap.size (by first | omega | (simp; done) | (simp; omega))
    obtain ⟨c1, f1⟩ := bk hb1 (w.heap.size + 1) (by first | omega | (simp; done) | (simp; omega))
    have hz1 := hb1.size
    simp only [World.size_alloc] at hz1
    have hrow := ho.row
    obtain ⟨sa, scap, rfl, s1, s2⟩ := ho.val
    have hne : (((setL l f).length : Int) == 0) = false := by rw [beq_eq_false_iff_ne]; omega
    clear ho q1
    go_wp2_with fail
    refine (Combine1_any _ (setL l f) _ hrow q2).mono ?_
    rintro e w2 ⟨rfl, hb2⟩
    have cc0 := (bk hb2 w.heap.size (by omega)).1
    have ff0 := (bk hb2 w.heap.size (by omega)).2
    have hz2 := hb2.size
    go_wp2_with fail
    rw [Q3.out]
    refine bodyPost_ret (v := .tuple #[.agg #[.int .i64 (cbLo l f), .int .i64 (cbHi l f)], .int .i64 0]) (by simp [results, Try.results33, go_sem, cbLo, cbHi, *]) rfl ⟨rfl, ?_⟩
    ((repeat' (first | exact Below.refl _ _ | exact hb1 | exact hb2 | refine Below.alloc ?_ ?_ _ | refine Below.setCell ?_ ?_ _ | refine Below.drew ?_ | refine below_drewN ?_ _ | refine Below.trans ?_ (hb1.mono ?_) | refine Below.trans ?_ (hb2.mono ?_))) <;> (first | omega | (simp; done) | (simp; omega)))
  · have Q3 := hide q3
    have q4 := cbVal_none (l := l) (f := f) (by omega)
    rw [q4.1, q4.2]
    have hlen : (setL l f).length = 0 := by rw [q2]; rfl
    clear q3 q4
    go_enter Try.func33, Try.ntmps33
    go_wp2_with fail
    refine (Set_any _ l _ _ (hv2 _ _)).mono ?_
    rintro e w1 ⟨sv, rfl, ho, hb1⟩
    rw [q1]
    obtain ⟨c0, f0⟩ := bk hb1 w.heap.size (by first | omega | (simp; done) | (simp; omega))
    obtain ⟨c1, f1⟩ := bk hb1 (w.heap.size + 1) (by first | omega | (simp; done) | (simp; omega))
    have hz1 := hb1.size
    simp only [World.size_alloc] at hz1
    obtain ⟨sa, scap, rfl, s1, s2⟩ := ho.val
    rw [hlen]
    clear ho q1 q2 hlen
    go_wp2_with fail
    rw [Q3.out]
    refine bodyPost_ret (v := .tuple #[.agg #[.int .i64 0, .int .i64 0], .int .i64 21]) (by simp [results, Try.results33, go_sem, *]) rfl ⟨rfl, ?_⟩
    ((repeat' (first | exact Below.refl _ _ | exact hb1 | refine Below.alloc ?_ ?_ _ | refine Below.setCell ?_ ?_ _ | refine Below.drew ?_ | refine below_drewN ?_ _ | refine Below.trans ?_ (hb1.mono ?_))) <;> (first | omega | (simp; done) | (simp; omega)))
  · have q4 := cbVal_none (l := l) (f := f) (by omega)
    rw [q4.1, q4.2, q3]
    have hne : (setEr l f == 0) = false := by rw [beq_eq_false_iff_ne]; exact q1
    have hne2 : (setEr l f != 0) = true := by rw [bne_iff_ne]; exact q1
    clear q3 q4 q1 q2
    go_enter Try.func33, Try.ntmps33
    go_wp2_with fail
    refine (Set_any _ l _ _ (hv2 _ _)).mono ?_
    rintro e w1 ⟨sv, rfl, ho, hb1⟩
    obtain ⟨c0, f0⟩ := bk hb1 w.heap.size (by first | omega | (simp; done) | (simp; omega))
    obtain ⟨c1, f1⟩ := bk hb1 (w.heap.size + 1) (by first | omega | (simp; done) | (simp; omega))
    have hz1 := hb1.size
    simp only [World.size_alloc] at hz1
    clear ho
    go_wp2_with fail
    refine bodyPost_ret (v := .tuple #[.agg #[.int .i64 0, .int .i64 0], .int .i64 (setEr l f)]) (by simp [results, Try.results33, go_sem, *]) rfl ⟨rfl, ?_⟩
    ((repeat' (first | exact Below.refl _ _ | exact hb1 | refine Below.alloc ?_ ?_ _ | refine Below.setCell ?_ ?_ _ | refine Below.drew ?_ | refine below_drewN ?_ _ | refine Below.trans ?_ (hb1.mono ?_))) <;> (first | omega | (simp; done) | (simp; omega)))

set_option maxRecDepth 100000 in
set_option maxHeartbeats 400000 in
theorem Combine_any (v : Value) (l : List Iv) (f : Int) (w : World) (hv : IvRow w v l) :
    Calls Try.prog 20 #[v, .int .i64 f] w fun e w' =>
      e = .returned (.tuple #[.agg #[.int .i64 (cbLo l f), .int .i64 (cbHi l f)], .int .i64 (cbEr l f)]) ∧ Below w.heap.size w w' := by
  have hv2 : ∀ o, IvRow (w.alloc o) v l := fun o => hv.below (Nat.le_refl _) ((Below.refl _ _).alloc (Nat.le_refl _) o)
  go_enter Try.func20, Try.ntmps20
  go_wp2_with fail
  refine (withIv_any _ l _ _ (hv2 _)).mono ?_
  rintro e w1 ⟨rfl, hb1⟩
  obtain ⟨c0, f0⟩ := bk hb1 w.heap.size (by first | omega | (simp; done) | (simp; omega))
  have hz1 := hb1.size
  simp only [World.size_alloc] at hz1
  go_wp2_with fail
  refine bodyPost_ret (v := .tuple #[.agg #[.int .i64 (cbLo l f), .int .i64 (cbHi l f)], .int .i64 (cbEr l f)]) (by simp [results, Try.results20, go_sem, *]) rfl ⟨rfl, ?_⟩
  ((repeat' (first | exact Below.refl _ _ | exact hb1 | refine Below.alloc ?_ ?_ _ | refine Below.setCell ?_ ?_ _ | refine Below.drew ?_ | refine below_drewN ?_ _ | refine Below.trans ?_ (hb1.mono ?_))) <;> (first | omega | (simp; done) | (simp; omega)))

set_option maxRecDepth 100000 in
set_option maxHeartbeats 400000 in
theorem Rright_any (v : Value) (l : List Iv) (f : Int) (w : World) (hv : IvRow w v l) :
    Calls Try.prog 48 #[v, .int .i64 f] w fun e w' => e = .returned (.int .i64 (setEr l f)) ∧ Below w.heap.size w w' := by
  have hv' := hv
  obtain ⟨a, cap, rfl, h1, h2, h3⟩ := hv
  clear h3
  obtain ⟨e1, e2, e3, e4⟩ := setEr_of l f
  by_cases hl : listB l = true
  · by_cases hf : f < 0
    · rw [(e2 hf).1]
      clear e1 e2 e3 e4
      go_enter Try.func48, Try.ntmps48
      go_wp2_with (go_at_call 52; refine (RList_any _ l _ hv').mono ?_; rintro e w0 ⟨rfl, hb0⟩; rw [hl])
      go_ret
      exact ⟨rfl, hb0⟩
    · by_cases hn : (l.length : Int) ≤ f
      · rw [(e3 hl (by omega) hn).1]
        clear e1 e2 e3 e4
        go_enter Try.func48, Try.ntmps48
        go_wp2_with (go_at_call 52; refine (RList_any _ l _ hv').mono ?_; rintro e w0 ⟨rfl, hb0⟩; rw [hl])
        go_ret
        exact ⟨rfl, hb0⟩
      · rw [(e4 hl (by omega) (by omega)).1]
        clear e1 e2 e3 e4
        go_enter Try.func48, Try.ntmps48
        go_wp2_with (go_at_call 52; refine (RList_any _ l _ hv').mono ?_; rintro e w0 ⟨rfl, hb0⟩; rw [hl])
        go_ret
        exact ⟨rfl, hb0⟩
  · have hl' : listB l = false := by simpa using hl
    rw [(e1 hl').1]
    clear e1 e2 e3 e4 hl
    go_enter Try.func48, Try.ntmps48
    go_wp2_with (go_at_call 52; refine (RList_any _ l _ hv').mono ?_; rintro e w0 ⟨rfl, hb0⟩; rw [hl'])
    go_ret
    exact ⟨rfl, hb0⟩

set_option maxRecDepth 100000 in
set_option maxHeartbeats 400000 in
theorem RSet_any (v : Value) (l : List Iv) (f : Int) (w : World) (hv : IvRow w v l) :
    Calls Try.prog 43 #[v, .int .i64 f] w (SetPost w.heap.size w l f) := by
  have hv' := hv
  obtain ⟨a, cap, rfl, h1, h2, h3⟩ := hv
  clear h3
  cases hs : setOk l f with
  | false =>
    have hne : (setEr l f == 0) = false := by rw [beq_eq_false_iff_ne]; rcases setEr_no hs with h | h <;> omega
    have hne2 : (setEr l f != 0) = true := by rw [bne_iff_ne]; rcases setEr_no hs with h | h <;> omega
    have Hs := hide hs
    clear hs
    go_enter Try.func43, Try.ntmps43
    go_wp2_with (go_at_call 48; refine (Rright_any _ l _ _ hv').mono ?_; rintro e w0 ⟨rfl, hb0⟩)
    go_ret2
    exact SetPost.no Hs.out hb0
  | true =>
    have q1 := setEr_ok hs
    have hs' := (setOk_iff l f).1 hs
    have hl := hide hs'.1
    have hf1 := hs'.2.1
    have hf2 := hs'.2.2
    have hl64 := ((listB_iff l).1 hs'.1).1
    have Hs := hide hs
    have Q1 := hide q1
    clear hs hs' q1
    go_enter Try.func43, Try.ntmps43
    go_wp2_with (go_at_call 48; refine (Rright_any _ l _ _ hv').mono ?_; rintro e w0 ⟨rfl, hb0⟩; rw [Q1.out])
    refine (RCover_any _ l _ _ (hv'.below (Nat.le_refl _) hb0)).mono ?_
    rintro e w1 ⟨cv, c, rfl, ho, hc, hb1⟩
    have h := setL_of Hs.out hc
    rw [h.1]
    have H := hide h.2
    clear h hc
    go_wp2_with fail
    go_ret2
    have hz := hb0.size
    refine ⟨cv, by rw [Q1.out]; rfl, ?_, (by ((repeat' (first | exact Below.refl _ _ | exact hb0 | exact hb1 | refine Below.alloc ?_ ?_ _ | refine Below.setCell ?_ ?_ _ | refine Below.drew ?_ | refine below_drewN ?_ _ | refine Below.trans ?_ (hb0.mono ?_) | refine Below.trans ?_ (hb1.mono ?_))) <;> (first | omega | (simp; done) | (simp; omega))))⟩
    rw [← H.out]
    exact World.ownsRow.mono ho hz

set_option maxRecDepth 100000 in
set_option maxHeartbeats 400000 in
theorem RCombine_any (v : Value) (l : List Iv) (f : Int) (w : World) (hv : IvRow w v l) :
    Calls Try.prog 25 #[v, .int .i64 f] w fun e w' =>
      e = .returned (.tuple #[.agg #[.int .i64 (cbLo l f), .int .i64 (cbHi l f)], .int .i64 (cbEr l f)]) ∧ Below w.heap.size w w' := by
  have hv' := hv
  obtain ⟨a, cap, rfl, h1, h2, h3⟩ := hv
  clear h3
  have hv2 : ∀ o, IvRow (w.alloc o) (.slice a l.length cap) l := fun o => hv'.below (Nat.le_refl _) ((Below.refl _ _).alloc (Nat.le_refl _) o)
  rcases cb_ways l f with ⟨q1, q2, q3⟩ | ⟨q1, q2, q3⟩ | ⟨q1, q2, q3⟩
  · have Q3 := hide q3
    clear q3
    go_enter Try.func25, Try.ntmps25
    go_wp2_with fail
    refine (RSet_any _ l _ _ (hv2 _)).mono ?_
    rintro e w1 ⟨sv, rfl, ho, hb1⟩
    rw [q1]
    obtain ⟨c0, f0⟩ := bk hb1 w.heap.size (by first | omega | (simp; done) | (simp; omega))
    have hz1 := hb1.size
    simp only [World.size_alloc] at hz1
    have hrow := ho.row
    obtain ⟨n, hn⟩ : ∃ n, (setL l f).length = n + 1 := ⟨(setL l f).length - 1, by omega⟩
    obtain ⟨b, off, scap, rfl, s1, s2, s4, s5, s6, s7⟩ := hrow.at0 q2
    have hne : ((n : Int) + 1 == 0) = false := by rw [beq_eq_false_iff_ne]; omega
    obtain ⟨s8, s9⟩ := s7 n (by omega)
    have hcb : cbHi l f = iHi (setL l f) n := by unfold cbHi; rw [hn]; rfl
    have Hcb := hide hcb
    rw [hn] at s1 ⊢
    clear ho q1 hn s7 hrow hcb q2
    go_wp2_with fail
    go_region
    go_wp2_with fail
    all_goals
      rw [Q3.out, Hcb.out]
      refine bodyPost_ret (v := .tuple #[.agg #[.int .i64 (cbLo l f), .int .i64 (iHi (setL l f) n)], .int .i64 0]) (by simp [results, Try.results25, go_sem, cbLo, *]) rfl ⟨rfl, ?_⟩
      ((repeat' (first | exact Below.refl _ _ | exact hb1 | refine Below.alloc ?_ ?_ _ | refine Below.setCell ?_ ?_ _ | refine Below.drew ?_ | refine below_drewN ?_ _ | refine Below.trans ?_ (hb1.mono ?_))) <;> (first | omega | (simp; done) | (simp; omega)))
  · have Q3 := hide q3
    have q4 := cbVal_none (l := l) (f := f) (by omega)
    rw [q4.1, q4.2]
    have hlen : (setL l f).length = 0 := by rw [q2]; rfl
    clear q3 q4
    go_enter Try.func25, Try.ntmps25
    go_wp2_with fail
    refine (RSet_any _ l _ _ (hv2 _)).mono ?_
    rintro e w1 ⟨sv, rfl, ho, hb1⟩
    rw [q1]
    obtain ⟨c0, f0⟩ := bk hb1 w.heap.size (by first | omega | (simp; done) | (simp; omega))
    have hz1 := hb1.size
    simp only [World.size_alloc] at hz1
    obtain ⟨sa, scap, rfl, s1, s2⟩ := ho.val
    rw [hlen]
    clear ho q1 q2 hlen
    go_wp2_with fail
    rw [Q3.out]
    refine bodyPost_ret (v := .tuple #[.agg #[.int .i64 0, .int .i64 0], .int .i64 21]) (by simp [results, Try.results25, go_sem, *]) rfl ⟨rfl, ?_⟩
    ((repeat' (first | exact Below.refl _ _ | exact hb1 | refine Below.alloc ?_ ?_ _ | refine Below.setCell ?_ ?_ _ | refine Below.drew ?_ | refine below_drewN ?_ _ | refine Below.trans ?_ (hb1.mono ?_))) <;> (first | omega | (simp; done) | (simp; omega)))
  · have q4 := cbVal_none (l := l) (f := f) (by omega)
    rw [q4.1, q4.2, q3]
    have hne : (setEr l f == 0) = false := by rw [beq_eq_false_iff_ne]; exact q1
    have hne2 : (setEr l f != 0) = true := by rw [bne_iff_ne]; exact q1
    clear q3 q4 q1 q2
    go_enter Try.func25, Try.ntmps25
    go_wp2_with fail
    refine (RSet_any _ l _ _ (hv2 _)).mono ?_
    rintro e w1 ⟨sv, rfl, ho, hb1⟩
    obtain ⟨c0, f0⟩ := bk hb1 w.heap.size (by first | omega | (simp; done) | (simp; omega))
    have hz1 := hb1.size
    simp only [World.size_alloc] at hz1
    clear ho
    go_wp2_with fail
    refine bodyPost_ret (v := .tuple #[.agg #[.int .i64 0, .int .i64 0], .int .i64 (setEr l f)]) (by simp [results, Try.results25, go_sem, *]) rfl ⟨rfl, ?_⟩
    ((repeat' (first | exact Below.refl _ _ | exact hb1 | refine Below.alloc ?_ ?_ _ | refine Below.setCell ?_ ?_ _ | refine Below.drew ?_ | refine below_drewN ?_ _ | refine Below.trans ?_ (hb1.mono ?_))) <;> (first | omega | (simp; done) | (simp; omega)))

end Go.Proofs.Ythklljlachljgaa
