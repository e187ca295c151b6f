
/- Parts CbA CbB of the proof, joined. -/
import Derived.Test.YtlmcoollkmhanaaGreatGp
import Derived.Test.YtlmcoollkmhanaaGreatGw
import Derived.Test.YtlmcoollkmhanaaGreatGa
/- Package combine and its reference: Set and Combine. -/
namespace Go.Proofs.YtlmcoollkmhanaaGreat
open Go.RowKit
attribute [local go_sem ↓] run_max_mx run_min_mn run_eql_iv run_neq_iv

def SetPost (B : Nat) (w : World) (l : List Iv) (f : Int) (e : Ending) (w' : World) : Prop :=
 ∃ v, e = .returned (.tuple #[v, .int .i64 (setEr l f)]) ∧ OwnIv w' B v (setL l f) ∧ Below B w w'
theorem SetPost.no {w w' : World} {l : List Iv} {f : Int} (h : setOk l f = false) (hb : Below w.heap.size w w') : SetPost w.heap.size w l f (.returned (.tuple #[.slice none 0 0, .int .i64 (setEr l f)])) w' :=
 ⟨_, rfl, by rw [setL_no h]; exact OwnP.nil _ _, hb⟩
theorem setL_of {l c : List Iv} {f : Int} (h : setOk l f = true) (hc : CovOut l (l.length - f) c) : coverEr l (l.length - f) = 0 ∧ c = setL l f := by
 have h' := (setOk_iff l f).1 h
 have hl := ((listB_iff l).1 h'.1).1
 have hok : coverOk l (l.length - f) = true := by simp [coverOk, h'.1]; omega
 refine ⟨by simp [coverEr, hok], ?_⟩
 unfold CovOut at hc
 rw [if_pos hok] at hc
 exact hc.unique (setL_spec h)
theorem setEr_of (l : List Iv) (f : Int) : (listB l = false → setEr l f = 1 ∧ setOk l f = false) ∧ (f < 0 → setEr l f = 1 ∧ setOk l f = false) ∧ (listB l = true → 0 ≤ f → l.length ≤ f → setEr l f = 20 ∧ setOk l f = false) ∧ (listB l = true → 0 ≤ f → f < l.length → setEr l f = 0 ∧ setOk l f = true) := by
 refine ⟨fun h => ?_, fun h => ?_, fun h h1 h2 => ?_, fun h h1 h2 => ?_⟩
 ·simp [setEr, setOk, h]
 ·constructor
  ·unfold setEr; rw [if_neg (by omega)]
  ·simp [setOk]; omega
 ·constructor
  ·unfold setEr; rw [if_pos ⟨h, h1⟩, if_neg (by omega)]
  ·simp [setOk]; omega
 ·constructor
  ·unfold setEr; rw [if_pos ⟨h, h1⟩, if_pos h2]
  ·simp [setOk, h]; omega

set_option maxRecDepth 100000 in
set_option maxHeartbeats 400000 in
theorem Set_any (v : Value) (l : List Iv) (f : Int) (w : World) (hv : IvRow w v l) :
  Calls Tryz.prog 78 #[v, .int .i64 f] w (SetPost w.heap.size w l f) := by
 have hv' := hv
 obtain ⟨a, cap, rfl, h1, h2, h3⟩ := hv
 clear h3
 obtain ⟨e1, e2, e3, e4⟩ := setEr_of l f
 have E1 := hide e1
 have E2 := hide e2
 have E3 := hide e3
 have E4 := hide e4
 clear e1 e2 e3 e4
 by_cases hl : listB l = true
 ·have hle : listEr l = 0 := by simp [listEr, hl]
  have Hl := hide hl
  clear hl
  by_cases hf : f < 0
  ·have k := E2.out hf
   have K1 := hide k.1
   have K2 := hide k.2
   clear k
   go_enter Tryz.func78, Tryz.ntmps78
   go_wp2_with (go_at_call 104; refine (Depth_any _ l _ _ hv').mono ?_; rintro e w0 ⟨rfl, hb0⟩; rw [hle])
   go_ret2
   rw [← K1.out]
   exact SetPost.no K2.out hb0
  ·by_cases hn : (l.length : Int) ≤ f
   ·have k := E3.out Hl.out (by omega) hn
    have K1 := hide k.1
    have K2 := hide k.2
    clear k
    go_enter Tryz.func78, Tryz.ntmps78
    go_wp2_with (go_at_call 104; refine (Depth_any _ l _ _ hv').mono ?_; rintro e w0 ⟨rfl, hb0⟩; rw [hle])
    go_ret2
    rw [← K1.out]
    exact SetPost.no K2.out hb0
   ·have k := E4.out Hl.out (by omega) (by omega)
    have K1 := hide k.1
    have K2 := hide k.2
    clear k
    go_enter Tryz.func78, Tryz.ntmps78
    go_wp2_with (go_at_call 104; refine (Depth_any _ l _ _ hv').mono ?_; rintro e w0 ⟨rfl, hb0⟩; rw [hle])
    refine (Cover_any _ l _ _ (hv'.below (Nat.le_refl _) hb0)).mono ?_
    rintro e w1 ⟨cv, c, rfl, ho, hc, hb1⟩
    have hs := setL_of K2.out hc
    rw [hs.1]
    have Hs := hide hs.2
    clear hs hc
    go_wp2_with fail
    go_ret2
    have hz := hb0.size
    refine ⟨cv, by rw [K1.out]; rfl, ?_, (by ((repeat' (first | exact Below.refl _ _ | exact hb0 | exact hb1 | refine Below.alloc ?_ ?_ _ | refine Below.setCell ?_ ?_ _ | refine Below.drew ?_ | refine below_drewN ?_ _ | refine Below.trans ?_ (hb0.mono ?_) | refine Below.trans ?_ (hb1.mono ?_))) <;> (first | omega | (simp; done) | (simp; omega))))⟩
    rw [← Hs.out]
    exact World.ownsRow.mono ho hz
 ·have hl' : listB l = false := by simpa using hl
  have hle : listEr l = 1 := by simp [listEr, hl']
  have k := E1.out hl'
  have K1 := hide k.1
  have K2 := hide k.2
  clear k hl hl'
  go_enter Tryz.func78, Tryz.ntmps78
  go_wp2_with (go_at_call 104; refine (Depth_any _ l _ _ hv').mono ?_; rintro e w0 ⟨rfl, hb0⟩; rw [hle])
  go_ret2
  rw [← K1.out]
  exact SetPost.no K2.out hb0

set_option maxRecDepth 100000 in
set_option maxHeartbeats 400000 in
theorem Combine1_any (v : Value) (c : List Iv) (w : World) (hv : IvRow w v c) (hc : 0 < c.length) :
  Calls Tryz.prog 47 #[v] w fun e w' => e = .returned (.agg #[.int .i64 (iLo c 0), .int .i64 (iHi c (c.length - 1))]) ∧ Below w.heap.size w w' := by
 obtain ⟨n, hn⟩ : ∃ n, c.length = n + 1 := ⟨c.length - 1, by omega⟩
 obtain ⟨b, off, cap, rfl, h1, h2, h4, h5, h6, h7⟩ := hv.at0 hc
 obtain ⟨h8, h9⟩ := h7 n (by omega)
 rw [hn] at h1 ⊢
 rw [show n + 1 - 1 = n by omega]
 clear h7 hn hv hc
 obtain ⟨o1, o2⟩ := old1 w (.cells #[.int .i64 0, .int .i64 0] 53) h4 off
 have o3 := (old1 w (.cells #[.int .i64 0, .int .i64 0] 53) h4 (off + n * 2 + 1)).1
 rw [h5] at o1
 rw [h9] at o3
 go_enter Tryz.func47, Tryz.ntmps47
 go_wp2
 go_region
 go_wp2
 all_goals
  refine bodyPost_ret (v := .agg #[.int .i64 (iLo c 0), .int .i64 (iHi c n)]) (by simp [results, Tryz.results47, go_sem, *]) rfl ⟨rfl, ?_⟩
  ((repeat' (first | exact Below.refl _ _ | refine Below.alloc ?_ ?_ _ | refine Below.setCell ?_ ?_ _ | refine Below.drew ?_ | refine below_drewN ?_ _)) <;> (first | omega | (simp; done) | (simp; omega)))
end Go.Proofs.YtlmcoollkmhanaaGreat
/- Package combine and its reference: with at intervals, Combine; the reference's right, Set, Combine, Missing, SameInts. -/
namespace Go.Proofs.YtlmcoollkmhanaaGreat
open Go.RowKit
attribute [local go_sem ↓] run_max_mx run_min_mn run_eql_iv run_neq_iv

theorem cbVal_none {l : List Iv} {f : Int} (h : cbEr l f ≠ 0) : cbLo l f = 0 ∧ cbHi l f = 0 := by
 unfold cbLo cbHi
 cases hs : setOk l f with
 | false => rw [setL_no hs]; simp [iLo, iHi]
 | true =>
  by_cases h0 : (setL l f).length = 0
  ·rw [List.eq_nil_of_length_eq_zero h0]; simp [iLo, iHi]
  ·unfold cbEr at h; rw [if_pos hs, if_neg h0] at h; exact absurd rfl h
theorem cb_ways (l : List Iv) (f : Int) : (setEr l f = 0 ∧ 0 < (setL l f).length ∧ cbEr l f = 0) ∨ (setEr l f = 0 ∧ setL l f = [] ∧ cbEr l f = 21) ∨ (setEr l f ≠ 0 ∧ setL l f = [] ∧ cbEr l f = setEr l f) := by
 cases hs : setOk l f with
 | false =>
  refine .inr (.inr ⟨?_, setL_no hs, ?_⟩)
  ·rcases setEr_no hs with h | h <;> omega
  ·unfold cbEr; rw [if_neg (by simp [hs])]
 | true =>
  have h1 := setEr_ok hs
  by_cases h0 : (setL l f).length = 0
  ·exact .inr (.inl ⟨h1, List.eq_nil_of_length_eq_zero h0, by unfold cbEr; rw [if_pos hs, if_pos h0]⟩)
  ·exact .inl ⟨h1, by omega, by unfold cbEr; rw [if_pos hs, if_neg h0]⟩

set_option maxRecDepth 100000 in
set_option maxHeartbeats 400000 in
theorem withIv_any (v : Value) (l : List Iv) (f : Int) (w : World) (hv : IvRow w v l) :
  Calls Tryz.prog 46 #[v, .int .i64 f, .func (.func 47) #[] #[]] w fun e w' =>
   e = .returned (.tuple #[.agg #[.int .i64 (cbLo l f), .int .i64 (cbHi l f)], .int .i64 (cbEr l f)]) ∧ Below w.heap.size w w' := by
 have hv' := hv
 obtain ⟨a, cap, rfl, h1, h2, h3⟩ := hv
 clear h3
 have hv2 : ∀ o o2, IvRow ((w.alloc o).alloc o2) (.slice a l.length cap) l := fun o o2 => hv'.below (Nat.le_refl _) (((Below.refl _ _).alloc (Nat.le_refl _) o).alloc (by simp) o2)
 rcases cb_ways l f with ⟨q1, q2, q3⟩ | ⟨q1, q2, q3⟩ | ⟨q1, q2, q3⟩
 ·have Q3 := hide q3
  clear q3
  go_enter Tryz.func46, Tryz.ntmps46
  go_wp2_with fail
  refine (Set_any _ l _ _ (hv2 _ _)).mono ?_
  rintro e w1 ⟨sv, rfl, ho, hb1⟩
  rw [q1]
  obtain ⟨c0, f0⟩ := bk hb1 w.heap.size (by first | omega | simp <;> omega)
  obtain ⟨c1, f1⟩ := bk hb1 (w.heap.size + 1) (by first | omega | simp <;> omega)
  have hz1 := hb1.size
  simp only [World.size_alloc] at hz1
  have hrow := ho.row
  obtain ⟨sa, scap, rfl, s1, s2⟩ := ho.val
  have hne : (((setL l f).length : Int) == 0) = false := by rw [beq_eq_false_iff_ne]; omega
  clear ho q1
  go_wp2_with fail
  refine (Combine1_any _ (setL l f) _ hrow q2).mono ?_
  rintro e w2 ⟨rfl, hb2⟩
  have cc0 := (bk hb2 w.heap.size (by omega)).1
  have ff0 := (bk hb2 w.heap.size (by omega)).2
  have hz2 := hb2.size
  go_wp2_with fail
  rw [Q3.out]
  refine bodyPost_ret (v := .tuple #[.agg #[.int .i64 (cbLo l f), .int .i64 (cbHi l f)], .int .i64 0]) (by simp [results, Tryz.results46, go_sem, cbLo, cbHi, *]) rfl ⟨rfl, ?_⟩
  ((repeat' (first | exact Below.refl _ _ | exact hb1 | exact hb2 | refine Below.alloc ?_ ?_ _ | refine Below.setCell ?_ ?_ _ | refine Below.drew ?_ | refine below_drewN ?_ _ | refine Below.trans ?_ (hb1.mono ?_) | refine Below.trans ?_ (hb2.mono ?_))) <;> (first | omega | (simp; done) | (simp; omega)))
 ·have Q3 := hide q3
  have q4 := cbVal_none (l := l) (f := f) (by omega)
  rw [q4.1, q4.2]
  have hlen : (setL l f).length = 0 := by rw [q2]; rfl
  clear q3 q4
  go_enter Tryz.func46, Tryz.ntmps46
  go_wp2_with fail
  refine (Set_any _ l _ _ (hv2 _ _)).mono ?_
  rintro e w1 ⟨sv, rfl, ho, hb1⟩
  rw [q1]
  obtain ⟨c0, f0⟩ := bk hb1 w.heap.size (by first | omega | simp <;> omega)
  obtain ⟨c1, f1⟩ := bk hb1 (w.heap.size + 1) (by first | omega | simp <;> omega)
  have hz1 := hb1.size
  simp only [World.size_alloc] at hz1
  obtain ⟨sa, scap, rfl, s1, s2⟩ := ho.val
  rw [hlen]
  clear ho q1 q2 hlen
  go_wp2_with fail
  rw [Q3.out]
  refine bodyPost_ret (v := .tuple #[.agg #[.int .i64 0, .int .i64 0], .int .i64 21]) (by simp [results, Tryz.results46, go_sem, *]) rfl ⟨rfl, ?_⟩
  ((repeat' (first | exact Below.refl _ _ | exact hb1 | refine Below.alloc ?_ ?_ _ | refine Below.setCell ?_ ?_ _ | refine Below.drew ?_ | refine below_drewN ?_ _ | refine Below.trans ?_ (hb1.mono ?_))) <;> (first | omega | (simp; done) | (simp; omega)))
 ·have q4 := cbVal_none (l := l) (f := f) (by omega)
  rw [q4.1, q4.2, q3]
  have hne : (setEr l f == 0) = false := by rw [beq_eq_false_iff_ne]; exact q1
  have hne2 : (setEr l f != 0) = true := by rw [bne_iff_ne]; exact q1
  clear q3 q4 q1 q2
  go_enter Tryz.func46, Tryz.ntmps46
  go_wp2_with fail
  refine (Set_any _ l _ _ (hv2 _ _)).mono ?_
  rintro e w1 ⟨sv, rfl, ho, hb1⟩
  obtain ⟨c0, f0⟩ := bk hb1 w.heap.size (by first | omega | simp <;> omega)
  obtain ⟨c1, f1⟩ := bk hb1 (w.heap.size + 1) (by first | omega | simp <;> omega)
  have hz1 := hb1.size
  simp only [World.size_alloc] at hz1
  clear ho
  go_wp2_with fail
  refine bodyPost_ret (v := .tuple #[.agg #[.int .i64 0, .int .i64 0], .int .i64 (setEr l f)]) (by simp [results, Tryz.results46, go_sem, *]) rfl ⟨rfl, ?_⟩
  ((repeat' (first | exact Below.refl _ _ | exact hb1 | refine Below.alloc ?_ ?_ _ | refine Below.setCell ?_ ?_ _ | refine Below.drew ?_ | refine below_drewN ?_ _ | refine Below.trans ?_ (hb1.mono ?_))) <;> (first | omega | (simp; done) | (simp; omega)))

set_option maxRecDepth 100000 in
set_option maxHeartbeats 400000 in
theorem Combine_any (v : Value) (l : List Iv) (f : Int) (w : World) (hv : IvRow w v l) :
  Calls Tryz.prog 22 #[v, .int .i64 f] w fun e w' =>
   e = .returned (.tuple #[.agg #[.int .i64 (cbLo l f), .int .i64 (cbHi l f)], .int .i64 (cbEr l f)]) ∧ Below w.heap.size w w' := by
 have hv2 : ∀ o, IvRow (w.alloc o) v l := fun o => hv.below (Nat.le_refl _) ((Below.refl _ _).alloc (Nat.le_refl _) o)
 go_enter Tryz.func22, Tryz.ntmps22
 go_wp2_with fail
 refine (withIv_any _ l _ _ (hv2 _)).mono ?_
 rintro e w1 ⟨rfl, hb1⟩
 obtain ⟨c0, f0⟩ := bk hb1 w.heap.size (by first | omega | simp <;> omega)
 have hz1 := hb1.size
 simp only [World.size_alloc] at hz1
 go_wp2_with fail
 refine bodyPost_ret (v := .tuple #[.agg #[.int .i64 (cbLo l f), .int .i64 (cbHi l f)], .int .i64 (cbEr l f)]) (by simp [results, Tryz.results22, go_sem, *]) rfl ⟨rfl, ?_⟩
 ((repeat' (first | exact Below.refl _ _ | exact hb1 | refine Below.alloc ?_ ?_ _ | refine Below.setCell ?_ ?_ _ | refine Below.drew ?_ | refine below_drewN ?_ _ | refine Below.trans ?_ (hb1.mono ?_))) <;> (first | omega | (simp; done) | (simp; omega)))

end Go.Proofs.YtlmcoollkmhanaaGreat
