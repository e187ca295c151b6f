/- Package combine's Outside and the reference's, whole. -/
import Derived.Test.YthklljlachljgaaCbC
namespace Go.Proofs.Ythklljlachljgaa
open Go.RowKit
attribute [local go_sem ↓] run_max_mx run_min_mn run_eql_iv run_neq_iv

def OutPost (w : World) (l : List Iv) (f : Int) (e : Ending) (w' : World) : Prop :=
  ∃ v, e = .returned (.tuple #[v, .int .i64 (cbEr l f)]) ∧ OwnIs w' w.heap.size v (outL l f) ∧ Below w.heap.size w w'
theorem outL_none {l : List Iv} {f : Int} (h : setL l f = []) : outL l f = [] := by unfold outL; rw [h]; rfl
theorem OutPost.no {w w' : World} {l : List Iv} {f x : Int} (h : setL l f = []) (hx : x = cbEr l f) (hb : Below w.heap.size w w') : OutPost w l f (.returned (.tuple #[.slice none 0 0, .int .i64 x])) w' :=
  ⟨_, by rw [hx], by rw [outL_none h]; exact OwnIs.nil _ _, hb⟩
theorem set_valid {l : List Iv} {f : Int} (h : 0 < (setL l f).length) : setOk l f = true ∧ l.length ≤ 64 ∧ (setL l f).length ≤ 64 ∧ (∀ j, j < (setL l f).length → validB (iLo (setL l f) j) (iHi (setL l f) j) = true) ∧ (∀ j, j < l.length → validB (iLo l j) (iHi l j) = true) ∧ outL l f = outTo l (setL l f) l.length := by
  cases hs : setOk l f with
  | false => rw [setL_no hs] at h; simp at h
  | true =>
    have h1 := (setOk_iff l f).1 hs
    have h2 := (listB_iff l).1 h1.1
    have h3 := setL_length l f
    exact ⟨rfl, h2.1, by omega, fun j hj => (validB_iff _ _).2 ((setL_spec hs).1.at j hj), fun j hj => (validB_iff _ _).2 (h2.2 j hj), by unfold outL; rw [if_neg (by omega)]⟩

set_option maxRecDepth 100000 in
set_option maxHeartbeats 400000 in
theorem withIs_any (v : Value) (l : List Iv) (f : Int) (Bx : Nat) (w : World) (hv : IvRow w v l) (hx : w.cell? ⟨Bx, 0, none⟩ = some v) (hBx : Bx < w.heap.size) :
    Calls Try.prog 31 #[v, .int .i64 f, .func (.func 32) #[] #[.pointer (some ⟨Bx, 0, none⟩)]] w (OutPost w l f) := by
  have hv' := hv
  obtain ⟨a, cap, rfl, h1, h2, h3⟩ := hv
  clear h3
  rcases cb_ways l f with ⟨q1, q2, q3⟩ | ⟨q1, q2, q3⟩ | ⟨q1, q2, q3⟩
  · have Q3 := hide q3
    clear q3
    go_enter Try.func31, Try.ntmps31
    go_wp2_with fail
    refine (Set_any _ l _ _ hv').mono ?_
    rintro e w1 ⟨sv, rfl, ho, hb1⟩
    rw [q1]
    have hz1 := hb1.size
    have hrow := ho.row
    obtain ⟨sa, scap, rfl, s1, s2⟩ := ho.val
    have hne : (((setL l f).length : Int) == 0) = false := by rw [beq_eq_false_iff_ne]; omega
    have hval := set_valid q2
    have hx1 := (hb1.cell (p := ⟨Bx, 0, none⟩) hBx).trans hx
    have Hval := hide hval
    clear ho q1 hval hx
    go_wp2_with fail
    refine (Outside1_any _ _ (setL l f) l Bx _ hrow hx1 (hv'.below (Nat.le_refl _) hb1) (by have := Hval.out; omega) (by have := Hval.out; omega) Hval.out.2.2.2.1 Hval.out.2.2.2.2.1).mono ?_
    rintro e w2 ⟨ov, rfl, ho, hb2⟩
    have hz2 := hb2.size
    go_wp2_with fail
    go_ret2
    exact ⟨ov, by rw [Q3.out]; rfl, by rw [Hval.out.2.2.2.2.2]; exact ho.mono hz1, (by ((repeat' (first | exact Below.refl _ _ | exact hb1 | exact hb2 | refine Below.alloc ?_ ?_ _ | refine Below.setCell ?_ ?_ _ | refine Below.drew ?_ | refine below_drewN ?_ _ | refine Below.trans ?_ (hb1.mono ?_) | refine Below.trans ?_ (hb2.mono ?_))) <;> (first | omega | (simp; done) | (simp; omega))))⟩
  · have Q3 := hide q3
    have hlen : (setL l f).length = 0 := by rw [q2]; rfl
    have Q2 := hide q2
    clear q3 q2
    go_enter Try.func31, Try.ntmps31
    go_wp2_with fail
    refine (Set_any _ l _ _ hv').mono ?_
    rintro e w1 ⟨sv, rfl, ho, hb1⟩
    rw [q1]
    obtain ⟨sa, scap, rfl, s1, s2⟩ := ho.val
    rw [hlen]
    clear ho q1 hlen
    go_wp2_with fail
    go_ret2
    exact OutPost.no Q2.out Q3.out.symm hb1
  · have hne : (setEr l f == 0) = false := by rw [beq_eq_false_iff_ne]; exact q1
    have hne2 : (setEr l f != 0) = true := by rw [bne_iff_ne]; exact q1
    have Q3 := hide q3
    have Q2 := hide q2
    clear q3 q1 q2
    go_enter Try.func31, Try.ntmps31
    go_wp2_with fail
    refine (Set_any _ l _ _ hv').mono ?_
    rintro e w1 ⟨sv, rfl, ho, hb1⟩
    clear ho
    go_wp2_with fail
    go_ret2
    exact OutPost.no Q2.out Q3.out.symm hb1

set_option maxRecDepth 100000 in
set_option maxHeartbeats 400000 in
theorem Outside_any (v : Value) (l : List Iv) (f : Int) (w : World) (hv : IvRow w v l) :
    Calls Try.prog 19 #[v, .int .i64 f] w (OutPost w l f) := by
  have hv2 : ∀ o, IvRow (w.alloc o) v l := fun o => hv.below (Nat.le_refl _) ((Below.refl _ _).alloc (Nat.le_refl _) o)
  obtain ⟨a, cap, rfl, h1, h2, h3⟩ := hv
  clear h3
  go_enter Try.func19, Try.ntmps19
  go_wp2_with fail
  refine (withIs_any _ l _ w.heap.size _ (hv2 _) ?c1 ?c2).mono ?_
  case c1 => simp
  case c2 => simp
  rintro e w1 ⟨ov, rfl, ho, hb1⟩
  go_wp2_with fail
  go_ret2
  exact ⟨ov, rfl, ho.mono (by simp), (by ((repeat' (first | exact Below.refl _ _ | exact hb1 | refine Below.alloc ?_ ?_ _ | refine Below.setCell ?_ ?_ _ | refine Below.drew ?_ | refine below_drewN ?_ _ | refine Below.trans ?_ (hb1.mono ?_))) <;> (first | omega | (simp; done) | (simp; omega))))⟩

set_option maxRecDepth 100000 in
set_option maxHeartbeats 1000000 in
theorem ROutside_any (v : Value) (l : List Iv) (f : Int) (w : World) (hv : IvRow w v l) :
    Calls Try.prog 26 #[v, .int .i64 f] w (OutPost w l f) := by
  have hv' := hv
  obtain ⟨a, cap, rfl, h1, h2, h3⟩ := hv
  rcases cb_ways l f with ⟨q1, q2, q3⟩ | ⟨q1, q2, q3⟩ | ⟨q1, q2, q3⟩
  · have Q3 := hide q3
    clear q3
    obtain ⟨i0, hi, hz0, hz1, hz2⟩ := info_parts infoInt
    go_enter Try.func26, Try.ntmps26
    go_wp2_with fail
    refine (RSet_any _ l _ _ hv').mono ?_
    rintro e w1 ⟨sv, rfl, ho, hb1⟩
    rw [q1]
    have hsz1 := hb1.size
    have hrow := ho.row
    obtain ⟨sa, scap, hsv, s1, s2, s3⟩ := hrow
    subst hsv
    have hne : (((setL l f).length : Int) == 0) = false := by rw [beq_eq_false_iff_ne]; omega
    have Hval := hide (set_valid q2)
    have hll := (set_valid q2).2.1
    have hcl := (set_valid q2).2.2.1
    clear ho q1
    generalize hcq : setL l f = c at *
    go_wp2_with fail
    clear hne
    go_loopw [8, 9] (fun s8 s9 wx => ∃ k : Nat, k ≤ l.length ∧ s9 = .int .i64 k ∧ OwnIs wx w1.heap.size s8 (outTo l c k) ∧ Below w1.heap.size w1 wx) (fun _ s9 _ => l.length - (intOf s9).toNat)
    case atStart => exact ⟨0, Nat.zero_le _, rfl, OwnIs.nil _ _, Below.refl _ _⟩
    case round =>
      obtain ⟨k, hk, rfl, hown, hB⟩ := hrel
      have hBw : Below w.heap.size w wr := (by ((repeat' (first | exact Below.refl _ _ | exact hb1 | exact hB | refine Below.alloc ?_ ?_ _ | refine Below.setCell ?_ ?_ _ | refine Below.drew ?_ | refine below_drewN ?_ _ | refine Below.trans ?_ (hb1.mono ?_) | refine Below.trans ?_ (hB.mono ?_))) <;> (first | omega | (simp; done) | (simp; omega))))
      have hzw := hBw.size
      obtain ⟨oa, ocap, hov, ho1, ho2⟩ := hown.val
      have hol := outTo_length l c k
      have hlow := World.ownsRow.lt hown
      subst hov
      by_cases hlt : k < l.length
      · obtain ⟨b, off, rfl, h4, h5, h6⟩ := h3 k hlt
        have h5' := (hBw.cell (p := ⟨b, off + k * 2, none⟩) h4).trans h5
        have h6' := (hBw.cell (p := ⟨b, off + k * 2 + 1, none⟩) h4).trans h6
        clear h5 h6
        go_wp2_with fail
        obtain ⟨wo, hwo⟩ : ∃ wo : World, wo = wr := ⟨_, rfl⟩
        subst hwo
        go_loopw [10, 11] (fun s10 s11 wx => ∃ (j : Nat) (x : Bool), j ≤ c.length ∧ s11 = .int .i64 j ∧ s10 = .bool x ∧ Hid (x = anyX (iLo l k) (iHi l k) c j) ∧ ∃ nq, wx = wo.drewN nq) (fun _ s11 _ => c.length - (intOf s11).toNat)
        case atStart => exact ⟨0, false, Nat.zero_le _, rfl, rfl, hide rfl, 0, rfl⟩
        case round =>
          obtain ⟨j, x, hj, rfl, rfl, Hx, nq, rfl⟩ := hrel
          by_cases hjl : j < c.length
          · obtain ⟨b2, off2, rfl, r4, r5, r6⟩ := s3 j hjl
            have r5' := (hB.cell (p := ⟨b2, off2 + j * 2, none⟩) r4).trans r5
            have r6' := (hB.cell (p := ⟨b2, off2 + j * 2 + 1, none⟩) r4).trans r6
            clear r5 r6
            cases x with
            | true =>
              go_wp2_with fail
              go_quiet (fail)
              go_wp2_with fail
              go_roundw
              case rel => exact ⟨j + 1, true, by omega, by go_num, rfl, hide (by rw [anyX, ← Hx.out]; rfl), _, rfl⟩
              case measure => simp [intOf]; omega
            | false =>
              have HC := hide (show decide (mx (iLo l k) (iLo c j) ≤ mn (iHi l k) (iHi c j)) = crossB (iLo l k) (iHi l k) (iLo c j) (iHi c j) from rfl)
              go_wp2_with fail
              go_quiet (fail)
              go_wp2_with fail
              go_roundw
              case rel => exact ⟨j + 1, _, by omega, by go_num, rfl, hide (by rw [anyX, ← Hx.out, ← HC.out]; simp), _, rfl⟩
              case measure => simp [intOf]; omega
          · have hfin : x = anyX (iLo l k) (iHi l k) c c.length := by rw [Hx.out, show j = c.length by omega]
            have Hfin := hide hfin
            clear hfin
            have hownz : OwnIs (wo.drewN nq) w1.heap.size _ (outTo l c k) := hown.below (Nat.le_refl _) (below_drewN (Below.refl _ _) nq)
            have hBz : Below w1.heap.size w1 (wo.drewN nq) := below_drewN hB nq
            have hzz := hBz.size
            clear h5' h6' hown hB
            generalize wo.drewN nq = wz at *
            cases x with
            | true =>
              go_wp2_with fail
              go_roundw
              case rel =>
                have e : outTo l c (k + 1) = outTo l c k := by rw [outTo, if_pos Hfin.out.symm]
                exact ⟨k + 1, by omega, by go_num, by rw [e]; exact hownz, hBz⟩
              case measure => simp [intOf]; omega
            | false =>
              unfold OwnIs at hownz
              go_wp2_with (at_builtin; refine wpList_append_own _ rfl _ _ 24 rfl w1.heap.size 3 i0 (.int .i64 0) 1 8 Try.underlying24 hi hz0 hz1 hz2 rfl (by decide) _ (outTo l c k).length (encI (outTo l c k)) rfl (World.ownsRow.alloc hownz _) ⟨wz.heap.size, 0, none⟩ 1 1 [.int .i64 k] rfl rfl (one_cell wz _ _) (by simp [Value.oneCell']) (by unfold maxLen; omega) (by omega) (by simp; omega) ?_; intro v3 w3 hown3 hg3 _)
              go_roundw
              case rel =>
                have e : outTo l c (k + 1) = outTo l c k ++ [(k : Int)] := by rw [outTo, if_neg (by rw [← Hfin.out]; simp)]
                refine ⟨k + 1, by omega, by go_num, by rw [e]; exact OwnIs.app hown3, ?_⟩
                exact (hBz.alloc (by omega) _).grown hg3 (by simp; omega) (fun r h => (hlow r h).1)
              case measure => simp [intOf]; omega
      · obtain rfl : k = l.length := by omega
        go_wp2_with fail
        go_ret2
        refine ⟨_, by rw [Q3.out]; rfl, ?_, hBw⟩
        rw [Hval.out.2.2.2.2.2]
        exact OwnIs.mono hown hsz1
  · have Q3 := hide q3
    have hlen : (setL l f).length = 0 := by rw [q2]; rfl
    have Q2 := hide q2
    clear q3 q2 h3
    go_enter Try.func26, Try.ntmps26
    go_wp2_with fail
    refine (RSet_any _ l _ _ hv').mono ?_
    rintro e w1 ⟨sv, rfl, ho, hb1⟩
    rw [q1]
    obtain ⟨sa, scap, rfl, s1, s2⟩ := ho.val
    rw [hlen]
    clear ho q1 hlen
    go_wp2_with fail
    go_ret2
    exact OutPost.no Q2.out Q3.out.symm hb1
  · have hne : (setEr l f == 0) = false := by rw [beq_eq_false_iff_ne]; exact q1
    have hne2 : (setEr l f != 0) = true := by rw [bne_iff_ne]; exact q1
    have Q3 := hide q3
    have Q2 := hide q2
    clear q3 q1 q2 h3
    go_enter Try.func26, Try.ntmps26
    go_wp2_with fail
    refine (RSet_any _ l _ _ hv').mono ?_
    rintro e w1 ⟨sv, rfl, ho, hb1⟩
    clear ho
    go_wp2_with fail
    go_ret2
    exact OutPost.no Q2.out Q3.out.symm hb1
end Go.Proofs.Ythklljlachljgaa
