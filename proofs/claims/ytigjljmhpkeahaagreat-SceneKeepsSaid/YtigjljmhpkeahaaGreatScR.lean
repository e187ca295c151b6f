
/- Plain laws of package scene: what may happen has true time in its interval, and is not wider than the schedule; a lesser count. -/
import Derived.Test.YtigjljmhpkeahaaGreatScQ
import Derived.Test.YtigjljmhpkeahaaGreatGv
namespace Go.Proofs.YtigjljmhpkeahaaGreat
open Go.RowKit

def scPt (s : Si) (x : Sc) (i : Nat) : Pt :=
  ⟨x.at_ - snLo (pu s.ps x.use i).ol (pu s.ps x.use i).oh (pu s.ps x.use i).bl (pu s.ps x.use i).bh (anAt x.an i).lo (anAt x.an i).hi,
   pWd (pu s.ps x.use i) - (x.at_ - snLo (pu s.ps x.use i).ol (pu s.ps x.use i).oh (pu s.ps x.use i).bl (pu s.ps x.use i).bh (anAt x.an i).lo (anAt x.an i).hi) - (snHi (pu s.ps x.use i).ol (pu s.ps x.use i).oh (pu s.ps x.use i).bl (pu s.ps x.use i).bh (anAt x.an i).lo (anAt x.an i).hi - x.at_),
   if (anAt x.an i).ls = true then 1 else if isLie s.ps x.use x.at_ x.an i = true then 2 else 0,
   snLo (pu s.ps x.use i).ol (pu s.ps x.use i).oh (pu s.ps x.use i).bl (pu s.ps x.use i).bh (anAt x.an i).lo (anAt x.an i).hi,
   snHi (pu s.ps x.use i).ol (pu s.ps x.use i).oh (pu s.ps x.use i).bl (pu s.ps x.use i).bh (anAt x.an i).lo (anAt x.an i).hi⟩
theorem al_iff {s : Si} {x : Sc} (h : alB s x = true) : (cntTo (isLost x.an) x.an.length : Int) ≤ s.lo ∧ cntTo (isBent s.ps x.use x.an) x.an.length = 0 ∧ (cntTo (isLie s.ps x.use x.at_ x.an) x.an.length : Int) ≤ s.f := by
  unfold alB at h
  simpa only [Bool.and_eq_true, decide_eq_true_eq] using h
theorem sc_fold {s : Si} {x : Sc} (hf : fitB s x = true) (ha : alB s x = true) : ∀ i, i ≤ x.an.length →
    bdS (wdL s.ps x.use) (scPt s x) s.f s.lo x.at_ i = ⟨pyL s.ps x.use x.an i, cntTo (isLost x.an) i, cntTo (isLie s.ps x.use x.at_ x.an) i⟩
  | 0, _ => rfl
  | i + 1, hi => by
    have ih := sc_fold hf ha i (by omega)
    obtain ⟨hr, hat, hct, hln, hfit⟩ := (fitB_iff s x).1 hf
    obtain ⟨a1, a2, a3⟩ := al_iff ha
    have hiu : i < x.use.length := by omega
    have hpr := (prB_iff _ _ _).1 (rg_pr hr hiu)
    have hfi := hfit i (by omega)
    have m1 := cnt_mono (isLost x.an) (show i + 1 ≤ x.an.length by omega)
    have m2 := cnt_mono (isLie s.ps x.use x.at_ x.an) (show i + 1 ≤ x.an.length by omega)
    have hbent := cnt_zero a2 i (by omega)
    rw [cntTo] at m1 m2
    rw [bdS, ih, pyL, cntTo, cntTo]
    cases hls : (anAt x.an i).ls with
    | true =>
      have e1 : isLost x.an i = true := hls
      have e2 : isLie s.ps x.use x.at_ x.an i = false := by unfold isLie; rw [hls]; rfl
      rw [if_pos e1] at m1
      have hg : ptGone (scPt s x i) ((cntTo (isLost x.an) i : Nat) : Int) s.lo = true := by
        unfold ptGone scPt
        simp only [hls, if_true, Bool.and_eq_true, decide_eq_true_eq]
        omega
      simp only [hg, e1, e2, Bool.false_eq_true, if_false, if_true]
      simp
    | false =>
      have e1 : isLost x.an i = false := hls
      have hg : ptGone (scPt s x i) ((cntTo (isLost x.an) i : Nat) : Int) s.lo = false := by
        unfold ptGone scPt
        simp only [hls, Bool.false_eq_true, if_false]
        split <;> simp
      have hfn := (anFit_no hls).1 hfi
      unfold isBent dlOk anSnE at hbent
      rw [hls] at hbent
      simp only [Bool.not_false, Bool.true_and, Bool.not_eq_false', Bool.and_eq_true, decide_eq_true_eq, inB] at hbent
      obtain ⟨hsn, ho, -⟩ := hbent
      have hsn' := (snEr_iff _ _ _ _ _ _).1 hsn
      have eLo : snLo (pu s.ps x.use i).ol (pu s.ps x.use i).oh (pu s.ps x.use i).bl (pu s.ps x.use i).bh (anAt x.an i).lo (anAt x.an i).hi = mx 0 ((anAt x.an i).lo - (pu s.ps x.use i).oh) := by unfold snLo; rw [if_pos hsn]
      have eHi : snHi (pu s.ps x.use i).ol (pu s.ps x.use i).oh (pu s.ps x.use i).bl (pu s.ps x.use i).bh (anAt x.an i).lo (anAt x.an i).hi = (anAt x.an i).hi - (pu s.ps x.use i).ol := by unfold snHi; rw [if_pos hsn]
      have mm := mx_spec 0 ((anAt x.an i).lo - (pu s.ps x.use i).oh)
      simp only [hg, e1, Bool.false_eq_true, if_false]
      cases hli : isLie s.ps x.use x.at_ x.an i with
      | true =>
        rw [if_pos hli] at m2
        have hlie : ptLie (scPt s x i) ((cntTo (isLie s.ps x.use x.at_ x.an) i : Nat) : Int) s.f = true := by
          unfold ptLie scPt
          simp only [hls, hli, Bool.false_eq_true, if_false, if_true, eLo, eHi, Bool.and_eq_true, decide_eq_true_eq]
          omega
        simp only [hlie, if_true]
        unfold scPt
        simp
      | false =>
        have hlie : ptLie (scPt s x i) ((cntTo (isLie s.ps x.use x.at_ x.an) i : Nat) : Int) s.f = false := by
          unfold ptLie scPt
          simp [hls, hli]
        simp only [hlie, Bool.false_eq_true, if_false]
        have hh : hnOk (anAt x.an i) (pu s.ps x.use i) x.at_ = true := by
          unfold isLie at hli
          rw [hls] at hli
          simpa using hli
        unfold hnOk inB at hh
        simp only [Bool.and_eq_true, decide_eq_true_eq] at hh
        have hw : pWd (pu s.ps x.use i) = 2 * (pu s.ps x.use i).er + (pu s.ps x.use i).oh - (pu s.ps x.use i).ol := rfl
        have e3 : ptI (iAt (wdL s.ps x.use) i) x.at_ (scPt s x i) = (snLo (pu s.ps x.use i).ol (pu s.ps x.use i).oh (pu s.ps x.use i).bl (pu s.ps x.use i).bh (anAt x.an i).lo (anAt x.an i).hi, snHi (pu s.ps x.use i).ol (pu s.ps x.use i).oh (pu s.ps x.use i).bl (pu s.ps x.use i).bh (anAt x.an i).lo (anAt x.an i).hi) := by
          rw [wdL_at s.ps x.use i hiu, show pAt s.ps (iAt x.use i).toNat = pu s.ps x.use i from rfl]
          unfold ptI ptR ptL scPt
          simp only
          rw [eLo, eHi]
          generalize mx 0 ((anAt x.an i).lo - (pu s.ps x.use i).oh) = L at *
          generalize pWd (pu s.ps x.use i) = W at *
          obtain ⟨G, hG⟩ : ∃ G, G = (anAt x.an i).hi - (pu s.ps x.use i).ol := ⟨_, rfl⟩
          rw [← hG]
          have q1 : (x.at_ - L) % (W + 1) = x.at_ - L := Int.emod_eq_of_lt (by omega) (by omega)
          rw [q1]
          have q2 : (W - (x.at_ - L) - (G - x.at_)) % (W - (x.at_ - L) + 1) = W - (x.at_ - L) - (G - x.at_) := Int.emod_eq_of_lt (by omega) (by omega)
          rw [q2]
          have m3 := mx_spec 0 (x.at_ - (x.at_ - L))
          have m4 := mn_spec 3000000000000000 (x.at_ + (W - (x.at_ - L) - (W - (x.at_ - L) - (G - x.at_))))
          simp only [Prod.mk.injEq]
          omega
        rw [e3]
        simp
theorem elOk_ct {s : Si} {x : Sc} (hf : fitB s x = true) : elOk s.r x.ct = true ∧ elOk s.r (x.ev + s.tm) = true := by
  obtain ⟨hr, hat, hct, hln, hfit⟩ := (fitB_iff s x).1 hf
  have h1 := rg_elOk hr
  have h2 := (elOk_iff _ _).1 h1
  exact ⟨(elOk_iff _ _).2 ⟨h2.1, by omega⟩, h1⟩
theorem al_play {s : Si} {x : Sc} (hf : fitB s x = true) (ha : alB s x = true) : pyEr s x = 0 ∧ pyHi s x - pyLo s x ≤ wdt s x.use x.ev ∧ (0 ≤ pyLo s x ∧ pyLo s x ≤ pyHi s x ∧ pyHi s x ≤ 3000000000000000) ∧
    wdEr s x.use x.ev = 0 ∧ elEr s.r x.ct = 0 ∧ (0 ≤ elLo s.r x.ct ∧ elLo s.r x.ct ≤ elHi s.r x.ct ∧ elHi s.r x.ct ≤ 1002000000000010) ∧
    ∀ d : Int, 0 ≤ d → d ≤ elHi s.r x.ct - elLo s.r x.ct → pyLo s x ≤ mn (x.at_ + elLo s.r x.ct + d) 3000000000000000 ∧ mn (x.at_ + elLo s.r x.ct + d) 3000000000000000 ≤ pyHi s x := by
  obtain ⟨hr, hat, hct, hln, hfit⟩ := (fitB_iff s x).1 hf
  obtain ⟨a1, a2, a3⟩ := al_iff ha
  obtain ⟨he1, he2⟩ := elOk_ct hf
  have hb := bd_bound (P := scPt s x) (x := x.at_) hat (rg_spOk hr)
  rw [wdL_length, ← hln, sc_fold hf ha x.an.length (Nat.le_refl _)] at hb
  simp only at hb
  have hL : pyL s.ps x.use x.an x.an.length = scL s x := rfl
  rw [hL] at hb
  obtain ⟨b1, b2, b3, b4, b5, b6⟩ := hb
  have hlen : (scL s x).length + cntTo (isLost x.an) x.an.length = x.an.length := pyL_length s.ps x.use x.an x.an.length
  obtain ⟨e0, e1, e2⟩ := at_ok (lo := cbLo (scL s x) s.f) (hi := cbHi (scL s x) s.f) ⟨b5, by omega, b6⟩ he1
  have hE : pyEr s x = 0 := by
    unfold pyEr
    rw [if_pos hf, al_sn a2, if_neg (by simp), if_neg (by omega), if_pos b1, e0]
  have hLo : pyLo s x = mn (cbLo (scL s x) s.f + elLo s.r x.ct) 3000000000000000 := by unfold pyLo; rw [if_pos hE, e1]
  have hHi : pyHi s x = mn (cbHi (scL s x) s.f + elHi s.r x.ct) 3000000000000000 := by unfold pyHi; rw [if_pos hE, e2]
  have hw : wdt s x.use x.ev = worst (wdL s.ps x.use) s.f s.lo + grw s.r (x.ev + s.tm) := by unfold wdt; rw [if_pos hr]
  have hgm := grw_mono he1 he2 (Int.le_refl _) hct.2
  have hgw : grw s.r x.ct = elHi s.r x.ct - elLo s.r x.ct := rfl
  have hel := el_bd he1
  have m1 := mn_spec (cbLo (scL s x) s.f + elLo s.r x.ct) 3000000000000000
  have m2 := mn_spec (cbHi (scL s x) s.f + elHi s.r x.ct) 3000000000000000
  refine ⟨hE, ?_, ?_, by unfold wdEr; rw [if_pos hr], by unfold elEr; rw [if_pos he1], ⟨hel.1, by omega, hel.2.2.2⟩, fun d d1 d2 => ?_⟩
  · rw [hLo, hHi, hw]; omega
  · rw [hLo, hHi]; omega
  · have m3 := mn_spec (x.at_ + elLo s.r x.ct + d) 3000000000000000
    rw [hLo, hHi]
    omega
theorem elLo_mono {r c d : Int} (h1 : elOk r c = true) (h2 : elOk r d = true) (hcd : c ≤ d) : elLo r c ≤ elLo r d := by
  have hi := (elOk_iff r c).1 h1
  unfold elLo
  rw [if_pos h1, if_pos h2]
  have hd : (0 : Int) < 1000000000 + r := by omega
  have := le_flo (n := (d - 1) * 1000000000) hd (q := (c - 1) * 1000000000 / (1000000000 + r)) (by
    have := (flo_spec (n := (c - 1) * 1000000000) hd).1
    omega)
  omega
theorem elHi_mono {r c d : Int} (h1 : elOk r c = true) (h2 : elOk r d = true) (hcd : c ≤ d) : elHi r c ≤ elHi r d := by
  have hi := (elOk_iff r c).1 h1
  unfold elHi
  rw [if_pos h1, if_pos h2]
  have hd : (0 : Int) < 1000000000 - r := by omega
  have := cei_le (n := (c + 1) * 1000000000) hd (q := cei ((d + 1) * 1000000000) (1000000000 - r)) (by
    have := (cei_spec (n := (d + 1) * 1000000000) hd).2
    omega)
  omega
theorem sc_counts {s : Si} {use : List Int} {ev at_ : Int} {an : List An} {ct c2 : Int} (hf : fitB s ⟨use, ev, at_, an, ct⟩ = true) (h0 : 0 ≤ c2) (h1 : c2 ≤ ct) :
    fitB s ⟨use, ev, at_, an, c2⟩ = true ∧ alB s ⟨use, ev, at_, an, c2⟩ = alB s ⟨use, ev, at_, an, ct⟩ ∧ pyEr s ⟨use, ev, at_, an, c2⟩ = pyEr s ⟨use, ev, at_, an, ct⟩ ∧
    (pyEr s ⟨use, ev, at_, an, ct⟩ = 0 → pyLo s ⟨use, ev, at_, an, c2⟩ ≤ pyLo s ⟨use, ev, at_, an, ct⟩ ∧ pyHi s ⟨use, ev, at_, an, c2⟩ ≤ pyHi s ⟨use, ev, at_, an, ct⟩ ∧
      (pyHi s ⟨use, ev, at_, an, ct⟩ = 3000000000000000 ∨ pyHi s ⟨use, ev, at_, an, c2⟩ - pyLo s ⟨use, ev, at_, an, c2⟩ ≤ pyHi s ⟨use, ev, at_, an, ct⟩ - pyLo s ⟨use, ev, at_, an, ct⟩) ∧
      (0 ≤ pyLo s ⟨use, ev, at_, an, c2⟩ ∧ pyLo s ⟨use, ev, at_, an, c2⟩ ≤ pyHi s ⟨use, ev, at_, an, c2⟩) ∧ (0 ≤ pyLo s ⟨use, ev, at_, an, ct⟩ ∧ pyLo s ⟨use, ev, at_, an, ct⟩ ≤ pyHi s ⟨use, ev, at_, an, ct⟩ ∧ pyHi s ⟨use, ev, at_, an, ct⟩ ≤ 3000000000000000)) := by
  obtain ⟨hr, hat, hct, hln, hfit⟩ := (fitB_iff s _).1 hf
  simp only at hr hat hct hln hfit
  have hf2 : fitB s ⟨use, ev, at_, an, c2⟩ = true := (fitB_iff s _).2 ⟨hr, hat, by simp only; omega, hln, hfit⟩
  have he1 := (elOk_ct hf).1
  have he2 := (elOk_ct hf2).1
  simp only at he1 he2
  refine ⟨hf2, rfl, ?_, fun hE => ?_⟩
  · have hL : scL s ⟨use, ev, at_, an, c2⟩ = scL s ⟨use, ev, at_, an, ct⟩ := rfl
    unfold pyEr
    rw [if_pos hf, if_pos hf2, hL]
    simp only
    split
    · rfl
    · split
      · rfl
      · split
        · rename_i hcb
          obtain ⟨hset, hz⟩ := cbEr_zero hcb
          have hval0 := (setL_spec hset).1.at 0 hz
          have hval1 := (setL_spec hset).1.at ((setL (scL s ⟨use, ev, at_, an, ct⟩) s.f).length - 1) (by omega)
          have hen := (setL_spec hset).1.ends ((setL_spec hset).1.ends_mem hz).1
          have hv : 0 ≤ cbLo (scL s ⟨use, ev, at_, an, ct⟩) s.f ∧ cbLo (scL s ⟨use, ev, at_, an, ct⟩) s.f ≤ cbHi (scL s ⟨use, ev, at_, an, ct⟩) s.f ∧ cbHi (scL s ⟨use, ev, at_, an, ct⟩) s.f ≤ 3000000000000000 := ⟨hval0.1, hen.2, hval1.2.2⟩
          rw [(at_ok hv he1).1, (at_ok hv he2).1]
        · rfl
  · have hE' := hE
    unfold pyEr at hE'
    rw [if_pos hf] at hE'
    split at hE'
    · omega
    · rename_i c1
      split at hE'
      · omega
      · rename_i c2'
        split at hE'
        · rename_i hcb
          obtain ⟨hset, hz⟩ := cbEr_zero hcb
          have hval0 := (setL_spec hset).1.at 0 hz
          have hval1 := (setL_spec hset).1.at ((setL (scL s ⟨use, ev, at_, an, ct⟩) s.f).length - 1) (by omega)
          have hen := (setL_spec hset).1.ends ((setL_spec hset).1.ends_mem hz).1
          have hv : 0 ≤ cbLo (scL s ⟨use, ev, at_, an, ct⟩) s.f ∧ cbLo (scL s ⟨use, ev, at_, an, ct⟩) s.f ≤ cbHi (scL s ⟨use, ev, at_, an, ct⟩) s.f ∧ cbHi (scL s ⟨use, ev, at_, an, ct⟩) s.f ≤ 3000000000000000 := ⟨hval0.1, hen.2, hval1.2.2⟩
          obtain ⟨p0, p1, p2⟩ := at_ok hv he1
          obtain ⟨q0, q1, q2⟩ := at_ok hv he2
          have hE2 : pyEr s ⟨use, ev, at_, an, c2⟩ = 0 := by
            have hL : scL s ⟨use, ev, at_, an, c2⟩ = scL s ⟨use, ev, at_, an, ct⟩ := rfl
            unfold pyEr
            rw [if_pos hf2, if_neg c1, hL, if_neg c2', if_pos hcb, q0]
          have L1 : pyLo s ⟨use, ev, at_, an, ct⟩ = mn (cbLo (scL s ⟨use, ev, at_, an, ct⟩) s.f + elLo s.r ct) 3000000000000000 := by unfold pyLo; rw [if_pos hE]; exact p1
          have H1 : pyHi s ⟨use, ev, at_, an, ct⟩ = mn (cbHi (scL s ⟨use, ev, at_, an, ct⟩) s.f + elHi s.r ct) 3000000000000000 := by unfold pyHi; rw [if_pos hE]; exact p2
          have L2 : pyLo s ⟨use, ev, at_, an, c2⟩ = mn (cbLo (scL s ⟨use, ev, at_, an, ct⟩) s.f + elLo s.r c2) 3000000000000000 := by unfold pyLo; rw [if_pos hE2]; exact q1
          have H2 : pyHi s ⟨use, ev, at_, an, c2⟩ = mn (cbHi (scL s ⟨use, ev, at_, an, ct⟩) s.f + elHi s.r c2) 3000000000000000 := by unfold pyHi; rw [if_pos hE2]; exact q2
          rw [L1, H1, L2, H2]
          have g1 := elLo_mono he2 he1 h1
          have g2 := elHi_mono he2 he1 h1
          have g3 := grw_mono he2 he1 (Int.le_refl _) h1
          have g4 : grw s.r c2 = elHi s.r c2 - elLo s.r c2 := rfl
          have g5 : grw s.r ct = elHi s.r ct - elLo s.r ct := rfl
          have g6 := el_bd he1
          have g7 := el_bd he2
          have m1 := mn_spec (cbLo (scL s ⟨use, ev, at_, an, ct⟩) s.f + elLo s.r ct) 3000000000000000
          have m2 := mn_spec (cbHi (scL s ⟨use, ev, at_, an, ct⟩) s.f + elHi s.r ct) 3000000000000000
          have m3 := mn_spec (cbLo (scL s ⟨use, ev, at_, an, ct⟩) s.f + elLo s.r c2) 3000000000000000
          have m4 := mn_spec (cbHi (scL s ⟨use, ev, at_, an, ct⟩) s.f + elHi s.r c2) 3000000000000000
          omega
        · rename_i hcb; exact absurd hE' hcb
end Go.Proofs.YtigjljmhpkeahaaGreat
