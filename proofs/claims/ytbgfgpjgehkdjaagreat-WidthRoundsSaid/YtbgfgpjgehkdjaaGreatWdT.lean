/- Plain: a round of requests: lost replies, peers that state what they want, honest peers; what is combined has the time of sending and is not wider than the width. -/
import Derived.Test.YtbgfgpjgehkdjaaGreatSpV
import Derived.Test.YtbgfgpjgehkdjaaGreatWdN
import Derived.Test.YtbgfgpjgehkdjaaGreatWdO
namespace Go.Proofs.YtbgfgpjgehkdjaaGreat
open Go.RowKit

structure A3 where
  a : Int
  b : Int
  c : Int
def a30 : A3 := ⟨0, 0, 0⟩
def aAt (l : List A3) (i : Nat) : A3 := l.getD i a30
theorem aAt_lt (l : List A3) (i : Nat) (h : i < l.length) : aAt l i = l[i] := by simp [aAt, List.getD_eq_getElem?_getD, List.getElem?_eq_getElem h]
def A3Wf (x : A3) : Prop := (0 ≤ x.a ∧ x.a ≤ 4294967295) ∧ (0 ≤ x.b ∧ x.b ≤ 4294967295) ∧ (0 ≤ x.c ∧ x.c ≤ 4294967295)

/-- The i-th peer in use. -/
def pU (ps : List Pr) (use : List Int) (i : Nat) : Pr := pAt ps (iAt use i).toNat
/-- What the i-th peer in use says, if it is honest. -/
def hdI (ps : List Pr) (use : List Int) (xs : List A3) (t : Int) (i : Nat) : Iv := (hdLo (pU ps use i) t (aAt xs i).a (aAt xs i).b, hdHi (pU ps use i) t (aAt xs i).a (aAt xs i).b (aAt xs i).c)
def rdS (ps : List Pr) (use : List Int) (xs : List A3) (lies : List Iv) (gn bd : Nat → Bool) (f lost t : Int) : Nat → Bd
  | 0 => ⟨[], 0, 0⟩
  | i + 1 =>
    if (gn i && decide ((rdS ps use xs lies gn bd f lost t i).gone < lost)) = true then ⟨(rdS ps use xs lies gn bd f lost t i).list, (rdS ps use xs lies gn bd f lost t i).gone + 1, (rdS ps use xs lies gn bd f lost t i).wrong⟩
    else if ((bd i && decide ((rdS ps use xs lies gn bd f lost t i).wrong < f)) && validB (iLo lies i) (iHi lies i)) = true then ⟨(rdS ps use xs lies gn bd f lost t i).list ++ [(iLo lies i, iHi lies i)], (rdS ps use xs lies gn bd f lost t i).gone, (rdS ps use xs lies gn bd f lost t i).wrong + 1⟩
    else ⟨(rdS ps use xs lies gn bd f lost t i).list ++ [hdI ps use xs t i], (rdS ps use xs lies gn bd f lost t i).gone, (rdS ps use xs lies gn bd f lost t i).wrong⟩
theorem rdS_len (ps : List Pr) (use : List Int) (xs : List A3) (lies : List Iv) (gn bd : Nat → Bool) (f lost t : Int) : ∀ i, (rdS ps use xs lies gn bd f lost t i).list.length ≤ i
  | 0 => by simp [rdS]
  | i + 1 => by
    have ih := rdS_len ps use xs lies gn bd f lost t i
    rw [rdS]
    split
    · simp only; omega
    · split <;> (simp only [List.length_append, List.length_cons, List.length_nil]; omega)
theorem rdS_bd (ps : List Pr) (use : List Int) (xs : List A3) (lies : List Iv) (gn bd : Nat → Bool) (f lost t : Int) : ∀ i : Nat, (0 ≤ (rdS ps use xs lies gn bd f lost t i).gone ∧ (rdS ps use xs lies gn bd f lost t i).gone ≤ i) ∧ 0 ≤ (rdS ps use xs lies gn bd f lost t i).wrong ∧ (rdS ps use xs lies gn bd f lost t i).wrong ≤ i
  | 0 => by simp [rdS]
  | i + 1 => by
    have ih := rdS_bd ps use xs lies gn bd f lost t i
    rw [rdS]
    split
    · simp only; omega
    · split <;> (simp only; omega)
def rdP (ps : List Pr) (use : List Int) (xs : List A3) (lies : List Iv) (gn bd : Nat → Bool) (f lost t : Int) (i : Nat) : Pt :=
  ⟨t - (hdI ps use xs t i).1, pWd (pU ps use i) - (t - (hdI ps use xs t i).1) - ((hdI ps use xs t i).2 - t),
   if (gn i && decide ((rdS ps use xs lies gn bd f lost t i).gone < lost)) = true then 1 else if ((bd i && decide ((rdS ps use xs lies gn bd f lost t i).wrong < f)) && validB (iLo lies i) (iHi lies i)) = true then 2 else 0,
   iLo lies i, iHi lies i⟩
theorem rdS_eq {r tm ev f lost : Int} {ps : List Pr} {use : List Int} (h : rgB ⟨r, f, lost, tm, ps⟩ use ev = true) (xs : List A3) (lies : List Iv) (gn bd : Nat → Bool) (t : Int) (ht : 0 ≤ t ∧ t ≤ 2999999991000000) :
    ∀ i, i ≤ use.length → rdS ps use xs lies gn bd f lost t i = bdS (wdL ps use) (rdP ps use xs lies gn bd f lost t) f lost t i
  | 0, _ => rfl
  | i + 1, hi => by
    have hrg := (rgB_iff _ _ _).1 h
    obtain ⟨h6, h7, h8⟩ := (siB_iff _).1 hrg.1
    have hin := hrg.2.2.1 i (by omega)
    simp only at hin h7
    have hpr := h7 (iAt use i).toNat (by omega)
    have ih := rdS_eq h xs lies gn bd t ht i (by omega)
    have hl := hd_law hpr t (aAt xs i).a (aAt xs i).b (aAt xs i).c ht
    have hw := wdL_at ps use i (by omega)
    rw [rdS, bdS, ← ih]
    have e1 : ptGone (rdP ps use xs lies gn bd f lost t i) (rdS ps use xs lies gn bd f lost t i).gone lost = (gn i && decide ((rdS ps use xs lies gn bd f lost t i).gone < lost)) := by
      unfold ptGone rdP
      simp only
      generalize decide ((rdS ps use xs lies gn bd f lost t i).gone < lost) = q
      generalize ((bd i && _) && _) = z
      cases gn i <;> cases q <;> cases z <;> rfl
    rw [e1]
    by_cases c1 : (gn i && decide ((rdS ps use xs lies gn bd f lost t i).gone < lost)) = true
    · rw [if_pos c1, if_pos c1]
    · rw [if_neg c1, if_neg c1]
      have e2 : ptLie (rdP ps use xs lies gn bd f lost t i) (rdS ps use xs lies gn bd f lost t i).wrong f = ((bd i && decide ((rdS ps use xs lies gn bd f lost t i).wrong < f)) && validB (iLo lies i) (iHi lies i)) := by
        unfold ptLie rdP
        simp only
        rw [if_neg c1]
        have ev : validB (iLo lies i) (iHi lies i) = (decide (0 ≤ iLo lies i) && decide (iLo lies i ≤ iHi lies i) && decide (iHi lies i ≤ 3000000000000000)) := by
          rw [Bool.eq_iff_iff, validB_iff]; simp only [Bool.and_eq_true, decide_eq_true_eq, and_assoc]
        rw [ev]
        generalize decide ((rdS ps use xs lies gn bd f lost t i).wrong < f) = q
        generalize decide (0 ≤ iLo lies i) = a1
        generalize decide (iLo lies i ≤ iHi lies i) = a2
        generalize decide (iHi lies i ≤ 3000000000000000) = a3
        cases bd i <;> cases q <;> cases a1 <;> cases a2 <;> cases a3 <;> rfl
      rw [e2]
      by_cases c2 : ((bd i && decide ((rdS ps use xs lies gn bd f lost t i).wrong < f)) && validB (iLo lies i) (iHi lies i)) = true
      · rw [if_pos c2, if_pos c2]; rfl
      · rw [if_neg c2, if_neg c2]
        have e3 : ptI (iAt (wdL ps use) i) t (rdP ps use xs lies gn bd f lost t i) = hdI ps use xs t i := by
          rw [hw]
          have q1 : (hdI ps use xs t i).1 = hdLo (pU ps use i) t (aAt xs i).a (aAt xs i).b := rfl
          have q2 : (hdI ps use xs t i).2 = hdHi (pU ps use i) t (aAt xs i).a (aAt xs i).b (aAt xs i).c := rfl
          have q3 : (hdI ps use xs t i) = ((hdI ps use xs t i).1, (hdI ps use xs t i).2) := rfl
          rw [show pAt ps (iAt use i).toNat = pU ps use i from rfl] at hl ⊢
          rw [← q1, ← q2] at hl
          unfold ptI ptR ptL rdP
          simp only
          rw [q3]
          generalize (hdI ps use xs t i).1 = L at *
          generalize (hdI ps use xs t i).2 = G at *
          generalize pWd (pU ps use i) = w at *
          have m1 : (t - L) % (w + 1) = t - L := Int.emod_eq_of_lt (by omega) (by omega)
          rw [m1]
          have m2 : (w - (t - L) - (G - t)) % (w - (t - L) + 1) = w - (t - L) - (G - t) := Int.emod_eq_of_lt (by omega) (by omega)
          rw [m2]
          have m3 := mx_spec 0 (t - (t - L))
          have m4 := mn_spec 3000000000000000 (t + (w - (t - L) - (w - (t - L) - (G - t))))
          simp only [Prod.mk.injEq]
          omega
        rw [e3]
/-- All of what the statement asks. -/
theorem rd_law {r tm ev f lost : Int} {ps : List Pr} {use : List Int} (h : rgB ⟨r, f, lost, tm, ps⟩ use ev = true) (xs : List A3) (lies : List Iv) (gn bd : Nat → Bool) (t : Int) (ht : 0 ≤ t ∧ t < 1500000000000000) :
    let l := (rdS ps use xs lies gn bd f lost t use.length).list
    let w := wdt ⟨r, f, lost, tm, ps⟩ use ev
    cbEr l f = 0 ∧ hasB (cbLo l f) (cbHi l f) t = true ∧ wdEr ⟨r, f, lost, tm, ps⟩ use ev = 0 ∧ elEr r (ev + tm) = 0 ∧ (0 ≤ elLo r (ev + tm) ∧ elLo r (ev + tm) ≤ elHi r (ev + tm) ∧ elHi r (ev + tm) ≤ 1002000000000010) ∧
      atEr 0 (cbLo l f) (cbHi l f) r (ev + tm) = 0 ∧ atHi 0 (cbLo l f) (cbHi l f) r (ev + tm) - atLo 0 (cbLo l f) (cbHi l f) r (ev + tm) ≤ w ∧ cbHi l f - cbLo l f ≤ w ∧
      (0 ≤ cbLo l f ∧ cbHi l f ≤ 3000000000000000) ∧ (0 ≤ atLo 0 (cbLo l f) (cbHi l f) r (ev + tm) ∧ atHi 0 (cbLo l f) (cbHi l f) r (ev + tm) ≤ 3000000000000000) ∧
      ∀ d : Int, 0 ≤ d ∧ d ≤ elHi r (ev + tm) - elLo r (ev + tm) → hasB (atLo 0 (cbLo l f) (cbHi l f) r (ev + tm)) (atHi 0 (cbLo l f) (cbHi l f) r (ev + tm)) (mn (t + elLo r (ev + tm) + d) 3000000000000000) = true := by
  intro l w
  have hsp := rg_spOk h
  have hel := rg_elOk h
  simp only at hsp hel
  have hb := bd_bound (P := rdP ps use xs lies gn bd f lost t) (x := t) (by omega) hsp
  rw [wdL_length, ← rdS_eq h xs lies gn bd t (by omega) use.length (Nat.le_refl _)] at hb
  have hL : (rdS ps use xs lies gn bd f lost t use.length).list = l := rfl
  rw [hL] at hb
  obtain ⟨b1, b2, b3, b4, b5, b6⟩ := hb
  have he := el_bd hel
  have hrg := (rgB_iff _ _ _).1 h
  obtain ⟨h6, -, -⟩ := (siB_iff _).1 hrg.1
  have hsi := (siN_iff _).1 h6
  have hev := hrg.2.1
  simp only at hsi hev
  have hw : w = worst (wdL ps use) f lost + grw r (ev + tm) := by show wdt _ _ _ = _; unfold wdt; rw [if_pos h]
  have hg := grw_bd hel
  have hgw : grw r (ev + tm) = elHi r (ev + tm) - elLo r (ev + tm) := rfl
  have hE : wdEr ⟨r, f, lost, tm, ps⟩ use ev = 0 := by unfold wdEr; rw [if_pos h]
  have hel0 : elEr r (ev + tm) = 0 := by unfold elEr; rw [if_pos hel]
  have hat : atEr 0 (cbLo l f) (cbHi l f) r (ev + tm) = 0 := by
    unfold atEr
    rw [if_pos, if_neg (by omega), show ev + tm - 0 = ev + tm by omega, if_pos hel]
    unfold atOk beB
    rw [show timeB 0 = true by decide, (timeB_iff (ev + tm)).2 (by omega), (validB_iff _ _).2 (by omega), show inB r 0 1000000 = true by unfold inB; exact decide_eq_true (by omega)]
    rfl
  have hlo : atLo 0 (cbLo l f) (cbHi l f) r (ev + tm) = mn (cbLo l f + elLo r (ev + tm)) 3000000000000000 := by unfold atLo; rw [if_pos hat, show ev + tm - 0 = ev + tm by omega]
  have hhi : atHi 0 (cbLo l f) (cbHi l f) r (ev + tm) = mn (cbHi l f + elHi r (ev + tm)) 3000000000000000 := by unfold atHi; rw [if_pos hat, show ev + tm - 0 = ev + tm by omega]
  rw [hat, hlo, hhi, hw, hE, hel0, hgw]
  rw [hgw] at hg
  have m1 := mn_spec (cbLo l f + elLo r (ev + tm)) 3000000000000000
  have m2 := mn_spec (cbHi l f + elHi r (ev + tm)) 3000000000000000
  refine ⟨b1, ?_, rfl, rfl, by omega, rfl, by omega, by omega, by omega, by omega, fun d hd => ?_⟩
  · unfold hasB; exact decide_eq_true ⟨b2, b3⟩
  · have m3 := mn_spec (t + elLo r (ev + tm) + d) 3000000000000000
    unfold hasB; exact decide_eq_true (by omega)
end Go.Proofs.YtbgfgpjgehkdjaaGreat
