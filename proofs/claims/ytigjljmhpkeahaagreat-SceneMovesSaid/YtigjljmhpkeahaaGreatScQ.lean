
/- Plain laws of package scene: the worst scene may happen and is as wide as the schedule. -/
import Derived.Test.YtigjljmhpkeahaaGreatScP
namespace Go.Proofs.YtigjljmhpkeahaaGreat
open Go.RowKit

theorem rg_pr {s : Si} {use : List Int} {ev : Int} (h : rgB s use ev = true) {i : Nat} (hi : i < use.length) : prB s.r s.tm (pu s.ps use i) = true := by
 have hrg := (rgB_iff _ _ _).1 h
 have h7 := ((siB_iff _).1 hrg.1).2.1
 have hin := hrg.2.2.1 i hi
 exact h7 _ (by omega)
theorem place_in {l : List Int} {f lost x : Int} (h : placeEr l f lost x = 0) (i : Nat) (hi : i < l.length) (hr : (i : Int) ∉ goneL l f lost) :
  0 ≤ (ivAt (placeL l f lost x) i).1 ∧ (ivAt (placeL l f lost x) i).1 ≤ x ∧ x ≤ (ivAt (placeL l f lost x) i).2 ∧ (ivAt (placeL l f lost x) i).2 ≤ 3000000000000000 ∧ iAt l i ≤ (ivAt (placeL l f lost x) i).2 - (ivAt (placeL l f lost x) i).1 := by
 obtain ⟨hok, hx, hA1, hA2, hL⟩ := place_ok h
 have hm := sp_mk hok
 have hsp := (spOk_iff l f lost).1 hok
 have hat := lie_at (l := l) (m := spM l f lost) (k := spK l f lost) (x := x) f.toNat (by omega)
 have hwd := srt_bd l hsp.1.2
 have hAll := plAll_bd hwd (spM l f lost) (spK l f lost) x hm.2.2.1 hm.2.2.2.1 (spM l f lost)
 by_cases hr0 : roleP (pickL l f lost) (goneL l f lost) i = 0
 ·have hR := att_right h i hi hr0
  obtain ⟨s, hs, rfl⟩ := ordL_surj l hi
  rw [role_at hok s hs] at hr0
  have h1 : s < spM l f lost := by
   apply Classical.byContradiction
   intro hn
   rw [if_neg hn] at hr0
   split at hr0 <;> omega
  have e : ivAt (placeL l f lost x) (nAt (ordL l) s) = plP l (spM l f lost) (spK l f lost) x s := by rw [hL]; exact hat.1 s h1
  have hin := plAll_in l (spM l f lost) (spK l f lost) x (spM l f lost) s h1
  rw [e] at hR ⊢
  omega
 ·obtain ⟨s, hs, rfl⟩ := ordL_surj l hi
  have hr2 := role_at hok s hs
  have h2 : roleP (pickL l f lost) (goneL l f lost) (nAt (ordL l) s : Int) ≠ 2 := by
   unfold roleP
   rw [if_neg hr]
   split <;> omega
  have h1 : spM l f lost ≤ s ∧ s < spM l f lost + f.toNat := by
   rw [hr2] at hr0 h2
   revert hr0 h2
   split
   ·intro h; exact absurd rfl h
   ·split
    ·intro _ _; omega
    ·intro _ h; exact absurd rfl h
  have e : ivAt (placeL l f lost x) (nAt (ordL l) s) = plAll l (spM l f lost) (spK l f lost) x (spM l f lost) := by
   rw [hL]
   have := hat.2 (s - spM l f lost) (by omega)
   rwa [show spM l f lost + (s - spM l f lost) = s by omega] at this
  have hin := plAll_in l (spM l f lost) (spK l f lost) x (spM l f lost) 0 (by omega)
  have hfall := srt_fall l (i := 0) (j := s) (by omega) hs
  rw [srt_at l s hs] at hfall
  rw [e]
  unfold plP at hin
  simp only at hin
  omega
theorem snEr_iff (ol oh bl bh a b : Int) : snEr ol oh bl bh a b = 0 ↔ ((0 ≤ ol ∧ ol ≤ oh ∧ oh ≤ 1000000) ∧ 0 ≤ bl ∧ bl ≤ bh ∧ bh ≤ 1000000) ∧ (0 ≤ a ∧ a ≤ b ∧ b ≤ 3000000000000000) ∧ ol ≤ b := by
 unfold snEr
 cases h : snOk ol oh bl bh a b with
 | true =>
  have h' := h
  simp only [snOk, Bool.and_eq_true, lkB_iff, validB_iff] at h'
  rw [if_pos rfl]
  split
  ·constructor
   ·intro hc; omega
   ·intro hc; omega
  ·constructor
   ·intro _; exact ⟨h'.1, h'.2, by omega⟩
   ·intro _; rfl
 | false =>
  rw [if_neg (by simp)]
  constructor
  ·intro hc; omega
  ·rintro ⟨h1, h2, -⟩
   have : snOk ol oh bl bh a b = true := by simp only [snOk, Bool.and_eq_true, lkB_iff, validB_iff]; exact ⟨h1, h2⟩
   rw [h] at this; cases this
theorem ws_ok {s : Si} {use : List Int} {ev t : Int} (h : wsEr s use ev t = 0) : rgB s use ev = true ∧ (0 ≤ t ∧ t ≤ 3000000000000000) ∧ placeEr (wdL s.ps use) s.f s.lo t = 0 ∧ lateB (wsL s use t) use.length = false := by
 unfold wsEr at h
 split at h
 ·rename_i h1
  split at h
  ·rename_i h2
   exact ⟨h1.1, (timeB_iff t).1 h1.2, h2.1, h2.2⟩
  ·omega
 ·omega
def wsI (s : Si) (use : List Int) (t : Int) (i : Nat) : Iv := ivAt (placeL (wdL s.ps use) s.f s.lo t) i
theorem ws_at {s : Si} {use : List Int} {ev t : Int} (h : wsEr s use ev t = 0) {i : Nat} (hi : i < use.length) :
  ((i : Int) ∈ goneL (wdL s.ps use) s.f s.lo ∧ anAt (wsL s use t) i = ⟨(pu s.ps use i).au, true, 0, 0, 0, 0⟩) ∨
  ((i : Int) ∉ goneL (wdL s.ps use) s.f s.lo ∧ ∃ ou, anAt (wsL s use t) i = ⟨(pu s.ps use i).au, false, ou, (pu s.ps use i).bl, (wsI s use t i).1 + (pu s.ps use i).oh, (wsI s use t i).2 + (pu s.ps use i).ol⟩ ∧
   ((pu s.ps use i).ol ≤ ou ∧ ou ≤ (pu s.ps use i).oh) ∧ (0 ≤ (wsI s use t i).1 ∧ (wsI s use t i).1 ≤ t ∧ t ≤ (wsI s use t i).2 ∧ (wsI s use t i).2 + (pu s.ps use i).ol ≤ 3000000000000000 ∧ pWd (pu s.ps use i) ≤ (wsI s use t i).2 - (wsI s use t i).1) ∧
   ((i : Int) ∉ pickL (wdL s.ps use) s.f s.lo → (wsI s use t i).1 + (pu s.ps use i).oh ≤ t + ou ∧ t + ou ≤ (wsI s use t i).2 + (pu s.ps use i).ol ∧ (wsI s use t i).2 - (wsI s use t i).1 = pWd (pu s.ps use i))) := by
 obtain ⟨hr, ht, hp, hl⟩ := ws_ok h
 have hwl := wdL_length s.ps use
 have hpr := (prB_iff _ _ _).1 (rg_pr hr hi)
 have hat : anAt (wsL s use t) i = wsG s.ps use (pickL (wdL s.ps use) s.f s.lo) (goneL (wdL s.ps use) s.f s.lo) (placeL (wdL s.ps use) s.f s.lo t) t i := wsT_at _ _ _ _ _ _ _ _ hi
 by_cases hg : (i : Int) ∈ goneL (wdL s.ps use) s.f s.lo
 ·refine .inl ⟨hg, ?_⟩
  rw [hat]; unfold wsG; rw [if_pos hg]
 ·refine .inr ⟨hg, ?_⟩
  unfold wsG at hat
  rw [if_neg hg] at hat
  have hI := place_in hp i (by omega) hg
  rw [wdL_at s.ps use i hi] at hI
  have hlate : ¬ 3000000000000000 < (anAt (wsL s use t) i).hi := fun hc => by
   have := (lateB_iff (wsL s use t) use.length).2 ⟨i, hi, hc⟩
   rw [hl] at this; cases this
  rw [hat] at hlate
  simp only at hlate
  refine ⟨_, hat, ?_, ⟨hI.1, hI.2.1, hI.2.2.1, by unfold wsI; omega, hI.2.2.2.2⟩, fun hb => ?_⟩
  ·have := mx_spec (pu s.ps use i).ol ((ivAt (placeL (wdL s.ps use) s.f s.lo t) i).1 + (pu s.ps use i).oh - t)
   split <;> omega
  ·rw [if_neg hb]
   have hR := att_right hp i (by omega) (by unfold roleP; rw [if_neg hg, if_neg hb])
   rw [wdL_at s.ps use i hi] at hR
   have hw : pWd (pu s.ps use i) = 2 * (pu s.ps use i).er + (pu s.ps use i).oh - (pu s.ps use i).ol := rfl
   have := mx_spec (pu s.ps use i).ol ((ivAt (placeL (wdL s.ps use) s.f s.lo t) i).1 + (pu s.ps use i).oh - t)
   rw [show pAt s.ps (iAt use i).toNat = pu s.ps use i from rfl] at hR hI
   unfold wsI
   refine ⟨by omega, by omega, hR.2.2⟩
theorem wsL_length (s : Si) (use : List Int) (t : Int) : (wsL s use t).length = use.length := wsT_length _ _ _ _ _ _ _
theorem wsS_eq {s : Si} {use : List Int} {ev t : Int} (h : wsEr s use ev t = 0) : wsS s use ev t = ⟨use, ev, t, wsL s use t, ev + s.tm⟩ := by unfold wsS; rw [if_pos h]
theorem pick_count {l : List Int} {f lost : Int} (h : spOk l f lost = true) : cntTo (fun i => decide ((i : Int) ∈ pickL l f lost)) l.length = f.toNat ∧ (cntTo (fun i => decide ((i : Int) ∈ goneL l f lost)) l.length : Int) = lost := by
 have hm := sp_mk h
 have hi := (spOk_iff l f lost).1 h
 have key : ∀ p, p < l.length → ((nAt (ordL l) p : Int) ∈ goneL l f lost ↔ spM l f lost + f.toNat ≤ p) ∧ ((nAt (ordL l) p : Int) ∈ pickL l f lost ↔ spM l f lost ≤ p ∧ p < spM l f lost + f.toNat) := by
  intro p hp
  rw [goneL_mem h, pickL_mem h]
  refine ⟨⟨?_, fun hq => ⟨p, hq, hp, rfl⟩⟩, ⟨?_, fun hq => ⟨p, hq.1, hq.2, rfl⟩⟩⟩
  ·rintro ⟨q, a1, a2, e⟩
   have := ordL_inj l (p := p) (q := q) hp a2 (by omega); omega
  ·rintro ⟨q, a1, a2, e⟩
   have := ordL_inj l (p := p) (q := q) hp (by omega) (by omega); omega
 constructor
 ·rw [att_split h _ (fun _ => false) true (fun p hp => ?_) (fun p h1 h2 => ?_) (fun p h1 h2 => ?_), cnt_no (fun _ => false) (Nat.zero_le _) (fun _ _ _ => rfl)]
  ·simp [cntTo]
  ·exact decide_eq_false fun hc => by have := ((key p (by omega)).2).1 hc; omega
  ·exact decide_eq_true (((key p (by omega)).2).2 ⟨h1, h2⟩)
  ·exact decide_eq_false fun hc => by have := ((key p h2).2).1 hc; omega
 ·have hn := cnt_not (fun i => decide ((i : Int) ∈ goneL l f lost)) l.length
  have h2 : cntTo (fun i => !decide ((i : Int) ∈ goneL l f lost)) l.length = spM l f lost + f.toNat := by
   rw [att_split h _ (fun _ => true) true (fun p hp => ?_) (fun p h1 h2 => ?_) (fun p h1 h2 => ?_), cnt_yes (fun _ => true) (Nat.zero_le _) (fun _ _ _ => rfl)]
   ·simp [cntTo]
   ·rw [Bool.not_eq_true']; exact decide_eq_false fun hc => by have := ((key p (by omega)).1).1 hc; omega
   ·rw [Bool.not_eq_true']; exact decide_eq_false fun hc => by have := ((key p (by omega)).1).1 hc; omega
   ·rw [Bool.not_eq_false']; exact decide_eq_true (((key p h2).1).2 h1)
  omega
theorem ws_allowed {s : Si} {use : List Int} {ev t : Int} (h : wsEr s use ev t = 0) : fitB s (wsS s use ev t) = true ∧ alB s (wsS s use ev t) = true := by
 obtain ⟨hr, ht, hp, hl⟩ := ws_ok h
 have hwl := wdL_length s.ps use
 have hrg := (rgB_iff _ _ _).1 hr
 have hsi := (siN_iff _).1 ((siB_iff _).1 hrg.1).1
 have hsp := rg_spOk hr
 have hlen := wsL_length s use t
 rw [wsS_eq h]
 refine ⟨(fitB_iff _ _).2 ⟨hr, ht, ⟨by simp only; omega, Int.le_refl _⟩, hlen, fun j hj => ?_⟩, ?_⟩
 ·simp only at hj ⊢
  rw [hlen] at hj
  have hpr := (prB_iff _ _ _).1 (rg_pr hr hj)
  rcases ws_at h hj with ⟨-, e⟩ | ⟨-, ou, e, ho, hI, -⟩
  ·rw [e]; simp [anFit]
  ·rw [e]
   have hw : pWd (pu s.ps use j) = 2 * (pu s.ps use j).er + (pu s.ps use j).oh - (pu s.ps use j).ol := rfl
   exact (anFit_no rfl).2 ⟨rfl, by simp only; omega, by simp only; omega, by simp only; omega⟩
 ·unfold alB
  simp only
  rw [hlen]
  obtain ⟨k1, k2⟩ := pick_count hsp
  rw [hwl] at k1 k2
  have hbent : cntTo (isBent s.ps use (wsL s use t)) use.length = 0 := by
   refine cnt_no _ (Nat.zero_le _) fun j _ hj => ?_
   have hpr := (prB_iff _ _ _).1 (rg_pr hr hj)
   unfold isBent
   rcases ws_at h hj with ⟨-, e⟩ | ⟨-, ou, e, ho, hI, -⟩
   ·rw [e]; rfl
   ·rw [e]
    have hw : pWd (pu s.ps use j) = 2 * (pu s.ps use j).er + (pu s.ps use j).oh - (pu s.ps use j).ol := rfl
    have : dlOk ⟨(pu s.ps use j).au, false, ou, (pu s.ps use j).bl, (wsI s use t j).1 + (pu s.ps use j).oh, (wsI s use t j).2 + (pu s.ps use j).ol⟩ (pu s.ps use j) = true := by
     unfold dlOk anSnE inB
     simp only [Bool.and_eq_true, decide_eq_true_eq]
     exact ⟨(snEr_iff _ _ _ _ _ _).2 ⟨hpr.1, by omega, by omega⟩, ho, by omega⟩
    rw [this]; rfl
  have hlost : cntTo (isLost (wsL s use t)) use.length = cntTo (fun i => decide ((i : Int) ∈ goneL (wdL s.ps use) s.f s.lo)) use.length := by
   refine cnt_congr _ fun j hj => ?_
   unfold isLost
   rcases ws_at h hj with ⟨g, e⟩ | ⟨g, ou, e, -⟩
   ·rw [e]; exact (decide_eq_true g).symm
   ·rw [e]; exact (decide_eq_false g).symm
  have hlie : cntTo (isLie s.ps use t (wsL s use t)) use.length ≤ cntTo (fun i => decide ((i : Int) ∈ pickL (wdL s.ps use) s.f s.lo)) use.length := by
   refine cnt_sub _ fun j hj hq => ?_
   unfold isLie at hq
   rcases ws_at h hj with ⟨g, e⟩ | ⟨g, ou, e, ho, hI, hh⟩
   ·rw [e] at hq; simp at hq
   ·refine decide_eq_true (Classical.byContradiction fun hb => ?_)
    rw [e] at hq
    have h2 := hh hb
    have hw : pWd (pu s.ps use j) = 2 * (pu s.ps use j).er + (pu s.ps use j).oh - (pu s.ps use j).ol := rfl
    have : hnOk ⟨(pu s.ps use j).au, false, ou, (pu s.ps use j).bl, (wsI s use t j).1 + (pu s.ps use j).oh, (wsI s use t j).2 + (pu s.ps use j).ol⟩ (pu s.ps use j) t = true := by
     unfold hnOk inB
     simp only [Bool.and_eq_true, decide_eq_true_eq]
     omega
    rw [this] at hq; simp at hq
  rw [hlost, hbent]
  simp only [Bool.and_eq_true, decide_eq_true_eq]
  refine ⟨by omega, trivial, by omega⟩
theorem ws_heard {s : Si} {use : List Int} {ev t : Int} (h : wsEr s use ev t = 0) : ∀ k, k ≤ use.length → pyL s.ps use (wsL s use t) k = attTo (placeL (wdL s.ps use) s.f s.lo t) (pickL (wdL s.ps use) s.f s.lo) (goneL (wdL s.ps use) s.f s.lo) k
 | 0, _ => rfl
 | k + 1, hk => by
  have ih := ws_heard h k (by omega)
  obtain ⟨hr, ht, hp, hl⟩ := ws_ok h
  have hpr := (prB_iff _ _ _).1 (rg_pr hr (show k < use.length by omega))
  rw [pyL, attTo, ih]
  rcases ws_at h (show k < use.length by omega) with ⟨g, e⟩ | ⟨g, ou, e, ho, hI, -⟩
  ·rw [e, if_pos rfl, if_neg (by unfold roleP; rw [if_pos g]; omega)]
  ·rw [e, if_neg (by simp), if_pos (by unfold roleP; rw [if_neg g]; split <;> omega)]
   have hw : pWd (pu s.ps use k) = 2 * (pu s.ps use k).er + (pu s.ps use k).oh - (pu s.ps use k).ol := rfl
   have hsn : snEr (pu s.ps use k).ol (pu s.ps use k).oh (pu s.ps use k).bl (pu s.ps use k).bh ((wsI s use t k).1 + (pu s.ps use k).oh) ((wsI s use t k).2 + (pu s.ps use k).ol) = 0 := (snEr_iff _ _ _ _ _ _).2 ⟨hpr.1, by omega, by omega⟩
   have e1 : snLo (pu s.ps use k).ol (pu s.ps use k).oh (pu s.ps use k).bl (pu s.ps use k).bh ((wsI s use t k).1 + (pu s.ps use k).oh) ((wsI s use t k).2 + (pu s.ps use k).ol) = (wsI s use t k).1 := by
    unfold snLo; rw [if_pos hsn]
    have := mx_spec 0 ((wsI s use t k).1 + (pu s.ps use k).oh - (pu s.ps use k).oh)
    omega
   have e2 : snHi (pu s.ps use k).ol (pu s.ps use k).oh (pu s.ps use k).bl (pu s.ps use k).bh ((wsI s use t k).1 + (pu s.ps use k).oh) ((wsI s use t k).2 + (pu s.ps use k).ol) = (wsI s use t k).2 := by
    unfold snHi; rw [if_pos hsn]; omega
   simp only
   rw [e1, e2]
   rfl
theorem al_sn {s : Si} {x : Sc} (h : cntTo (isBent s.ps x.use x.an) x.an.length = 0) : pySn s.ps x.use x.an x.an.length = false := by
 cases hp : pySn s.ps x.use x.an x.an.length with
 | false => rfl
 | true =>
  obtain ⟨j, hj, h1, h2⟩ := (pySn_iff _ _ _ _).1 hp
  have := cnt_zero h j hj
  unfold isBent dlOk at this
  rw [h1, decide_eq_false h2] at this
  simp at this
theorem at_ok {lo hi r c : Int} (h1 : 0 ≤ lo ∧ lo ≤ hi ∧ hi ≤ 3000000000000000) (h2 : elOk r c = true) : atEr 0 lo hi r c = 0 ∧ atLo 0 lo hi r c = mn (lo + elLo r c) 3000000000000000 ∧ atHi 0 lo hi r c = mn (hi + elHi r c) 3000000000000000 := by
 have h3 := (elOk_iff r c).1 h2
 have h0 : atEr 0 lo hi r c = 0 := by
  unfold atEr
  rw [if_pos, if_neg (by omega), show c - 0 = c by omega, if_pos h2]
  unfold atOk beB
  rw [show timeB 0 = true by decide, (timeB_iff c).2 (by omega), (validB_iff _ _).2 h1, show inB r 0 1000000 = true by unfold inB; exact decide_eq_true (by omega)]
  rfl
 refine ⟨h0, ?_, ?_⟩
 ·unfold atLo; rw [if_pos h0, show c - 0 = c by omega]
 ·unfold atHi; rw [if_pos h0, show c - 0 = c by omega]
theorem ws_width {s : Si} {use : List Int} {ev t : Int} (h : wsEr s use ev t = 0) : pyEr s (wsS s use ev t) = 0 ∧ (pyHi s (wsS s use ev t) = 3000000000000000 ∨ pyHi s (wsS s use ev t) - pyLo s (wsS s use ev t) = wdt s use ev) ∧ wdEr s use ev = 0 ∧
  (∃ L, L = attTo (placeL (wdL s.ps use) s.f s.lo t) (pickL (wdL s.ps use) s.f s.lo) (goneL (wdL s.ps use) s.f s.lo) use.length ∧ pyLo s (wsS s use ev t) = mn (cbLo L s.f + elLo s.r (ev + s.tm)) 3000000000000000 ∧ pyHi s (wsS s use ev t) = mn (cbHi L s.f + elHi s.r (ev + s.tm)) 3000000000000000) ∧ (0 ≤ pyLo s (wsS s use ev t) ∧ pyLo s (wsS s use ev t) ≤ pyHi s (wsS s use ev t) ∧ pyHi s (wsS s use ev t) ≤ 3000000000000000) := by
 obtain ⟨hr, ht, hp, hl⟩ := ws_ok h
 obtain ⟨hf, ha⟩ := ws_allowed h
 have hlen := wsL_length s use t
 have hwl := wdL_length s.ps use
 have hel := rg_elOk hr
 have hsn := al_sn (s := s) (x := wsS s use ev t) (by
  unfold alB at ha
  simp only [Bool.and_eq_true, decide_eq_true_eq] at ha
  exact ha.2.1)
 have hH : scL s (wsS s use ev t) = attTo (placeL (wdL s.ps use) s.f s.lo t) (pickL (wdL s.ps use) s.f s.lo) (goneL (wdL s.ps use) s.f s.lo) use.length := by
  unfold scL
  rw [wsS_eq h]
  simp only
  rw [hlen]
  exact ws_heard h use.length (Nat.le_refl _)
 have hA := att_law hp
 simp only [hwl] at hA
 have hn : (wsS s use ev t).an.length = use.length := by rw [wsS_eq h]; exact hlen
 have hct : (wsS s use ev t).ct = ev + s.tm := by rw [wsS_eq h]
 obtain ⟨L, hL⟩ : ∃ L, L = attTo (placeL (wdL s.ps use) s.f s.lo t) (pickL (wdL s.ps use) s.f s.lo) (goneL (wdL s.ps use) s.f s.lo) use.length := ⟨_, rfl⟩
 rw [← hL] at hH hA
 obtain ⟨a1, a2, a3, a4, a5⟩ := hA
 obtain ⟨hset, hz⟩ := cbEr_zero a2
 have hen := (setL_spec hset).1.ends_mem hz
 have hval0 := (setL_spec hset).1.at 0 hz
 have hval1 := (setL_spec hset).1.at ((setL L s.f).length - 1) (by omega)
 have hcv : 0 ≤ cbLo L s.f ∧ cbLo L s.f ≤ cbHi L s.f ∧ cbHi L s.f ≤ 3000000000000000 := ⟨hval0.1, by omega, hval1.2.2⟩
 obtain ⟨e0, e1, e2⟩ := at_ok hcv hel
 have hE : pyEr s (wsS s use ev t) = 0 := by
  unfold pyEr
  rw [if_pos hf, hsn, if_neg (by simp), hH, hn, if_neg (by omega), if_pos a2, hct, e0]
 have hLo : pyLo s (wsS s use ev t) = mn (cbLo L s.f + elLo s.r (ev + s.tm)) 3000000000000000 := by unfold pyLo; rw [if_pos hE, hH, hct, e1]
 have hHi : pyHi s (wsS s use ev t) = mn (cbHi L s.f + elHi s.r (ev + s.tm)) 3000000000000000 := by unfold pyHi; rw [if_pos hE, hH, hct, e2]
 have hw : wdt s use ev = worst (wdL s.ps use) s.f s.lo + grw s.r (ev + s.tm) := by unfold wdt; rw [if_pos hr]
 have hgw : grw s.r (ev + s.tm) = elHi s.r (ev + s.tm) - elLo s.r (ev + s.tm) := rfl
 have hg := grw_bd hel
 have hb := el_bd hel
 have m1 := mn_spec (cbLo L s.f + elLo s.r (ev + s.tm)) 3000000000000000
 have m2 := mn_spec (cbHi L s.f + elHi s.r (ev + s.tm)) 3000000000000000
 refine ⟨hE, ?_, by unfold wdEr; rw [if_pos hr], ⟨L, hL, hLo, hHi⟩, ?_⟩
 ·rw [hLo, hHi, hw]; omega
 ·rw [hLo, hHi]; omega
end Go.Proofs.YtigjljmhpkeahaaGreat
