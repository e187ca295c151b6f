
/- Plain laws of package scene: a promise that is refused, and one that is not. -/
import Derived.Test.YtigjljmhpkeahaaGreatScK
import Derived.Test.YtigjljmhpkeahaaGreatScR
namespace Go.Proofs.YtigjljmhpkeahaaGreat
open Go.RowKit

theorem inB_iff (x a b : Int) : inB x a b = true ↔ a ≤ x ∧ x ≤ b := by unfold inB; rw [decide_eq_true_eq]
theorem nwE_ok {s : Si} {pl : List Int} (h : nwE s pl = 0) : ckE s pl = 0 ∧ ∃ n, nwO s pl = some n ∧ n ∈ ofL s pl := by
 by_cases hc : ckE s pl = 0
 ·refine ⟨hc, ?_⟩
  unfold nwE at h
  rw [if_pos hc] at h
  cases hN : nwO s pl with
  | none => rw [hN] at h; simp at h
  | some n =>
   refine ⟨n, rfl, ?_⟩
   unfold nwO at hN
   rw [if_pos hc] at hN
   exact (bst_some hN).1
 ·unfold nwE at h
  rw [if_neg hc] at h
  exact absurd h hc
theorem rf_yes {s : Si} {pl : List Int} {pm t : Int} (h : rfB s pl pm t = true) : ∃ use ev, wsEr s use ev t = 0 ∧ rfS s pl pm t = ⟨use, ev, t, wsL s use t, ev + s.tm⟩ ∧ rgB s use ev = true ∧ ev ∈ pl ∧ pm < wdt s use ev ∧ bsO s pl pm = none ∧ bsE s pl pm = 0 ∧ (0 ≤ pm ∧ pm ≤ 3000000000000000) ∧ rfEr s pl pm t = 0 := by
 unfold rfB at h
 rw [Bool.and_eq_true, decide_eq_true_eq] at h
 obtain ⟨hi, hw⟩ := h
 have hi2 := hi
 unfold rfIn at hi
 rw [Bool.and_eq_true, Bool.and_eq_true, inB_iff, inB_iff, decide_eq_true_eq] at hi
 obtain ⟨⟨h1, h2⟩, h3, h4⟩ := hi
 obtain ⟨hck, n, hn, hm⟩ := nwE_ok h3
 rw [hn] at hw h4
 simp only [accO, Option.getD_some] at hw h4
 obtain ⟨-, hr, hd, he⟩ := ofL_v hm
 obtain ⟨b1, b2⟩ := best_narrow hck h1
 have hB : bsO s pl pm = none := by
  rcases b2 with ⟨-, -, b⟩ | ⟨m, b3, -, b⟩
  ·exact b
  ·rw [hn] at b3
   cases b3
   rw [decide_eq_false (by omega)] at b
   cases hb : bsO s pl pm with
   | none => rfl
   | some o => rw [hb] at b; cases b
 refine ⟨n.use, n.ev, hw, ?_, hr, he, by rw [← hd]; exact h4, hB, b1, h1, ?_⟩
 ·unfold rfS
  rw [if_pos hi2, hn]
  exact wsS_eq hw
 ·unfold rfEr
  rw [if_pos (by rw [Bool.and_eq_true, inB_iff, inB_iff]; exact ⟨h1, h2⟩), if_pos h3, hn, if_neg (show ¬ (accO (some n)).wd ≤ pm by show ¬ n.wd ≤ pm; omega)]
  exact hw
theorem rf_no {s : Si} {pl : List Int} {pm t : Int} (h : rfB s pl pm t = false) : rfS s pl pm t = sc0 := by
 unfold rfS
 split
 ·rename_i hi
  unfold rfB at h
  rw [hi, Bool.true_and, decide_eq_false_iff_not] at h
  unfold wsS
  rw [if_neg h]
 ·rfl
theorem rf_keep {s : Si} {pl : List Int} {pm t : Int} (h : rfB s pl pm t = false) (he : rfEr s pl pm t = 0) : ∃ use ev wd, bsO s pl pm = some ⟨use, ev, wd⟩ ∧ bsE s pl pm = 0 ∧ rgB s use ev = true ∧ wdt s use ev ≤ pm ∧ (0 ≤ pm ∧ pm ≤ 3000000000000000) ∧ (0 ≤ t ∧ t ≤ 3000000000000000) := by
 unfold rfEr at he
 split at he
 ·rename_i h1
  have h1' := h1
  rw [Bool.and_eq_true, inB_iff, inB_iff] at h1
  split at he
  ·rename_i h2
   obtain ⟨hck, n, hn, hm⟩ := nwE_ok h2
   have hle : n.wd ≤ pm := by
    apply Classical.byContradiction
    intro hc
    rw [hn, if_neg (show ¬ (accO (some n)).wd ≤ pm from hc)] at he
    simp only [accO, Option.getD_some] at he
    have : rfB s pl pm t = true := by
     unfold rfB rfIn
     rw [h1', hn, decide_eq_true (show nwE s pl = 0 ∧ pm < (accO (some n)).wd from ⟨h2, by show pm < n.wd; omega⟩), decide_eq_true (show wsEr s (accO (some n)).use (accO (some n)).ev t = 0 from he)]
     rfl
    rw [h] at this
    cases this
   obtain ⟨b1, b2⟩ := best_narrow hck h1.1
   rcases b2 with ⟨b, -, -⟩ | ⟨m, b3, -, b⟩
   ·rw [hn] at b; cases b
   ·rw [hn] at b3
    cases b3
    rw [decide_eq_true hle] at b
    cases hb : bsO s pl pm with
    | none => rw [hb] at b; cases b
    | some o =>
     obtain ⟨c1, c2, -, -⟩ := bsO_some hb
     obtain ⟨d1, d2, -⟩ := bst_some c2
     obtain ⟨-, e1, e2, -⟩ := ofL_v d1
     exact ⟨o.use, o.ev, o.wd, rfl, b1, e1, by rw [← e2]; exact d2, h1.1, h1.2⟩
  ·rename_i h2
   exact absurd he h2
 ·omega
end Go.Proofs.YtigjljmhpkeahaaGreat
