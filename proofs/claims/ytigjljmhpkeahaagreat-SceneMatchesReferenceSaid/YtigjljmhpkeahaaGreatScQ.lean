
/- Plain laws of package scene: the worst scene may happen and is as wide as the schedule. -/
import Derived.Test.YtigjljmhpkeahaaGreatScP
namespace Go.Proofs.YtigjljmhpkeahaaGreat
open Go.RowKit

theorem rg_pr {s : Si} {use : List Int} {ev : Int} (h : rgB s use ev = true) {i : Nat} (hi : i < use.length) : prB s.r s.tm (pu s.ps use i) = true := by
 have hrg := (rgB_iff _ _ _).1 h
 have h7 := ((siB_iff _).1 hrg.1).2.1
 have hin := hrg.2.2.1 i hi
 exact h7 _ (by omega)
theorem place_in {l : List Int} {f lost x : Int} (h : placeEr l f lost x = 0) (i : Nat) (hi : i < l.length) (hr : (i : Int) ∉ goneL l f lost) :
  0 ≤ (ivAt (placeL l f lost x) i).1 ∧ (ivAt (placeL l f lost x) i).1 ≤ x ∧ x ≤ (ivAt (placeL l f lost x) i).2 ∧ (ivAt (placeL l f lost x) i).2 ≤ 3000000000000000 ∧ iAt l i ≤ (ivAt (placeL l f lost x) i).2 - (ivAt (placeL l f lost x) i).1 := by
 obtain ⟨hok, hx, hA1, hA2, hL⟩ := place_ok h
 have hm := sp_mk hok
 have hsp := (spOk_iff l f lost).1 hok
 have hat := lie_at (l := l) (m := spM l f lost) (k := spK l f lost) (x := x) f.toNat (by omega)
 have hwd := srt_bd l hsp.1.2
 have hAll := plAll_bd hwd (spM l f lost) (spK l f lost) x hm.2.2.1 hm.2.2.2.1 (spM l f lost)
 by_cases hr0 : roleP (pickL l f lost) (goneL l f lost) i = 0
 ·have hR := att_right h i hi hr0
  obtain ⟨s, hs, rfl⟩ := ordL_surj l hi
  rw [role_at hok s hs] at hr0
  have h1 : s < spM l f lost := by
   apply Classical.byContradiction
   intro hn
   rw [if_neg hn] at hr0
   split at hr0 <;> omega
  have e : ivAt (placeL l f lost x) (nAt (ordL l) s) = plP l (spM l f lost) (spK l f lost) x s := by rw [hL]; exact hat.1 s h1
  have hin := plAll_in l (spM l f lost) (spK l f lost) x (spM l f lost) s h1
  rw [e] at hR ⊢
  omega
 ·obtain ⟨s, hs, rfl⟩ := ordL_surj l hi
  have hr2 := role_at hok s hs
  have h2 : roleP (pickL l f lost) (goneL l f lost) (nAt (ordL l) s : Int) ≠ 2 := by
   unfold roleP
   rw [if_neg hr]
   split <;> omega
  have h1 : spM l f lost ≤ s ∧ s < spM l f lost + f.toNat := by
   rw [hr2] at hr0 h2
   revert hr0 h2
   split
   ·intro h; exact absurd rfl h
   ·split
    ·intro _ _; omega
    ·intro _ h; exact absurd rfl h
  have e : ivAt (placeL l f lost x) (nAt (ordL l) s) = plAll l (spM l f lost) (spK l f lost) x (spM l f lost) := by
   rw [hL]
   have := hat.2 (s - spM l f lost) (by omega)
   rwa [show spM l f lost + (s - spM l f lost) = s by omega] at this
  have hin := plAll_in l (spM l f lost) (spK l f lost) x (spM l f lost) 0 (by omega)
  have hfall := srt_fall l (i := 0) (j := s) (by omega) hs
  rw [srt_at l s hs] at hfall
  rw [e]
  unfold plP at hin
  simp only at hin
  omega
theorem wsS_eq {s : Si} {use : List Int} {ev t : Int} (h : wsEr s use ev t = 0) : wsS s use ev t = ⟨use, ev, t, wsL s use t, ev + s.tm⟩ := by unfold wsS; rw [if_pos h]
end Go.Proofs.YtigjljmhpkeahaaGreat
