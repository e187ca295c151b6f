
/- Plain laws of package cert: whatever is stated in a choice; what Place attains. -/
import Derived.Test.YtlmcoollkmhanaaGreatCtP
import Derived.Test.YtlmcoollkmhanaaGreatGv
import Derived.Test.YtlmcoollkmhanaaGreatGu
namespace Go.Proofs.YtlmcoollkmhanaaGreat
open Go.RowKit

def atL (ws li lo : List Int) (f : Int) : List Int := cwL ws li lo ++ zsL f
theorem at_ok31 {s : Si} {use li lo : List Int} {ev : Int} (hr : rgB s use ev = true) (hC : Choice s use li lo) : spOk (atL (wdL s.ps use) li lo s.f) s.f 0 = true ∧ worst (atL (wdL s.ps use) li lo s.f) s.f 0 = lim s use ev li lo - grw s.r (ev + s.tm) ∧ ((atL (wdL s.ps use) li lo s.f).length : Int) = use.length - s.lo := by
 have hp : (clL (wdL s.ps use) li lo s.f).Perm (atL (wdL s.ps use) li lo s.f) := clL_perm _ _ _ _
 have hok := cl_ok hr hC
 refine ⟨?_, ?_, ?_⟩
 ·unfold spOk at hok ⊢
  rw [← spA_perm hp, ← hp.length_eq]
  exact hok
 ·unfold lim
  rw [worst_perm hp]
  omega
 ·rw [← hp.length_eq]; exact hC.len.2.2.2
theorem attTo_all (A : List Iv) (P G : List Int) : ∀ n, n ≤ A.length → (∀ i : Nat, i < n → roleP P G i < 2) → attTo A P G n = A.take n
 | 0, _, _ => by simp [attTo]
 | n + 1, h, hr => by
  rw [attTo, if_pos (hr n (by omega)), attTo_all A P G n (by omega) fun i hi => hr i (by omega), List.take_add_one, List.getElem?_eq_getElem (show n < A.length by omega)]
  simp [ivAt, List.getD_eq_getElem?_getD, List.getElem?_eq_getElem (show n < A.length by omega)]
theorem place_in0 {l : List Int} {f t : Int} (hok : spOk l f 0 = true) (ht : 1000000000000 ≤ t ∧ t ≤ 2000000000000) : placeEr l f 0 t = 0 := by
 have hsp := (spOk_iff _ _ _).1 hok
 have hm := sp_mk hok
 have hA := plAll_bd (srt_bd l hsp.1.2) (spM l f 0) (spK l f 0) t (by omega) (by omega) (spM l f 0)
 unfold placeEr
 rw [if_pos hok, if_pos (by unfold inB; exact decide_eq_true (by omega)), if_neg (by omega)]
theorem gone0 {l : List Int} {f : Int} (hok : spOk l f 0 = true) : goneL l f 0 = [] := List.eq_nil_of_length_eq_zero (by have := (picks_len hok).2; omega)
theorem at_law {l : List Int} {f t : Int} (hok : spOk l f 0 = true) (ht : 1000000000000 ≤ t ∧ t ≤ 2000000000000) : placeEr l f 0 t = 0 ∧ (placeL l f 0 t).length = l.length ∧ cbEr (placeL l f 0 t) f = 0 ∧ cbHi (placeL l f 0 t) f - cbLo (placeL l f 0 t) f = worst l f 0 ∧
  (∀ i, i < l.length → (i : Int) ∉ pickL l f 0 → (ivAt (placeL l f 0 t) i).1 ≤ t ∧ t ≤ (ivAt (placeL l f 0 t) i).2 ∧ (ivAt (placeL l f 0 t) i).2 - (ivAt (placeL l f 0 t) i).1 = iAt l i) := by
 have h := place_in0 hok ht
 have hg := gone0 hok
 have hlen : (placeL l f 0 t).length = l.length := by rw [(place_ok h).2.2.2.2, plLie_length]
 have hro : ∀ i : Nat, roleP (pickL l f 0) (goneL l f 0) i < 2 := fun i => by
  unfold roleP
  rw [hg, if_neg (by simp)]
  split <;> omega
 have ha := att_law h
 simp only at ha
 rw [attTo_all _ _ _ _ (by omega) (fun i _ => hro i), ← hlen, List.take_length] at ha
 refine ⟨h, hlen, ha.2.1, ha.2.2.1, fun i hi hn => att_right h i hi ?_⟩
 unfold roleP
 rw [hg, if_neg (by simp), if_neg hn]
end Go.Proofs.YtlmcoollkmhanaaGreat
