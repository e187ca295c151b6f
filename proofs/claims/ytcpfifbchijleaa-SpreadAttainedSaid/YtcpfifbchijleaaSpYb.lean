/- Plain law of SpreadAttained: the combination is exactly as wide as the greatest width. -/
import Derived.Test.YtcpfifbchijleaaSpYa
namespace Go.Proofs.Ytcpfifbchijleaa
open Go.RowKit

theorem att_split {l : List Int} {f lost : Int} (hok : spOk l f lost = true) (g : Nat → Bool) (h1 : Nat → Bool) (b : Bool)
    (q1 : ∀ p, p < spM l f lost → g (nAt (ordL l) p) = h1 p) (q2 : ∀ p, spM l f lost ≤ p → p < spM l f lost + f.toNat → g (nAt (ordL l) p) = b) (q3 : ∀ p, spM l f lost + f.toNat ≤ p → p < l.length → g (nAt (ordL l) p) = false) :
    cntTo g l.length = cntTo h1 (spM l f lost) + if b = true then f.toNat else 0 := by
  have hm := sp_mk hok
  have hi := (spOk_iff l f lost).1 hok
  rw [cnt_ord l g, cnt_const _ false (show spM l f lost + f.toNat ≤ l.length by omega) q3, cnt_const _ b (show spM l f lost ≤ spM l f lost + f.toNat by omega) q2, cnt_congr _ q1]
  simp
theorem place_ok {l : List Int} {f lost x : Int} (h : placeEr l f lost x = 0) : spOk l f lost = true ∧ (0 ≤ x ∧ x ≤ 3000000000000000) ∧ 0 ≤ (plAll l (spM l f lost) (spK l f lost) x (spM l f lost)).1 ∧ (plAll l (spM l f lost) (spK l f lost) x (spM l f lost)).2 ≤ 3000000000000000 ∧ placeL l f lost x = plLie l (spM l f lost) (spK l f lost) x f.toNat := by
  have hL : placeL l f lost x = plLie l (spM l f lost) (spK l f lost) x f.toNat := by unfold placeL; rw [if_pos h]
  unfold placeEr at h
  cases hok : spOk l f lost with
  | false =>
    rw [hok] at h
    simp only [Bool.false_eq_true, if_false] at h
    rcases spEr_no hok with h' | h' <;> omega
  | true =>
    rw [if_pos hok] at h
    split at h
    · rename_i hx
      have hx2 : 0 ≤ x ∧ x ≤ 3000000000000000 := by simpa [inB] using hx
      split at h
      · omega
      · rename_i hn
        exact ⟨rfl, hx2, by omega, by omega, hL⟩
    · omega
theorem att_law {l : List Int} {f lost x : Int} (h : placeEr l f lost x = 0) :
    let L := attTo (placeL l f lost x) (pickL l f lost) (goneL l f lost) l.length
    (L.length : Int) = l.length - lost ∧ cbEr L f = 0 ∧ cbHi L f - cbLo L f = worst l f lost ∧ cbLo L f ≤ x ∧ x ≤ cbHi L f := by
  intro L
  obtain ⟨hok, hx, hA1, hA2, hL⟩ := place_ok h
  obtain ⟨X, x1, x2, c1, c2, c3, c4, c5⟩ := place_count (x := x) hok
  have hm := sp_mk hok
  have hi := (spOk_iff l f lost).1 hok
  have hat := lie_at (l := l) (m := spM l f lost) (k := spK l f lost) (x := x) f.toNat (by omega)
  have hlen : L.length = spM l f lost + f.toNat := by
    show (attTo _ _ _ _).length = _
    rw [attTo_length, att_split hok _ (fun _ => true) true (fun p hp => by rw [role_at hok p (by omega), if_pos hp]; rfl)
      (fun p h1 h2 => by rw [role_at hok p (by omega), if_neg (by omega), if_pos h2]; rfl)
      (fun p h1 h2 => by rw [role_at hok p h2, if_neg (by omega), if_neg (by omega)]; rfl), cnt_yes (fun _ => true) (Nat.zero_le _) (fun _ _ _ => rfl)]
    simp [cntTo]
  have hdep : ∀ y, dep L y L.length = (cntTo (plHas l (spM l f lost) (spK l f lost) x y) (spM l f lost) + (if hasB (plAll l (spM l f lost) (spK l f lost) x (spM l f lost)).1 (plAll l (spM l f lost) (spK l f lost) x (spM l f lost)).2 y = true then f.toNat else 0) : Nat) := by
    intro y
    show dep (attTo _ _ _ _) y (attTo _ _ _ _).length = _
    rw [attTo_dep, att_split hok _ (plHas l (spM l f lost) (spK l f lost) x y) (hasB (plAll l (spM l f lost) (spK l f lost) x (spM l f lost)).1 (plAll l (spM l f lost) (spK l f lost) x (spM l f lost)).2 y)
      (fun p hp => by rw [role_at hok p (by omega), if_pos hp, hL, hat.1 p hp]; rfl)
      (fun p h1 h2 => by
        rw [role_at hok p (by omega), if_neg (by omega), if_pos h2, hL]
        have := hat.2 (p - spM l f lost) (by omega)
        rw [show spM l f lost + (p - spM l f lost) = p by omega] at this
        rw [this]; rfl)
      (fun p h1 h2 => by rw [role_at hok p h2, if_neg (by omega), if_neg (by omega)]; rfl)]
  have hin : ∀ y, spK l f lost ≤ cntTo (plHas l (spM l f lost) (spK l f lost) x y) (spM l f lost) → hasB (plAll l (spM l f lost) (spK l f lost) x (spM l f lost)).1 (plAll l (spM l f lost) (spK l f lost) x (spM l f lost)).2 y = true := by
    intro y hy
    apply Classical.byContradiction
    intro hn
    have := cnt_no (plHas l (spM l f lost) (spK l f lost) x y) (Nat.zero_le (spM l f lost)) (fun t _ ht => by
      cases hp : plHas l (spM l f lost) (spK l f lost) x y t with
      | false => rfl
      | true =>
        exfalso
        have hpi := plAll_in l (spM l f lost) (spK l f lost) x (spM l f lost) t ht
        unfold plHas at hp
        simp only [hasB, decide_eq_true_eq] at hp hn
        omega)
    simp only [cntTo] at this
    omega
  have hlb : listB L = true := by
    rw [listB_iff2]
    refine ⟨by omega, ?_⟩
    have key : ∀ i, i ≤ l.length → ∀ p, p ∈ attTo (placeL l f lost x) (pickL l f lost) (goneL l f lost) i → ∃ t, t < l.length ∧ roleP (pickL l f lost) (goneL l f lost) t < 2 ∧ p = ivAt (placeL l f lost x) t := by
      intro i
      induction i with
      | zero => intro _ p hp; cases hp
      | succ i ih =>
        intro hi' p hp
        rw [attTo] at hp
        split at hp
        · rename_i hr
          rcases List.mem_append.1 hp with h' | h'
          · exact ih (by omega) p h'
          · rw [List.mem_singleton] at h'; exact ⟨i, by omega, hr, h'⟩
        · exact ih (by omega) p hp
    intro p hp
    obtain ⟨t, ht, hr, rfl⟩ := key l.length (Nat.le_refl _) p hp
    obtain ⟨s, hs, rfl⟩ := ordL_surj l ht
    rw [role_at hok s hs] at hr
    have hd := plAll_in l (spM l f lost) (spK l f lost) x (spM l f lost)
    by_cases h1 : s < spM l f lost
    · rw [hL, hat.1 s h1]
      have h5 := c5 s h1
      have h6 := hd s h1
      unfold plHas at h5
      simp only [hasB, decide_eq_true_eq] at h5
      omega
    · have h2 : s < spM l f lost + f.toNat := by
        apply Classical.byContradiction
        intro hn
        rw [if_neg h1, if_neg hn] at hr
        omega
      have := hat.2 (s - spM l f lost) (by omega)
      rw [show spM l f lost + (s - spM l f lost) = s by omega] at this
      rw [hL, this]
      have h0 := c5 0 (by omega)
      have h6 := hd 0 (by omega)
      unfold plHas at h0
      simp only [hasB, decide_eq_true_eq] at h0
      omega
  have hso : setOk L f = true := by rw [setOk_iff]; exact ⟨hlb, by omega, by omega⟩
  have hmem : ∀ y, mem (setL L f) y ↔ spK l f lost ≤ cntTo (plHas l (spM l f lost) (spK l f lost) x y) (spM l f lost) := by
    intro y
    rw [mem_setL hso, missTo_dep, hdep y]
    constructor
    · intro hy
      split at hy <;> omega
    · intro hy
      rw [if_pos (hin y hy)]
      omega
  have hmx : mem (setL L f) (x - X) := (hmem _).2 c1
  have hmy : mem (setL L f) (x - X + worst l f lost) := (hmem _).2 c2
  have e1 := cb_has hmx
  have e2 := cb_has hmy
  have hs := (setL_spec hso).1
  have hpos := mem_pos hmx
  obtain ⟨g1, g2⟩ := hs.ends_mem hpos
  have k1 := (hmem _).1 g1
  have k2 := (hmem _).1 g2
  have f1 : x - X ≤ cbLo L f := by
    apply Classical.byContradiction
    intro hn
    have := c3 (cbLo L f) (by omega)
    unfold cbLo at this
    omega
  have f2 : cbHi L f ≤ x - X + worst l f lost := by
    apply Classical.byContradiction
    intro hn
    have := c4 (cbHi L f) (by omega)
    unfold cbHi at this
    omega
  refine ⟨by omega, cbEr_mem hmx, by omega, by omega, by omega⟩
/-- A right one's interval has the time, and its width. -/
theorem att_right {l : List Int} {f lost x : Int} (h : placeEr l f lost x = 0) (i : Nat) (hi : i < l.length) (hr : roleP (pickL l f lost) (goneL l f lost) i = 0) :
    (ivAt (placeL l f lost x) i).1 ≤ x ∧ x ≤ (ivAt (placeL l f lost x) i).2 ∧ (ivAt (placeL l f lost x) i).2 - (ivAt (placeL l f lost x) i).1 = iAt l i := by
  obtain ⟨hok, hx, hA1, hA2, hL⟩ := place_ok h
  obtain ⟨X, x1, x2, c1, c2, c3, c4, c5⟩ := place_count (x := x) hok
  have hm := sp_mk hok
  have hat := lie_at (l := l) (m := spM l f lost) (k := spK l f lost) (x := x) f.toNat (by have := (spOk_iff l f lost).1 hok; omega)
  obtain ⟨s, hs, rfl⟩ := ordL_surj l hi
  rw [role_at hok s hs] at hr
  have h1 : s < spM l f lost := by
    apply Classical.byContradiction
    intro hn
    rw [if_neg hn] at hr
    split at hr <;> omega
  rw [hL, hat.1 s h1, ← srt_at l s hs]
  have h5 := c5 s h1
  unfold plHas at h5
  simp only [hasB, decide_eq_true_eq] at h5
  refine ⟨h5.1, h5.2, ?_⟩
  unfold plP
  simp only
  omega
end Go.Proofs.Ytcpfifbchijleaa
