/- Plain mathematics of package spread: the i-th width by counting, and how the greatest width changes. -/
import Derived.Test.YtiaahfccebmkdaaSpM
namespace Go.Proofs.Ytiaahfccebmkdaa
open Go.RowKit

/-- How many are at least x. -/
def cge (x : Int) (l : List Int) : Nat := l.countP fun a => decide (x ≤ a)
theorem cge_cons (x a : Int) (l : List Int) : cge x (a :: l) = cge x l + if x ≤ a then 1 else 0 := by
  unfold cge; rw [List.countP_cons]; simp
theorem cge_append (x : Int) (l r : List Int) : cge x (l ++ r) = cge x l + cge x r := by unfold cge; rw [List.countP_append]
theorem cge_perm {l r : List Int} (h : l.Perm r) (x : Int) : cge x l = cge x r := h.countP_eq _
theorem cge_le_length (x : Int) (l : List Int) : cge x l ≤ l.length := List.countP_le_length
theorem cge_none {x : Int} : ∀ {l : List Int}, (∀ a, a ∈ l → a < x) → cge x l = 0
  | [], _ => rfl
  | a :: l, h => by
    rw [cge_cons, if_neg (by have := h a List.mem_cons_self; omega), cge_none (fun b hb => h b (List.mem_cons_of_mem _ hb))]
theorem cge_all {x : Int} : ∀ {l : List Int}, (∀ a, a ∈ l → x ≤ a) → cge x l = l.length
  | [], _ => rfl
  | a :: l, h => by
    rw [cge_cons, if_pos (h a List.mem_cons_self), cge_all (fun b hb => h b (List.mem_cons_of_mem _ hb)), List.length_cons]
theorem cge_le_of {l r : List Int} {x y : Int} (h : l.length = r.length) (hp : ∀ i, i < l.length → x ≤ iAt l i → y ≤ iAt r i) : cge x l ≤ cge y r := by
  induction l generalizing r with
  | nil => exact Nat.zero_le _
  | cons a l ih =>
    cases r with
    | nil => simp at h
    | cons b r =>
      rw [cge_cons, cge_cons]
      have h1 := ih (r := r) (by simpa using h) (fun i hi => by have := hp (i + 1) (by simpa using hi); simpa [iAt] using this)
      have h2 := hp 0 (by simp)
      simp only [iAt, List.getD_cons_zero] at h2
      split
      · rw [if_pos (h2 (by assumption))]; omega
      · omega
theorem fall_cge : ∀ (D : List Int), D.Pairwise (fun a b => b ≤ a) → ∀ (x : Int) (i : Nat), i < D.length → (x ≤ iAt D i ↔ i < cge x D)
  | [], _, _, _, h => by simp at h
  | a :: r, hD, x, i, hi => by
    have h := List.pairwise_cons.1 hD
    rw [cge_cons]
    by_cases hx : x ≤ a
    · rw [if_pos hx]
      cases i with
      | zero => simp [iAt, hx]
      | succ i =>
        have := fall_cge r h.2 x i (by simpa using hi)
        have e : iAt (a :: r) (i + 1) = iAt r i := by simp [iAt]
        rw [e, this]; omega
    · rw [if_neg hx]
      have h0 : cge x r = 0 := cge_none fun b hb => by have := h.1 b hb; omega
      rw [h0]
      constructor
      · intro h1
        exfalso
        cases i with
        | zero => simp [iAt] at h1; omega
        | succ i =>
          have hi' : i < r.length := by simpa using hi
          have e : iAt (a :: r) (i + 1) = r[i] := by rw [iAt_lt _ _ hi]; rfl
          have := h.1 r[i] (List.getElem_mem _)
          omega
      · intro h1; omega
theorem srt_pw (l : List Int) : (srt l).Pairwise (fun a b => b ≤ a) := List.pairwise_map.2 (ordTo_fall l l.length)
theorem srt_cge (l : List Int) (x : Int) (i : Nat) (h : i < l.length) : x ≤ iAt (srt l) i ↔ i < cge x l := by
  rw [fall_cge _ (srt_pw l) x i (by rw [srt_length]; exact h), cge_perm (srt_perm l)]
theorem srt_le {l r : List Int} (hl : l.length = r.length) (i : Nat) (hi : i < l.length) (h : cge (iAt (srt l) i) l ≤ cge (iAt (srt l) i) r) : iAt (srt l) i ≤ iAt (srt r) i := by
  rw [srt_cge r _ i (by omega)]
  have := (srt_cge l _ i hi).1 (Int.le_refl _)
  omega
theorem srt_of_perm {l r : List Int} (h : l.Perm r) : srt l = srt r := by
  have hl := h.length_eq
  refine ints_ext (by rw [srt_length, srt_length, hl]) fun i hi => ?_
  rw [srt_length] at hi
  have h1 := srt_le hl i hi (Nat.le_of_eq (cge_perm h _))
  have h2 := srt_le hl.symm i (by omega) (Nat.le_of_eq (cge_perm h.symm _))
  omega
theorem srt_pointwise {l r : List Int} (hl : l.length = r.length) (h : ∀ i, i < l.length → iAt l i ≤ iAt r i) (i : Nat) (hi : i < l.length) : iAt (srt l) i ≤ iAt (srt r) i :=
  srt_le hl i hi (cge_le_of hl fun j hj hx => by have := h j hj; omega)
theorem allW_perm {l r : List Int} (h : l.Perm r) : allW l l.length = allW r r.length := by
  have key : ∀ {a b : List Int}, a.Perm b → allW a a.length = true → allW b b.length = true := fun {a b} hp ha => by
    rw [allW_iff] at ha ⊢
    intro j hj
    have hm : iAt b j ∈ a := hp.mem_iff.2 (iAt_mem hj)
    obtain ⟨i, hi, e⟩ := List.getElem_of_mem hm
    rw [← e, ← iAt_lt a i hi]
    exact ha i hi
  rw [Bool.eq_iff_iff]
  exact ⟨key h, key h.symm⟩
theorem spA_perm {l r : List Int} (h : l.Perm r) (f lost : Int) : spA l f lost = spA r f lost := by unfold spA; rw [allW_perm h, h.length_eq]
theorem spEr_perm {l r : List Int} (h : l.Perm r) (f lost : Int) : spEr l f lost = spEr r f lost := by unfold spEr; rw [spA_perm h, h.length_eq]
theorem worst_perm {l r : List Int} (h : l.Perm r) (f lost : Int) : worst l f lost = worst r f lost := by
  unfold worst spOk spM spK; rw [spA_perm h, h.length_eq, srt_of_perm h]

theorem best_ge (D : List Int) (m k j : Nat) (h1 : jLo m k ≤ j) (h2 : j ≤ k) : vJ D k j ≤ (bestP D m k).2 := by
  have := (bst_max D k (jLo m k) (k - jLo m k + 1)).1 (j - jLo m k) (by omega)
  rwa [show jLo m k + (j - jLo m k) = j by omega] at this
theorem vJ_nn {D : List Int} (hwd : ∀ i, 0 ≤ iAt D i ∧ iAt D i ≤ 1000000000000) (k j : Nat) : 0 ≤ vJ D k j := by
  have a := hwd (k - 1)
  have b := hwd (2 * k - j - 1)
  have c := hwd (j - 1)
  have m := mn_spec (iAt D (k - 1) + iAt D (2 * k - j - 1)) (iAt D (j - 1))
  unfold vJ; split <;> omega
theorem best_at {D : List Int} (hwd : ∀ i, 0 ≤ iAt D i ∧ iAt D i ≤ 1000000000000) (m k : Nat) (hkm : k ≤ m) : ∃ j, jLo m k ≤ j ∧ j ≤ k ∧ bestP D m k = ((j : Int), vJ D k j) := by
  have hj : jLo m k ≤ k := by unfold jLo; omega
  obtain ⟨s, h1, h2, _⟩ := (bst_max D k (jLo m k) (k - jLo m k + 1)).2 (by omega) (fun s _ => vJ_nn hwd k _)
  exact ⟨jLo m k + s, by omega, by omega, h2⟩
theorem worst_at {l : List Int} {f lost : Int} (hok : spOk l f lost = true) : ∃ j, jLo (spM l f lost) (spK l f lost) ≤ j ∧ j ≤ spK l f lost ∧ worst l f lost = vJ (srt l) (spK l f lost) j := by
  have hm := sp_mk hok
  have hd := srt_bd l ((spOk_iff l f lost).1 hok).1.2
  obtain ⟨j, h1, h2, h3⟩ := best_at hd (spM l f lost) (spK l f lost) hm.2.2.2.1
  exact ⟨j, h1, h2, by rw [worst_ok hok, h3]⟩
theorem worst_ge {l : List Int} {f lost : Int} (hok : spOk l f lost = true) (j : Nat) (h1 : jLo (spM l f lost) (spK l f lost) ≤ j) (h2 : j ≤ spK l f lost) : vJ (srt l) (spK l f lost) j ≤ worst l f lost := by
  rw [worst_ok hok]; exact best_ge _ _ _ _ h1 h2
theorem vJ_spec (D : List Int) (k j : Nat) : vJ D k j ≤ iAt D (k - 1) + iAt D (2 * k - j - 1) ∧ (0 < j → vJ D k j ≤ iAt D (j - 1)) ∧ (∀ x, x ≤ iAt D (k - 1) + iAt D (2 * k - j - 1) → (0 < j → x ≤ iAt D (j - 1)) → x ≤ vJ D k j) := by
  have m := mn_spec (iAt D (k - 1) + iAt D (2 * k - j - 1)) (iAt D (j - 1))
  unfold vJ
  split
  · rename_i h
    exact ⟨by omega, fun _ => by omega, fun x h1 h2 => by have := h2 h; omega⟩
  · rename_i h
    exact ⟨Int.le_refl _, fun h' => absurd h' h, fun x h1 _ => h1⟩
theorem vJ_le {D E : List Int} {n k j : Nat} (h : ∀ i, i < n → iAt D i ≤ iAt E i) (hk : 1 ≤ k) (hkn : k ≤ n) (hj : j ≤ k) (h2 : 2 * k - j ≤ n) : vJ D k j ≤ vJ E k j := by
  have a := vJ_spec D k j
  have b := h (k - 1) (by omega)
  have c := h (2 * k - j - 1) (by omega)
  refine (vJ_spec E k j).2.2 _ (by omega) (fun h0 => ?_)
  have d := h (j - 1) (by omega)
  have := a.2.1 h0
  omega
theorem worst_mono {l r : List Int} {f lost : Int} (hl : l.length = r.length) (h : ∀ i, i < l.length → iAt l i ≤ iAt r i) (h1 : spOk l f lost = true) (h2 : spOk r f lost = true) : worst l f lost ≤ worst r f lost := by
  have e1 : spM r f lost = spM l f lost := by unfold spM; rw [hl]
  have e2 : spK r f lost = spK l f lost := by unfold spK; rw [hl]
  have hm := sp_mk h1
  obtain ⟨j, j1, j2, j3⟩ := worst_at h1
  have hg := worst_ge h2 j (by rw [e1, e2]; exact j1) (by rw [e2]; exact j2)
  rw [e2] at hg
  rw [j3]
  refine Int.le_trans (vJ_le (n := l.length) (srt_pointwise hl h) hm.2.2.1 (by omega) j2 ?_) hg
  unfold jLo at j1; omega
theorem worst_f {l : List Int} {f lost : Int} (h1 : spOk l f lost = true) (h2 : spOk l (f + 1) lost = true) : worst l f lost ≤ worst l (f + 1) lost := by
  have a := sp_mk h1
  have b := sp_mk h2
  obtain ⟨j, j1, j2, j3⟩ := worst_at h1
  have hd := srt_bd l ((spOk_iff l f lost).1 h1).1.2
  unfold jLo at j1
  have e1 : spK l (f + 1) lost = spK l f lost - 2 := by omega
  have e2 : spM l (f + 1) lost = spM l f lost - 1 := by omega
  have hg := worst_ge h2 (j - 2) (by unfold jLo; omega) (by omega)
  rw [e1] at hg
  generalize spK l f lost = k at *
  generalize spM l f lost = m at *
  rw [j3]
  refine Int.le_trans ((vJ_spec _ _ _).2.2 _ ?_ (fun h0 => ?_)) hg
  · have c := (vJ_spec (srt l) k j).1
    have d1 := srt_fall l (i := k - 2 - 1) (j := k - 1) (by omega) (by omega)
    have d2 := srt_fall l (i := 2 * (k - 2) - (j - 2) - 1) (j := 2 * k - j - 1) (by omega) (by omega)
    omega
  · have c := (vJ_spec (srt l) k j).2.1 (by omega)
    have d1 := srt_fall l (i := j - 2 - 1) (j := j - 1) (by omega) (by omega)
    omega
theorem worst_lost {l : List Int} {f lost : Int} (h1 : spOk l f lost = true) (h2 : spOk l f (lost + 1) = true) : worst l f lost ≤ worst l f (lost + 1) := by
  have a := sp_mk h1
  have b := sp_mk h2
  obtain ⟨j, j1, j2, j3⟩ := worst_at h1
  unfold jLo at j1
  have e1 : spK l f (lost + 1) = spK l f lost - 1 := by omega
  have e2 : spM l f (lost + 1) = spM l f lost - 1 := by omega
  have hg := worst_ge h2 (j - 1) (by unfold jLo; omega) (by omega)
  rw [e1] at hg
  generalize spK l f lost = k at *
  generalize spM l f lost = m at *
  rw [j3]
  refine Int.le_trans ((vJ_spec _ _ _).2.2 _ ?_ (fun h0 => ?_)) hg
  · have c := (vJ_spec (srt l) k j).1
    have d1 := srt_fall l (i := k - 1 - 1) (j := k - 1) (by omega) (by omega)
    have d2 := srt_fall l (i := 2 * (k - 1) - (j - 1) - 1) (j := 2 * k - j - 1) (by omega) (by omega)
    omega
  · have c := (vJ_spec (srt l) k j).2.1 (by omega)
    have d1 := srt_fall l (i := j - 1 - 1) (j := j - 1) (by omega) (by omega)
    omega

def mulL (t : Int) (l : List Int) : List Int := l.map fun a => a * t
theorem mulL_length (t : Int) (l : List Int) : (mulL t l).length = l.length := by simp [mulL]
theorem mulL_at (t : Int) (l : List Int) (i : Nat) (h : i < l.length) : iAt (mulL t l) i = iAt l i * t := by
  rw [iAt_lt _ _ (by rw [mulL_length]; exact h), iAt_lt l i h]; simp [mulL]
theorem srt_mulL (t : Int) (ht : 0 ≤ t) (l : List Int) (i : Nat) (h : i < l.length) : iAt (srt (mulL t l)) i = iAt (srt l) i * t := by
  apply Int.le_antisymm
  · rcases Int.lt_or_le (iAt (srt l) i * t) (iAt (srt (mulL t l)) i) with hlt | hle
    · exfalso
      have h1 := (srt_cge (mulL t l) (iAt (srt l) i * t + 1) i (by rw [mulL_length]; exact h)).1 (by omega)
      have h2 : cge (iAt (srt l) i * t + 1) (mulL t l) ≤ cge (iAt (srt l) i + 1) l := cge_le_of (mulL_length t l) fun j hj hx => by
        rw [mulL_length] at hj
        rw [mulL_at t l j hj] at hx
        rcases Int.lt_or_le (iAt (srt l) i) (iAt l j) with hl | hl
        · omega
        · have := Int.mul_le_mul_of_nonneg_right hl ht
          omega
      have h3 := (srt_cge l (iAt (srt l) i + 1) i h).2 (by omega)
      omega
    · exact hle
  · rw [srt_cge _ _ i (by rw [mulL_length]; exact h)]
    have h1 := (srt_cge l (iAt (srt l) i) i h).1 (Int.le_refl _)
    have h2 : cge (iAt (srt l) i) l ≤ cge (iAt (srt l) i * t) (mulL t l) := cge_le_of (mulL_length t l).symm fun j hj hx => by
      rw [mulL_at t l j hj]; exact Int.mul_le_mul_of_nonneg_right hx ht
    omega
theorem worst_mulL {l : List Int} {f lost : Int} (t : Int) (ht : 0 ≤ t) (h1 : spOk l f lost = true) (h2 : spOk (mulL t l) f lost = true) : worst (mulL t l) f lost = worst l f lost * t := by
  have e1 : spM (mulL t l) f lost = spM l f lost := by unfold spM; rw [mulL_length]
  have e2 : spK (mulL t l) f lost = spK l f lost := by unfold spK; rw [mulL_length]
  have hm := sp_mk h1
  have hv : ∀ j, jLo (spM l f lost) (spK l f lost) ≤ j → j ≤ spK l f lost → vJ (srt (mulL t l)) (spK l f lost) j = vJ (srt l) (spK l f lost) j * t := fun j j1 j2 => by
    have a := srt_mulL t ht l (spK l f lost - 1) (by omega)
    have b := srt_mulL t ht l (2 * spK l f lost - j - 1) (by unfold jLo at j1; omega)
    unfold vJ
    by_cases h0 : 0 < j
    · have c := srt_mulL t ht l (j - 1) (by omega)
      rw [if_pos h0, if_pos h0, a, b, c, ← Int.add_mul]
      generalize iAt (srt l) (spK l f lost - 1) + iAt (srt l) (2 * spK l f lost - j - 1) = x
      generalize iAt (srt l) (j - 1) = y
      unfold mn
      by_cases hxy : y < x
      · rw [if_pos hxy]
        have := Int.mul_le_mul_of_nonneg_right (Int.le_of_lt hxy) ht
        split <;> omega
      · rw [if_neg hxy]
        have := Int.mul_le_mul_of_nonneg_right (Int.not_lt.1 hxy) ht
        split <;> omega
    · rw [if_neg h0, if_neg h0, a, b, ← Int.add_mul]
  obtain ⟨j, j1, j2, j3⟩ := worst_at h1
  obtain ⟨i, i1, i2, i3⟩ := worst_at h2
  rw [e1, e2] at i1
  rw [e2] at i2 i3
  have g1 := worst_ge h1 i i1 i2
  have g2 := worst_ge h2 j (by rw [e1, e2]; exact j1) (by rw [e2]; exact j2)
  rw [e2, hv j j1 j2] at g2
  have g3 := Int.mul_le_mul_of_nonneg_right g1 ht
  rw [← hv i i1 i2] at g3
  rw [j3, i3] at *
  omega
end Go.Proofs.Ytiaahfccebmkdaa
