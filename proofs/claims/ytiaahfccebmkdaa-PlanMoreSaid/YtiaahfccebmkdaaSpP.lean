/- Plain mathematics of package spread: the order of widths, and the greatest width. -/
import Derived.Test.YtiaahfccebmkdaaIsO
namespace Go.Proofs.Ytiaahfccebmkdaa
open Go.RowKit

def inB (n lo hi : Int) : Bool := decide (lo ≤ n ∧ n ≤ hi)
def allW (l : List Int) : Nat → Bool
  | 0 => true
  | k + 1 => allW l k && inB (iAt l k) 0 1000000000000
def spA (l : List Int) (f lost : Int) : Bool := inB l.length 1 16 && allW l l.length && inB f 0 16 && inB lost 0 16
def spOk (l : List Int) (f lost : Int) : Bool := spA l f lost && decide (2 * f < l.length - lost)
def spEr (l : List Int) (f lost : Int) : Int := if spA l f lost = true then (if 2 * f < l.length - lost then 0 else 20) else 1
theorem allW_iff (l : List Int) : ∀ k, (allW l k = true ↔ ∀ j, j < k → 0 ≤ iAt l j ∧ iAt l j ≤ 1000000000000)
  | 0 => by simp [allW]
  | k + 1 => by
    simp only [allW, Bool.and_eq_true, allW_iff l k, inB, decide_eq_true_eq]
    constructor
    · rintro ⟨h1, h2⟩ j hj
      rcases Nat.lt_or_ge j k with h | h
      · exact h1 j h
      · obtain rfl : j = k := by omega
        exact h2
    · intro h; exact ⟨fun j hj => h j (by omega), h k (by omega)⟩
theorem allW_false (l : List Int) (k : Nat) (hv : inB (iAt l k) 0 1000000000000 = false) (n : Nat) (h : k < n) : allW l n = false := by
  cases hh : allW l n with
  | false => rfl
  | true =>
    have := (allW_iff l n).1 hh k h
    simp only [inB, decide_eq_false_iff_not] at hv
    exact absurd this hv
theorem spOk_iff (l : List Int) (f lost : Int) : spOk l f lost = true ↔ ((1 ≤ l.length ∧ l.length ≤ 16) ∧ (∀ j, j < l.length → 0 ≤ iAt l j ∧ iAt l j ≤ 1000000000000)) ∧ (0 ≤ f ∧ f ≤ 16) ∧ (0 ≤ lost ∧ lost ≤ 16) ∧ 2 * f < l.length - lost := by
  simp only [spOk, spA, Bool.and_eq_true, allW_iff, inB, decide_eq_true_eq]
  constructor
  · rintro ⟨⟨⟨⟨h1, h2⟩, h3⟩, h4⟩, h5⟩; exact ⟨⟨by omega, h2⟩, h3, h4, h5⟩
  · rintro ⟨⟨h1, h2⟩, h3, h4, h5⟩; exact ⟨⟨⟨⟨by omega, h2⟩, h3⟩, h4⟩, h5⟩
theorem spEr_ok {l : List Int} {f lost : Int} (h : spOk l f lost = true) : spEr l f lost = 0 := by
  simp only [spOk, Bool.and_eq_true, decide_eq_true_eq] at h
  unfold spEr; rw [if_pos h.1, if_pos h.2]
theorem spEr_no {l : List Int} {f lost : Int} (h : spOk l f lost = false) : spEr l f lost = 1 ∨ spEr l f lost = 20 := by
  unfold spEr
  split
  · rename_i h1
    split
    · rename_i h2
      simp only [spOk, h1, Bool.true_and, decide_eq_false_iff_not] at h
      exact absurd h2 h
    · exact .inr rfl
  · exact .inl rfl
theorem spEr_zero {l : List Int} {f lost : Int} (h : spEr l f lost = 0) : spOk l f lost = true := by
  cases hh : spOk l f lost with
  | true => rfl
  | false => rcases spEr_no hh with h1 | h1 <;> omega

/-- The index x at its place among indexes whose widths fall: behind all that are not narrower. -/
def insW (l : List Int) (x : Nat) : List Nat → List Nat
  | [] => [x]
  | y :: r => if iAt l y < iAt l x then x :: y :: r else y :: insW l x r
def ordTo (l : List Int) : Nat → List Nat
  | 0 => []
  | k + 1 => insW l k (ordTo l k)
def ordL (l : List Int) : List Nat := ordTo l l.length
def toI (o : List Nat) : List Int := o.map fun n : Nat => (n : Int)
def nAt (o : List Nat) (i : Nat) : Nat := o.getD i 0
theorem nAt_lt (o : List Nat) (i : Nat) (h : i < o.length) : nAt o i = o[i] := by simp [nAt, List.getD_eq_getElem?_getD, List.getElem?_eq_getElem h]
theorem nAt_mem {o : List Nat} {i : Nat} (h : i < o.length) : nAt o i ∈ o := by rw [nAt_lt o i h]; exact List.getElem_mem h
theorem toI_length (o : List Nat) : (toI o).length = o.length := by simp [toI]
theorem toI_at (o : List Nat) (i : Nat) (h : i < o.length) : iAt (toI o) i = (nAt o i : Int) := by
  rw [iAt_lt _ _ (by rw [toI_length]; exact h), nAt_lt o i h]; simp [toI]
theorem insW_perm (l : List Int) (x : Nat) : ∀ o, (insW l x o).Perm (x :: o)
  | [] => List.Perm.refl _
  | y :: r => by
    unfold insW
    split
    · exact List.Perm.refl _
    · exact ((insW_perm l x r).cons y).trans (List.Perm.swap x y r)
theorem insW_split (l : List Int) (x : Nat) : ∀ (A B : List Nat), (∀ a, a ∈ A → ¬ iAt l a < iAt l x) → (∀ b, b ∈ B → iAt l b < iAt l x) → insW l x (A ++ B) = A ++ x :: B
  | [], [], _, _ => rfl
  | [], b :: B, _, h => by
    show insW l x (b :: B) = x :: b :: B
    unfold insW; rw [if_pos (h b List.mem_cons_self)]
  | a :: A, B, h, h2 => by
    show insW l x (a :: (A ++ B)) = a :: (A ++ x :: B)
    unfold insW; rw [if_neg (h a List.mem_cons_self), insW_split l x A B (fun c hc => h c (List.mem_cons_of_mem _ hc)) h2]
/-- The widths fall. -/
def Fall (l : List Int) (o : List Nat) : Prop := o.Pairwise fun a b => iAt l b ≤ iAt l a
theorem insW_fall (l : List Int) (x : Nat) : ∀ o, Fall l o → Fall l (insW l x o)
  | [], _ => List.pairwise_singleton _ _
  | y :: r, h => by
    have h' := List.pairwise_cons.1 h
    unfold insW
    split
    · rename_i hlt
      refine List.pairwise_cons.2 ⟨fun z hz => ?_, h⟩
      rcases List.mem_cons.1 hz with rfl | hz
      · omega
      · have := h'.1 z hz; omega
    · rename_i hlt
      refine List.pairwise_cons.2 ⟨fun z hz => ?_, insW_fall l x r h'.2⟩
      rcases List.mem_cons.1 ((insW_perm l x r).mem_iff.1 hz) with rfl | hz
      · omega
      · exact h'.1 z hz
theorem ordTo_perm (l : List Int) : ∀ k, (ordTo l k).Perm (List.range k)
  | 0 => List.Perm.refl _
  | k + 1 => by
    rw [List.range_succ]
    exact (insW_perm l k _).trans (((ordTo_perm l k).cons k).trans (List.perm_append_comm (l₁ := [k])))
theorem ordTo_length (l : List Int) (k : Nat) : (ordTo l k).length = k := by rw [(ordTo_perm l k).length_eq, List.length_range]
theorem ordTo_fall (l : List Int) : ∀ k, Fall l (ordTo l k)
  | 0 => List.Pairwise.nil
  | k + 1 => insW_fall l k _ (ordTo_fall l k)
theorem ordTo_lt {l : List Int} {k x : Nat} (h : x ∈ ordTo l k) : x < k := List.mem_range.1 ((ordTo_perm l k).mem_iff.1 h)
/-- The widths from the widest to the narrowest. -/
def srt (l : List Int) : List Int := (ordL l).map fun i => iAt l i
theorem ordL_length (l : List Int) : (ordL l).length = l.length := ordTo_length l _
theorem srt_length (l : List Int) : (srt l).length = l.length := by simp [srt, ordL_length]
theorem srt_at (l : List Int) (i : Nat) (h : i < l.length) : iAt (srt l) i = iAt l (nAt (ordL l) i) := by
  have h1 : i < (ordL l).length := by rw [ordL_length]; exact h
  rw [iAt_lt _ _ (by rw [srt_length]; exact h), nAt_lt _ _ h1]; simp [srt]
theorem ordL_bd (l : List Int) (i : Nat) (h : i < l.length) : nAt (ordL l) i < l.length := ordTo_lt (nAt_mem (show i < (ordL l).length by rw [ordL_length]; exact h))
theorem srt_fall (l : List Int) {i j : Nat} (hij : i ≤ j) (hj : j < l.length) : iAt (srt l) j ≤ iAt (srt l) i := by
  rcases Nat.lt_or_ge i j with h | h
  · rw [srt_at l i (by omega), srt_at l j hj, nAt_lt (ordL l) i (by rw [ordL_length]; omega), nAt_lt (ordL l) j (by rw [ordL_length]; omega)]
    exact List.pairwise_iff_getElem.1 (ordTo_fall l l.length) i j (by rw [ordTo_length]; omega) (by rw [ordTo_length]; omega) h
  · obtain rfl : i = j := by omega
    exact Int.le_refl _
theorem map_range_self (l : List Int) : (List.range l.length).map (fun i => iAt l i) = l := by
  apply List.ext_getElem (by simp)
  intro i h1 h2
  simp only [List.getElem_map, List.getElem_range]
  exact iAt_lt l i h2
theorem srt_perm (l : List Int) : (srt l).Perm l := by
  have h := (ordTo_perm l l.length).map (fun i => iAt l i)
  rwa [map_range_self] at h
theorem srt_bd (l : List Int) (h : ∀ j, j < l.length → 0 ≤ iAt l j ∧ iAt l j ≤ 1000000000000) (i : Nat) : 0 ≤ iAt (srt l) i ∧ iAt (srt l) i ≤ 1000000000000 := by
  rcases Nat.lt_or_ge i l.length with hi | hi
  · rw [srt_at l i hi]; exact h _ (ordL_bd l i hi)
  · have : iAt (srt l) i = 0 := by simp [iAt, List.getD_eq_getElem?_getD, List.getElem?_eq_none (show (srt l).length ≤ i by rw [srt_length]; exact hi)]
    omega

/-- The width for j intervals that are wide on both sides. -/
def vJ (D : List Int) (k j : Nat) : Int := if 0 < j then mn (iAt D (k - 1) + iAt D (2 * k - j - 1)) (iAt D (j - 1)) else iAt D (k - 1) + iAt D (2 * k - j - 1)
def bst (D : List Int) (k j0 : Nat) : Nat → Int × Int
  | 0 => (-1, -1)
  | t + 1 => if vJ D k (j0 + t) > (bst D k j0 t).2 then (((j0 + t : Nat) : Int), vJ D k (j0 + t)) else bst D k j0 t
def jLo (m k : Nat) : Nat := 2 * k - m
def bestP (D : List Int) (m k : Nat) : Int × Int := bst D k (jLo m k) (k - jLo m k + 1)
theorem bst_max (D : List Int) (k j0 : Nat) : ∀ t, (∀ s, s < t → vJ D k (j0 + s) ≤ (bst D k j0 t).2) ∧ (0 < t → (∀ s, s < t → 0 ≤ vJ D k (j0 + s)) → ∃ s, s < t ∧ bst D k j0 t = (((j0 + s : Nat) : Int), vJ D k (j0 + s)) ∧ ∀ r, r < s → vJ D k (j0 + r) < vJ D k (j0 + s))
  | 0 => ⟨fun s h => by omega, fun h => by omega⟩
  | t + 1 => by
    obtain ⟨h1, h2⟩ := bst_max D k j0 t
    have e : bst D k j0 (t + 1) = if vJ D k (j0 + t) > (bst D k j0 t).2 then (((j0 + t : Nat) : Int), vJ D k (j0 + t)) else bst D k j0 t := rfl
    rw [e]
    by_cases h : vJ D k (j0 + t) > (bst D k j0 t).2
    · rw [if_pos h]
      refine ⟨fun s hs => ?_, fun _ _ => ⟨t, by omega, rfl, fun r hr => by have := h1 r hr; omega⟩⟩
      rcases Nat.lt_or_ge s t with h3 | h3
      · have := h1 s h3; show _ ≤ vJ D k (j0 + t); omega
      · obtain rfl : s = t := by omega
        exact Int.le_refl _
    · rw [if_neg h]
      refine ⟨fun s hs => ?_, fun _ hp => ?_⟩
      · rcases Nat.lt_or_ge s t with h3 | h3
        · exact h1 s h3
        · obtain rfl : s = t := by omega
          omega
      · rcases Nat.eq_zero_or_pos t with h0 | h0
        · subst h0
          have := hp 0 (by omega)
          simp only [bst] at h
          omega
        · obtain ⟨s, h3, h4, h5⟩ := h2 h0 (fun s hs => hp s (by omega))
          exact ⟨s, by omega, h4, h5⟩
/-- m intervals are right, and k have to agree. -/
def spM (l : List Int) (f lost : Int) : Nat := (l.length - lost - f).toNat
def spK (l : List Int) (f lost : Int) : Nat := (l.length - lost - 2 * f).toNat
theorem sp_mk {l : List Int} {f lost : Int} (h : spOk l f lost = true) : (spM l f lost : Int) = l.length - lost - f ∧ (spK l f lost : Int) = l.length - lost - 2 * f ∧ 1 ≤ spK l f lost ∧ spK l f lost ≤ spM l f lost ∧ spM l f lost ≤ l.length ∧ l.length ≤ 16 := by
  rw [spOk_iff] at h
  unfold spM spK
  omega
def worst (l : List Int) (f lost : Int) : Int := if spOk l f lost = true then (bestP (srt l) (spM l f lost) (spK l f lost)).2 else 0
end Go.Proofs.Ytiaahfccebmkdaa
