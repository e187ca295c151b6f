/- Plain laws of outliers: what the statements say of the least number, the sets, what is sure. -/
import Derived.Test.YtodkmbjhdckjiaaDoorOuO
namespace Go.Proofs.YtodkmbjhdckjiaaDoor
open Go.RowKit Go.Shelf
theorem not_wo {l : List Iv} {t : Int} {i : Nat} (hi : i < l.length) : (i : Int) ∉ woL l t ↔ hasB (iLo l i) (iHi l i) t = true := by
  rw [woL_mem]
  constructor
  · intro h
    cases hv : hasB (iLo l i) (iHi l i) t with
    | true => rfl
    | false => exact absurd ⟨i, hi, rfl, hv⟩ h
  · rintro h ⟨j, q1, q2, q3⟩
    have : i = j := by omega
    subst this
    rw [h] at q3; cases q3
section
variable {l : List Iv} (hl : ouOk l = true)
include hl
theorem sets_at {x : List Int} (h : x ∈ setsL l) : ∃ i, i < l.length ∧ x = woL l (iLo l i) ∧ (x.length : Int) = lst l := by
  obtain ⟨i, h1, h2, h3⟩ := ((setsL_spec hl).2 x).1 h
  exact ⟨i, h1, h2, by rw [h2]; exact h3⟩
theorem sets_rise {x : List Int} (h : x ∈ setsL l) : riTo x l.length x.length = true := by
  obtain ⟨i, h1, h2, h3⟩ := sets_at hl h
  subst h2
  refine riTo_true (woTo_sorted _ _ _) (fun z hz => ?_) _ (Nat.le_refl _)
  obtain ⟨j, q1, q2, _⟩ := (woL_mem _ _ _).1 hz
  omega
theorem agree_wo {t : Int} (h : (woL l t).length < l.length) : agB l (woL l t) = true := by
  rw [agB_iff hl]
  obtain ⟨i, h1, h2⟩ := wo_ex h
  exact ⟨⟨i, h1, (not_wo h1).2 h2⟩, t, fun j hj hn => (not_wo hj).1 hn⟩
theorem sets_agree {x : List Int} (h : x ∈ setsL l) : agB l x = true := by
  obtain ⟨i, h1, h2, h3⟩ := sets_at hl h
  have := (lst_spec hl).2.1
  subst h2
  exact agree_wo hl (by omega)
theorem zero_agree : (lst l == 0) = agB l [] := by
  rw [Bool.eq_iff_iff, beq_iff_eq, agB_iff hl]
  obtain ⟨h1, h2, h3, j, h4, h5⟩ := lst_spec hl
  constructor
  · intro h0
    have hn : woL l (iLo l j) = [] := List.eq_nil_of_length_eq_zero (by omega)
    exact ⟨⟨j, h4, by simp⟩, iLo l j, fun i hi _ => (not_wo hi).1 (by rw [hn]; simp)⟩
  · rintro ⟨_, t, ht⟩
    have hn : woL l t = [] := by
      apply List.eq_nil_iff_forall_not_mem.2
      intro z hz
      obtain ⟨i, q1, q2, q3⟩ := (woL_mem _ _ _).1 hz
      rw [ht i q1 (by simp)] at q3; cases q3
    have := h3 t
    rw [hn] at this
    simp at this
    omega
theorem zero_one (h : lst l = 0) : (setsL l).length = 1 := by
  have hp := setsL_pos hl
  have hs := (setsL_spec hl).1
  have hnil : ∀ x ∈ setsL l, x = [] := fun x hx => by
    obtain ⟨_, _, _, h3⟩ := sets_at hl hx
    exact List.eq_nil_of_length_eq_zero (by omega)
  rcases Nat.lt_or_ge 1 (setsL l).length with h1 | h1
  · have := List.pairwise_iff_getElem.1 hs 0 1 (by omega) h1 (by omega)
    rw [hnil _ (List.getElem_mem _), hnil _ (List.getElem_mem _)] at this
    unfold LtI at this
    simp [cmpI] at this
  · omega
theorem sets_lt {k : Nat} (h0 : 0 < k) (hk : k < (setsL l).length) : cmpI (rAt (setsL l) (k - 1)) (rAt (setsL l) k) < 0 := by
  have := List.pairwise_iff_getElem.1 (setsL_spec hl).1 (k - 1) k (by omega) hk (by omega)
  rw [rAt_lt _ _ (by omega), rAt_lt _ _ hk]
  exact this
/-- Of not more than the least: the others agree exactly if it is one of the sets. -/
theorem all_law {x : List Int} (hx : x.Pairwise (· < ·)) (_hb : ∀ z ∈ x, 0 ≤ z ∧ z < l.length) (hlen : (x.length : Int) ≤ lst l) : decide (x ∈ setsL l) = agB l x := by
  rw [Bool.eq_iff_iff, decide_eq_true_iff]
  refine ⟨fun h => sets_agree hl h, fun h => ?_⟩
  obtain ⟨_, t, ht⟩ := (agB_iff hl x).1 h
  have hsub := rise_sub (a := woL l t) (b := x) (woTo_sorted _ _ _) hx fun z hz => by
    obtain ⟨i, q1, q2, q3⟩ := (woL_mem _ _ _).1 hz
    subst q2
    apply Classical.byContradiction
    intro hn
    rw [ht i q1 hn] at q3; cases q3
  have h3 := (lst_spec hl).2.2.1 t
  have he := hsub.2 (by omega)
  obtain ⟨j, r1, r2, r3⟩ := lst_low hl (x := t) (by rw [he]; exact hlen)
  rw [← he]
  exact ((setsL_spec hl).2 _).2 ⟨j, r1, r2.symm, r3⟩
theorem truth_law (t : Int) : lst l ≤ (woL l t).length ∧ ((woL l t).length ≤ lst l → woL l t ∈ setsL l) := by
  refine ⟨(lst_spec hl).2.2.1 t, fun h => ?_⟩
  obtain ⟨j, r1, r2, r3⟩ := lst_low hl h
  exact ((setsL_spec hl).2 _).2 ⟨j, r1, r2.symm, r3⟩
theorem sure_mem (z : Int) : z ∈ sureL l ↔ ∃ i : Nat, i < l.length ∧ z = i ∧ ∀ y ∈ setsL l, z ∈ y := by
  unfold sureL; rw [if_pos hl]; exact suTo_mem _ _ _
theorem sure_sub {x : List Int} (h : x ∈ setsL l) : ∀ z ∈ sureL l, z ∈ x := fun z hz => by
  obtain ⟨_, _, _, h3⟩ := (sure_mem hl z).1 hz
  exact h3 x h
theorem sure_sorted : (sureL l).Pairwise (· < ·) := by unfold sureL; rw [if_pos hl]; exact suTo_sorted _ _
theorem sure_rise : riTo (sureL l) l.length (sureL l).length = true := by
  refine riTo_true (sure_sorted hl) (fun z hz => ?_) _ (Nat.le_refl _)
  obtain ⟨j, q1, q2, _⟩ := (sure_mem hl z).1 hz
  omega
theorem sure_len : ((sureL l).length : Int) ≤ lst l := by
  obtain ⟨y, hy⟩ := List.exists_mem_of_length_pos (setsL_pos hl)
  obtain ⟨i, h1, h2, h3⟩ := sets_at hl hy
  have := (rise_sub (a := sureL l) (b := y) (sure_sorted hl) (by rw [h2]; exact woTo_sorted _ _ _) (sure_sub hl hy)).1
  omega
end
/-- The statement's own check of one interval: at each end within it, of the first k, more are missing than the least. -/
def suB (l : List Iv) (i : Nat) : Nat → Bool
  | 0 => true
  | k + 1 => suB l i k && (!hasB (iLo l i) (iHi l i) (iLo l k) || decide (lst l < (woL l (iLo l k)).length)) && (!hasB (iLo l i) (iHi l i) (iHi l k) || decide (lst l < (woL l (iHi l k)).length))
theorem suB_iff (l : List Iv) (i : Nat) : ∀ k, (suB l i k = true ↔ ∀ j, j < k → (hasB (iLo l i) (iHi l i) (iLo l j) = true → lst l < (woL l (iLo l j)).length) ∧ (hasB (iLo l i) (iHi l i) (iHi l j) = true → lst l < (woL l (iHi l j)).length))
  | 0 => by simp [suB]
  | k + 1 => by
    have key : ∀ (b : Bool) (p : Prop) [Decidable p], (!b || decide p) = true ↔ (b = true → p) := fun b p _ => by cases b <;> simp
    unfold suB
    rw [Bool.and_eq_true, Bool.and_eq_true, suB_iff l i k, key, key]
    constructor
    · rintro ⟨⟨h1, h2⟩, h3⟩ j hj
      rcases Nat.lt_or_ge j k with h | h
      · exact h1 j h
      · obtain rfl : j = k := by omega
        exact ⟨h2, h3⟩
    · intro h; exact ⟨⟨fun j hj => h j (by omega), (h k (by omega)).1⟩, (h k (by omega)).2⟩
theorem sure_law {l : List Iv} (hl : ouOk l = true) {i : Nat} (hi : i < l.length) : decide ((i : Int) ∈ sureL l) = suB l i l.length := by
  have hv := ((ouOk_iff l).1 hl).2
  rw [Bool.eq_iff_iff, decide_eq_true_iff, suB_iff]
  constructor
  · intro h j hj
    obtain ⟨_, _, _, h3⟩ := (sure_mem hl _).1 h
    have key : ∀ t, hasB (iLo l i) (iHi l i) t = true → lst l < (woL l t).length := fun t ht => by
      apply Classical.byContradiction
      intro hn
      have h4 := h3 _ ((truth_law hl t).2 (by omega))
      exact ((not_wo hi).2 ht) h4
    exact ⟨key _, key _⟩
  · intro h
    refine (sure_mem hl _).2 ⟨i, hi, rfl, fun y hy => ?_⟩
    obtain ⟨j, h1, h2, h3⟩ := sets_at hl hy
    apply Classical.byContradiction
    intro hn
    subst h2
    have := (h j h1).1 ((not_wo hi).1 hn)
    omega
/-- Longer intervals do not make the least greater. -/
theorem longer_law {l m : List Iv} (hl : ouOk l = true) (hm : ouOk m = true) (hlen : l.length = m.length) (h : ∀ i, i < l.length → iLo m i ≤ iLo l i ∧ iHi l i ≤ iHi m i) : lst m ≤ lst l := by
  obtain ⟨_, _, _, j, h4, h5⟩ := lst_spec hl
  have h6 := (lst_spec hm).2.2.1 (iLo l j)
  have h7 := (wo_sub (l := l) (m := m) (x := iLo l j) (y := iLo l j) hlen fun i hi hb => by
    rw [hasB_iff] at *
    have := h i hi; omega).1
  omega
theorem woTo_left (l d : List Iv) (x : Int) : ∀ k, k ≤ l.length → woTo (l ++ d) x k = woTo l x k
  | 0, _ => rfl
  | k + 1, hk => by
    have e : iLo (l ++ d) k = iLo l k ∧ iHi (l ++ d) k = iHi l k := by
      simp [iLo, iHi, List.getD_eq_getElem?_getD, List.getElem?_append_left (show k < l.length by omega)]
    unfold woTo
    rw [e.1, e.2, woTo_left l d x k (by omega)]
theorem wo_snoc (l : List Iv) (p : Iv) (x : Int) : (woL l x).length ≤ (woL (l ++ [p]) x).length ∧ (woL (l ++ [p]) x).length ≤ (woL l x).length + 1 := by
  have hlen : (l ++ [p]).length = l.length + 1 := by simp
  unfold woL
  rw [hlen, woTo, woTo_left l [p] x _ (Nat.le_refl _)]
  split
  · omega
  · simp
theorem more_law {l : List Iv} {p : Iv} (hl : ouOk l = true) (hm : ouOk (l ++ [p]) = true) : lst (l ++ [p]) = lst l ∨ lst (l ++ [p]) = lst l + 1 := by
  obtain ⟨_, _, a3, j, h4, h5⟩ := lst_spec hl
  obtain ⟨_, _, b3, j', h4', h5'⟩ := lst_spec hm
  have c1 := b3 (iLo l j)
  have c2 := (wo_snoc l p (iLo l j)).2
  have c3 := a3 (iLo (l ++ [p]) j')
  have c4 := (wo_snoc l p (iLo (l ++ [p]) j')).1
  omega
/-- Among the first k lists is x. -/
def foB (sets : List (List Int)) (x : List Int) : Nat → Bool
  | 0 => false
  | k + 1 => foB sets x k || decide (x = rAt sets k)
theorem foB_iff (sets : List (List Int)) (x : List Int) : ∀ k, (foB sets x k = true ↔ ∃ j, j < k ∧ x = rAt sets j)
  | 0 => by simp [foB]
  | k + 1 => by
    simp only [foB, Bool.or_eq_true, foB_iff sets x k, decide_eq_true_eq]
    constructor
    · rintro (⟨j, h1, h2⟩ | h)
      · exact ⟨j, by omega, h2⟩
      · exact ⟨k, by omega, h⟩
    · rintro ⟨j, h1, h2⟩
      rcases Nat.lt_or_ge j k with h | h
      · exact .inl ⟨j, h, h2⟩
      · obtain rfl : j = k := by omega
        exact .inr h2
theorem foB_all (sets : List (List Int)) (x : List Int) : foB sets x sets.length = decide (x ∈ sets) := by
  rw [Bool.eq_iff_iff, foB_iff, decide_eq_true_iff]
  constructor
  · rintro ⟨j, h1, rfl⟩; exact rAt_mem h1
  · intro h
    obtain ⟨j, hj, e⟩ := List.getElem_of_mem h
    exact ⟨j, hj, by rw [rAt_lt _ _ hj, e]⟩
theorem cmpI_beq (x y : List Int) : (cmpI x y == 0) = decide (x = y) := by
  by_cases h : x = y
  · rw [h, cmpI_self]; simp
  · rw [decide_eq_false h, beq_eq_false_iff_ne]; exact fun e => h (cmpI_eq e)
end Go.Proofs.YtodkmbjhdckjiaaDoor
