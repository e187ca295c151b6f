/- Plain mathematics of what package outlier returns: the indexes of the intervals in which a time is not, the least number of them, the sets, what all sets have in common. -/
import Derived.Test.YtodkmbjhdckjiaaDoorIsO
namespace Go.Proofs.YtodkmbjhdckjiaaDoor
open Go.RowKit

/-- The indexes, among the first k, of the intervals in which a time is not. -/
def woTo (l : List Iv) (x : Int) : Nat → List Int
  | 0 => []
  | k + 1 => if hasB (iLo l k) (iHi l k) x = true then woTo l x k else woTo l x k ++ [(k : Int)]
def woL (l : List Iv) (x : Int) : List Int := woTo l x l.length
/-- The same as the bits of a number. -/
def mskTo (l : List Iv) (x : Int) : Nat → Nat
  | 0 => 0
  | k + 1 => if hasB (iLo l k) (iHi l k) x = true then mskTo l x k else mskTo l x k ||| 2 ^ k
def msk (l : List Iv) (x : Int) : Nat := mskTo l x l.length
def bitsTo (x : Nat) : Nat → List Int
  | 0 => []
  | k + 1 => if x.testBit k = true then bitsTo x k ++ [(k : Int)] else bitsTo x k
def bitsL (x : Nat) : List Int := bitsTo x 32
theorem mskTo_bit (l : List Iv) (x : Int) : ∀ k i, (mskTo l x k).testBit i = (decide (i < k) && !hasB (iLo l i) (iHi l i) x)
  | 0, i => by simp [mskTo]
  | k + 1, i => by
    have ih := mskTo_bit l x k i
    unfold mskTo
    split
    · rename_i h
      rw [ih]
      rcases Nat.lt_trichotomy i k with h1 | h1 | h1
      · simp [h1, Nat.lt_succ_of_lt h1]
      · subst h1; simp [h]
      · simp [show ¬ i < k by omega, show ¬ i < k + 1 by omega]
    · rename_i h
      rw [Nat.testBit_or, ih, Nat.testBit_two_pow]
      rcases Nat.lt_trichotomy i k with h1 | h1 | h1
      · simp [h1, Nat.lt_succ_of_lt h1, show k ≠ i by omega]
      · subst h1; simp [h]
      · simp [show ¬ i < k by omega, show ¬ i < k + 1 by omega, show k ≠ i by omega]
theorem mskTo_lt (l : List Iv) (x : Int) (k : Nat) : mskTo l x k < 2 ^ k :=
  Nat.lt_pow_two_of_testBit _ fun i hi => by rw [mskTo_bit]; simp [show ¬ i < k by omega]
theorem msk_lt32 {l : List Iv} (x : Int) (h : l.length ≤ 16) : msk l x < 65536 := by
  have := mskTo_lt l x l.length
  have h2 : 2 ^ l.length ≤ 2 ^ 16 := Nat.pow_le_pow_right (by decide) h
  unfold msk; omega
theorem bitsTo_eq {x y : Nat} : ∀ k, (∀ i, i < k → x.testBit i = y.testBit i) → bitsTo x k = bitsTo y k
  | 0, _ => rfl
  | k + 1, h => by unfold bitsTo; rw [h k (by omega), bitsTo_eq k fun i hi => h i (by omega)]
theorem bitsTo_more {x : Nat} {k : Nat} (h : x < 2 ^ k) : ∀ d, bitsTo x (k + d) = bitsTo x k
  | 0 => rfl
  | d + 1 => by
    have : x.testBit (k + d) = false := Nat.testBit_lt_two_pow (Nat.lt_of_lt_of_le h (Nat.pow_le_pow_right (by decide) (by omega)))
    rw [← Nat.add_assoc, bitsTo, this, bitsTo_more h d]; simp
theorem bitsTo_msk (l : List Iv) (x : Int) (n : Nat) : ∀ k, k ≤ n → bitsTo (mskTo l x n) k = woTo l x k
  | 0, _ => rfl
  | k + 1, h => by
    unfold bitsTo woTo
    rw [mskTo_bit, bitsTo_msk l x n k (by omega)]
    cases hv : hasB (iLo l k) (iHi l k) x <;> simp [show k < n by omega]
theorem bits_msk {l : List Iv} (x : Int) (h : l.length ≤ 16) : bitsL (msk l x) = woL l x := by
  unfold bitsL msk woL
  rw [show 32 = l.length + (32 - l.length) by omega, bitsTo_more (mskTo_lt l x l.length), bitsTo_msk l x _ _ (Nat.le_refl _)]
theorem bitsTo_mem (x : Nat) : ∀ k z, (z ∈ bitsTo x k ↔ ∃ i : Nat, i < k ∧ z = i ∧ x.testBit i = true)
  | 0, z => by simp [bitsTo]
  | k + 1, z => by
    unfold bitsTo
    split
    · rename_i h
      rw [List.mem_append, bitsTo_mem x k z, List.mem_singleton]
      constructor
      · rintro (⟨i, h1, h2⟩ | h1)
        · exact ⟨i, by omega, h2⟩
        · exact ⟨k, by omega, h1, h⟩
      · rintro ⟨i, h1, h2, h3⟩
        rcases Nat.lt_or_ge i k with h4 | h4
        · exact .inl ⟨i, h4, h2, h3⟩
        · obtain rfl : i = k := by omega
          exact .inr h2
    · rename_i h
      rw [bitsTo_mem x k z]
      constructor
      · rintro ⟨i, h1, h2⟩; exact ⟨i, by omega, h2⟩
      · rintro ⟨i, h1, h2, h3⟩
        rcases Nat.lt_or_ge i k with h4 | h4
        · exact ⟨i, h4, h2, h3⟩
        · obtain rfl : i = k := by omega
          exact absurd h3 h
theorem bitsTo_length (x : Nat) : ∀ k, (bitsTo x k).length ≤ k
  | 0 => Nat.le_refl _
  | k + 1 => by have := bitsTo_length x k; unfold bitsTo; split <;> simp <;> omega
theorem woTo_mem (l : List Iv) (x : Int) : ∀ k z, (z ∈ woTo l x k ↔ ∃ i : Nat, i < k ∧ z = i ∧ hasB (iLo l i) (iHi l i) x = false)
  | k, z => by
    rw [← bitsTo_msk l x k k (Nat.le_refl _), bitsTo_mem]
    constructor
    · rintro ⟨i, h1, h2, h3⟩; rw [mskTo_bit] at h3; exact ⟨i, h1, h2, by simpa [h1] using h3⟩
    · rintro ⟨i, h1, h2, h3⟩; exact ⟨i, h1, h2, by rw [mskTo_bit]; simp [h1, h3]⟩
theorem woTo_length (l : List Iv) (x : Int) (k : Nat) : (woTo l x k).length ≤ k := by
  rw [← bitsTo_msk l x k k (Nat.le_refl _)]; exact bitsTo_length _ _
theorem woTo_sorted (l : List Iv) (x : Int) : ∀ k, (woTo l x k).Pairwise (· < ·)
  | 0 => List.Pairwise.nil
  | k + 1 => by
    unfold woTo
    split
    · exact woTo_sorted l x k
    · refine List.pairwise_append.2 ⟨woTo_sorted l x k, List.pairwise_singleton _ _, fun z hz y hy => ?_⟩
      rw [List.mem_singleton] at hy
      obtain ⟨j, hj, h2, _⟩ := (woTo_mem l x k z).1 hz
      omega
theorem woL_mem (l : List Iv) (x z : Int) : z ∈ woL l x ↔ ∃ i : Nat, i < l.length ∧ z = i ∧ hasB (iLo l i) (iHi l i) x = false := woTo_mem l x l.length z
/-- Lists in a strict order that have the same members are one. -/
theorem strict_unique {α : Type} {R : α → α → Prop} (has : ∀ x y, R x y → ¬ R y x) : ∀ {a b : List α}, a.Pairwise R → b.Pairwise R → (∀ z, z ∈ a ↔ z ∈ b) → a = b
  | [], [], _, _, _ => rfl
  | [], y :: b, _, _, h => absurd ((h y).2 List.mem_cons_self) (by simp)
  | x :: a, [], _, _, h => absurd ((h x).1 List.mem_cons_self) (by simp)
  | x :: a, y :: b, ha, hb, h => by
    have ha' := List.pairwise_cons.1 ha
    have hb' := List.pairwise_cons.1 hb
    have hirr : ∀ z, ¬ R z z := fun z hz => has z z hz hz
    have hxy : x = y := by
      rcases List.mem_cons.1 ((h x).1 List.mem_cons_self) with h1 | h1
      · exact h1
      · rcases List.mem_cons.1 ((h y).2 List.mem_cons_self) with h2 | h2
        · exact h2.symm
        · exact absurd (hb'.1 x h1) (has _ _ (ha'.1 y h2))
    subst hxy
    have key : ∀ z, z ∈ a ↔ z ∈ b := fun z => by
      constructor
      · intro hz
        rcases List.mem_cons.1 ((h z).1 (List.mem_cons_of_mem _ hz)) with h1 | h1
        · subst h1; exact absurd (ha'.1 z hz) (hirr z)
        · exact h1
      · intro hz
        rcases List.mem_cons.1 ((h z).2 (List.mem_cons_of_mem _ hz)) with h1 | h1
        · subst h1; exact absurd (hb'.1 z hz) (hirr z)
        · exact h1
    rw [strict_unique has ha'.2 hb'.2 key]
theorem rise_unique {a b : List Int} (ha : a.Pairwise (· < ·)) (hb : b.Pairwise (· < ·)) (h : ∀ z, z ∈ a ↔ z ∈ b) : a = b := strict_unique (fun x y h1 h2 => by omega) ha hb h
theorem rise_sublist : ∀ {a b : List Int}, a.Pairwise (· < ·) → b.Pairwise (· < ·) → (∀ z, z ∈ a → z ∈ b) → a.Sublist b
  | [], _, _, _, _ => List.nil_sublist _
  | x :: a, [], _, _, h => absurd (h x List.mem_cons_self) (by simp)
  | x :: a, y :: b, ha, hb, h => by
    have ha' := List.pairwise_cons.1 ha
    have hb' := List.pairwise_cons.1 hb
    by_cases hxy : x = y
    · subst hxy
      refine List.Sublist.cons_cons x (rise_sublist ha'.2 hb'.2 fun z hz => ?_)
      rcases List.mem_cons.1 (h z (List.mem_cons_of_mem _ hz)) with h1 | h1
      · have := ha'.1 z hz; omega
      · exact h1
    · have hxb : x ∈ b := (List.mem_cons.1 (h x List.mem_cons_self)).resolve_left hxy
      have hlt := hb'.1 x hxb
      refine List.Sublist.cons y (rise_sublist ha hb'.2 fun z hz => ?_)
      rcases List.mem_cons.1 (h z hz) with h1 | h1
      · rcases List.mem_cons.1 hz with h2 | h2
        · omega
        · have := ha'.1 z h2; omega
      · exact h1
/-- Of two that rise, the one within the other is not longer; if it is as long, it is the other. -/
theorem rise_sub {a b : List Int} (ha : a.Pairwise (· < ·)) (hb : b.Pairwise (· < ·)) (h : ∀ z, z ∈ a → z ∈ b) : a.length ≤ b.length ∧ (b.length ≤ a.length → a = b) :=
  ⟨(rise_sublist ha hb h).length_le, fun hl => (rise_sublist ha hb h).eq_of_length_le hl⟩

def lstTo (l : List Iv) : Nat → Int
  | 0 => l.length
  | k + 1 => mn (lstTo l k) (woL l (iLo l k)).length
def lst (l : List Iv) : Int := lstTo l l.length
theorem lstTo_spec (l : List Iv) : ∀ k, lstTo l k ≤ l.length ∧ (∀ i, i < k → lstTo l k ≤ (woL l (iLo l i)).length) ∧ (lstTo l k = l.length ∨ ∃ i, i < k ∧ lstTo l k = (woL l (iLo l i)).length)
  | 0 => ⟨Int.le_refl _, fun i h => by omega, .inl rfl⟩
  | k + 1 => by
    obtain ⟨h1, h2, h3⟩ := lstTo_spec l k
    have hm := mn_spec (lstTo l k) (woL l (iLo l k)).length
    refine ⟨by unfold lstTo; omega, fun i hi => ?_, ?_⟩
    · unfold lstTo
      rcases Nat.lt_or_ge i k with h4 | h4
      · have := h2 i h4; omega
      · obtain rfl : i = k := by omega
        omega
    · unfold lstTo
      rcases hm.2.2 with h4 | h4
      · rw [h4]
        rcases h3 with h5 | ⟨i, h5, h6⟩
        · exact .inl h5
        · exact .inr ⟨i, by omega, h6⟩
      · exact .inr ⟨k, by omega, h4⟩
def ouOk (l : List Iv) : Bool := decide (1 ≤ l.length ∧ l.length ≤ 16) && allV l l.length
def ouEr (l : List Iv) : Int := if 16 < l.length then 2 else if ouOk l = true then 0 else 1
def lstV (l : List Iv) : Int := if ouOk l = true then lst l else 0
theorem lstV_ok {l : List Iv} (h : ouOk l = true) : lstV l = lst l := by unfold lstV; rw [if_pos h]
theorem lstV_no {l : List Iv} (h : ouOk l = false) : lstV l = 0 := by simp [lstV, h]
theorem ouOk_iff (l : List Iv) : ouOk l = true ↔ (1 ≤ l.length ∧ l.length ≤ 16) ∧ ∀ k, k < l.length → 0 ≤ iLo l k ∧ iLo l k ≤ iHi l k ∧ iHi l k ≤ 3000000000000000 := by
  unfold ouOk
  simp only [Bool.and_eq_true, decide_eq_true_eq]
  refine and_congr Iff.rfl ⟨fun h k hk => (validB_iff _ _).1 (allV_at l _ h k hk), fun h => ?_⟩
  have : ∀ n, n ≤ l.length → allV l n = true := by
    intro n
    induction n with
    | zero => intro _; rfl
    | succ n ih => intro hn; simp only [allV, Bool.and_eq_true]; exact ⟨ih (by omega), (validB_iff _ _).2 (h n (by omega))⟩
  exact this _ (Nat.le_refl _)
theorem woTo_dep (l : List Iv) (x : Int) : ∀ k, ((woTo l x k).length : Int) = k - dep l x k
  | 0 => by simp [woTo, dep]
  | k + 1 => by
    have ih := woTo_dep l x k
    unfold woTo
    split
    · rename_i h; rw [ih, dep, if_pos h]; omega
    · rename_i h; rw [List.length_append, dep, if_neg h]; simp; omega
/-- Whatever is in no less than another time misses no more. -/
theorem wo_sub {l m : List Iv} {x y : Int} (hl : l.length = m.length) (h : ∀ i, i < l.length → hasB (iLo l i) (iHi l i) x = true → hasB (iLo m i) (iHi m i) y = true) :
    (woL m y).length ≤ (woL l x).length ∧ ((woL l x).length ≤ (woL m y).length → woL m y = woL l x) := by
  refine rise_sub (woTo_sorted _ _ _) (woTo_sorted _ _ _) fun z hz => ?_
  obtain ⟨i, h1, h2, h3⟩ := (woL_mem m y z).1 hz
  refine (woL_mem l x z).2 ⟨i, by omega, h2, ?_⟩
  cases hv : hasB (iLo l i) (iHi l i) x with
  | false => rfl
  | true => rw [h i (by omega) hv] at h3; cases h3
theorem wo_all {l : List Iv} {x : Int} (h : ∀ i, i < l.length → hasB (iLo l i) (iHi l i) x = false) : (woL l x).length = l.length := by
  have key : ∀ k, k ≤ l.length → dep l x k = 0 := by
    intro k
    induction k with
    | zero => intro _; rfl
    | succ k ih => intro hk; rw [dep, ih (by omega), h k (by omega)]; simp
  have := woTo_dep l x l.length
  rw [key _ (Nat.le_refl _)] at this
  unfold woL; omega
theorem dep_pos {l : List Iv} {x : Int} {i : Nat} (hv : hasB (iLo l i) (iHi l i) x = true) : ∀ k, i < k → 0 < dep l x k
  | 0, h => by omega
  | k + 1, h => by
    have hb := dep_bd l x k
    rw [dep]
    rcases Nat.lt_or_ge i k with h1 | h1
    · have := dep_pos hv k h1; split <;> omega
    · obtain rfl : i = k := by omega
      rw [if_pos hv]; omega
theorem wo_some {l : List Iv} {x : Int} {i : Nat} (hi : i < l.length) (hv : hasB (iLo l i) (iHi l i) x = true) : (woL l x).length < l.length := by
  have := woTo_dep l x l.length
  have := dep_pos hv l.length hi
  unfold woL; omega
theorem wo_ex {l : List Iv} {x : Int} (h : (woL l x).length < l.length) : ∃ i, i < l.length ∧ hasB (iLo l i) (iHi l i) x = true := by
  apply Classical.byContradiction
  intro hn
  have := wo_all (l := l) (x := x) fun i hi => by
    cases hv : hasB (iLo l i) (iHi l i) x with
    | false => rfl
    | true => exact absurd ⟨i, hi, hv⟩ hn
  omega
theorem greatest_lo (l : List Iv) (x : Int) : ∀ k, (∃ i, i < k ∧ hasB (iLo l i) (iHi l i) x = true) → ∃ j, j < k ∧ hasB (iLo l j) (iHi l j) x = true ∧ ∀ i, i < k → hasB (iLo l i) (iHi l i) x = true → iLo l i ≤ iLo l j
  | 0, h => by obtain ⟨i, h1, _⟩ := h; omega
  | k + 1, h => by
    by_cases hk : ∃ i, i < k ∧ hasB (iLo l i) (iHi l i) x = true
    · obtain ⟨j, h1, h2, h3⟩ := greatest_lo l x k hk
      by_cases hb : hasB (iLo l k) (iHi l k) x = true ∧ iLo l j < iLo l k
      · refine ⟨k, by omega, hb.1, fun i hi hv => ?_⟩
        rcases Nat.lt_or_ge i k with h4 | h4
        · have := h3 i h4 hv; omega
        · obtain rfl : i = k := by omega
          exact Int.le_refl _
      · refine ⟨j, by omega, h2, fun i hi hv => ?_⟩
        rcases Nat.lt_or_ge i k with h4 | h4
        · exact h3 i h4 hv
        · obtain rfl : i = k := by omega
          exact Int.not_lt.1 fun h5 => hb ⟨hv, h5⟩
    · obtain ⟨i, hi, hv⟩ := h
      obtain rfl : i = k := by
        rcases Nat.lt_or_ge i k with h4 | h4
        · exact absurd ⟨i, h4, hv⟩ hk
        · omega
      refine ⟨i, hi, hv, fun z hz hvz => ?_⟩
      rcases Nat.lt_or_ge z i with h4 | h4
      · exact absurd ⟨z, h4, hvz⟩ hk
      · obtain rfl : z = i := by omega
        exact Int.le_refl _
theorem hasB_iff (a b x : Int) : hasB a b x = true ↔ a ≤ x ∧ x ≤ b := by simp [hasB]
/-- At the beginning of some interval no more are missing than at a time that is in one. -/
theorem wo_low {l : List Iv} {x : Int} (h : (woL l x).length < l.length) : ∃ j, j < l.length ∧ (woL l (iLo l j)).length ≤ (woL l x).length ∧ ((woL l x).length ≤ (woL l (iLo l j)).length → woL l (iLo l j) = woL l x) := by
  obtain ⟨j, h1, h2, h3⟩ := greatest_lo l x l.length (wo_ex h)
  refine ⟨j, h1, wo_sub rfl fun i hi hv => ?_⟩
  have := h3 i hi hv
  rw [hasB_iff] at *
  omega
section
variable {l : List Iv} (hl : ouOk l = true)
include hl
theorem wo_self {i : Nat} (hi : i < l.length) : (woL l (iLo l i)).length < l.length :=
  wo_some hi ((hasB_iff _ _ _).2 (by have := ((ouOk_iff l).1 hl).2 i hi; omega))
theorem lst_spec : 0 ≤ lst l ∧ lst l < l.length ∧ (∀ x, lst l ≤ (woL l x).length) ∧ ∃ i, i < l.length ∧ lst l = (woL l (iLo l i)).length := by
  obtain ⟨h1, h2, h3⟩ := lstTo_spec l l.length
  have hn := ((ouOk_iff l).1 hl).1
  have h0 := wo_self hl (i := 0) (by omega)
  have h4 := h2 0 (by omega)
  have hex : ∃ i, i < l.length ∧ lst l = (woL l (iLo l i)).length := by
    rcases h3 with h5 | h5
    · unfold lst at *; omega
    · exact h5
  obtain ⟨i, hi, hle⟩ := hex
  refine ⟨by omega, by unfold lst at *; omega, fun x => ?_, i, hi, hle⟩
  by_cases hx : (woL l x).length < l.length
  · obtain ⟨j, q1, q2, _⟩ := wo_low hx
    have := h2 j q1
    unfold lst; omega
  · unfold lst; omega
/-- Where no more than the least are missing there is a beginning at which just these are. -/
theorem lst_low {x : Int} (hx : (woL l x).length ≤ lst l) : ∃ j, j < l.length ∧ woL l (iLo l j) = woL l x ∧ ((woL l (iLo l j)).length : Int) = lst l := by
  obtain ⟨_, h1, h2, _⟩ := lst_spec hl
  obtain ⟨j, q1, q2, q3⟩ := wo_low (l := l) (x := x) (by omega)
  have := h2 (iLo l j)
  have := h2 x
  exact ⟨j, q1, q3 (by omega), by omega⟩
end
/-- Lists of integers, compared. -/
def cmpI : List Int → List Int → Int
  | [], [] => 0
  | [], _ :: _ => -1
  | _ :: _, [] => 1
  | x :: a, y :: b => if x < y then -1 else if y < x then 1 else cmpI a b
theorem cmpI_self : ∀ a, cmpI a a = 0
  | [] => rfl
  | x :: a => by simp [cmpI, cmpI_self a]
theorem cmpI_eq : ∀ {a b}, cmpI a b = 0 → a = b
  | [], [], _ => rfl
  | [], _ :: _, h => by simp [cmpI] at h
  | _ :: _, [], h => by simp [cmpI] at h
  | x :: a, y :: b, h => by
    unfold cmpI at h
    split at h
    · omega
    · split at h
      · omega
      · rw [cmpI_eq h, show x = y by omega]
theorem cmpI_neg : ∀ a b, cmpI b a = - cmpI a b
  | [], [] => rfl
  | [], _ :: _ => rfl
  | _ :: _, [] => rfl
  | x :: a, y :: b => by
    have ih := cmpI_neg a b
    unfold cmpI
    by_cases h1 : x < y
    · simp [h1, show ¬ y < x by omega]
    · by_cases h2 : y < x
      · simp [h2, h1]
      · simp [h1, h2, ih]
theorem cmpI_bd : ∀ a b, cmpI a b = -1 ∨ cmpI a b = 0 ∨ cmpI a b = 1
  | [], [] => .inr (.inl rfl)
  | [], _ :: _ => .inl rfl
  | _ :: _, [] => .inr (.inr rfl)
  | x :: a, y :: b => by
    unfold cmpI
    split
    · exact .inl rfl
    · split
      · exact .inr (.inr rfl)
      · exact cmpI_bd a b
theorem cmpI_trans : ∀ {a b c}, cmpI a b < 0 → cmpI b c < 0 → cmpI a c < 0
  | [], [], _, h, _ => by simp [cmpI] at h
  | [], _ :: _, [], _, h => by simp [cmpI] at h
  | [], _ :: _, _ :: _, _, _ => by simp [cmpI]
  | _ :: _, [], _, h, _ => by simp [cmpI] at h
  | _ :: _, _ :: _, [], _, h => by simp [cmpI] at h
  | x :: a, y :: b, z :: c, h1, h2 => by
    have ih := @cmpI_trans a b c
    unfold cmpI at h1 h2 ⊢
    by_cases q1 : x < y
    · by_cases q2 : y < z
      · rw [if_pos (by omega)]; omega
      · rw [if_neg q2] at h2
        by_cases q3 : z < y
        · rw [if_pos q3] at h2; omega
        · rw [if_pos (by omega)]; omega
    · rw [if_neg q1] at h1
      by_cases q3 : y < x
      · rw [if_pos q3] at h1; omega
      · rw [if_neg q3] at h1
        by_cases q2 : y < z
        · rw [if_pos (by omega)]; omega
        · rw [if_neg q2] at h2
          by_cases q4 : z < y
          · rw [if_pos q4] at h2; omega
          · rw [if_neg q4] at h2
            rw [if_neg (by omega), if_neg (by omega)]
            exact ih h1 h2
def LtI (a b : List Int) : Prop := cmpI a b < 0
theorem LtI.asymm (a b : List Int) (h : LtI a b) : ¬ LtI b a := by unfold LtI at *; rw [cmpI_neg a b]; omega
theorem cmpI_drop {a b : List Int} : ∀ k, k ≤ a.length → k ≤ b.length → (∀ i, i < k → iAt a i = iAt b i) → cmpI a b = cmpI (a.drop k) (b.drop k)
  | 0, _, _, _ => rfl
  | k + 1, ha, hb, h => by
    rw [cmpI_drop k (by omega) (by omega) fun i hi => h i (by omega)]
    rw [List.drop_eq_getElem_cons (show k < a.length by omega), List.drop_eq_getElem_cons (show k < b.length by omega)]
    have := h k (by omega)
    rw [iAt_lt _ _ (by omega), iAt_lt _ _ (by omega)] at this
    simp [cmpI, this]
theorem cmpI_at {a b : List Int} {k : Nat} (ha : k < a.length) (hb : k < b.length) (h : ∀ i, i < k → iAt a i = iAt b i) : cmpI a b = if iAt a k < iAt b k then -1 else if iAt b k < iAt a k then 1 else cmpI (a.drop (k + 1)) (b.drop (k + 1)) := by
  rw [cmpI_drop k (by omega) (by omega) h, List.drop_eq_getElem_cons ha, List.drop_eq_getElem_cons hb, iAt_lt _ _ ha, iAt_lt _ _ hb]
  rfl
theorem cmpI_end {a b : List Int} {k : Nat} (ha : k ≤ a.length) (hb : k ≤ b.length) (hk : k = a.length ∨ k = b.length) (h : ∀ i, i < k → iAt a i = iAt b i) : cmpI a b = if a.length < b.length then -1 else if b.length < a.length then 1 else 0 := by
  rw [cmpI_drop k ha hb h]
  rcases Nat.lt_trichotomy a.length b.length with h1 | h1 | h1
  · have : k = a.length := by omega
    subst this
    rw [List.drop_length, if_pos h1, List.drop_eq_getElem_cons h1]; rfl
  · have : k = a.length := by omega
    subst this
    rw [List.drop_length, h1, List.drop_length]; simp [cmpI]
  · have : k = b.length := by omega
    subst this
    rw [List.drop_length, if_neg (by omega), if_pos h1, List.drop_eq_getElem_cons h1]; rfl
/-- A list put in among lists in order, unless it is there. -/
def insD (x : List Int) : List (List Int) → List (List Int)
  | [] => [x]
  | y :: r => if cmpI x y < 0 then x :: y :: r else if cmpI x y = 0 then y :: r else y :: insD x r
theorem insD_mem (x : List Int) : ∀ r z, z ∈ insD x r ↔ z = x ∨ z ∈ r
  | [], z => by simp [insD]
  | y :: r, z => by
    unfold insD
    split
    · simp
    · split
      · rename_i h
        have := cmpI_eq h
        subst this
        simp
      · rw [List.mem_cons, insD_mem x r z, List.mem_cons]
        constructor
        · rintro (h | h | h) <;> simp [h]
        · rintro (h | h | h) <;> simp [h]
theorem insD_sorted (x : List Int) : ∀ r, r.Pairwise LtI → (insD x r).Pairwise LtI
  | [], _ => List.pairwise_singleton _ _
  | y :: r, h => by
    have h' := List.pairwise_cons.1 h
    unfold insD
    split
    · rename_i h1
      refine List.pairwise_cons.2 ⟨fun z hz => ?_, h⟩
      rcases List.mem_cons.1 hz with rfl | h2
      · exact h1
      · exact cmpI_trans h1 (h'.1 z h2)
    · split
      · exact h
      · rename_i h1 h2
        refine List.pairwise_cons.2 ⟨fun z hz => ?_, insD_sorted x r h'.2⟩
        rcases (insD_mem x r z).1 hz with rfl | h3
        · unfold LtI; rw [cmpI_neg z y]; omega
        · exact h'.1 z h3
theorem insD_length (x : List Int) : ∀ r, (insD x r).length ≤ r.length + 1
  | [] => by simp [insD]
  | y :: r => by
    have := insD_length x r
    unfold insD
    split
    · simp
    · split <;> simp <;> omega
def stTo (l : List Iv) (d : Int) : Nat → List (List Int)
  | 0 => []
  | k + 1 => if ((woL l (iLo l k)).length : Int) = d then insD (woL l (iLo l k)) (stTo l d k) else stTo l d k
def setsL (l : List Iv) : List (List Int) := if ouOk l = true then stTo l (lst l) l.length else []
theorem stTo_spec (l : List Iv) (d : Int) : ∀ k, (stTo l d k).Pairwise LtI ∧ (stTo l d k).length ≤ k ∧ ∀ z, z ∈ stTo l d k ↔ ∃ i, i < k ∧ z = woL l (iLo l i) ∧ ((woL l (iLo l i)).length : Int) = d
  | 0 => ⟨List.Pairwise.nil, Nat.le_refl _, fun z => by simp [stTo]⟩
  | k + 1 => by
    obtain ⟨h1, h2, h3⟩ := stTo_spec l d k
    unfold stTo
    split
    · rename_i hd
      refine ⟨insD_sorted _ _ h1, by have := insD_length (woL l (iLo l k)) (stTo l d k); omega, fun z => ?_⟩
      rw [insD_mem, h3 z]
      constructor
      · rintro (rfl | ⟨i, q1, q2⟩)
        · exact ⟨k, by omega, rfl, hd⟩
        · exact ⟨i, by omega, q2⟩
      · rintro ⟨i, q1, q2, q3⟩
        rcases Nat.lt_or_ge i k with q4 | q4
        · exact .inr ⟨i, q4, q2, q3⟩
        · obtain rfl : i = k := by omega
          exact .inl q2
    · rename_i hd
      refine ⟨h1, by omega, fun z => ?_⟩
      rw [h3 z]
      constructor
      · rintro ⟨i, q1, q2⟩; exact ⟨i, by omega, q2⟩
      · rintro ⟨i, q1, q2, q3⟩
        rcases Nat.lt_or_ge i k with q4 | q4
        · exact ⟨i, q4, q2, q3⟩
        · obtain rfl : i = k := by omega
          exact absurd q3 hd
def SetSpec (l : List Iv) (out : List (List Int)) : Prop := out.Pairwise LtI ∧ ∀ z, z ∈ out ↔ ∃ i, i < l.length ∧ z = woL l (iLo l i) ∧ ((woL l (iLo l i)).length : Int) = lst l
theorem setsL_spec {l : List Iv} (h : ouOk l = true) : SetSpec l (setsL l) := by
  unfold setsL; rw [if_pos h]
  exact ⟨(stTo_spec l (lst l) l.length).1, (stTo_spec l (lst l) l.length).2.2⟩
theorem SetSpec.unique {l : List Iv} {a b : List (List Int)} (ha : SetSpec l a) (hb : SetSpec l b) : a = b :=
  strict_unique LtI.asymm ha.1 hb.1 fun z => (ha.2 z).trans (hb.2 z).symm
theorem setsL_length (l : List Iv) : (setsL l).length ≤ l.length := by
  unfold setsL; split
  · exact (stTo_spec l (lst l) l.length).2.1
  · exact Nat.zero_le _
theorem setsL_pos {l : List Iv} (h : ouOk l = true) : 1 ≤ (setsL l).length := by
  obtain ⟨_, _, _, i, h1, h2⟩ := lst_spec h
  exact List.length_pos_of_mem (((setsL_spec h).2 _).2 ⟨i, h1, rfl, h2.symm⟩)
/-- The indexes, among the first k, that are in all of some lists. -/
def suTo (sets : List (List Int)) : Nat → List Int
  | 0 => []
  | k + 1 => if (sets.all fun y => y.contains (k : Int)) = true then suTo sets k ++ [(k : Int)] else suTo sets k
def sureL (l : List Iv) : List Int := if ouOk l = true then suTo (setsL l) l.length else []
theorem suTo_mem (sets : List (List Int)) : ∀ k z, (z ∈ suTo sets k ↔ ∃ i : Nat, i < k ∧ z = i ∧ ∀ y ∈ sets, z ∈ y)
  | 0, z => by simp [suTo]
  | k + 1, z => by
    unfold suTo
    have hc : (sets.all fun y => y.contains (k : Int)) = true ↔ ∀ y ∈ sets, (k : Int) ∈ y := by simp
    split
    · rename_i h
      rw [hc] at h
      rw [List.mem_append, suTo_mem sets k z, List.mem_singleton]
      constructor
      · rintro (⟨i, h1, h2⟩ | h1)
        · exact ⟨i, by omega, h2⟩
        · subst h1; exact ⟨k, by omega, rfl, h⟩
      · rintro ⟨i, h1, h2, h3⟩
        rcases Nat.lt_or_ge i k with h4 | h4
        · exact .inl ⟨i, h4, h2, h3⟩
        · obtain rfl : i = k := by omega
          exact .inr h2
    · rename_i h
      rw [hc] at h
      rw [suTo_mem sets k z]
      constructor
      · rintro ⟨i, h1, h2⟩; exact ⟨i, by omega, h2⟩
      · rintro ⟨i, h1, h2, h3⟩
        rcases Nat.lt_or_ge i k with h4 | h4
        · exact ⟨i, h4, h2, h3⟩
        · obtain rfl : i = k := by omega
          subst h2
          exact absurd h3 h
theorem suTo_sorted (sets : List (List Int)) : ∀ k, (suTo sets k).Pairwise (· < ·)
  | 0 => List.Pairwise.nil
  | k + 1 => by
    unfold suTo
    split
    · refine List.pairwise_append.2 ⟨suTo_sorted sets k, List.pairwise_singleton _ _, fun z hz y hy => ?_⟩
      rw [List.mem_singleton] at hy
      obtain ⟨j, hj, h2, _⟩ := (suTo_mem sets k z).1 hz
      omega
    · exact suTo_sorted sets k
theorem suTo_length (sets : List (List Int)) : ∀ k, (suTo sets k).length ≤ k
  | 0 => Nat.le_refl _
  | k + 1 => by have := suTo_length sets k; unfold suTo; split <;> simp <;> omega
end Go.Proofs.YtodkmbjhdckjiaaDoor
