/- Plain mathematics of package watch: what a closed round is, and its alarms. -/
import Derived.Test.YthklljlachljgaaCbP
import Derived.Test.YthklljlachljgaaIsO
namespace Go.Proofs.Ythklljlachljgaa
open Go.RowKit

def inB (n lo hi : Int) : Bool := decide (lo ≤ n ∧ n ≤ hi)
def lastA (l : List Int) : Nat → Int
  | 0 => 0
  | k + 1 => iAt l k
def auB (l : List Int) : Nat → Bool
  | 0 => true
  | k + 1 => auB l k && inB (iAt l k) (lastA l k + 1) 16
def allO (l : List Int) : Nat → Bool
  | 0 => true
  | k + 1 => allO l k && inB (iAt l k) 0 16
def rndB (a b : Int) (au : List Int) (l : List Iv) (f lost asked promise : Int) : Bool :=
  auB au au.length && (validB a b && decide (au.length = l.length) && allV l l.length && (inB f 0 16 && inB lost 0 16 && inB asked 0 16) && inB promise 0 3000000000000000)
theorem auB_at (l : List Int) : ∀ n, auB l n = true → ∀ k, k < n → inB (iAt l k) (lastA l k + 1) 16 = true
  | 0, _, k, h => by omega
  | n + 1, h, k, hk => by
    simp only [auB, Bool.and_eq_true] at h
    rcases Nat.lt_or_ge k n with h1 | h1
    · exact auB_at l n h.1 k h1
    · obtain rfl : k = n := by omega
      exact h.2
theorem auB_false (l : List Int) (k : Nat) (hv : inB (iAt l k) (lastA l k + 1) 16 = false) (n : Nat) (h : k < n) : auB l n = false := by
  cases hh : auB l n with
  | false => rfl
  | true => rw [auB_at l n hh k h] at hv; cases hv
theorem lastA_bd (l : List Int) : ∀ n, auB l n = true → 0 ≤ lastA l n ∧ lastA l n ≤ 16 ∧ n ≤ lastA l n
  | 0, _ => by simp [lastA]
  | n + 1, h => by
    simp only [auB, Bool.and_eq_true, inB, decide_eq_true_eq] at h
    have := lastA_bd l n h.1
    simp only [lastA]; omega
theorem au_len {l : List Int} (h : auB l l.length = true) : l.length ≤ 16 := by have := lastA_bd l l.length h; omega
theorem au_rise {l : List Int} (h : auB l l.length = true) {i j : Nat} (hij : i < j) (hj : j < l.length) : iAt l i < iAt l j := by
  induction j with
  | zero => omega
  | succ j ih =>
    have h1 := auB_at l l.length h (j + 1) hj
    have e : lastA l (j + 1) = iAt l j := rfl
    rw [e] at h1
    simp only [inB, decide_eq_true_eq] at h1
    rcases Nat.lt_or_ge i j with h2 | h2
    · have := ih h2 (by omega); omega
    · obtain rfl : i = j := by omega
      omega
theorem au_bd {l : List Int} (h : auB l l.length = true) {i : Nat} (hi : i < l.length) : 1 ≤ iAt l i ∧ iAt l i ≤ 16 := by
  have h1 := auB_at l l.length h i hi
  simp only [inB, decide_eq_true_eq] at h1
  have h2 : 0 ≤ lastA l i := by
    cases i with
    | zero => simp [lastA]
    | succ i =>
      have h3 := auB_at l l.length h i (by omega)
      simp only [inB, decide_eq_true_eq] at h3
      have : 0 ≤ lastA l i := by
        have := lastA_bd l i (by
          cases hh : auB l i with
          | true => rfl
          | false =>
            exfalso
            have key : ∀ n, auB l n = true → ∀ k, k ≤ n → auB l k = true := fun n => by
              induction n with
              | zero => intro _ k hk; obtain rfl : k = 0 := by omega
                        rfl
              | succ n ih =>
                intro hn k hk
                rcases Nat.lt_or_ge k (n + 1) with h4 | h4
                · simp only [auB, Bool.and_eq_true] at hn; exact ih hn.1 k (by omega)
                · obtain rfl : k = n + 1 := by omega
                  exact hn
            rw [key _ h i (by omega)] at hh; cases hh)
        omega
      show 0 ≤ iAt l i
      omega
  omega
theorem allO_false (l : List Int) (k : Nat) (hv : inB (iAt l k) 0 16 = false) : ∀ n, k < n → allO l n = false
  | 0, h => by omega
  | n + 1, h => by
    rcases Nat.lt_or_ge k n with h1 | h1
    · simp [allO, allO_false l k hv n h1]
    · obtain rfl : n = k := by omega
      simp [allO, hv]
theorem allO_three (f lost asked : Int) : allO [f, lost, asked] [f, lost, asked].length = (inB f 0 16 && inB lost 0 16 && inB asked 0 16) := by simp [allO, iAt]

def fewB (l : List Iv) (f lost asked : Int) : Bool := decide ((l.length : Int) < asked - lost ∨ (l.length : Int) ≤ f)
def jumpB (a b : Int) (l : List Iv) (f : Int) : Bool := !crossB a b (cbLo l f) (cbHi l f)
def wideB (l : List Iv) (f promise : Int) : Bool := decide (0 < promise ∧ promise < cbHi l f - cbLo l f)
def liesTo (au o : List Int) : Nat → List Iv
  | 0 => []
  | k + 1 => liesTo au o k ++ [(4, iAt au (iAt o k).toNat)]
def lies (au : List Int) (l : List Iv) (f : Int) : List Iv := liesTo au (outL l f) (outL l f).length
/-- How a closed round goes: not one, too few, no common time, or a combination. -/
inductive Way | arg | few | empty | ok
def way (a b : Int) (au : List Int) (l : List Iv) (f lost asked promise : Int) : Way :=
  if rndB a b au l f lost asked promise = true then (if fewB l f lost asked = true then .few else if cbEr l f = 0 then .ok else .empty) else .arg
def alL (a b : Int) (au : List Int) (l : List Iv) (f lost asked promise : Int) : List Iv :=
  match way a b au l f lost asked promise with
  | .arg => []
  | .few => [(2, 0)]
  | .empty => [(1, 0)]
  | .ok => (if jumpB a b l f = true then [(3, 0)] else []) ++ lies au l f ++ (if wideB l f promise = true then [(5, 0)] else [])
def ckLo (a b : Int) (au : List Int) (l : List Iv) (f lost asked promise : Int) : Int :=
  match way a b au l f lost asked promise with
  | .ok => cbLo l f
  | _ => 0
def ckHi (a b : Int) (au : List Int) (l : List Iv) (f lost asked promise : Int) : Int :=
  match way a b au l f lost asked promise with
  | .ok => cbHi l f
  | _ => 0
def ckIs (a b : Int) (au : List Int) (l : List Iv) (f lost asked promise : Int) : Bool :=
  match way a b au l f lost asked promise with
  | .ok => true
  | _ => false
def ckEr (a b : Int) (au : List Int) (l : List Iv) (f lost asked promise : Int) : Int :=
  match way a b au l f lost asked promise with
  | .arg => 1
  | _ => 0
theorem liesTo_length (au o : List Int) : ∀ k, (liesTo au o k).length = k
  | 0 => rfl
  | k + 1 => by rw [liesTo, List.length_append, liesTo_length au o k]; rfl
theorem liesTo_mem (au o : List Int) : ∀ k p, (p ∈ liesTo au o k ↔ ∃ j, j < k ∧ p = (4, iAt au (iAt o j).toNat))
  | 0, p => by simp [liesTo]
  | k + 1, p => by
    rw [liesTo, List.mem_append, liesTo_mem au o k p, List.mem_singleton]
    constructor
    · rintro (⟨j, hj, e⟩ | e)
      · exact ⟨j, by omega, e⟩
      · exact ⟨k, by omega, e⟩
    · rintro ⟨j, hj, e⟩
      rcases Nat.lt_or_ge j k with h | h
      · exact .inl ⟨j, h, e⟩
      · obtain rfl : j = k := by omega
        exact .inr e
/-- An alarm that is one. -/
def isAl (p : Iv) : Bool := !decide (p = (0, 0))
theorem liesTo_filter (au o : List Int) (k : Nat) : (liesTo au o k).filter isAl = liesTo au o k := by
  rw [List.filter_eq_self]
  intro p hp
  obtain ⟨j, _, rfl⟩ := (liesTo_mem au o k p).1 hp
  simp [isAl]
theorem rndB_iff (a b : Int) (au : List Int) (l : List Iv) (f lost asked promise : Int) : rndB a b au l f lost asked promise = true ↔
    auB au au.length = true ∧ validB a b = true ∧ au.length = l.length ∧ allV l l.length = true ∧ (0 ≤ f ∧ f ≤ 16) ∧ (0 ≤ lost ∧ lost ≤ 16) ∧ (0 ≤ asked ∧ asked ≤ 16) ∧ 0 ≤ promise ∧ promise ≤ 3000000000000000 := by
  simp only [rndB, Bool.and_eq_true, inB, decide_eq_true_eq]
  constructor
  · rintro ⟨h1, ⟨⟨⟨h2, h3⟩, h4⟩, ⟨h5, h6⟩, h7⟩, h8⟩; exact ⟨h1, h2, h3, h4, h5, h6, h7, h8⟩
  · rintro ⟨h1, h2, h3, h4, h5, h6, h7, h8⟩; exact ⟨h1, ⟨⟨⟨h2, h3⟩, h4⟩, ⟨h5, h6⟩, h7⟩, h8⟩
theorem rnd_list {a b : Int} {au : List Int} {l : List Iv} {f lost asked promise : Int} (h : rndB a b au l f lost asked promise = true) : listB l = true ∧ l.length ≤ 16 ∧ au.length = l.length := by
  rw [rndB_iff] at h
  have := au_len h.1
  refine ⟨?_, by omega, h.2.2.1⟩
  simp only [listB, Bool.and_eq_true, decide_eq_true_eq]
  exact ⟨by omega, h.2.2.2.1⟩
def missB (sent every timeout at_ : Int) : Bool := decide (at_ - sent > every + timeout)
def missEr (sent every timeout at_ : Int) : Int :=
  if inB sent 0 3000000000000000 = true ∧ inB at_ 0 3000000000000000 = true ∧ inB every 1 1000000000000 = true ∧ inB timeout 1 1000000000 = true then (if at_ < sent then 30 else 0) else 1
def missIs (sent every timeout at_ : Int) : Bool := decide (missEr sent every timeout at_ = 0) && missB sent every timeout at_
end Go.Proofs.Ythklljlachljgaa
