/- Plain mathematics of SpreadAttained: the list without the lost ones, and its combination. -/
import Derived.Test.YtcpfifbchijleaaSpY
import Derived.Test.YtcpfifbchijleaaSpX
import Derived.Test.YtcpfifbchijleaaCbB
import Derived.Test.YtcpfifbchijleaaCbQ
namespace Go.Proofs.Ytcpfifbchijleaa
open Go.RowKit

def ivAt (L : List Iv) (i : Nat) : Iv := L.getD i (0, 0)
theorem ivAt_set (L : List Iv) (i j : Nat) (p : Iv) (hi : i < L.length) : ivAt (L.set i p) j = if i = j then p else ivAt L j := by
  by_cases h : i = j
  · subst h; rw [if_pos rfl]; simp [ivAt, List.getD_eq_getElem?_getD, hi]
  · rw [if_neg h]; simp [ivAt, List.getD_eq_getElem?_getD, List.getElem?_set_ne h]
theorem out_at {l : List Int} {m k : Nat} {x : Int} (hm : m ≤ l.length) : ∀ t, t ≤ m → ∀ p, p < t → ivAt (plOut l m k x t) (nAt (ordL l) p) = plP l m k x p
  | 0, _, p, h => by omega
  | t + 1, ht, p, h => by
    rw [plOut, ivAt_set _ _ _ _ (by rw [plOut_length]; exact ordL_bd l t (by omega))]
    by_cases e : t = p
    · subst e; rw [if_pos rfl]
    · rw [if_neg (fun h' => e (ordL_inj l (by omega) (by omega) h'))]
      exact out_at hm t (by omega) p (by omega)
theorem lie_at {l : List Int} {m k : Nat} {x : Int} : ∀ s, m + s ≤ l.length → (∀ p, p < m → ivAt (plLie l m k x s) (nAt (ordL l) p) = plP l m k x p) ∧ ∀ p, p < s → ivAt (plLie l m k x s) (nAt (ordL l) (m + p)) = plAll l m k x m
  | 0, h => ⟨fun p hp => out_at (by omega) m (Nat.le_refl _) p hp, fun p hp => by omega⟩
  | s + 1, h => by
    have ih := lie_at (l := l) (m := m) (k := k) (x := x) s (by omega)
    have hb : nAt (ordL l) (m + s) < (plLie l m k x s).length := by rw [plLie_length]; exact ordL_bd l _ (by omega)
    refine ⟨fun p hp => ?_, fun p hp => ?_⟩
    · rw [plLie, ivAt_set _ _ _ _ hb, if_neg (fun h' => by have := ordL_inj l (by omega) (by omega) h'; omega)]
      exact ih.1 p hp
    · rw [plLie, ivAt_set _ _ _ _ hb]
      by_cases e : s = p
      · subst e; rw [if_pos rfl]
      · rw [if_neg (fun h' => by have := ordL_inj l (by omega) (by omega) h'; omega)]
        exact ih.2 p (by omega)
/-- The intervals of the first i indexes, without those that are lost. -/
def attTo (A : List Iv) (P G : List Int) : Nat → List Iv
  | 0 => []
  | i + 1 => if roleP P G i < 2 then attTo A P G i ++ [ivAt A i] else attTo A P G i
theorem attTo_length (A : List Iv) (P G : List Int) : ∀ i, (attTo A P G i).length = cntTo (fun i => decide (roleP P G i < 2)) i
  | 0 => rfl
  | i + 1 => by
    rw [attTo, cntTo]
    by_cases h : roleP P G i < 2
    · rw [if_pos h, if_pos (decide_eq_true h), List.length_append, attTo_length A P G i]; rfl
    · rw [if_neg h, if_neg (by simpa using h), attTo_length A P G i]; rfl
theorem attTo_dep (A : List Iv) (P G : List Int) (y : Int) : ∀ i, dep (attTo A P G i) y (attTo A P G i).length = (cntTo (fun i => decide (roleP P G i < 2) && hasB (ivAt A i).1 (ivAt A i).2 y) i : Int)
  | 0 => rfl
  | i + 1 => by
    rw [attTo, cntTo]
    by_cases h : roleP P G i < 2
    · rw [if_pos h, dep_join, attTo_dep A P G y i, decide_eq_true h, Bool.true_and]
      have e : dep [ivAt A i] y [ivAt A i].length = if hasB (ivAt A i).1 (ivAt A i).2 y = true then 1 else 0 := by
        show (0 : Int) + _ = _
        simp [iLo, iHi]
      rw [e]
      split <;> simp
    · rw [if_neg h, attTo_dep A P G y i, decide_eq_false h, Bool.false_and]; simp
theorem cnt_range (h : Nat → Bool) : ∀ n, (List.range n).countP h = cntTo h n
  | 0 => rfl
  | n + 1 => by rw [List.range_succ, List.countP_append, cnt_range h n, cntTo]; simp [List.countP_cons]
theorem cnt_ord (l : List Int) (g : Nat → Bool) : cntTo g l.length = cntTo (fun p => g (nAt (ordL l) p)) l.length := by
  rw [← cnt_range, ← cnt_range]
  have e : ordL l = (List.range l.length).map (nAt (ordL l)) := by
    apply List.ext_getElem (by rw [ordL_length, List.length_map, List.length_range])
    intro i h1 h2
    rw [List.getElem_map, List.getElem_range, nAt_lt _ _ h1]
  have h1 := (ordTo_perm l l.length).countP_eq g
  have h2 : (ordL l).countP g = (List.range l.length).countP (fun p => g (nAt (ordL l) p)) := by
    conv => lhs; rw [e]
    rw [List.countP_map]
    rfl
  rw [← h2]
  exact h1.symm
theorem cnt_congr {p q : Nat → Bool} : ∀ n, (∀ t, t < n → p t = q t) → cntTo p n = cntTo q n
  | 0, _ => rfl
  | n + 1, h => by rw [cntTo, cntTo, cnt_congr n (fun t ht => h t (by omega)), h n (by omega)]
theorem cnt_const (p : Nat → Bool) (b : Bool) {a n : Nat} (h : a ≤ n) (hp : ∀ t, a ≤ t → t < n → p t = b) : cntTo p n = cntTo p a + if b = true then n - a else 0 := by
  cases b with
  | true => rw [if_pos rfl]; exact cnt_yes p h hp
  | false => rw [if_neg (by simp)]; exact cnt_no p h hp
theorem plAll_in (l : List Int) (m k : Nat) (x : Int) : ∀ n t, t < n → (plAll l m k x n).1 ≤ (plP l m k x t).1 ∧ (plP l m k x t).2 ≤ (plAll l m k x n).2
  | 0, t, h => by omega
  | n + 1, t, h => by
    have m1 := mn_spec (plAll l m k x n).1 (plP l m k x n).1
    have m2 := mx_spec (plAll l m k x n).2 (plP l m k x n).2
    simp only [plAll]
    by_cases e : t = n
    · subst e; omega
    · have := plAll_in l m k x n t (by omega); omega
end Go.Proofs.Ytcpfifbchijleaa
