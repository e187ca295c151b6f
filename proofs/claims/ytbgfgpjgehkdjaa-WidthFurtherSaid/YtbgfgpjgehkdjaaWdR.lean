/- Plain mathematics: a schedule with one more of the peers. -/
import Derived.Test.YtbgfgpjgehkdjaaWdQ
namespace Go.Proofs.Ytbgfgpjgehkdjaa
open Go.RowKit

def anyTo (use : List Int) (y : Int) : Nat → Bool
  | 0 => false
  | j + 1 => anyTo use y j || (iAt use j == y)
theorem anyTo_iff (use : List Int) (y : Int) : ∀ n, (anyTo use y n = true ↔ ∃ j, j < n ∧ iAt use j = y)
  | 0 => by simp [anyTo]
  | n + 1 => by
    simp only [anyTo, Bool.or_eq_true, anyTo_iff use y n, beq_iff_eq]
    constructor
    · rintro (⟨j, h1, h2⟩ | h)
      · exact ⟨j, by omega, h2⟩
      · exact ⟨n, by omega, h⟩
    · rintro ⟨j, h1, h2⟩
      rcases Nat.lt_or_ge j n with h | h
      · exact .inl ⟨j, h, h2⟩
      · obtain rfl : j = n := by omega
        exact .inr h2
def inU (use : List Int) (k i : Nat) : Bool := anyTo use i use.length || (i == k)
/-- The indexes below i that are in use, and k. -/
def fuL (use : List Int) (k i : Nat) : List Int := ((List.range i).filter (inU use k)).map fun x : Nat => (x : Int)
theorem fuL_succ (use : List Int) (k i : Nat) : fuL use k (i + 1) = if inU use k i = true then fuL use k i ++ [(i : Int)] else fuL use k i := by
  unfold fuL
  rw [List.range_succ, List.filter_append]
  by_cases h : inU use k i = true
  · rw [if_pos h]; simp [h]
  · rw [if_neg h]; simp [h]
theorem fuL_len (use : List Int) (k i : Nat) : (fuL use k i).length ≤ i := by
  unfold fuL
  rw [List.length_map]
  have := List.length_filter_le (inU use k) (List.range i)
  rwa [List.length_range] at this
def usd (use : List Int) (k : Nat) : Nat → Bool
  | 0 => false
  | i + 1 => usd use k i || (anyTo use i use.length && (i == k))
theorem usd_eq (use : List Int) (k : Nat) : ∀ n, usd use k n = (decide (k < n) && anyTo use k use.length)
  | 0 => by simp [usd]
  | n + 1 => by
    rw [usd, usd_eq use k n]
    by_cases h : n = k
    · subst h; simp
    · have : (n == k) = false := by rw [beq_eq_false_iff_ne]; exact h
      rw [this, Bool.and_false, Bool.or_false]
      congr 1
      rw [Bool.eq_iff_iff]; simp only [decide_eq_true_eq]; omega
theorem fuL_mem {use : List Int} {k n : Nat} (y : Int) : y ∈ fuL use k n ↔ (0 ≤ y ∧ y < n) ∧ (y ∈ use ∨ y = k) := by
  unfold fuL
  simp only [List.mem_map, List.mem_filter, List.mem_range, inU, Bool.or_eq_true, anyTo_iff, beq_iff_eq]
  constructor
  · rintro ⟨x, ⟨h1, h2⟩, rfl⟩
    refine ⟨by omega, ?_⟩
    rcases h2 with ⟨j, h3, h4⟩ | h2
    · exact .inl (h4 ▸ iAt_mem h3)
    · exact .inr (by rw [h2])
  · rintro ⟨⟨h1, h2⟩, h3⟩
    refine ⟨y.toNat, ⟨by omega, ?_⟩, by omega⟩
    rcases h3 with h3 | h3
    · obtain ⟨j, hj, e⟩ := List.getElem_of_mem h3
      exact .inl ⟨j, hj, by rw [iAt_lt _ _ hj, e]; omega⟩
    · exact .inr (by omega)
theorem fuL_up (use : List Int) (k n : Nat) : (fuL use k n).Pairwise (· < ·) := by
  unfold fuL
  rw [List.pairwise_map]
  refine List.Pairwise.imp ?_ (List.Pairwise.filter _ List.pairwise_lt_range)
  intro a b h
  omega
theorem ris_of {l : List Int} (h : l.Pairwise (· < ·)) (h0 : ∀ y, y ∈ l → 0 ≤ y) : risB l = true := by
  unfold risB
  rw [risTo_iff]
  intro j hj
  by_cases h1 : j = 0
  · rw [if_pos h1]
    have := h0 _ (iAt_mem hj)
    omega
  · rw [if_neg h1, iAt_lt _ _ hj, iAt_lt l (j - 1) (by omega)]
    exact List.pairwise_iff_getElem.1 h (j - 1) j (by omega) hj (by omega)
theorem ris_up {l : List Int} (h : risB l = true) : l.Pairwise (· < ·) := by
  have hr := (risTo_iff l l.length).1 h
  rw [List.pairwise_iff_getElem]
  intro i j hi hj hij
  rw [← iAt_lt l i hi, ← iAt_lt l j hj]
  clear hi
  induction j with
  | zero => omega
  | succ j ih =>
    have := hr (j + 1) hj
    rw [if_neg (by omega), show j + 1 - 1 = j by omega] at this
    rcases Nat.lt_or_ge i j with h' | h'
    · have := ih (by omega) h'; omega
    · obtain rfl : i = j := by omega
      exact this
theorem up_nodup {l : List Int} (h : l.Pairwise (· < ·)) : l.Nodup := List.Pairwise.imp (fun h => by omega) h
theorem fu_law {s : Si} {use : List Int} {ev : Int} {k : Nat} (h : rgB s use ev = true) (hk : k < s.ps.length) :
    rgB s (fuL use k s.ps.length) ev = true ∧ wdt s (fuL use k s.ps.length) ev ≤ wdt s use ev ∧ (anyTo use k use.length = true → wdt s (fuL use k s.ps.length) ev = wdt s use ev) := by
  obtain ⟨h1, h2, h3, h4, h5⟩ := (rgB_iff _ _ _).1 h
  have hu := ris_up h4
  have hin : ∀ y, y ∈ use → 0 ≤ y ∧ y < s.ps.length := by
    intro y hy
    obtain ⟨j, hj, e⟩ := List.getElem_of_mem hy
    have := h3 j hj
    rw [iAt_lt _ _ hj, e] at this
    exact this
  have hn := up_nodup (fuL_up use k s.ps.length)
  have hn2 := up_nodup hu
  have hU : ∀ y, y ∈ fuL use k s.ps.length ↔ (y ∈ use ∨ y = k) := by
    intro y
    rw [fuL_mem]
    constructor
    · exact fun h => h.2
    · intro h
      refine ⟨?_, h⟩
      rcases h with h | h
      · exact hin y h
      · omega
  have hcase : (anyTo use k use.length = true ∧ (fuL use k s.ps.length).Perm use) ∨ (anyTo use k use.length = false ∧ (fuL use k s.ps.length).Perm ((k : Int) :: use)) := by
    cases ha : anyTo use k use.length with
    | true =>
      left
      refine ⟨rfl, (List.perm_ext_iff_of_nodup hn hn2).2 fun y => ?_⟩
      rw [hU]
      obtain ⟨j, hj, e⟩ := (anyTo_iff use k use.length).1 ha
      constructor
      · rintro (h | rfl)
        · exact h
        · exact e ▸ iAt_mem hj
      · exact .inl
    | false =>
      right
      have hnk : (k : Int) ∉ use := by
        intro hm
        obtain ⟨j, hj, e⟩ := List.getElem_of_mem hm
        have := (anyTo_iff use k use.length).2 ⟨j, hj, by rw [iAt_lt _ _ hj, e]⟩
        rw [ha] at this; cases this
      refine ⟨rfl, (List.perm_ext_iff_of_nodup hn (List.nodup_cons.2 ⟨hnk, hn2⟩)).2 fun y => ?_⟩
      rw [hU, List.mem_cons]
      exact Or.comm
  have hlen : use.length ≤ (fuL use k s.ps.length).length := by
    rcases hcase with ⟨_, hp⟩ | ⟨_, hp⟩
    · rw [hp.length_eq]; exact Nat.le_refl _
    · rw [hp.length_eq, List.length_cons]; omega
  have hR : rgB s (fuL use k s.ps.length) ev = true := by
    rw [rgB_iff]
    refine ⟨h1, h2, fun j hj => ?_, ris_of (fuL_up _ _ _) (fun y hy => ((fuL_mem y).1 hy).1.1), by omega⟩
    exact ((fuL_mem _).1 (iAt_mem hj)).1
  have e1 : wdt s use ev = worst (wdL s.ps use) s.f s.lo + grw s.r (ev + s.tm) := by unfold wdt; rw [if_pos h]
  have e2 : wdt s (fuL use k s.ps.length) ev = worst (wdL s.ps (fuL use k s.ps.length)) s.f s.lo + grw s.r (ev + s.tm) := by unfold wdt; rw [if_pos hR]
  refine ⟨hR, ?_, ?_⟩
  · rw [e1, e2]
    rcases hcase with ⟨_, hp⟩ | ⟨_, hp⟩
    · have : (wdL s.ps (fuL use k s.ps.length)).Perm (wdL s.ps use) := hp.map _
      rw [worst_perm this]; exact Int.le_refl _
    · have hp2 : (wdL s.ps (fuL use k s.ps.length)).Perm (pWd (pAt s.ps (k : Int).toNat) :: wdL s.ps use) := hp.map _
      have := worst_more hp2 (rg_spOk h) (rg_spOk hR)
      omega
  · intro ha
    rw [e1, e2]
    rcases hcase with ⟨_, hp⟩ | ⟨hb, _⟩
    · have : (wdL s.ps (fuL use k s.ps.length)).Perm (wdL s.ps use) := hp.map _
      rw [worst_perm this]
    · rw [ha] at hb; cases hb
end Go.Proofs.Ytbgfgpjgehkdjaa
