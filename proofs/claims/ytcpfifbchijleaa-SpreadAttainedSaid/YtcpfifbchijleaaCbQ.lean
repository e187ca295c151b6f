/- More plain mathematics of depths: counts, lists that are joined. -/
import Derived.Test.YtcpfifbchijleaaCbP
namespace Go.Proofs.Ytcpfifbchijleaa
open Go.RowKit
theorem lo_at (l : List Iv) (n : Nat) (h : n < l.length) : iLo l n = l[n].1 := by simp [iLo, List.getD_eq_getElem?_getD, List.getElem?_eq_getElem h]
theorem hi_at (l : List Iv) (n : Nat) (h : n < l.length) : iHi l n = l[n].2 := by simp [iHi, List.getD_eq_getElem?_getD, List.getElem?_eq_getElem h]
theorem dep_count (l : List Iv) (t : Int) : dep l t l.length = ((l.countP fun p => hasB p.1 p.2 t : Nat) : Int) := by
  have key : ∀ n, n ≤ l.length → dep l t n = (((l.take n).countP fun p => hasB p.1 p.2 t : Nat) : Int) := by
    intro n
    induction n with
    | zero => intro _; simp [dep]
    | succ n ih =>
      intro hn
      have hlt : n < l.length := hn
      rw [dep, ih (by omega), List.take_add_one, List.getElem?_eq_getElem hlt, List.countP_append, lo_at l n hlt, hi_at l n hlt]
      simp only [Option.toList_some, List.countP_cons, List.countP_nil]
      split <;> simp
  simpa using key l.length (Nat.le_refl _)
theorem listB_iff2 (l : List Iv) : listB l = true ↔ l.length ≤ 64 ∧ ∀ p, p ∈ l → 0 ≤ p.1 ∧ p.1 ≤ p.2 ∧ p.2 ≤ 3000000000000000 := by
  rw [listB_iff]
  refine and_congr Iff.rfl ⟨fun h p hp => ?_, fun h k hk => ?_⟩
  · obtain ⟨k, hk, e1, e2⟩ := at_of_mem hp
    have := h k hk; omega
  · obtain ⟨p, hp, e1, e2⟩ := mem_of_at hk
    have := h p hp; omega
theorem dep_pos_iff (c : List Iv) (t : Int) : 0 < dep c t c.length ↔ mem c t := by
  have key : ∀ n, n ≤ c.length → (0 < dep c t n ↔ ∃ k, k < n ∧ iLo c k ≤ t ∧ t ≤ iHi c k) := by
    intro n
    induction n with
    | zero => intro _; simp [dep]
    | succ n ih =>
      intro hn
      have hb := dep_bd c t n
      have ih := ih (by omega)
      rw [dep]
      by_cases h : hasB (iLo c n) (iHi c n) t = true
      · rw [if_pos h]
        exact ⟨fun _ => ⟨n, by omega, by simpa [hasB] using h⟩, fun _ => by omega⟩
      · rw [if_neg h, Int.add_zero, ih]
        constructor
        · rintro ⟨k, hk, h2⟩; exact ⟨k, by omega, h2⟩
        · rintro ⟨k, hk, h2⟩
          refine ⟨k, ?_, h2⟩
          rcases Nat.lt_or_ge k n with h3 | h3
          · exact h3
          · obtain rfl : k = n := by omega
            exact absurd (by simpa [hasB] using h2) h
  rw [key _ (Nat.le_refl _)]
  constructor
  · rintro ⟨k, hk, h⟩
    obtain ⟨p, hp, e1, e2⟩ := mem_of_at hk
    exact ⟨p, hp, by omega, by omega⟩
  · rintro ⟨p, hp, h⟩
    obtain ⟨k, hk, e1, e2⟩ := at_of_mem hp
    exact ⟨k, hk, by omega, by omega⟩
theorem dep_join (a b : List Iv) (t : Int) : dep (a ++ b) t (a ++ b).length = dep a t a.length + dep b t b.length := by
  rw [dep_count, dep_count, dep_count, List.countP_append]; simp
theorem dep_ex {l : List Iv} {t : Int} (h : 0 < dep l t l.length) : ∃ k, k < l.length ∧ iLo l k ≤ t ∧ t ≤ iHi l k := by
  obtain ⟨p, hp, h1, h2⟩ := (dep_pos_iff l t).1 h
  obtain ⟨k, hk, e1, e2⟩ := at_of_mem hp
  exact ⟨k, hk, by omega, by omega⟩
theorem dep_all {l : List Iv} {t : Int} (h : ∀ k, k < l.length → iLo l k ≤ t ∧ t ≤ iHi l k) : ∀ n, n ≤ l.length → dep l t n = n
  | 0, _ => rfl
  | n + 1, hn => by
    have := h n (by omega)
    rw [dep, dep_all h n (by omega), if_pos (by simpa [hasB] using this)]; omega
theorem listB_join {a b : List Iv} (ha : listB a = true) (hb : listB b = true) (hl : (a ++ b).length ≤ 64) : listB (a ++ b) = true := by
  rw [listB_iff2] at *
  refine ⟨hl, fun p hp => ?_⟩
  rcases List.mem_append.1 hp with h | h
  · exact ha.2 p h
  · exact hb.2 p h
theorem hLo_le (l : List Iv) : ∀ k j, j ≤ k → hLo l k ≤ iLo l j
  | 0, j, h => by obtain rfl : j = 0 := by omega
                  exact Int.le_refl _
  | k + 1, j, h => by
    have := mn_spec (hLo l k) (iLo l (k + 1))
    rcases Nat.lt_or_ge j (k + 1) with h1 | h1
    · have := hLo_le l k j (by omega); simp only [hLo]; omega
    · obtain rfl : j = k + 1 := by omega
      simp only [hLo]; omega
theorem hHi_le (l : List Iv) : ∀ k j, j ≤ k → iHi l j ≤ hHi l k
  | 0, j, h => by obtain rfl : j = 0 := by omega
                  exact Int.le_refl _
  | k + 1, j, h => by
    have := mx_spec (hHi l k) (iHi l (k + 1))
    rcases Nat.lt_or_ge j (k + 1) with h1 | h1
    · have := hHi_le l k j (by omega); simp only [hHi]; omega
    · obtain rfl : j = k + 1 := by omega
      simp only [hHi]; omega
/-- Liars' intervals and more right ones, which have a time in common: what is combined lies within the hull of the right ones, and has this time. -/
theorem lies_law {ls L : List Iv} {t : Int} (h1 : listB ls = true) (h2 : listB L = true) (h3 : ls.length < L.length) (h4 : L.length ≤ 32) (h5 : ∀ k, k < L.length → iLo L k ≤ t ∧ t ≤ iHi L k) :
    hullEr L = 0 ∧ cbEr (ls ++ L) ls.length = 0 ∧ hasB (cbLo (ls ++ L) ls.length) (cbHi (ls ++ L) ls.length) t = true ∧ hullLo L ≤ cbLo (ls ++ L) ls.length ∧ cbHi (ls ++ L) ls.length ≤ hullHi L := by
  have hh : hullOk L = true := by simp [hullOk, h2]; intro h0; rw [h0] at h3; simp at h3
  have hlen : (ls ++ L).length = ls.length + L.length := by simp
  have hok : setOk (ls ++ L) ls.length = true := (setOk_iff _ _).2 ⟨listB_join h1 h2 (by omega), by omega, by omega⟩
  have hb := fun x => dep_bd ls x ls.length
  have hm : mem (setL (ls ++ L) ls.length) t := by
    rw [mem_setL hok, missTo_dep, dep_join, dep_all h5 _ (Nat.le_refl _)]
    have := hb t; omega
  have hin : ∀ x, mem (setL (ls ++ L) ls.length) x → hullLo L ≤ x ∧ x ≤ hullHi L := by
    intro x hx
    rw [mem_setL hok, missTo_dep, dep_join] at hx
    have := hb x
    obtain ⟨k, hk, e1, e2⟩ := dep_ex (l := L) (t := x) (by omega)
    have k1 := hLo_le L (L.length - 1) k (by omega)
    have k2 := hHi_le L (L.length - 1) k (by omega)
    simp only [hullLo, hullHi, hh, if_true]
    omega
  have he := (setL_spec hok).1.ends_mem (mem_pos hm)
  refine ⟨by simp [hullEr, hh], cbEr_mem hm, by simpa [hasB] using cb_has hm, (hin _ he.1).1, (hin _ he.2).2⟩
end Go.Proofs.Ytcpfifbchijleaa
