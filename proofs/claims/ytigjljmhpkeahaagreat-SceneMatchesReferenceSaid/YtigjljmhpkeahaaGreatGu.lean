
/- Parts MpI SpW SpX SpY SpYa SpYb of the proof, joined. -/
import Derived.Maps.OwnOps
import Derived.Maps.Views
import Derived.Maps.OwnSet
import Derived.Test.YtigjljmhpkeahaaGreatGa
import Derived.Test.YtigjljmhpkeahaaGreatGb
import Derived.Test.YtigjljmhpkeahaaGreatGs
import Derived.Test.YtigjljmhpkeahaaGreatGf
import Derived.Test.YtigjljmhpkeahaaGreatGw
/- A map from int to int that the call has made, read as a function. -/
namespace Go.Proofs.YtigjljmhpkeahaaGreat
open Go.RowKit Go.Maps

end Go.Proofs.YtigjljmhpkeahaaGreat
/- Package spread: what Pick picks, in plain: the widths at the picked numbers put to nothing, the worst stays. -/
namespace Go.Proofs.YtigjljmhpkeahaaGreat
open Go.RowKit

theorem ordL_nodup (l : List Int) : (ordL l).Nodup := (ordTo_perm l l.length).nodup_iff.2 List.nodup_range
theorem ordL_inj (l : List Int) {p q : Nat} (hp : p < l.length) (hq : q < l.length) (h : nAt (ordL l) p = nAt (ordL l) q) : p = q := by
  have hp' : p < (ordL l).length := by rw [ordL_length]; exact hp
  have hq' : q < (ordL l).length := by rw [ordL_length]; exact hq
  rw [nAt_lt _ _ hp', nAt_lt _ _ hq'] at h
  exact (List.getElem_inj (ordL_nodup l)).1 h
theorem ordL_surj (l : List Int) {i : Nat} (h : i < l.length) : ∃ p, p < l.length ∧ nAt (ordL l) p = i := by
  have hm : i ∈ ordL l := (ordTo_perm l l.length).mem_iff.2 (List.mem_range.2 h)
  obtain ⟨p, hp, e⟩ := List.getElem_of_mem hm
  exact ⟨p, by rw [ordL_length] at hp; exact hp, by rw [nAt_lt _ _ hp]; exact e⟩
theorem pieceI_mem_iff {l : List Int} {lo n : Nat} (h : lo + n ≤ l.length) (y : Int) : y ∈ pieceI l lo n ↔ ∃ p, lo ≤ p ∧ p < lo + n ∧ y = (nAt (ordL l) p : Int) := by
  constructor
  · intro hy
    obtain ⟨i, hi, e⟩ := List.getElem_of_mem hy
    have hi' := hi
    rw [pieceI_length l lo n h] at hi'
    exact ⟨lo + i, by omega, by omega, by rw [← pieceI_at l lo n i h hi', iAt_lt _ _ hi]; exact e.symm⟩
  · rintro ⟨p, h1, h2, rfl⟩
    have hi : p - lo < (pieceI l lo n).length := by rw [pieceI_length l lo n h]; omega
    have e := pieceI_at l lo n (p - lo) h (by omega)
    rw [show lo + (p - lo) = p by omega] at e
    rw [← e, iAt_lt _ _ hi]
    exact List.getElem_mem hi
theorem srtI_perm (z : List Int) : (srtI z).Perm z := List.mergeSort_perm z _
def zr (l : List Int) (ys : List Int) : List Int := (List.range l.length).map fun i : Nat => if (i : Int) ∈ ys then 0 else iAt l i
end Go.Proofs.YtigjljmhpkeahaaGreat
/- Package spread: what Pick answers, in plain. -/
namespace Go.Proofs.YtigjljmhpkeahaaGreat
open Go.RowKit

def roleP (P G : List Int) (y : Int) : Int := if y ∈ G then 2 else if y ∈ P then 1 else 0
theorem pickL_mem {l : List Int} {f lost : Int} (h : spOk l f lost = true) (y : Int) : y ∈ pickL l f lost ↔ ∃ p, spM l f lost ≤ p ∧ p < spM l f lost + f.toNat ∧ y = (nAt (ordL l) p : Int) := by
  obtain ⟨m1, m2, m3, m4, m5, m6⟩ := sp_mk h
  have hi := (spOk_iff l f lost).1 h
  unfold pickL
  rw [if_pos h, (srtI_perm _).mem_iff, pieceI_mem_iff (by omega)]
theorem goneL_mem {l : List Int} {f lost : Int} (h : spOk l f lost = true) (y : Int) : y ∈ goneL l f lost ↔ ∃ p, spM l f lost + f.toNat ≤ p ∧ p < l.length ∧ y = (nAt (ordL l) p : Int) := by
  obtain ⟨m1, m2, m3, m4, m5, m6⟩ := sp_mk h
  have hi := (spOk_iff l f lost).1 h
  unfold goneL
  rw [if_pos h, (srtI_perm _).mem_iff, pieceI_mem_iff (by omega)]
  rw [show spM l f lost + f.toNat + (l.length - (spM l f lost + f.toNat)) = l.length by omega]
theorem role_at {l : List Int} {f lost : Int} (h : spOk l f lost = true) (p : Nat) (hp : p < l.length) :
    roleP (pickL l f lost) (goneL l f lost) (nAt (ordL l) p : Int) = if p < spM l f lost then 0 else if p < spM l f lost + f.toNat then 1 else 2 := by
  obtain ⟨m1, m2, m3, m4, m5, m6⟩ := sp_mk h
  have hi := (spOk_iff l f lost).1 h
  have h1 : (nAt (ordL l) p : Int) ∈ goneL l f lost ↔ spM l f lost + f.toNat ≤ p := by
    rw [goneL_mem h]
    constructor
    · rintro ⟨q, a1, a2, e⟩
      have := ordL_inj l (p := p) (q := q) hp a2 (by omega); omega
    · exact fun hq => ⟨p, hq, hp, rfl⟩
  have h2 : (nAt (ordL l) p : Int) ∈ pickL l f lost ↔ spM l f lost ≤ p ∧ p < spM l f lost + f.toNat := by
    rw [pickL_mem h]
    constructor
    · rintro ⟨q, a1, a2, e⟩
      have := ordL_inj l (p := p) (q := q) hp (by omega) (by omega); omega
    · exact fun hq => ⟨p, hq.1, hq.2, rfl⟩
  unfold roleP
  simp only [h1, h2]
  split <;> split <;> (try split) <;> omega
end Go.Proofs.YtigjljmhpkeahaaGreat
/- Plain mathematics of SpreadAttained: how many of Place's right intervals have a time. -/
namespace Go.Proofs.YtigjljmhpkeahaaGreat
open Go.RowKit

def cntTo (p : Nat → Bool) : Nat → Nat
  | 0 => 0
  | n + 1 => cntTo p n + if p n = true then 1 else 0
theorem cnt_le (p : Nat → Bool) : ∀ n, cntTo p n ≤ n
  | 0 => Nat.le_refl _
  | n + 1 => by have := cnt_le p n; rw [cntTo]; split <;> omega
theorem cnt_mono (p : Nat → Bool) {a b : Nat} (h : a ≤ b) : cntTo p a ≤ cntTo p b := by
  induction b with
  | zero => obtain rfl : a = 0 := by omega
            exact Nat.le_refl _
  | succ b ih =>
    rcases Nat.lt_or_ge a (b + 1) with h1 | h1
    · have := ih (by omega); rw [cntTo]; omega
    · obtain rfl : a = b + 1 := by omega
      exact Nat.le_refl _
theorem cnt_yes (p : Nat → Bool) {a b : Nat} (h : a ≤ b) (hp : ∀ t, a ≤ t → t < b → p t = true) : cntTo p b = cntTo p a + (b - a) := by
  induction b with
  | zero => obtain rfl : a = 0 := by omega
            rfl
  | succ b ih =>
    rcases Nat.lt_or_ge a (b + 1) with h1 | h1
    · rw [cntTo, ih (by omega) (fun t h2 h3 => hp t h2 (by omega)), if_pos (hp b (by omega) (by omega))]; omega
    · obtain rfl : a = b + 1 := by omega
      omega
theorem cnt_no (p : Nat → Bool) {a b : Nat} (h : a ≤ b) (hp : ∀ t, a ≤ t → t < b → p t = false) : cntTo p b = cntTo p a := by
  induction b with
  | zero => obtain rfl : a = 0 := by omega
            rfl
  | succ b ih =>
    rcases Nat.lt_or_ge a (b + 1) with h1 | h1
    · rw [cntTo, ih (by omega) (fun t h2 h3 => hp t h2 (by omega)), if_neg (by rw [hp b (by omega) (by omega)]; simp)]; omega
    · obtain rfl : a = b + 1 := by omega
      rfl
theorem cnt_up (p : Nat → Bool) {a b : Nat} (h : a ≤ b) : cntTo p b ≤ cntTo p a + (b - a) := by
  induction b with
  | zero => obtain rfl : a = 0 := by omega
            exact Nat.le_refl _
  | succ b ih =>
    rcases Nat.lt_or_ge a (b + 1) with h1 | h1
    · have := ih (by omega); rw [cntTo]; split <;> omega
    · obtain rfl : a = b + 1 := by omega
      omega
theorem cnt_pref {p : Nat → Bool} {q : Nat → Prop} {a n c : Nat} (hpq : ∀ t, a ≤ t → t < n → p t = true → q t) (hq : ∀ t u, a ≤ t → t ≤ u → u < n → q u → q t) (han : a ≤ n) (hc : cntTo p a + c ≤ cntTo p n) (h1 : 1 ≤ c) : q (a + c - 1) := by
  apply Classical.byContradiction
  intro hn
  have hle := cnt_le p n
  by_cases hb : a + c - 1 < n
  · have e1 : cntTo p n = cntTo p (a + c - 1) := cnt_no p (by omega) (fun t h2 h3 => by
      cases hp : p t with
      | false => rfl
      | true => exact absurd (hq _ _ (by omega) h2 h3 (hpq t (by omega) h3 hp)) hn)
    have e2 : cntTo p (a + c - 1) ≤ cntTo p a + (c - 1) := by
      clear e1 hn hc
      obtain ⟨d, rfl⟩ : ∃ d, c = d + 1 := ⟨c - 1, by omega⟩
      rw [show a + (d + 1) - 1 = a + d by omega, show d + 1 - 1 = d by omega]
      have : ∀ d, cntTo p (a + d) ≤ cntTo p a + d := by
        intro d
        induction d with
        | zero => exact Nat.le_refl _
        | succ d ih => rw [show a + (d + 1) = a + d + 1 by omega, cntTo]; split <;> omega
      exact this d
    omega
  · have : ∀ d, cntTo p (a + d) ≤ cntTo p a + d := by
      intro d
      induction d with
      | zero => exact Nat.le_refl _
      | succ d ih => rw [show a + (d + 1) = a + d + 1 by omega, cntTo]; split <;> omega
    have h3 := this (n - a)
    rw [show a + (n - a) = n by omega] at h3
    omega
def plHas (l : List Int) (m k : Nat) (x y : Int) (t : Nat) : Bool := hasB (plP l m k x t).1 (plP l m k x t).2 y
theorem best_facts {l : List Int} {f lost : Int} (hok : spOk l f lost = true) : ∃ j : Nat, (bestP (srt l) (spM l f lost) (spK l f lost)).1 = j ∧ (bestP (srt l) (spM l f lost) (spK l f lost)).2 = worst l f lost ∧ jLo (spM l f lost) (spK l f lost) ≤ j ∧ j ≤ spK l f lost ∧ worst l f lost = vJ (srt l) (spK l f lost) j := by
  have hm := sp_mk hok
  have hd := fun i => srt_bd l ((spOk_iff l f lost).1 hok).1.2 i
  obtain ⟨j, h1, h2, h3⟩ := best_at hd (spM l f lost) (spK l f lost) hm.2.2.2.1
  rw [worst_ok hok, h3]
  exact ⟨j, rfl, rfl, h1, h2, rfl⟩
theorem place_count {l : List Int} {f lost x : Int} (hok : spOk l f lost = true) :
    ∃ X : Int, 0 ≤ X ∧ X ≤ worst l f lost ∧ spK l f lost ≤ cntTo (plHas l (spM l f lost) (spK l f lost) x (x - X)) (spM l f lost) ∧ spK l f lost ≤ cntTo (plHas l (spM l f lost) (spK l f lost) x (x - X + worst l f lost)) (spM l f lost) ∧
      (∀ y, y < x - X → cntTo (plHas l (spM l f lost) (spK l f lost) x y) (spM l f lost) < spK l f lost) ∧ (∀ y, x - X + worst l f lost < y → cntTo (plHas l (spM l f lost) (spK l f lost) x y) (spM l f lost) < spK l f lost) ∧
      (∀ t, t < spM l f lost → plHas l (spM l f lost) (spK l f lost) x x t = true) := by
  obtain ⟨j, b1, b2, b3, b4, b5⟩ := best_facts hok
  have W := fun i => worst_ge hok i
  have hmk := sp_mk hok
  have hd := fun i => srt_bd l ((spOk_iff l f lost).1 hok).1.2 i
  generalize hm : spM l f lost = m at *
  generalize hk : spK l f lost = k at *
  generalize hs : worst l f lost = s at *
  have hmn : m ≤ l.length := by omega
  have hF : ∀ t u, t ≤ u → u < m → iAt (srt l) u ≤ iAt (srt l) t := fun t u h1 h2 => srt_fall l h1 (by omega)
  have hj := vJ_spec (srt l) k j
  rw [← b5] at hj
  unfold jLo at b3 W
  have hX := mn_spec (iAt (srt l) (k - 1)) s
  have hs0 : 0 ≤ s := by rw [b5]; exact vJ_nn hd k j
  have hdk := hd (k - 1)
  have hl1 : ∀ t, t < j → plLeft l m k t = mn (iAt (srt l) (k - 1)) s := fun t ht => by unfold plLeft plX; rw [b1, b2, if_pos (by omega)]
  have hl2 : ∀ t, j ≤ t → t < k → plLeft l m k t = iAt (srt l) t := fun t h1 h2 => by unfold plLeft; rw [b1, if_neg (by omega), if_pos (by omega)]
  have hl3 : ∀ t, k ≤ t → plLeft l m k t = 0 := fun t h1 => by unfold plLeft; rw [b1, if_neg (by omega), if_neg (by omega)]
  have hh : ∀ t y, plHas l m k x y t = true ↔ x - plLeft l m k t ≤ y ∧ y ≤ x - plLeft l m k t + iAt (srt l) t := fun t y => by unfold plHas plP hasB; simp
  have hno : ∀ t y, ¬ (x - plLeft l m k t ≤ y ∧ y ≤ x - plLeft l m k t + iAt (srt l) t) → plHas l m k x y t = false := fun t y h => by
    cases hp : plHas l m k x y t with
    | false => rfl
    | true => exact absurd ((hh t y).1 hp) h
  obtain ⟨X, hXe⟩ : ∃ X, X = mn (iAt (srt l) (k - 1)) s := ⟨_, rfl⟩
  rw [← hXe] at hX
  have hDj : ∀ t, t < j → s ≤ iAt (srt l) t := fun t ht => by
    have := hF t (j - 1) (by omega) (by omega)
    have := hj.2.1 (by omega)
    omega
  have hDk : ∀ t, t < k → X ≤ iAt (srt l) t := fun t ht => by
    have := hF t (k - 1) (by omega) (by omega)
    omega
  rw [← hXe] at hl1
  refine ⟨X, by omega, by omega, ?_, ?_, fun y hy => ?_, fun y hy => ?_, fun t ht => ?_⟩
  · have := cnt_yes (plHas l m k x (x - X)) (Nat.zero_le k) (fun t _ ht => by
      rw [hh]
      have h0 := hd t
      rcases Nat.lt_or_ge t j with h | h
      · rw [hl1 t h]; omega
      · rw [hl2 t h ht]; have := hDk t ht; omega)
    have h2 := cnt_mono (plHas l m k x (x - X)) (show k ≤ m by omega)
    simp only [cntTo] at this
    omega
  · by_cases hsx : s = X
    · have := cnt_yes (plHas l m k x (x - X + s)) (Nat.zero_le k) (fun t _ ht => by
        rw [hh]
        have h0 := hd t
        rcases Nat.lt_or_ge t j with h | h
        · rw [hl1 t h]; have := hDj t h; omega
        · rw [hl2 t h ht]; omega)
      have h2 := cnt_mono (plHas l m k x (x - X + s)) (show k ≤ m by omega)
      simp only [cntTo] at this
      omega
    · have h1 := cnt_yes (plHas l m k x (x - X + s)) (Nat.zero_le j) (fun t _ ht => by
        rw [hh]
        have h0 := hd t
        rw [hl1 t ht]; have := hDj t ht; omega)
      have h2 := cnt_mono (plHas l m k x (x - X + s)) b4
      have h3 := cnt_yes (plHas l m k x (x - X + s)) (show k ≤ 2 * k - j by omega) (fun t h4 h5 => by
        rw [hh, hl3 t h4]
        have h0 := hd t
        have := hF t (2 * k - j - 1) (by omega) (by omega)
        omega)
      have h4 := cnt_mono (plHas l m k x (x - X + s)) (show 2 * k - j ≤ m by omega)
      simp only [cntTo] at h1
      omega
  · have n3 := cnt_no (plHas l m k x y) (show k ≤ m by omega) (fun t h1 h2 => hno t y (by rw [hl3 t h1]; omega))
    rw [n3]
    rcases Nat.eq_zero_or_pos j with h0 | h0
    · have e : s = iAt (srt l) (k - 1) + iAt (srt l) (2 * k - j - 1) := by rw [b5]; unfold vJ; rw [if_neg (by omega)]
      have h2 := hd (2 * k - j - 1)
      have n4 := cnt_no (plHas l m k x y) (show k - 1 ≤ k by omega) (fun t h1 h3 => hno t y (by
        obtain rfl : t = k - 1 := by omega
        rw [hl2 (k - 1) (by omega) (by omega)]; omega))
      rw [n4]
      have := cnt_le (plHas l m k x y) (k - 1)
      omega
    · have n4 := cnt_no (plHas l m k x y) (Nat.zero_le j) (fun t _ h1 => hno t y (by rw [hl1 t h1]; omega))
      have n5 := cnt_up (plHas l m k x y) b4
      simp only [cntTo] at n4
      omega
  · apply Classical.byContradiction
    intro hc
    have hc : k ≤ cntTo (plHas l m k x y) m := by omega
    have n4 := cnt_no (plHas l m k x y) b4 (fun t h1 h2 => hno t y (by rw [hl2 t h1 h2]; omega))
    have n5 := cnt_up (plHas l m k x y) (show k ≤ m by omega)
    have n6 := cnt_le (plHas l m k x y) j
    obtain ⟨B, hB⟩ : ∃ B, B = min (cntTo (plHas l m k x y) m - cntTo (plHas l m k x y) k) k := ⟨_, rfl⟩
    have hw := W (k - B) (by omega) (by omega)
    have hv := (vJ_spec (srt l) k (k - B)).2.2 (s + 1)
    have p1 : ∀ c, 1 ≤ c → c ≤ cntTo (plHas l m k x y) j → s + 1 ≤ iAt (srt l) (c - 1) := fun c h1 h2 => by
      have := cnt_pref (p := plHas l m k x y) (q := fun t => s + 1 ≤ iAt (srt l) t) (a := 0) (n := j) (c := c)
        (fun t _ h4 h5 => by rw [hh, hl1 t h4] at h5; omega) (fun t u _ h4 h5 h6 => by have := hF t u h4 (by omega); omega) (Nat.zero_le _) (by simp only [cntTo]; omega) h1
      rwa [Nat.zero_add] at this
    have p2 : 1 ≤ B → s - X + 1 ≤ iAt (srt l) (k + B - 1) := fun h1 =>
      cnt_pref (p := plHas l m k x y) (q := fun t => s - X + 1 ≤ iAt (srt l) t) (a := k) (n := m) (c := B)
        (fun t h3 h4 h5 => by rw [hh, hl3 t h3] at h5; omega) (fun t u _ h4 h5 h6 => by have := hF t u h4 h5; omega) (by omega) (by omega) h1
    have hres := hv (by
      rw [show 2 * k - (k - B) - 1 = k + B - 1 by omega]
      rcases Nat.eq_zero_or_pos B with h0 | h0
      · have := p1 k (by omega) (by omega)
        rw [h0, Nat.add_zero]; omega
      · have := p2 h0
        omega) (fun h0 => p1 (k - B) h0 (by omega))
    omega
  · rw [hh]
    have h0 := hd t
    rcases Nat.lt_or_ge t j with h | h
    · rw [hl1 t h]; have := hDj t h; omega
    · rcases Nat.lt_or_ge t k with h' | h'
      · rw [hl2 t h h']; omega
      · rw [hl3 t h']; omega
end Go.Proofs.YtigjljmhpkeahaaGreat
/- Plain mathematics of SpreadAttained: the list without the lost ones, and its combination. -/
namespace Go.Proofs.YtigjljmhpkeahaaGreat
open Go.RowKit

def ivAt (L : List Iv) (i : Nat) : Iv := L.getD i (0, 0)
theorem ivAt_set (L : List Iv) (i j : Nat) (p : Iv) (hi : i < L.length) : ivAt (L.set i p) j = if i = j then p else ivAt L j := by
  by_cases h : i = j
  · subst h; rw [if_pos rfl]; simp [ivAt, List.getD_eq_getElem?_getD, hi]
  · rw [if_neg h]; simp [ivAt, List.getD_eq_getElem?_getD, List.getElem?_set_ne h]
theorem out_at {l : List Int} {m k : Nat} {x : Int} (hm : m ≤ l.length) : ∀ t, t ≤ m → ∀ p, p < t → ivAt (plOut l m k x t) (nAt (ordL l) p) = plP l m k x p
  | 0, _, p, h => by omega
  | t + 1, ht, p, h => by
    rw [plOut, ivAt_set _ _ _ _ (by rw [plOut_length]; exact ordL_bd l t (by omega))]
    by_cases e : t = p
    · subst e; rw [if_pos rfl]
    · rw [if_neg (fun h' => e (ordL_inj l (by omega) (by omega) h'))]
      exact out_at hm t (by omega) p (by omega)
theorem lie_at {l : List Int} {m k : Nat} {x : Int} : ∀ s, m + s ≤ l.length → (∀ p, p < m → ivAt (plLie l m k x s) (nAt (ordL l) p) = plP l m k x p) ∧ ∀ p, p < s → ivAt (plLie l m k x s) (nAt (ordL l) (m + p)) = plAll l m k x m
  | 0, h => ⟨fun p hp => out_at (by omega) m (Nat.le_refl _) p hp, fun p hp => by omega⟩
  | s + 1, h => by
    have ih := lie_at (l := l) (m := m) (k := k) (x := x) s (by omega)
    have hb : nAt (ordL l) (m + s) < (plLie l m k x s).length := by rw [plLie_length]; exact ordL_bd l _ (by omega)
    refine ⟨fun p hp => ?_, fun p hp => ?_⟩
    · rw [plLie, ivAt_set _ _ _ _ hb, if_neg (fun h' => by have := ordL_inj l (by omega) (by omega) h'; omega)]
      exact ih.1 p hp
    · rw [plLie, ivAt_set _ _ _ _ hb]
      by_cases e : s = p
      · subst e; rw [if_pos rfl]
      · rw [if_neg (fun h' => by have := ordL_inj l (by omega) (by omega) h'; omega)]
        exact ih.2 p (by omega)
theorem cnt_congr {p q : Nat → Bool} : ∀ n, (∀ t, t < n → p t = q t) → cntTo p n = cntTo q n
  | 0, _ => rfl
  | n + 1, h => by rw [cntTo, cntTo, cnt_congr n (fun t ht => h t (by omega)), h n (by omega)]
theorem plAll_in (l : List Int) (m k : Nat) (x : Int) : ∀ n t, t < n → (plAll l m k x n).1 ≤ (plP l m k x t).1 ∧ (plP l m k x t).2 ≤ (plAll l m k x n).2
  | 0, t, h => by omega
  | n + 1, t, h => by
    have m1 := mn_spec (plAll l m k x n).1 (plP l m k x n).1
    have m2 := mx_spec (plAll l m k x n).2 (plP l m k x n).2
    simp only [plAll]
    by_cases e : t = n
    · subst e; omega
    · have := plAll_in l m k x n t (by omega); omega
end Go.Proofs.YtigjljmhpkeahaaGreat
/- Plain law of SpreadAttained: the combination is exactly as wide as the greatest width. -/
namespace Go.Proofs.YtigjljmhpkeahaaGreat
open Go.RowKit

theorem place_ok {l : List Int} {f lost x : Int} (h : placeEr l f lost x = 0) : spOk l f lost = true ∧ (0 ≤ x ∧ x ≤ 3000000000000000) ∧ 0 ≤ (plAll l (spM l f lost) (spK l f lost) x (spM l f lost)).1 ∧ (plAll l (spM l f lost) (spK l f lost) x (spM l f lost)).2 ≤ 3000000000000000 ∧ placeL l f lost x = plLie l (spM l f lost) (spK l f lost) x f.toNat := by
  have hL : placeL l f lost x = plLie l (spM l f lost) (spK l f lost) x f.toNat := by unfold placeL; rw [if_pos h]
  unfold placeEr at h
  cases hok : spOk l f lost with
  | false =>
    rw [hok] at h
    simp only [Bool.false_eq_true, if_false] at h
    rcases spEr_no hok with h' | h' <;> omega
  | true =>
    rw [if_pos hok] at h
    split at h
    · rename_i hx
      have hx2 : 0 ≤ x ∧ x ≤ 3000000000000000 := by simpa [inB] using hx
      split at h
      · omega
      · rename_i hn
        exact ⟨rfl, hx2, by omega, by omega, hL⟩
    · omega
theorem att_right {l : List Int} {f lost x : Int} (h : placeEr l f lost x = 0) (i : Nat) (hi : i < l.length) (hr : roleP (pickL l f lost) (goneL l f lost) i = 0) :
    (ivAt (placeL l f lost x) i).1 ≤ x ∧ x ≤ (ivAt (placeL l f lost x) i).2 ∧ (ivAt (placeL l f lost x) i).2 - (ivAt (placeL l f lost x) i).1 = iAt l i := by
  obtain ⟨hok, hx, hA1, hA2, hL⟩ := place_ok h
  obtain ⟨X, x1, x2, c1, c2, c3, c4, c5⟩ := place_count (x := x) hok
  have hm := sp_mk hok
  have hat := lie_at (l := l) (m := spM l f lost) (k := spK l f lost) (x := x) f.toNat (by have := (spOk_iff l f lost).1 hok; omega)
  obtain ⟨s, hs, rfl⟩ := ordL_surj l hi
  rw [role_at hok s hs] at hr
  have h1 : s < spM l f lost := by
    apply Classical.byContradiction
    intro hn
    rw [if_neg hn] at hr
    split at hr <;> omega
  rw [hL, hat.1 s h1, ← srt_at l s hs]
  have h5 := c5 s h1
  unfold plHas at h5
  simp only [hasB, decide_eq_true_eq] at h5
  refine ⟨h5.1, h5.2, ?_⟩
  unfold plP
  simp only
  omega
end Go.Proofs.YtigjljmhpkeahaaGreat
