/- Plain mathematics of rates, peers, sites and schedules: no program in sight. -/
import Derived.Test.YtiaahfccebmkdaaSpQ
namespace Go.Proofs.Ytiaahfccebmkdaa
open Go.RowKit

def cei (n d : Int) : Int := (n + d - 1) / d
theorem flo_spec {n d : Int} (hd : 0 < d) : n / d * d ≤ n ∧ n < (n / d + 1) * d := by
  have h1 := Int.emod_nonneg n (show d ≠ 0 by omega)
  have h2 := Int.emod_lt_of_pos n hd
  have h3 := Int.mul_ediv_add_emod n d
  rw [Int.add_mul, Int.mul_comm (n / d) d]
  omega
theorem flo_le {n d q : Int} (hd : 0 < d) (h : n < (q + 1) * d) : n / d ≤ q := by
  have := (Int.ediv_lt_iff_lt_mul hd).2 h
  omega
theorem le_flo {n d q : Int} (hd : 0 < d) (h : q * d ≤ n) : q ≤ n / d := (Int.le_ediv_iff_mul_le hd).2 h
theorem cei_le {n d q : Int} (hd : 0 < d) (h : n ≤ q * d) : cei n d ≤ q := by
  unfold cei
  refine flo_le hd ?_
  rw [Int.add_mul]
  omega
theorem le_cei {n d q : Int} (hd : 0 < d) (h : (q - 1) * d < n) : q ≤ cei n d := by
  unfold cei
  refine le_flo hd ?_
  rw [Int.sub_mul] at h
  omega
theorem cei_spec {n d : Int} (hd : 0 < d) : (cei n d - 1) * d < n ∧ n ≤ cei n d * d := by
  have h := flo_spec (n := n + d - 1) hd
  unfold cei
  rw [Int.add_mul] at h
  rw [Int.sub_mul]
  omega
theorem cei_eq {n d q : Int} (hd : 0 < d) (h1 : (q - 1) * d < n) (h2 : n ≤ q * d) : cei n d = q := Int.le_antisymm (cei_le hd h2) (le_cei hd h1)
theorem flo_eq {n d q : Int} (hd : 0 < d) (h1 : q * d ≤ n) (h2 : n < (q + 1) * d) : n / d = q := Int.le_antisymm (flo_le hd h2) (le_flo hd h1)

def elOk (r c : Int) : Bool := inB r 0 1000000 && inB c 0 1000000000000000
def elLo (r c : Int) : Int := if elOk r c = true then (c - 1) * 1000000000 / (1000000000 + r) + 1 else 0
def elHi (r c : Int) : Int := if elOk r c = true then cei ((c + 1) * 1000000000) (1000000000 - r) - 1 else 0
def elEr (r c : Int) : Int := if elOk r c = true then 0 else 1
def ctLo (r t : Int) : Int := if elOk r t = true then t * (1000000000 - r) / 1000000000 else 0
def ctHi (r t : Int) : Int := if elOk r t = true then cei (t * (1000000000 + r)) 1000000000 else 0
theorem elOk_iff (r c : Int) : elOk r c = true ↔ (0 ≤ r ∧ r ≤ 1000000) ∧ 0 ≤ c ∧ c ≤ 1000000000000000 := by simp [elOk, inB]
theorem elOk_no {r c : Int} (h : elOk r c = false) : elLo r c = 0 ∧ elHi r c = 0 ∧ elEr r c = 1 ∧ ctLo r c = 0 ∧ ctHi r c = 0 := by
  simp [elLo, elHi, elEr, ctLo, ctHi, h]
/-- What is left behind a rate: at most a thousandth more. -/
theorem el_bd {r c : Int} (h : elOk r c = true) : 0 ≤ elLo r c ∧ elLo r c ≤ c ∧ c ≤ elHi r c ∧ elHi r c ≤ 1002000000000010 := by
  have hi := (elOk_iff r c).1 h
  unfold elLo elHi
  rw [if_pos h, if_pos h]
  have d1 : (0 : Int) < 1000000000 + r := by omega
  have d2 : (0 : Int) < 1000000000 - r := by omega
  refine ⟨?_, ?_, ?_, ?_⟩
  · have : -1 ≤ (c - 1) * 1000000000 / (1000000000 + r) := le_flo d1 (by omega)
    omega
  · have : (c - 1) * 1000000000 / (1000000000 + r) ≤ c - 1 := flo_le d1 (by
      rcases Int.lt_or_le 0 c with h0 | h0
      · have := Int.mul_nonneg (show (0 : Int) ≤ c - 1 by omega) hi.1.1
        rw [show c - 1 + 1 = c by omega, show c = (c - 1) + 1 by omega, Int.add_mul, Int.mul_add]
        omega
      · obtain rfl : c = 0 := by omega
        omega)
    omega
  · have : c + 1 ≤ cei ((c + 1) * 1000000000) (1000000000 - r) := le_cei d2 (by
      have := Int.mul_nonneg (show (0 : Int) ≤ c by omega) hi.1.1
      rw [show c + 1 - 1 = c by omega, Int.mul_sub]
      omega)
    omega
  · have : cei ((c + 1) * 1000000000) (1000000000 - r) ≤ 1002000000000011 := cei_le d2 (by omega)
    omega
def grw (r c : Int) : Int := elHi r c - elLo r c
theorem grw_no {r c : Int} (h : elOk r c = false) : grw r c = 0 := by unfold grw; rw [(elOk_no h).1, (elOk_no h).2.1]; rfl
theorem grw_bd {r c : Int} (h : elOk r c = true) : 0 ≤ grw r c ∧ grw r c ≤ 1002000000000010 := by
  have := el_bd h
  unfold grw
  omega
theorem grw_mono {r s c d : Int} (h1 : elOk r c = true) (h2 : elOk s d = true) (hrs : r ≤ s) (hcd : c ≤ d) : grw r c ≤ grw s d := by
  have hi := (elOk_iff r c).1 h1
  have hj := (elOk_iff s d).1 h2
  unfold grw elLo elHi
  rw [if_pos h1, if_pos h1, if_pos h2, if_pos h2]
  have d1 : (0 : Int) < 1000000000 + r := by omega
  have d2 : (0 : Int) < 1000000000 - r := by omega
  have d3 : (0 : Int) < 1000000000 + s := by omega
  have d4 : (0 : Int) < 1000000000 - s := by omega
  have A : cei ((c + 1) * 1000000000) (1000000000 - r) + (d - c) ≤ cei ((d + 1) * 1000000000) (1000000000 - s) := by
    refine le_cei d4 ?_
    have h := (cei_spec (n := (c + 1) * 1000000000) d2).1
    generalize cei ((c + 1) * 1000000000) (1000000000 - r) = q at h ⊢
    by_cases hq : q - 1 ≤ 0
    · have e1 : (q + (d - c) - 1) * (1000000000 - s) ≤ (d - c) * (1000000000 - s) := Int.mul_le_mul_of_nonneg_right (by omega) (by omega)
      have e2 : (d - c) * (1000000000 - s) ≤ (d - c) * 1000000000 := Int.mul_le_mul_of_nonneg_left (by omega) (by omega)
      omega
    · have e1 : (q - 1) * (1000000000 - s) ≤ (q - 1) * (1000000000 - r) := Int.mul_le_mul_of_nonneg_left (by omega) (by omega)
      have e2 : (d - c) * (1000000000 - s) ≤ (d - c) * 1000000000 := Int.mul_le_mul_of_nonneg_left (by omega) (by omega)
      rw [show q + (d - c) - 1 = (q - 1) + (d - c) by omega, Int.add_mul]
      omega
  have B : (d - 1) * 1000000000 / (1000000000 + s) ≤ (c - 1) * 1000000000 / (1000000000 + r) + (d - c) := by
    refine flo_le d3 ?_
    have h := (flo_spec (n := (c - 1) * 1000000000) d1).2
    have hq0 : -1 ≤ (c - 1) * 1000000000 / (1000000000 + r) := le_flo d1 (by omega)
    generalize (c - 1) * 1000000000 / (1000000000 + r) = q at h hq0 ⊢
    have e1 : (q + 1) * (1000000000 + r) ≤ (q + 1) * (1000000000 + s) := Int.mul_le_mul_of_nonneg_left (by omega) (by omega)
    have e2 : (d - c) * 1000000000 ≤ (d - c) * (1000000000 + s) := Int.mul_le_mul_of_nonneg_left (by omega) (by omega)
    rw [show q + (d - c) + 1 = (q + 1) + (d - c) by omega, Int.add_mul]
    omega
  omega

/-- A peer of a site. -/
structure Pr where
  au : Int
  er : Int
  co : Int
  at_ : Int
  ol : Int
  oh : Int
  bl : Int
  bh : Int
def pr0 : Pr := ⟨0, 0, 0, 0, 0, 0, 0, 0⟩
def pAt (l : List Pr) (i : Nat) : Pr := l.getD i pr0
theorem pAt_lt (l : List Pr) (i : Nat) (h : i < l.length) : pAt l i = l[i] := by simp [pAt, List.getD_eq_getElem?_getD, List.getElem?_eq_getElem h]
def dlB (lo hi : Int) : Bool := decide (0 ≤ lo ∧ lo ≤ hi ∧ hi ≤ 1000000)
def lkB (ol oh bl bh : Int) : Bool := dlB ol oh && dlB bl bh
def prB (r tm : Int) (p : Pr) : Bool := lkB p.ol p.oh p.bl p.bh && inB p.au 1 16 && inB p.er 0 1000000 && inB p.co 0 1000000 && decide (ctHi r (p.oh + p.bh) ≤ tm)
def pWd (p : Pr) : Int := 2 * p.er + p.oh - p.ol
theorem prB_iff (r tm : Int) (p : Pr) : prB r tm p = true ↔ ((0 ≤ p.ol ∧ p.ol ≤ p.oh ∧ p.oh ≤ 1000000) ∧ 0 ≤ p.bl ∧ p.bl ≤ p.bh ∧ p.bh ≤ 1000000) ∧ (1 ≤ p.au ∧ p.au ≤ 16) ∧ (0 ≤ p.er ∧ p.er ≤ 1000000) ∧ (0 ≤ p.co ∧ p.co ≤ 1000000) ∧ ctHi r (p.oh + p.bh) ≤ tm := by
  simp only [prB, lkB, dlB, inB, Bool.and_eq_true, decide_eq_true_eq]
  constructor
  · rintro ⟨⟨⟨⟨h1, h2⟩, h3⟩, h4⟩, h5⟩; exact ⟨h1, h2, h3, h4, h5⟩
  · rintro ⟨h1, h2, h3, h4, h5⟩; exact ⟨⟨⟨⟨h1, h2⟩, h3⟩, h4⟩, h5⟩
def allP (r tm : Int) (l : List Pr) : Nat → Bool
  | 0 => true
  | k + 1 => allP r tm l k && prB r tm (pAt l k)
theorem allP_iff (r tm : Int) (l : List Pr) : ∀ k, (allP r tm l k = true ↔ ∀ j, j < k → prB r tm (pAt l j) = true)
  | 0 => by simp [allP]
  | k + 1 => by
    simp only [allP, Bool.and_eq_true, allP_iff r tm l k]
    constructor
    · rintro ⟨h1, h2⟩ j hj
      rcases Nat.lt_or_ge j k with h | h
      · exact h1 j h
      · obtain rfl : j = k := by omega
        exact h2
    · intro h; exact ⟨fun j hj => h j (by omega), h k (by omega)⟩
theorem allP_false {r tm : Int} {l : List Pr} {k : Nat} (hv : prB r tm (pAt l k) = false) (n : Nat) (h : k < n) : allP r tm l n = false := by
  cases hh : allP r tm l n with
  | false => rfl
  | true => have := (allP_iff r tm l n).1 hh k h; rw [hv] at this; cases this
/-- The first k numbers rise strictly, from more than -1 on. -/
def risTo (l : List Int) : Nat → Bool
  | 0 => true
  | k + 1 => risTo l k && decide ((if k = 0 then -1 else iAt l (k - 1)) < iAt l k)
def risB (l : List Int) : Bool := risTo l l.length
theorem risTo_iff (l : List Int) : ∀ k, (risTo l k = true ↔ ∀ j, j < k → (if j = 0 then -1 else iAt l (j - 1)) < iAt l j)
  | 0 => by simp [risTo]
  | k + 1 => by
    simp only [risTo, Bool.and_eq_true, risTo_iff l k, decide_eq_true_eq]
    constructor
    · rintro ⟨h1, h2⟩ j hj
      rcases Nat.lt_or_ge j k with h | h
      · exact h1 j h
      · obtain rfl : j = k := by omega
        exact h2
    · intro h; exact ⟨fun j hj => h j (by omega), h k (by omega)⟩
theorem risTo_false {l : List Int} {k : Nat} (hv : iAt l k ≤ (if k = 0 then -1 else iAt l (k - 1))) (n : Nat) (h : k < n) : risTo l n = false := by
  cases hh : risTo l n with
  | false => rfl
  | true => have := (risTo_iff l n).1 hh k h; omega
def auL (l : List Pr) : List Int := l.map Pr.au
theorem auL_length (l : List Pr) : (auL l).length = l.length := by simp [auL]
theorem auL_at (l : List Pr) (i : Nat) (h : i < l.length) : iAt (auL l) i = (pAt l i).au := by
  rw [iAt_lt _ _ (by rw [auL_length]; exact h), pAt_lt l i h]; simp [auL]
/-- A site. -/
structure Si where
  r : Int
  f : Int
  lo : Int
  tm : Int
  ps : List Pr
def siN (s : Si) : Bool := inB s.r 0 1000000 && inB s.f 0 5 && inB s.lo 0 16 && inB s.tm 1 1000000000 && decide (s.ps.length ≤ 16)
def siB (s : Si) : Bool := siN s && (allP s.r s.tm s.ps s.ps.length && risB (auL s.ps))
theorem siN_iff (s : Si) : siN s = true ↔ (0 ≤ s.r ∧ s.r ≤ 1000000) ∧ (0 ≤ s.f ∧ s.f ≤ 5) ∧ (0 ≤ s.lo ∧ s.lo ≤ 16) ∧ (1 ≤ s.tm ∧ s.tm ≤ 1000000000) ∧ s.ps.length ≤ 16 := by
  simp only [siN, inB, Bool.and_eq_true, decide_eq_true_eq]
  constructor
  · rintro ⟨⟨⟨⟨h1, h2⟩, h3⟩, h4⟩, h5⟩; exact ⟨h1, h2, h3, h4, h5⟩
  · rintro ⟨h1, h2, h3, h4, h5⟩; exact ⟨⟨⟨⟨h1, h2⟩, h3⟩, h4⟩, h5⟩
theorem siB_iff (s : Si) : siB s = true ↔ siN s = true ∧ (∀ j, j < s.ps.length → prB s.r s.tm (pAt s.ps j) = true) ∧ risB (auL s.ps) = true := by
  simp only [siB, Bool.and_eq_true, allP_iff]
/-- All of the first k numbers are indexes of n peers. -/
def inAll (n : Nat) (l : List Int) : Nat → Bool
  | 0 => true
  | k + 1 => inAll n l k && decide (0 ≤ iAt l k ∧ iAt l k < n)
theorem inAll_iff (n : Nat) (l : List Int) : ∀ k, (inAll n l k = true ↔ ∀ j, j < k → 0 ≤ iAt l j ∧ iAt l j < n)
  | 0 => by simp [inAll]
  | k + 1 => by
    simp only [inAll, Bool.and_eq_true, inAll_iff n l k, decide_eq_true_eq]
    constructor
    · rintro ⟨h1, h2⟩ j hj
      rcases Nat.lt_or_ge j k with h | h
      · exact h1 j h
      · obtain rfl : j = k := by omega
        exact h2
    · intro h; exact ⟨fun j hj => h j (by omega), h k (by omega)⟩
theorem inAll_false {n : Nat} {l : List Int} {k : Nat} (hv : ¬ (0 ≤ iAt l k ∧ iAt l k < n)) (m : Nat) (h : k < m) : inAll n l m = false := by
  cases hh : inAll n l m with
  | false => rfl
  | true => have := (inAll_iff n l m).1 hh k h; omega
def rgB (s : Si) (use : List Int) (ev : Int) : Bool := siB s && inB ev (s.tm + 1) 1000000000000 && inAll s.ps.length use use.length && risB use && decide (2 * s.f + s.lo < use.length)
theorem rgB_iff (s : Si) (use : List Int) (ev : Int) : rgB s use ev = true ↔ siB s = true ∧ (s.tm + 1 ≤ ev ∧ ev ≤ 1000000000000) ∧ (∀ j, j < use.length → 0 ≤ iAt use j ∧ iAt use j < s.ps.length) ∧ risB use = true ∧ 2 * s.f + s.lo < use.length := by
  simp only [rgB, inB, Bool.and_eq_true, inAll_iff, decide_eq_true_eq]
  constructor
  · rintro ⟨⟨⟨⟨h1, h2⟩, h3⟩, h4⟩, h5⟩; exact ⟨h1, h2, h3, h4, h5⟩
  · rintro ⟨h1, h2, h3, h4, h5⟩; exact ⟨⟨⟨⟨h1, h2⟩, h3⟩, h4⟩, h5⟩
/-- The widths of the peers with some indexes. -/
def wdL (ps : List Pr) (use : List Int) : List Int := use.map fun i => pWd (pAt ps i.toNat)
theorem wdL_length (ps : List Pr) (use : List Int) : (wdL ps use).length = use.length := by simp [wdL]
theorem wdL_at (ps : List Pr) (use : List Int) (i : Nat) (h : i < use.length) : iAt (wdL ps use) i = pWd (pAt ps (iAt use i).toNat) := by
  rw [iAt_lt _ _ (by rw [wdL_length]; exact h), iAt_lt use i h]; simp [wdL]
theorem ris_ge {l : List Int} (h : risB l = true) : ∀ i, i < l.length → (i : Int) ≤ iAt l i
  | 0, hi => by have := (risTo_iff l l.length).1 h 0 hi; simp at this; omega
  | i + 1, hi => by
    have h1 := (risTo_iff l l.length).1 h (i + 1) hi
    have h2 := ris_ge h i (by omega)
    rw [if_neg (by omega), show i + 1 - 1 = i by omega] at h1
    omega
theorem use_le {n : Nat} {use : List Int} (h : risB use = true) (hin : ∀ j, j < use.length → 0 ≤ iAt use j ∧ iAt use j < n) : use.length ≤ n := by
  rcases Nat.eq_zero_or_pos use.length with h0 | h0
  · omega
  · have h1 := ris_ge h (use.length - 1) (by omega)
    have h2 := hin (use.length - 1) (by omega)
    omega
/-- A right schedule's widths are such that package spread can say how wide they are together. -/
theorem rg_spOk {s : Si} {use : List Int} {ev : Int} (h : rgB s use ev = true) : spOk (wdL s.ps use) s.f s.lo = true := by
  obtain ⟨h1, h2, h3, h4, h5⟩ := (rgB_iff s use ev).1 h
  obtain ⟨h6, h7, h8⟩ := (siB_iff s).1 h1
  have h9 := (siN_iff s).1 h6
  have h10 := use_le h4 h3
  rw [spOk_iff, wdL_length]
  refine ⟨⟨⟨by omega, by omega⟩, fun j hj => ?_⟩, by omega, by omega, by omega⟩
  rw [wdL_at _ _ _ hj]
  have h11 := (prB_iff _ _ _).1 (h7 (iAt use j).toNat (by have := h3 j hj; omega))
  unfold pWd
  omega
theorem rg_elOk {s : Si} {use : List Int} {ev : Int} (h : rgB s use ev = true) : elOk s.r (ev + s.tm) = true := by
  obtain ⟨h1, h2, h3, h4, h5⟩ := (rgB_iff s use ev).1 h
  have h9 := (siN_iff s).1 ((siB_iff s).1 h1).1
  rw [elOk_iff]
  omega
def wdt (s : Si) (use : List Int) (ev : Int) : Int := if rgB s use ev = true then worst (wdL s.ps use) s.f s.lo + grw s.r (ev + s.tm) else 0
def wdEr (s : Si) (use : List Int) (ev : Int) : Int := if rgB s use ev = true then 0 else 1
end Go.Proofs.Ytiaahfccebmkdaa
