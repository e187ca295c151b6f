
/- Parts DvP WdP WdQ DrP DvA DrA DrB DrC DrD DrE of the proof, joined. -/
import Derived.Test.YtlmcoollkmhanaaGa
import Derived.Test.YtlmcoollkmhanaaGb
import Derived.Lib.Mul64
import Derived.Laws.Bits64b
import Derived.Lib.Strings
import Derived.Lib.Slices
import Derived.Lib.Small
import Derived.Lib.Walk
import Derived.Lib.BitFns
/- Plain mathematics of a quotient of a number of two words by one word: no program in sight. -/
namespace Go.Proofs.Ytlmcoollkmhanaa
open Go.RowKit

theorem dv_mod (x z v : Nat) (hz : z < 4294967296) (hv : 0 < v) : (x * 4294967296 + z) % (v * 4294967296) = x % v * 4294967296 + z := by
 have h3 := Nat.div_add_mod x v
 have h4 := Nat.mod_lt x hv
 have e : x * 4294967296 + z = v * 4294967296 * (x / v) + (x % v * 4294967296 + z) := by
  conv => lhs; rw [← h3]
  rw [Nat.add_mul, Nat.mul_right_comm]; omega
 rw [e, Nat.mul_add_mod, Nat.mod_eq_of_lt]
 omega
theorem dv_parts {y hi lo P R v : Nat} (hPR : P * R = 18446744073709551616) (_hR : 0 < R) (hv : y * P = v * 4294967296) (hyP : 0 < y * P) :
  ((hi * P + lo / R) / v * 4294967296 + ((hi * P + lo / R) % v * 4294967296 + lo % R * P / 4294967296) / v = (hi * 18446744073709551616 + lo) / y) ∧
  (((hi * P + lo / R) % v * 4294967296 + lo % R * P / 4294967296) % v * 4294967296 + lo % R * P % 4294967296) / P = (hi * 18446744073709551616 + lo) % y := by
 have hP : 0 < P := Nat.pos_of_mul_pos_left hyP
 have hv0 : 0 < v := by
  rcases Nat.eq_zero_or_pos v with h | h
  ·subst h; omega
  ·exact h
 generalize hu : hi * P + lo / R = u
 generalize hz : lo % R * P = z
 have hN : (hi * 18446744073709551616 + lo) * P = (u * 4294967296 + z / 4294967296) * 4294967296 + z % 4294967296 := by
  have h1 : lo = R * (lo / R) + lo % R := (Nat.div_add_mod lo R).symm
  have h2 : lo * P = lo / R * 18446744073709551616 + z := by
   rw [← hz, ← hPR]
   conv => lhs; rw [h1]
   rw [Nat.add_mul, Nat.mul_comm R (lo / R), Nat.mul_assoc, Nat.mul_comm R P]
  have h3 : hi * 18446744073709551616 * P = hi * P * 18446744073709551616 := by rw [Nat.mul_right_comm]
  rw [Nat.add_mul, h2, h3, ← hu]
  omega
 generalize hz1 : z / 4294967296 = z1 at *
 generalize hz0 : z % 4294967296 = z0 at *
 have hz0lt : z0 < 4294967296 := by omega
 have hdiv : (hi * 18446744073709551616 + lo) / y = (u * 4294967296 + z1) / v := by
  rw [← Nat.mul_div_mul_right _ _ hP, hN, hv, Nat.mul_comm v, ← Nat.div_div_eq_div_mul]
  congr 1
  omega
 have hq : (u * 4294967296 + z1) = u / v * 4294967296 * v + (u % v * 4294967296 + z1) := by
  have h1 := Nat.div_add_mod u v
  generalize u / v = a at *
  generalize u % v = b at *
  have e : a * 4294967296 * v = v * a * 4294967296 := by rw [Nat.mul_right_comm, Nat.mul_comm a v]
  rw [e, ← h1]
  omega
 have hq2 : (u * 4294967296 + z1) / v = u / v * 4294967296 + (u % v * 4294967296 + z1) / v := by
  rw [hq, Nat.mul_comm _ v, Nat.mul_add_div hv0]
 have hq3 : (u * 4294967296 + z1) % v = (u % v * 4294967296 + z1) % v := by
  rw [hq, Nat.mul_comm _ v, Nat.mul_add_mod]
 refine ⟨by rw [hdiv, hq2], ?_⟩
 rw [← hq3]
 have hmod : (hi * 18446744073709551616 + lo) % y * P = (u * 4294967296 + z1) % v * 4294967296 + z0 := by
  have e0 : (hi * 18446744073709551616 + lo) % y * P = ((u * 4294967296 + z1) * 4294967296 + z0) % (v * 4294967296) := by
   rw [← hN, ← hv, Nat.mul_mod_mul_right]
  rw [e0]
  exact dv_mod (u * 4294967296 + z1) z0 v hz0lt hv0
 rw [← hmod, Nat.mul_div_cancel _ hP]
end Go.Proofs.Ytlmcoollkmhanaa
/- Plain mathematics of rates, peers, sites and schedules: no program in sight. -/
namespace Go.Proofs.Ytlmcoollkmhanaa
open Go.RowKit

def cei (n d : Int) : Int := (n + d - 1) / d
theorem flo_le {n d q : Int} (hd : 0 < d) (h : n < (q + 1) * d) : n / d ≤ q := by
 have := (Int.ediv_lt_iff_lt_mul hd).2 h
 omega
theorem le_flo {n d q : Int} (hd : 0 < d) (h : q * d ≤ n) : q ≤ n / d := (Int.le_ediv_iff_mul_le hd).2 h
theorem cei_le {n d q : Int} (hd : 0 < d) (h : n ≤ q * d) : cei n d ≤ q := by
 unfold cei
 refine flo_le hd ?_
 rw [Int.add_mul]
 omega
theorem le_cei {n d q : Int} (hd : 0 < d) (h : (q - 1) * d < n) : q ≤ cei n d := by
 unfold cei
 refine le_flo hd ?_
 rw [Int.sub_mul] at h
 omega
theorem cei_eq {n d q : Int} (hd : 0 < d) (h1 : (q - 1) * d < n) (h2 : n ≤ q * d) : cei n d = q := Int.le_antisymm (cei_le hd h2) (le_cei hd h1)
theorem flo_eq {n d q : Int} (hd : 0 < d) (h1 : q * d ≤ n) (h2 : n < (q + 1) * d) : n / d = q := Int.le_antisymm (flo_le hd h2) (le_flo hd h1)

def elOk (r c : Int) : Bool := inB r 0 1000000 && inB c 0 1000000000000000
def elLo (r c : Int) : Int := if elOk r c = true then (c - 1) * 1000000000 / (1000000000 + r) + 1 else 0
def elHi (r c : Int) : Int := if elOk r c = true then cei ((c + 1) * 1000000000) (1000000000 - r) - 1 else 0
def elEr (r c : Int) : Int := if elOk r c = true then 0 else 1
def ctLo (r t : Int) : Int := if elOk r t = true then t * (1000000000 - r) / 1000000000 else 0
def ctHi (r t : Int) : Int := if elOk r t = true then cei (t * (1000000000 + r)) 1000000000 else 0
theorem elOk_iff (r c : Int) : elOk r c = true ↔ (0 ≤ r ∧ r ≤ 1000000) ∧ 0 ≤ c ∧ c ≤ 1000000000000000 := by simp [elOk, inB]
theorem elOk_no {r c : Int} (h : elOk r c = false) : elLo r c = 0 ∧ elHi r c = 0 ∧ elEr r c = 1 ∧ ctLo r c = 0 ∧ ctHi r c = 0 := by
 simp [elLo, elHi, elEr, ctLo, ctHi, h]
theorem el_bd {r c : Int} (h : elOk r c = true) : 0 ≤ elLo r c ∧ elLo r c ≤ c ∧ c ≤ elHi r c ∧ elHi r c ≤ 1002000000000010 := by
 have hi := (elOk_iff r c).1 h
 unfold elLo elHi
 rw [if_pos h, if_pos h]
 have d1 : (0 : Int) < 1000000000 + r := by omega
 have d2 : (0 : Int) < 1000000000 - r := by omega
 refine ⟨?_, ?_, ?_, ?_⟩
 ·have : -1 ≤ (c - 1) * 1000000000 / (1000000000 + r) := le_flo d1 (by omega)
  omega
 ·have : (c - 1) * 1000000000 / (1000000000 + r) ≤ c - 1 := flo_le d1 (by
   rcases Int.lt_or_le 0 c with h0 | h0
   ·have := Int.mul_nonneg (show (0 : Int) ≤ c - 1 by omega) hi.1.1
    rw [show c - 1 + 1 = c by omega, show c = (c - 1) + 1 by omega, Int.add_mul, Int.mul_add]
    omega
   ·obtain rfl : c = 0 := by omega
    omega)
  omega
 ·have : c + 1 ≤ cei ((c + 1) * 1000000000) (1000000000 - r) := le_cei d2 (by
   have := Int.mul_nonneg (show (0 : Int) ≤ c by omega) hi.1.1
   rw [show c + 1 - 1 = c by omega, Int.mul_sub]
   omega)
  omega
 ·have : cei ((c + 1) * 1000000000) (1000000000 - r) ≤ 1002000000000011 := cei_le d2 (by omega)
  omega
def grw (r c : Int) : Int := elHi r c - elLo r c
theorem grw_bd {r c : Int} (h : elOk r c = true) : 0 ≤ grw r c ∧ grw r c ≤ 1002000000000010 := by
 have := el_bd h
 unfold grw
 omega
structure Pr where
 au : Int
 er : Int
 co : Int
 at_ : Int
 ol : Int
 oh : Int
 bl : Int
 bh : Int
def pr0 : Pr := ⟨0, 0, 0, 0, 0, 0, 0, 0⟩
def pAt (l : List Pr) (i : Nat) : Pr := l.getD i pr0
theorem pAt_lt (l : List Pr) (i : Nat) (h : i < l.length) : pAt l i = l[i] := by simp [pAt, List.getD_eq_getElem?_getD, List.getElem?_eq_getElem h]
def dlB (lo hi : Int) : Bool := decide (0 ≤ lo ∧ lo ≤ hi ∧ hi ≤ 1000000)
def lkB (ol oh bl bh : Int) : Bool := dlB ol oh && dlB bl bh
def prB (r tm : Int) (p : Pr) : Bool := lkB p.ol p.oh p.bl p.bh && inB p.au 1 16 && inB p.er 0 1000000 && inB p.co 0 1000000 && decide (ctHi r (p.oh + p.bh) ≤ tm)
def pWd (p : Pr) : Int := 2 * p.er + p.oh - p.ol
theorem prB_iff (r tm : Int) (p : Pr) : prB r tm p = true ↔ ((0 ≤ p.ol ∧ p.ol ≤ p.oh ∧ p.oh ≤ 1000000) ∧ 0 ≤ p.bl ∧ p.bl ≤ p.bh ∧ p.bh ≤ 1000000) ∧ (1 ≤ p.au ∧ p.au ≤ 16) ∧ (0 ≤ p.er ∧ p.er ≤ 1000000) ∧ (0 ≤ p.co ∧ p.co ≤ 1000000) ∧ ctHi r (p.oh + p.bh) ≤ tm := by
 simp only [prB, lkB, dlB, inB, Bool.and_eq_true, decide_eq_true_eq]
 constructor
 ·rintro ⟨⟨⟨⟨h1, h2⟩, h3⟩, h4⟩, h5⟩; exact ⟨h1, h2, h3, h4, h5⟩
 ·rintro ⟨h1, h2, h3, h4, h5⟩; exact ⟨⟨⟨⟨h1, h2⟩, h3⟩, h4⟩, h5⟩
def allP (r tm : Int) (l : List Pr) : Nat → Bool
 | 0 => true
 | k + 1 => allP r tm l k && prB r tm (pAt l k)
theorem allP_iff (r tm : Int) (l : List Pr) : ∀ k, (allP r tm l k = true ↔ ∀ j, j < k → prB r tm (pAt l j) = true)
 | 0 => by simp [allP]
 | k + 1 => by
  simp only [allP, Bool.and_eq_true, allP_iff r tm l k]
  constructor
  ·rintro ⟨h1, h2⟩ j hj
   rcases Nat.lt_or_ge j k with h | h
   ·exact h1 j h
   ·obtain rfl : j = k := by omega
    exact h2
  ·intro h; exact ⟨fun j hj => h j (by omega), h k (by omega)⟩
theorem allP_false {r tm : Int} {l : List Pr} {k : Nat} (hv : prB r tm (pAt l k) = false) (n : Nat) (h : k < n) : allP r tm l n = false := by
 cases hh : allP r tm l n with
 | false => rfl
 | true => have := (allP_iff r tm l n).1 hh k h; rw [hv] at this; cases this
def risTo (l : List Int) : Nat → Bool
 | 0 => true
 | k + 1 => risTo l k && decide ((if k = 0 then -1 else iAt l (k - 1)) < iAt l k)
def risB (l : List Int) : Bool := risTo l l.length
theorem risTo_iff (l : List Int) : ∀ k, (risTo l k = true ↔ ∀ j, j < k → (if j = 0 then -1 else iAt l (j - 1)) < iAt l j)
 | 0 => by simp [risTo]
 | k + 1 => by
  simp only [risTo, Bool.and_eq_true, risTo_iff l k, decide_eq_true_eq]
  constructor
  ·rintro ⟨h1, h2⟩ j hj
   rcases Nat.lt_or_ge j k with h | h
   ·exact h1 j h
   ·obtain rfl : j = k := by omega
    exact h2
  ·intro h; exact ⟨fun j hj => h j (by omega), h k (by omega)⟩
theorem risTo_false {l : List Int} {k : Nat} (hv : iAt l k ≤ (if k = 0 then -1 else iAt l (k - 1))) (n : Nat) (h : k < n) : risTo l n = false := by
 cases hh : risTo l n with
 | false => rfl
 | true => have := (risTo_iff l n).1 hh k h; omega
def auL (l : List Pr) : List Int := l.map Pr.au
theorem auL_length (l : List Pr) : (auL l).length = l.length := by simp [auL]
theorem auL_at (l : List Pr) (i : Nat) (h : i < l.length) : iAt (auL l) i = (pAt l i).au := by
 rw [iAt_lt _ _ (by rw [auL_length]; exact h), pAt_lt l i h]; simp [auL]
structure Si where
 r : Int
 f : Int
 lo : Int
 tm : Int
 ps : List Pr
def siN (s : Si) : Bool := inB s.r 0 1000000 && inB s.f 0 5 && inB s.lo 0 16 && inB s.tm 1 1000000000 && decide (s.ps.length ≤ 16)
def siB (s : Si) : Bool := siN s && (allP s.r s.tm s.ps s.ps.length && risB (auL s.ps))
theorem siN_iff (s : Si) : siN s = true ↔ (0 ≤ s.r ∧ s.r ≤ 1000000) ∧ (0 ≤ s.f ∧ s.f ≤ 5) ∧ (0 ≤ s.lo ∧ s.lo ≤ 16) ∧ (1 ≤ s.tm ∧ s.tm ≤ 1000000000) ∧ s.ps.length ≤ 16 := by
 simp only [siN, inB, Bool.and_eq_true, decide_eq_true_eq]
 constructor
 ·rintro ⟨⟨⟨⟨h1, h2⟩, h3⟩, h4⟩, h5⟩; exact ⟨h1, h2, h3, h4, h5⟩
 ·rintro ⟨h1, h2, h3, h4, h5⟩; exact ⟨⟨⟨⟨h1, h2⟩, h3⟩, h4⟩, h5⟩
theorem siB_iff (s : Si) : siB s = true ↔ siN s = true ∧ (∀ j, j < s.ps.length → prB s.r s.tm (pAt s.ps j) = true) ∧ risB (auL s.ps) = true := by
 simp only [siB, Bool.and_eq_true, allP_iff]
def inAll (n : Nat) (l : List Int) : Nat → Bool
 | 0 => true
 | k + 1 => inAll n l k && decide (0 ≤ iAt l k ∧ iAt l k < n)
theorem inAll_iff (n : Nat) (l : List Int) : ∀ k, (inAll n l k = true ↔ ∀ j, j < k → 0 ≤ iAt l j ∧ iAt l j < n)
 | 0 => by simp [inAll]
 | k + 1 => by
  simp only [inAll, Bool.and_eq_true, inAll_iff n l k, decide_eq_true_eq]
  constructor
  ·rintro ⟨h1, h2⟩ j hj
   rcases Nat.lt_or_ge j k with h | h
   ·exact h1 j h
   ·obtain rfl : j = k := by omega
    exact h2
  ·intro h; exact ⟨fun j hj => h j (by omega), h k (by omega)⟩
theorem inAll_false {n : Nat} {l : List Int} {k : Nat} (hv : ¬ (0 ≤ iAt l k ∧ iAt l k < n)) (m : Nat) (h : k < m) : inAll n l m = false := by
 cases hh : inAll n l m with
 | false => rfl
 | true => have := (inAll_iff n l m).1 hh k h; omega
def rgB (s : Si) (use : List Int) (ev : Int) : Bool := siB s && inB ev (s.tm + 1) 1000000000000 && inAll s.ps.length use use.length && risB use && decide (2 * s.f + s.lo < use.length)
theorem rgB_iff (s : Si) (use : List Int) (ev : Int) : rgB s use ev = true ↔ siB s = true ∧ (s.tm + 1 ≤ ev ∧ ev ≤ 1000000000000) ∧ (∀ j, j < use.length → 0 ≤ iAt use j ∧ iAt use j < s.ps.length) ∧ risB use = true ∧ 2 * s.f + s.lo < use.length := by
 simp only [rgB, inB, Bool.and_eq_true, inAll_iff, decide_eq_true_eq]
 constructor
 ·rintro ⟨⟨⟨⟨h1, h2⟩, h3⟩, h4⟩, h5⟩; exact ⟨h1, h2, h3, h4, h5⟩
 ·rintro ⟨h1, h2, h3, h4, h5⟩; exact ⟨⟨⟨⟨h1, h2⟩, h3⟩, h4⟩, h5⟩
def wdL (ps : List Pr) (use : List Int) : List Int := use.map fun i => pWd (pAt ps i.toNat)
theorem wdL_length (ps : List Pr) (use : List Int) : (wdL ps use).length = use.length := by simp [wdL]
theorem wdL_at (ps : List Pr) (use : List Int) (i : Nat) (h : i < use.length) : iAt (wdL ps use) i = pWd (pAt ps (iAt use i).toNat) := by
 rw [iAt_lt _ _ (by rw [wdL_length]; exact h), iAt_lt use i h]; simp [wdL]
theorem ris_ge {l : List Int} (h : risB l = true) : ∀ i, i < l.length → (i : Int) ≤ iAt l i
 | 0, hi => by have := (risTo_iff l l.length).1 h 0 hi; simp at this; omega
 | i + 1, hi => by
  have h1 := (risTo_iff l l.length).1 h (i + 1) hi
  have h2 := ris_ge h i (by omega)
  rw [if_neg (by omega), show i + 1 - 1 = i by omega] at h1
  omega
theorem use_le {n : Nat} {use : List Int} (h : risB use = true) (hin : ∀ j, j < use.length → 0 ≤ iAt use j ∧ iAt use j < n) : use.length ≤ n := by
 rcases Nat.eq_zero_or_pos use.length with h0 | h0
 ·omega
 ·have h1 := ris_ge h (use.length - 1) (by omega)
  have h2 := hin (use.length - 1) (by omega)
  omega
theorem rg_spOk {s : Si} {use : List Int} {ev : Int} (h : rgB s use ev = true) : spOk (wdL s.ps use) s.f s.lo = true := by
 obtain ⟨h1, h2, h3, h4, h5⟩ := (rgB_iff s use ev).1 h
 obtain ⟨h6, h7, h8⟩ := (siB_iff s).1 h1
 have h9 := (siN_iff s).1 h6
 have h10 := use_le h4 h3
 rw [spOk_iff, wdL_length]
 refine ⟨⟨⟨by omega, by omega⟩, fun j hj => ?_⟩, by omega, by omega, by omega⟩
 rw [wdL_at _ _ _ hj]
 have h11 := (prB_iff _ _ _).1 (h7 (iAt use j).toNat (by have := h3 j hj; omega))
 unfold pWd
 omega
theorem rg_elOk {s : Si} {use : List Int} {ev : Int} (h : rgB s use ev = true) : elOk s.r (ev + s.tm) = true := by
 obtain ⟨h1, h2, h3, h4, h5⟩ := (rgB_iff s use ev).1 h
 have h9 := (siN_iff s).1 ((siB_iff s).1 h1).1
 rw [elOk_iff]
 omega
def wdt (s : Si) (use : List Int) (ev : Int) : Int := if rgB s use ev = true then worst (wdL s.ps use) s.f s.lo + grw s.r (ev + s.tm) else 0
def wdEr (s : Si) (use : List Int) (ev : Int) : Int := if rgB s use ev = true then 0 else 1
end Go.Proofs.Ytlmcoollkmhanaa
/- Plain mathematics: with one more width the greatest width is not greater. -/
namespace Go.Proofs.Ytlmcoollkmhanaa
open Go.RowKit

end Go.Proofs.Ytlmcoollkmhanaa
/- Plain mathematics of scales: a quotient out of its absolute value, and out of the divided number. -/
namespace Go.Proofs.Ytlmcoollkmhanaa
open Go.RowKit

def DrIn (a n d : Int) : Prop := (-1 ≤ a ∧ a ≤ 1000000000000001) ∧ (999000000 ≤ n ∧ n ≤ 1001000000) ∧ 999000000 ≤ d ∧ d ≤ 1001000000
theorem dr_bd {a n d : Int} (h : DrIn a n d) : -1001000000 ≤ a * n ∧ a * n ≤ 1001000000000002002000000 := by
 obtain ⟨h1, h2, h3⟩ := h
 have e1 : (a + 1) * n ≤ 1000000000000002 * 1001000000 := Int.mul_le_mul (by omega) (by omega) (by omega) (by omega)
 have e2 : 0 ≤ (a + 1) * n := Int.mul_nonneg (by omega) (by omega)
 have e3 : (a + 1) * 999000000 ≤ (a + 1) * n := Int.mul_le_mul_of_nonneg_left (by omega) (by omega)
 have e4 : (a + 1) * n ≤ (a + 1) * 1001000000 := Int.mul_le_mul_of_nonneg_left (by omega) (by omega)
 rw [Int.add_mul] at e1 e2 e3 e4
 omega
theorem flo_abs {a n d : Int} (hd : 0 < d) (_hn : 0 ≤ n) : (0 ≤ a → (a * n) / d = (a * n) / d) ∧ (a < 0 → (a * n) / d = if 0 < (-a * n) % d then -((-a * n) / d + 1) else -((-a * n) / d)) := by
 refine ⟨fun _ => rfl, fun h => ?_⟩
 have e : a * n = -(-a * n) := by rw [Int.neg_mul, Int.neg_neg]
 have h1 := Int.emod_nonneg (-a * n) (show d ≠ 0 by omega)
 have h2 := Int.emod_lt_of_pos (-a * n) hd
 have h3 := Int.mul_ediv_add_emod (-a * n) d
 rw [e]
 generalize -a * n = N at *
 rw [Int.mul_comm] at h3
 split
 ·refine flo_eq hd ?_ ?_
  ·rw [Int.neg_mul, Int.add_mul]; omega
  ·rw [show -(N / d + 1) + 1 = -(N / d) by omega, Int.neg_mul]; omega
 ·refine flo_eq hd ?_ ?_
  ·rw [Int.neg_mul]; omega
  ·rw [Int.add_mul, Int.neg_mul]; omega
theorem cei_abs {a n d : Int} (hd : 0 < d) (_hn : 0 ≤ n) : (0 ≤ a → cei (a * n) d = if 0 < (a * n) % d then (a * n) / d + 1 else (a * n) / d) ∧ (a < 0 → cei (a * n) d = -((-a * n) / d)) := by
 refine ⟨fun h => ?_, fun h => ?_⟩
 ·have h1 := Int.emod_nonneg (a * n) (show d ≠ 0 by omega)
  have h2 := Int.emod_lt_of_pos (a * n) hd
  have h3 := Int.mul_ediv_add_emod (a * n) d
  generalize a * n = N at *
  rw [Int.mul_comm] at h3
  split
  ·refine cei_eq hd ?_ ?_
   ·rw [show N / d + 1 - 1 = N / d by omega]; omega
   ·rw [Int.add_mul]; omega
  ·refine cei_eq hd ?_ ?_
   ·rw [Int.sub_mul]; omega
   ·omega
 ·have e : a * n = -(-a * n) := by rw [Int.neg_mul, Int.neg_neg]
  have h1 := Int.emod_nonneg (-a * n) (show d ≠ 0 by omega)
  have h2 := Int.emod_lt_of_pos (-a * n) hd
  have h3 := Int.mul_ediv_add_emod (-a * n) d
  rw [e]
  generalize -a * n = N at *
  rw [Int.mul_comm] at h3
  refine cei_eq hd ?_ ?_
  ·rw [Int.sub_mul, Int.neg_mul]; omega
  ·rw [Int.neg_mul]; omega
theorem flo_split {a n d : Int} (hd : 0 < d) : (a * n) / d = a / d * n + a % d * n / d ∧ (a * n) % d = a % d * n % d := by
 have h3 := Int.mul_ediv_add_emod a d
 have e : a * n = d * (a / d * n) + a % d * n := by
  conv => lhs; rw [← h3]
  rw [Int.add_mul, Int.mul_assoc]
 rw [e]
 constructor
 ·rw [Int.add_comm, Int.add_mul_ediv_left _ _ (show d ≠ 0 by omega), Int.add_comm]
 ·rw [Int.add_comm, Int.add_mul_emod_self_left]
theorem cei_mod {N d : Int} (hd : 0 < d) : cei N d = if 0 < N % d then N / d + 1 else N / d := by
 have := (cei_abs (a := N) (n := 1) hd (by omega))
 rw [Int.mul_one] at this
 have h1 := Int.emod_nonneg N (show d ≠ 0 by omega)
 have h2 := Int.emod_lt_of_pos N hd
 have h3 := Int.mul_ediv_add_emod N d
 rw [Int.mul_comm] at h3
 split
 ·refine cei_eq hd ?_ ?_
  ·rw [show N / d + 1 - 1 = N / d by omega]; omega
  ·rw [Int.add_mul]; omega
 ·refine cei_eq hd ?_ ?_
  ·rw [Int.sub_mul]; omega
  ·omega
theorem dr_quo {a n d : Int} (h : DrIn a n d) : (-2 ≤ a * n / d ∧ a * n / d ≤ 1003000000000000) ∧ (-2 ≤ cei (a * n) d ∧ cei (a * n) d ≤ 1003000000000000) ∧ (-1 ≤ a / d ∧ a / d ≤ 1002000) ∧ (0 ≤ a % d ∧ a % d < d) := by
 have hb := dr_bd h
 obtain ⟨h1, h2, h3⟩ := h
 have hd : 0 < d := by omega
 refine ⟨⟨le_flo hd (by omega), flo_le hd (by omega)⟩, ⟨le_cei hd (by omega), cei_le hd (by omega)⟩, ⟨le_flo hd (by omega), flo_le hd (by omega)⟩, Int.emod_nonneg _ (by omega), Int.emod_lt_of_pos _ hd⟩
end Go.Proofs.Ytlmcoollkmhanaa
/- math/bits.Mul64, and Div64 by a number of 30 bits: what each call returns. -/
namespace Go.Proofs.Ytlmcoollkmhanaa
open Go.RowKit Go.Lib
theorem dv_maskN (a : Nat) (ha : a < 18446744073709551616) : bits .and .u64 (a : Int) 4294967295 = ((a % 4294967296 : Nat) : Int) := by
 have h := bits_and_u64_nat a 4294967295 ha (by omega)
 have e : a &&& 4294967295 = a % 4294967296 := Nat.and_two_pow_sub_one_eq_mod a 32
 rw [e] at h
 exact h
theorem dv_divN (a : Nat) : (a : Int) / 4294967296 = ((a / 4294967296 : Nat) : Int) := by omega
theorem dv_mulN (a b : Nat) : (a : Int) * (b : Int) = ((a * b : Nat) : Int) := (Int.natCast_mul a b).symm
theorem dv_addN (a b : Nat) : (a : Int) + (b : Int) = ((a + b : Nat) : Int) := (Int.natCast_add a b).symm
theorem dv_wrapN (a : Nat) (ha : a < 18446744073709551616) : IntKind.u64.wrap (a : Int) = (a : Int) := by rw [IntKind.wrap_u64]; omega
theorem dv_wrapM (a : Nat) : IntKind.u64.wrap (a : Int) = ((a % 18446744073709551616 : Nat) : Int) := by rw [IntKind.wrap_u64]; omega
set_option maxHeartbeats 1000000 in
theorem Mul64_any (x y : Nat) (hx : x < 18446744073709551616) (hy : y < 18446744073709551616) (w : World) :
  Calls Try.prog 93 #[.int .u64 x, .int .u64 y] w fun e w' => e = .returned (.tuple #[.int .u64 ((x * y / 18446744073709551616 : Nat) : Int), .int .u64 ((x * y % 18446744073709551616 : Nat) : Int)]) ∧ w' = w := by
 obtain ⟨bd, bt, bw, hhi⟩ := Lib.mul64_hi x y hx hy
 have ba := Lib.half_mul_le (a := x / 4294967296) (b := y / 4294967296) (by omega) (by omega)
 have bb := Lib.half_mul_le (a := x / 4294967296) (b := y % 4294967296) (by omega) (by omega)
 have bc := Lib.half_mul_le (a := x % 4294967296) (b := y / 4294967296) (by omega) (by omega)
 have ba' : x / 4294967296 * (y / 4294967296) < 18446744073709551616 := by omega
 have bb' : x / 4294967296 * (y % 4294967296) < 18446744073709551616 := by omega
 have bc' : x % 4294967296 * (y / 4294967296) < 18446744073709551616 := by omega
 have bh1 : x / 4294967296 * (y / 4294967296) + (x / 4294967296 * (y % 4294967296) + x % 4294967296 * (y % 4294967296) / 4294967296) / 4294967296 < 18446744073709551616 := by omega
 have bh : x / 4294967296 * (y / 4294967296) + (x / 4294967296 * (y % 4294967296) + x % 4294967296 * (y % 4294967296) / 4294967296) / 4294967296 + ((x / 4294967296 * (y % 4294967296) + x % 4294967296 * (y % 4294967296) / 4294967296) % 4294967296 + x % 4294967296 * (y / 4294967296)) / 4294967296 < 18446744073709551616 := by omega
 go_enter Try.func93, Try.ntmps93
 go_wp2
 simp only [dv_maskN x hx, dv_maskN y hy, dv_divN, dv_mulN, dv_addN, dv_wrapN _ bd, dv_wrapN _ bb', dv_wrapN _ bt, dv_maskN _ bt, dv_wrapN _ bc', dv_wrapN _ bw, dv_wrapN _ ba', dv_wrapN _ bh1, dv_wrapN _ bh, dv_wrapM (x * y)]
 rw [hhi]
 go_ret2
 exact ⟨rfl, rfl⟩
theorem dv_len (x : Nat) (h1 : 536870912 ≤ x) (h2 : x < 1073741824) : Lib.bitLen x = 30 := by
 rw [Lib.bitLen_shift24 x (by omega) (by omega)]
 have : ∀ k : Fin 32, Lib.bitLen (32 + k.val) = 6 := by decide +kernel
 have e := this ⟨x / 16777216 - 32, by omega⟩
 simp only at e
 rw [show 32 + (x / 16777216 - 32) = x / 16777216 by omega] at e
 omega
set_option maxHeartbeats 4000000 in
set_option maxRecDepth 100000 in
theorem Len64_any (x : Int) (h1 : 536870912 ≤ x) (h2 : x < 1073741824) (w : World) : Calls Try.prog 99 #[.int .u64 x] w fun e w' => e = .returned (.int .i64 30) ∧ w' = w := by
 have d1 : decide (4294967296 ≤ x) = false := decide_eq_false (by omega)
 have d2 : decide (65536 ≤ x) = true := decide_eq_true (by omega)
 have d3 : decide (256 ≤ x / 65536) = true := decide_eq_true (by omega)
 have H2 := hide h2
 have H1 := hide h1
 have h0 : 0 ≤ x := by omega
 clear h2 h1
 go_enter Try.func99, Try.ntmps99
 go_wp2
 go_ret
 refine ⟨ret_int ?_, rfl⟩
 have h1 := H1.out
 have h2 := H2.out
 have hb := dv_len x.toNat (by omega) (by omega)
 have s := Lib.bitLen_shift24 x.toNat (by omega) (by omega)
 have l := Lib.len8_of (x / 65536 / 256 % 256) (by omega) (by omega)
 rw [show (x / 65536 / 256 % 256).toNat = x.toNat / 16777216 by omega] at l
 rw [l]
 have hb2 : Lib.bitLen (x.toNat / 16777216) = 6 := by omega
 rw [hb2]
 simp [wrap64]
set_option maxRecDepth 100000 in
set_option maxHeartbeats 400000 in
theorem LeadingZeros64_any (x : Int) (h1 : 536870912 ≤ x) (h2 : x < 1073741824) (w : World) : Calls Try.prog 98 #[.int .u64 x] w fun e w' => e = .returned (.int .i64 34) ∧ w' = w := by
 go_enter Try.func98, Try.ntmps98
 go_wp2_with (go_at_call 99; refine (Len64_any x h1 h2 _).mono ?_; rintro e w' ⟨rfl, rfl⟩)
 go_ret
 exact ⟨rfl, rfl⟩
theorem dv_or (hi lo : Nat) (hh : hi < 1073741824) (hl : lo < 18446744073709551616) : bits .or .u64 ((hi : Int) * 17179869184) ((lo : Int) / 1073741824) = ((hi * 17179869184 + lo / 1073741824 : Nat) : Int) := by
 have h := bits_or_u64_nat (hi * 17179869184) (lo / 1073741824) (by omega) (by omega)
 have e : hi * 17179869184 ||| lo / 1073741824 = hi * 17179869184 + lo / 1073741824 := by
  have := Nat.shiftLeft_add_eq_or_of_lt (i := 34) (a := hi) (b := lo / 1073741824) (by omega)
  rw [Nat.shiftLeft_eq] at this
  exact this.symm
 rw [e] at h
 rw [← h]
 congr 1
set_option maxRecDepth 100000 in
set_option maxHeartbeats 1000000 in
theorem Div64_any (hi lo y : Nat) (hy1 : 536870912 ≤ y) (hy2 : y < 1073741824) (hh : hi < y) (hl : lo < 18446744073709551616) (w : World) :
  Calls Try.prog 94 #[.int .u64 hi, .int .u64 lo, .int .u64 y] w fun e w' => e = .returned (.tuple #[.int .u64 (((hi * 18446744073709551616 + lo) / y : Nat) : Int), .int .u64 (((hi * 18446744073709551616 + lo) % y : Nat) : Int)]) ∧ Below w.heap.size w w' := by
 have p1 : ((y : Int) == 0) = false := by rw [beq_eq_false_iff_ne]; omega
 have p2 : decide ((y : Int) ≤ hi) = false := decide_eq_false (by omega)
 have p2' : decide (y ≤ hi) = false := decide_eq_false (by omega)
 rcases Nat.eq_zero_or_pos hi with h0 | h0
 ·subst h0
  have f1 : IntKind.u64.wrap ((lo : Int) / (y : Int)) = ((lo / y : Nat) : Int) := by
   rw [← Int.natCast_ediv]
   exact dv_wrapN _ (Nat.lt_of_le_of_lt (Nat.div_le_self _ _) hl)
  have f2 : ((lo : Int) % (y : Int)) = ((lo % y : Nat) : Int) := (Int.natCast_emod lo y).symm
  have Hl := hide hl
  clear hl
  go_enter Try.func94, Try.ntmps94
  go_wp2_with fail
  go_quiet (fail)
  go_wp2_with fail
  go_ret2
  rw [Nat.zero_mul, Nat.zero_add]
  exact ⟨rfl, (by ((repeat' (first | exact Below.refl _ _ | refine Below.alloc ?_ ?_ _ | refine Below.setCell ?_ ?_ _ | refine Below.drew ?_ | refine below_drewN ?_ _)) <;> (first | omega | (simp; done) | (simp; omega))))⟩
 ·have p3 : ((hi : Int) == 0) = false := by rw [beq_eq_false_iff_ne]; omega
  obtain ⟨u, hu⟩ : ∃ u, u = hi * 17179869184 + lo / 1073741824 := ⟨_, rfl⟩
  obtain ⟨v, hv⟩ : ∃ v, v = y * 4 := ⟨_, rfl⟩
  obtain ⟨z, hz⟩ : ∃ z, z = lo % 1073741824 * 17179869184 := ⟨_, rfl⟩
  obtain ⟨z1, hz1⟩ : ∃ z1, z1 = z / 4294967296 := ⟨_, rfl⟩
  obtain ⟨z0, hz0⟩ : ∃ z0, z0 = z % 4294967296 := ⟨_, rfl⟩
  have hv0 : 0 < v := by omega
  have hul : u < v * 4294967296 := by omega
  obtain ⟨q1, hq1⟩ : ∃ q1, q1 = u / v := ⟨_, rfl⟩
  obtain ⟨r1, hr1⟩ : ∃ r1, r1 = u % v := ⟨_, rfl⟩
  have hr1v : r1 < v := by rw [hr1]; exact Nat.mod_lt _ hv0
  have hq1l : q1 < 4294967296 := by rw [hq1]; exact (Nat.div_lt_iff_lt_mul hv0).2 (by rw [Nat.mul_comm]; exact hul)
  obtain ⟨x, hx⟩ : ∃ x, x = r1 * 4294967296 + z1 := ⟨_, rfl⟩
  have hxl : x < v * 4294967296 := by omega
  obtain ⟨q0, hq0⟩ : ∃ q0, q0 = x / v := ⟨_, rfl⟩
  obtain ⟨r0, hr0⟩ : ∃ r0, r0 = x % v := ⟨_, rfl⟩
  have hr0v : r0 < v := by rw [hr0]; exact Nat.mod_lt _ hv0
  have hq0l : q0 < 4294967296 := by rw [hq0]; exact (Nat.div_lt_iff_lt_mul hv0).2 (by rw [Nat.mul_comm]; exact hxl)
  have F1 : (y : Int) * 17179869184 / 4294967296 = v := by omega
  have F2 : bits .and .u64 ((y : Int) * 17179869184) 4294967295 = 0 := by
   have := dv_maskN (y * 17179869184) (by omega)
   rw [show y * 17179869184 % 4294967296 = 0 by omega] at this
   exact this
  have F3 : bits .or .u64 ((hi : Int) * 17179869184) ((lo : Int) / 1073741824) = u := by rw [dv_or hi lo (by omega) hl, hu]
  have F4 : IntKind.u64.wrap ((lo : Int) * 17179869184) = z := by
   rw [show (17179869184 : Int) = ((17179869184 : Nat) : Int) from rfl, dv_mulN, dv_wrapM, hz]; omega
  have F5 : (z : Int) / 4294967296 = z1 := by omega
  have F6 : bits .and .u64 (z : Int) 4294967295 = z0 := by rw [dv_maskN z (by omega), hz0]
  have F7 : IntKind.u64.wrap ((u : Int) / v) = q1 := by rw [← Int.natCast_ediv, ← hq1]; exact dv_wrapN _ (by omega)
  have hz1l : z1 < 4294967296 := by omega
  have hvl : v < 4294967296 := by omega
  obtain ⟨c1, hc1⟩ : ∃ c1, c1 = q1 * v := ⟨_, rfl⟩
  have hc1u : c1 + r1 = u := by rw [hc1, hq1, hr1, Nat.mul_comm]; exact Nat.div_add_mod u v
  obtain ⟨c0, hc0⟩ : ∃ c0, c0 = q0 * v := ⟨_, rfl⟩
  have hc0x : c0 + r0 = x := by rw [hc0, hq0, hr0, Nat.mul_comm]; exact Nat.div_add_mod x v
  have e1 : q1 * (y * 17179869184) = c1 * 4294967296 := by rw [hc1, hv, show (17179869184 : Nat) = 4 * 4294967296 from rfl, ← Nat.mul_assoc, ← Nat.mul_assoc, ← Nat.mul_assoc]
  have e0 : q0 * (y * 17179869184) = c0 * 4294967296 := by rw [hc0, hv, show (17179869184 : Nat) = 4 * 4294967296 from rfl, ← Nat.mul_assoc, ← Nat.mul_assoc, ← Nat.mul_assoc]
  obtain ⟨A, hA⟩ : ∃ A, A = u * 4294967296 % 18446744073709551616 := ⟨_, rfl⟩
  obtain ⟨B, hB⟩ : ∃ B, B = (A + z1) % 18446744073709551616 := ⟨_, rfl⟩
  obtain ⟨C, hC⟩ : ∃ C, C = c1 * 4294967296 % 18446744073709551616 := ⟨_, rfl⟩
  obtain ⟨D, hD⟩ : ∃ D, D = x * 4294967296 % 18446744073709551616 := ⟨_, rfl⟩
  obtain ⟨E, hE⟩ : ∃ E, E = (D + z0) % 18446744073709551616 := ⟨_, rfl⟩
  obtain ⟨F, hF⟩ : ∃ F, F = c0 * 4294967296 % 18446744073709551616 := ⟨_, rfl⟩
  obtain ⟨G, hG⟩ : ∃ G, G = r0 * 4294967296 + z0 := ⟨_, rfl⟩
  have G1 : IntKind.u64.wrap ((q1 : Int) * v) = c1 := by rw [dv_mulN, ← hc1]; exact dv_wrapN _ (by omega)
  have G2 : IntKind.u64.wrap ((u : Int) - c1) = r1 := by rw [show (u : Int) - c1 = r1 by omega]; exact dv_wrapN _ (by omega)
  have G3 : IntKind.u64.wrap ((u : Int) * 4294967296) = A := by rw [show (4294967296 : Int) = ((4294967296 : Nat) : Int) from rfl, dv_mulN, dv_wrapM, hA]
  have G4 : IntKind.u64.wrap ((A : Int) + z1) = B := by rw [dv_addN, dv_wrapM, hB]
  have G5 : IntKind.u64.wrap ((q1 : Int) * ((y : Int) * 17179869184)) = C := by rw [show (17179869184 : Int) = ((17179869184 : Nat) : Int) from rfl, dv_mulN, dv_mulN, dv_wrapM, e1, hC]
  have G6 : IntKind.u64.wrap ((B : Int) - C) = x := by rw [IntKind.wrap_u64]; omega
  have G7 : IntKind.u64.wrap ((x : Int) / v) = q0 := by rw [← Int.natCast_ediv, ← hq0]; exact dv_wrapN _ (by omega)
  have G8 : IntKind.u64.wrap ((q0 : Int) * v) = c0 := by rw [dv_mulN, ← hc0]; exact dv_wrapN _ (by omega)
  have G9 : IntKind.u64.wrap ((x : Int) - c0) = r0 := by rw [show (x : Int) - c0 = r0 by omega]; exact dv_wrapN _ (by omega)
  have K1 : IntKind.u64.wrap ((x : Int) * 4294967296) = D := by rw [show (4294967296 : Int) = ((4294967296 : Nat) : Int) from rfl, dv_mulN, dv_wrapM, hD]
  have K2 : IntKind.u64.wrap ((D : Int) + z0) = E := by rw [dv_addN, dv_wrapM, hE]
  have K3 : IntKind.u64.wrap ((q0 : Int) * ((y : Int) * 17179869184)) = F := by rw [show (17179869184 : Int) = ((17179869184 : Nat) : Int) from rfl, dv_mulN, dv_mulN, dv_wrapM, e0, hF]
  have K4 : IntKind.u64.wrap ((E : Int) - F) = G := by rw [IntKind.wrap_u64]; omega
  have hz0l : z0 < 4294967296 := by omega
  have hfin : q1 * 4294967296 + q0 = (hi * 18446744073709551616 + lo) / y ∧ G / 17179869184 = (hi * 18446744073709551616 + lo) % y := by
   have hd := dv_parts (y := y) (hi := hi) (lo := lo) (P := 17179869184) (R := 1073741824) (v := v) (by decide) (by omega) (by omega) (by omega)
   rw [← hu, ← hz, ← hz1, ← hz0, ← hq1, ← hr1, ← hx, ← hq0, ← hr0, ← hG] at hd
   exact hd
  have Hfin := hide hfin
  have L1 : decide (4294967296 ≤ (q1 : Int)) = false := decide_eq_false (by omega)
  have L0 : decide (4294967296 ≤ (q0 : Int)) = false := decide_eq_false (by omega)
  have L2 : decide (4294967296 * (r1 : Int) + z1 < 0) = false := decide_eq_false (by omega)
  have L3 : decide (4294967296 * (r0 : Int) + z0 < 0) = false := decide_eq_false (by omega)
  have m1 : IntKind.u64.wrap ((q1 : Int) * 4294967296) = (q1 : Int) * 4294967296 := by rw [IntKind.wrap_u64]; omega
  have m2 : IntKind.u64.wrap ((q1 : Int) * 4294967296 + q0) = (q1 : Int) * 4294967296 + q0 := by rw [IntKind.wrap_u64]; omega
  have m3 : IntKind.u64.wrap (4294967296 * (r1 : Int)) = 4294967296 * (r1 : Int) := by rw [IntKind.wrap_u64]; omega
  have m4 : IntKind.u64.wrap (4294967296 * (r1 : Int) + z1) = 4294967296 * (r1 : Int) + z1 := by rw [IntKind.wrap_u64]; omega
  have m5 : IntKind.u64.wrap (4294967296 * (r0 : Int)) = 4294967296 * (r0 : Int) := by rw [IntKind.wrap_u64]; omega
  have m6 : IntKind.u64.wrap (4294967296 * (r0 : Int) + z0) = 4294967296 * (r0 : Int) + z0 := by rw [IntKind.wrap_u64]; omega
  clear hl hu hv hz hz1 hz0 hq1 hr1 hx hq0 hr0 hA hB hC hD hE hF hG hfin e0 e1 hc0 hc1 hc1u hc0x hul hxl
  go_enter Try.func94, Try.ntmps94
  go_wp2_with (go_at_call 98; refine (LeadingZeros64_any y (by omega) (by omega) _).mono ?_; rintro e w' ⟨rfl, rfl⟩)
  refine wp_loop_rounds 1 ?_
  rw [rounds_succ]
  go_wp2_with fail
  refine wp_loop_rounds 1 ?_
  rw [rounds_succ]
  go_wp2_with fail
  go_ret2
  obtain ⟨r1, r2⟩ := Hfin.out
  rw [← r1, ← r2]
  exact ⟨by simp, (by ((repeat' (first | exact Below.refl _ _ | refine Below.alloc ?_ ?_ _ | refine Below.setCell ?_ ?_ _ | refine Below.drew ?_ | refine below_drewN ?_ _)) <;> (first | omega | (simp; done) | (simp; omega))))⟩
theorem Mul64_at (x y h l : Nat) (hx : x < 18446744073709551616) (hy : y < 18446744073709551616) (hl : l < 18446744073709551616) (H : x * y = h * 18446744073709551616 + l) (w : World) :
  Calls Try.prog 93 #[.int .u64 x, .int .u64 y] w fun e w' => e = .returned (.tuple #[.int .u64 h, .int .u64 l]) ∧ w' = w := by
 have e1 : x * y / 18446744073709551616 = h := by rw [H]; omega
 have e2 : x * y % 18446744073709551616 = l := by rw [H]; omega
 have := Mul64_any x y hx hy w
 rw [e1, e2] at this
 exact this
theorem Div64_at (hi lo y q r : Nat) (hy1 : 536870912 ≤ y) (hy2 : y < 1073741824) (hh : hi < y) (hl : lo < 18446744073709551616) (hr : r < y) (H : hi * 18446744073709551616 + lo = y * q + r) (w : World) :
  Calls Try.prog 94 #[.int .u64 hi, .int .u64 lo, .int .u64 y] w fun e w' => e = .returned (.tuple #[.int .u64 q, .int .u64 r]) ∧ Below w.heap.size w w' := by
 have e1 : (hi * 18446744073709551616 + lo) / y = q := by rw [H, Nat.mul_add_div (by omega), Nat.div_eq_of_lt hr, Nat.add_zero]
 have e2 : (hi * 18446744073709551616 + lo) % y = r := by rw [H, Nat.mul_add_mod, Nat.mod_eq_of_lt hr]
 have := Div64_any hi lo y hy1 hy2 hh hl w
 rw [e1, e2] at this
 exact this
end Go.Proofs.Ytlmcoollkmhanaa
/- Package scale's quotients of the numbers that package drift has: what each call returns. -/
namespace Go.Proofs.Ytlmcoollkmhanaa
open Go.RowKit
attribute [local go_sem ↓] run_max_mx run_min_mn
def tmB (n : Int) : Bool := decide (-3000000000000000 ≤ n ∧ n ≤ 3000000000000000)
theorem tmB_yes {n : Int} (h : -3000000000000000 ≤ n ∧ n ≤ 3000000000000000) : tmB n = true := by simp [tmB]; omega
set_option maxRecDepth 100000 in
set_option maxHeartbeats 400000 in
theorem scTime_any (n : Int) (w : World) : Calls Try.prog 86 #[.int .i64 n] w fun e w' => e = .returned (.bool (tmB n)) ∧ w = w' := by
 go_enter Try.func86, Try.ntmps86
 go_wp2
 all_goals go_ret
 all_goals exact ⟨ret_bool (by unfold tmB; rw [Bool.eq_iff_iff]; simp only [decide_eq_true_eq, Bool.false_eq_true, false_iff]; omega), rfl⟩
def QuoN (m n d q r h l : Nat) : Prop := (m * n = h * 18446744073709551616 + l ∧ m * n = d * q + r ∧ r < d) ∧ h < d ∧ l < 18446744073709551616 ∧ q ≤ 1003000000000000 ∧ 999000000 ≤ d ∧ d ≤ 1001000000
theorem quo_mk {m n d : Nat} (hm : m ≤ 1000000000000001) (hn : n ≤ 1001000000) (hd1 : 999000000 ≤ d) (hd2 : d ≤ 1001000000) : ∃ h l, QuoN m n d (m * n / d) (m * n % d) h l := by
 have hb : m * n ≤ 1000000000000001 * 1001000000 := Nat.mul_le_mul hm hn
 refine ⟨m * n / 18446744073709551616, m * n % 18446744073709551616, ⟨by omega, (Nat.div_add_mod _ _).symm, Nat.mod_lt _ (by omega)⟩, by omega, by omega, ?_, hd1, hd2⟩
 exact Nat.le_of_lt_succ ((Nat.div_lt_iff_lt_mul (by omega)).2 (by omega))
set_option maxRecDepth 100000 in
set_option maxHeartbeats 1000000 in
theorem divide_any (a : Int) (m n d q r h l : Nat) (hm : mx a (-a) = m) (ha : -1 ≤ a ∧ a ≤ 1000000000000001) (hm' : m ≤ 1000000000000001) (hn : n ≤ 1001000000) (hq : QuoN m n d q r h l) (w : World) :
  Calls Try.prog 87 #[.int .i64 a, .int .i64 n, .int .i64 d] w fun e w' => e = .returned (.tuple #[.agg #[.int .u64 q, .int .u64 r, .int .u64 d, .bool (decide (a < 0))], .bool true]) ∧ Below w.heap.size w w' := by
 have hq1 := hq.2.2.2.1
 have hd1 := hq.2.2.2.2
 have hh := hq.2.1
 have Hq := hide hq
 have p1 : decide ((d : Int) ≤ h) = false := decide_eq_false (by omega)
 have p1' : decide (d ≤ h) = false := decide_eq_false (by omega)
 have p2 : decide ((q : Int) ≤ 3000000000000000) = true := decide_eq_true (by omega)
 clear hq
 go_enter Try.func87, Try.ntmps87
 go_wp2_with (first | (go_at_call 93; refine (Mul64_at m n h l (by omega) (by omega) Hq.out.2.2.1 Hq.out.1.1 _).mono ?_; rintro e w' ⟨rfl, rfl⟩) | (go_at_call 94; refine (Div64_at h l d q r (by omega) (by omega) hh Hq.out.2.2.1 Hq.out.1.2.2 (Hq.out.1.1.symm.trans Hq.out.1.2.1) _).mono ?_; rintro e w1 ⟨rfl, b1⟩; obtain ⟨kb1_0, fb1_0, zb1_0, zab1_0, zbb1_0, zcb1_0, zdb1_0, zeb1_0⟩ := bk3 b1 (w.heap.size) (by first | omega | simp <;> omega); obtain ⟨kb1_1, fb1_1, zb1_1, zab1_1, zbb1_1, zcb1_1, zdb1_1, zeb1_1⟩ := bk3 b1 (w.heap.size + 1) (by first | omega | simp <;> omega)))
 go_region
 go_wp2
 refine bodyPost_ret (v := .tuple #[.agg #[.int .u64 q, .int .u64 r, .int .u64 d, .bool (decide (a < 0))], .bool true]) (by simp [results, Try.results87, go_sem, kb1_0]) rfl ⟨rfl, ?_⟩
 ((with_reducible repeat' first | exact .refl _ _ | exact b1 | refine .alloc ?_ ?_ _ | refine .setCell ?_ ?_ _ | refine .drew ?_ | refine below_drewN ?_ _ | refine Below.trans ?_ (b1.mono ?_)) <;> first | omega | simp <;> omega)
set_option maxRecDepth 100000 in
set_option maxHeartbeats 400000 in
theorem FloorUp_any (q r d : Nat) (b : Bool) (w : World) : Calls Try.prog 74 #[.agg #[.int .u64 q, .int .u64 r, .int .u64 d, .bool b]] w fun e w' => e = .returned (.bool (b && decide (0 < r))) ∧ Below w.heap.size w w' := by
 cases b
 ·go_enter Try.func74, Try.ntmps74
  go_wp2
  go_ret
  exact ⟨rfl, (by ((repeat' (first | exact Below.refl _ _ | refine Below.alloc ?_ ?_ _ | refine Below.setCell ?_ ?_ _ | refine Below.drew ?_ | refine below_drewN ?_ _)) <;> (first | omega | (simp; done) | (simp; omega))))⟩
 ·go_enter Try.func74, Try.ntmps74
  go_wp2
  go_ret
  exact ⟨ret_bool (by simp), (by ((repeat' (first | exact Below.refl _ _ | refine Below.alloc ?_ ?_ _ | refine Below.setCell ?_ ?_ _ | refine Below.drew ?_ | refine below_drewN ?_ _)) <;> (first | omega | (simp; done) | (simp; omega))))⟩
set_option maxRecDepth 100000 in
set_option maxHeartbeats 400000 in
theorem CeilUp_any (q r d : Nat) (b : Bool) (w : World) : Calls Try.prog 75 #[.agg #[.int .u64 q, .int .u64 r, .int .u64 d, .bool b]] w fun e w' => e = .returned (.bool (!b && decide (0 < r))) ∧ Below w.heap.size w w' := by
 cases b
 ·go_enter Try.func75, Try.ntmps75
  go_wp2
  go_ret
  exact ⟨ret_bool (by simp), (by ((repeat' (first | exact Below.refl _ _ | refine Below.alloc ?_ ?_ _ | refine Below.setCell ?_ ?_ _ | refine Below.drew ?_ | refine below_drewN ?_ _)) <;> (first | omega | (simp; done) | (simp; omega))))⟩
 ·go_enter Try.func75, Try.ntmps75
  go_wp2
  go_ret
  exact ⟨rfl, (by ((repeat' (first | exact Below.refl _ _ | refine Below.alloc ?_ ?_ _ | refine Below.setCell ?_ ?_ _ | refine Below.drew ?_ | refine below_drewN ?_ _)) <;> (first | omega | (simp; done) | (simp; omega))))⟩
end Go.Proofs.Ytlmcoollkmhanaa
/- Package scale's Floor and Ceil at the numbers that package drift has, and package drift: what each call returns. -/
namespace Go.Proofs.Ytlmcoollkmhanaa
open Go.RowKit
attribute [local go_sem ↓] run_max_mx run_min_mn
theorem mx_neg (a : Int) (m : Nat) (h : a = m ∨ a = -(m : Int)) : mx a (-a) = m := by unfold mx; split <;> omega
theorem dr_nat {a n d : Int} (h : DrIn a n d) : ∃ m n' d' : Nat, n = n' ∧ d = d' ∧ (0 ≤ a → a = m) ∧ (a < 0 → a = -(m : Int)) ∧ m ≤ 1000000000000001 ∧ n' ≤ 1001000000 ∧ 999000000 ≤ d' ∧ d' ≤ 1001000000 ∧ -1 ≤ a ∧ a ≤ 1000000000000001 := by
 obtain ⟨h1, h2, h3⟩ := h
 by_cases h0 : 0 ≤ a
 ·exact ⟨a.toNat, n.toNat, d.toNat, by omega, by omega, by omega, by omega, by omega, by omega, by omega, by omega, by omega, by omega⟩
 ·exact ⟨(-a).toNat, n.toNat, d.toNat, by omega, by omega, by omega, by omega, by omega, by omega, by omega, by omega, by omega, by omega⟩
set_option maxRecDepth 100000 in
set_option maxHeartbeats 1000000 in
theorem scFloor_any (a : Int) (m n d q r h l : Nat) (hm : mx a (-a) = m) (ha : -1 ≤ a ∧ a ≤ 1000000000000001) (hm' : m ≤ 1000000000000001) (hn : n ≤ 1001000000) (hq : QuoN m n d q r h l) (w : World) :
  Calls Try.prog 73 #[.int .i64 a, .int .i64 n, .int .i64 d, .func (.func 74) #[] #[]] w fun e w' =>
   e = .returned (.tuple #[.int .i64 (if a < 0 then (if 0 < r then -((q : Int) + 1) else -(q : Int)) else q), .int .i64 0]) ∧ Below w.heap.size w w' := by
 have hq1 := hq.2.2.2.1
 have hd1 := hq.2.2.2.2
 have t1 := tmB_yes (n := a) (by omega)
 have t2 := tmB_yes (n := (q : Int)) (by omega)
 have t3 := tmB_yes (n := -(q : Int)) (by omega)
 have t4 := tmB_yes (n := -((q : Int) + 1)) (by omega)
 have g1 : decide ((n : Int) < 0) = false := decide_eq_false (by omega)
 have g2 : decide ((2000000000 : Int) < n) = false := decide_eq_false (by omega)
 have g2' : decide (2000000000 < n) = false := decide_eq_false (by omega)
 have g3 : decide ((d : Int) < 1) = false := decide_eq_false (by omega)
 have g3' : decide (d < 1) = false := decide_eq_false (by omega)
 have g3'' : decide (d = 0) = false := decide_eq_false (by omega)
 have g4 : decide ((2000000000 : Int) < d) = false := decide_eq_false (by omega)
 have g4' : decide (2000000000 < d) = false := decide_eq_false (by omega)
 have Hq := hide hq
 have Hm := hide hm
 clear hq hm
 by_cases h0 : a < 0
 ·have e0 : decide (a < 0) = true := decide_eq_true h0
  rw [if_pos h0]
  by_cases h1 : 0 < r
  ·have e1 : decide (0 < r) = true := decide_eq_true h1
   rw [if_pos h1]
   go_enter Try.func73, Try.ntmps73
   go_wp2_with (first | (go_at_call 86; refine (scTime_any _ _).mono ?_; rintro e w' ⟨rfl, rfl⟩) | (go_at_call 87; refine (divide_any a m n d q r h l Hm.out ha hm' hn Hq.out _).mono ?_; rintro e w1 ⟨rfl, b1⟩; rw [e0]) | (go_at_call 74; refine (FloorUp_any q r d _ _).mono ?_; rintro e w2 ⟨rfl, b2⟩; rw [show (true && decide (0 < r)) = true by rw [e1]; rfl]; obtain ⟨kb2_0, fb2_0, zb2_0, zab2_0, zbb2_0, zcb2_0, zdb2_0, zeb2_0⟩ := bk3 b2 (w1.heap.size) (by first | omega | simp <;> omega)))
   go_ret2
   have z1 := b1.size
   exact ⟨rfl, (by ((with_reducible repeat' first | exact .refl _ _ | exact b1 | exact b2 | refine .alloc ?_ ?_ _ | refine .setCell ?_ ?_ _ | refine .drew ?_ | refine below_drewN ?_ _ | refine Below.trans ?_ (b1.mono ?_) | refine Below.trans ?_ (b2.mono ?_)) <;> first | omega | simp <;> omega))⟩
  ·have e1 : decide (0 < r) = false := decide_eq_false h1
   rw [if_neg h1]
   go_enter Try.func73, Try.ntmps73
   go_wp2_with (first | (go_at_call 86; refine (scTime_any _ _).mono ?_; rintro e w' ⟨rfl, rfl⟩) | (go_at_call 87; refine (divide_any a m n d q r h l Hm.out ha hm' hn Hq.out _).mono ?_; rintro e w1 ⟨rfl, b1⟩; rw [e0]) | (go_at_call 74; refine (FloorUp_any q r d _ _).mono ?_; rintro e w2 ⟨rfl, b2⟩; rw [show (true && decide (0 < r)) = false by rw [e1]; rfl]; obtain ⟨kb2_0, fb2_0, zb2_0, zab2_0, zbb2_0, zcb2_0, zdb2_0, zeb2_0⟩ := bk3 b2 (w1.heap.size) (by first | omega | simp <;> omega)))
   go_ret2
   have z1 := b1.size
   exact ⟨rfl, (by ((with_reducible repeat' first | exact .refl _ _ | exact b1 | exact b2 | refine .alloc ?_ ?_ _ | refine .setCell ?_ ?_ _ | refine .drew ?_ | refine below_drewN ?_ _ | refine Below.trans ?_ (b1.mono ?_) | refine Below.trans ?_ (b2.mono ?_)) <;> first | omega | simp <;> omega))⟩
 ·have e0 : decide (a < 0) = false := decide_eq_false h0
  rw [if_neg h0]
  go_enter Try.func73, Try.ntmps73
  go_wp2_with (first | (go_at_call 86; refine (scTime_any _ _).mono ?_; rintro e w' ⟨rfl, rfl⟩) | (go_at_call 87; refine (divide_any a m n d q r h l Hm.out ha hm' hn Hq.out _).mono ?_; rintro e w1 ⟨rfl, b1⟩; rw [e0]) | (go_at_call 74; refine (FloorUp_any q r d _ _).mono ?_; rintro e w2 ⟨rfl, b2⟩; rw [Bool.false_and]; obtain ⟨kb2_0, fb2_0, zb2_0, zab2_0, zbb2_0, zcb2_0, zdb2_0, zeb2_0⟩ := bk3 b2 (w1.heap.size) (by first | omega | simp <;> omega)))
  go_ret2
  have z1 := b1.size
  exact ⟨rfl, (by ((with_reducible repeat' first | exact .refl _ _ | exact b1 | exact b2 | refine .alloc ?_ ?_ _ | refine .setCell ?_ ?_ _ | refine .drew ?_ | refine below_drewN ?_ _ | refine Below.trans ?_ (b1.mono ?_) | refine Below.trans ?_ (b2.mono ?_)) <;> first | omega | simp <;> omega))⟩
set_option maxRecDepth 100000 in
set_option maxHeartbeats 1000000 in
theorem scCeil_any (a : Int) (m n d q r h l : Nat) (hm : mx a (-a) = m) (ha : -1 ≤ a ∧ a ≤ 1000000000000001) (hm' : m ≤ 1000000000000001) (hn : n ≤ 1001000000) (hq : QuoN m n d q r h l) (w : World) :
  Calls Try.prog 73 #[.int .i64 a, .int .i64 n, .int .i64 d, .func (.func 75) #[] #[]] w fun e w' =>
   e = .returned (.tuple #[.int .i64 (if a < 0 then -(q : Int) else (if 0 < r then (q : Int) + 1 else q)), .int .i64 0]) ∧ Below w.heap.size w w' := by
 have hq1 := hq.2.2.2.1
 have hd1 := hq.2.2.2.2
 have t1 := tmB_yes (n := a) (by omega)
 have t2 := tmB_yes (n := (q : Int)) (by omega)
 have t3 := tmB_yes (n := -(q : Int)) (by omega)
 have t4 := tmB_yes (n := (q : Int) + 1) (by omega)
 have g1 : decide ((n : Int) < 0) = false := decide_eq_false (by omega)
 have g2 : decide ((2000000000 : Int) < n) = false := decide_eq_false (by omega)
 have g2' : decide (2000000000 < n) = false := decide_eq_false (by omega)
 have g3 : decide ((d : Int) < 1) = false := decide_eq_false (by omega)
 have g3' : decide (d < 1) = false := decide_eq_false (by omega)
 have g3'' : decide (d = 0) = false := decide_eq_false (by omega)
 have g4 : decide ((2000000000 : Int) < d) = false := decide_eq_false (by omega)
 have g4' : decide (2000000000 < d) = false := decide_eq_false (by omega)
 have Hq := hide hq
 have Hm := hide hm
 clear hq hm
 by_cases h0 : a < 0
 ·have e0 : decide (a < 0) = true := decide_eq_true h0
  rw [if_pos h0]
  go_enter Try.func73, Try.ntmps73
  go_wp2_with (first | (go_at_call 86; refine (scTime_any _ _).mono ?_; rintro e w' ⟨rfl, rfl⟩) | (go_at_call 87; refine (divide_any a m n d q r h l Hm.out ha hm' hn Hq.out _).mono ?_; rintro e w1 ⟨rfl, b1⟩; rw [e0]) | (go_at_call 75; refine (CeilUp_any q r d _ _).mono ?_; rintro e w2 ⟨rfl, b2⟩; rw [Bool.not_true, Bool.false_and]; obtain ⟨kb2_0, fb2_0, zb2_0, zab2_0, zbb2_0, zcb2_0, zdb2_0, zeb2_0⟩ := bk3 b2 (w1.heap.size) (by first | omega | simp <;> omega)))
  go_ret2
  have z1 := b1.size
  exact ⟨rfl, (by ((with_reducible repeat' first | exact .refl _ _ | exact b1 | exact b2 | refine .alloc ?_ ?_ _ | refine .setCell ?_ ?_ _ | refine .drew ?_ | refine below_drewN ?_ _ | refine Below.trans ?_ (b1.mono ?_) | refine Below.trans ?_ (b2.mono ?_)) <;> first | omega | simp <;> omega))⟩
 ·have e0 : decide (a < 0) = false := decide_eq_false h0
  rw [if_neg h0]
  by_cases h1 : 0 < r
  ·have e1 : decide (0 < r) = true := decide_eq_true h1
   rw [if_pos h1]
   go_enter Try.func73, Try.ntmps73
   go_wp2_with (first | (go_at_call 86; refine (scTime_any _ _).mono ?_; rintro e w' ⟨rfl, rfl⟩) | (go_at_call 87; refine (divide_any a m n d q r h l Hm.out ha hm' hn Hq.out _).mono ?_; rintro e w1 ⟨rfl, b1⟩; rw [e0]) | (go_at_call 75; refine (CeilUp_any q r d _ _).mono ?_; rintro e w2 ⟨rfl, b2⟩; rw [show (!false && decide (0 < r)) = true by rw [e1]; rfl]; obtain ⟨kb2_0, fb2_0, zb2_0, zab2_0, zbb2_0, zcb2_0, zdb2_0, zeb2_0⟩ := bk3 b2 (w1.heap.size) (by first | omega | simp <;> omega)))
   go_ret2
   have z1 := b1.size
   exact ⟨rfl, (by ((with_reducible repeat' first | exact .refl _ _ | exact b1 | exact b2 | refine .alloc ?_ ?_ _ | refine .setCell ?_ ?_ _ | refine .drew ?_ | refine below_drewN ?_ _ | refine Below.trans ?_ (b1.mono ?_) | refine Below.trans ?_ (b2.mono ?_)) <;> first | omega | simp <;> omega))⟩
  ·have e1 : decide (0 < r) = false := decide_eq_false h1
   rw [if_neg h1]
   go_enter Try.func73, Try.ntmps73
   go_wp2_with (first | (go_at_call 86; refine (scTime_any _ _).mono ?_; rintro e w' ⟨rfl, rfl⟩) | (go_at_call 87; refine (divide_any a m n d q r h l Hm.out ha hm' hn Hq.out _).mono ?_; rintro e w1 ⟨rfl, b1⟩; rw [e0]) | (go_at_call 75; refine (CeilUp_any q r d _ _).mono ?_; rintro e w2 ⟨rfl, b2⟩; rw [show (!false && decide (0 < r)) = false by rw [e1]; rfl]; obtain ⟨kb2_0, fb2_0, zb2_0, zab2_0, zbb2_0, zcb2_0, zdb2_0, zeb2_0⟩ := bk3 b2 (w1.heap.size) (by first | omega | simp <;> omega)))
   go_ret2
   have z1 := b1.size
   exact ⟨rfl, (by ((with_reducible repeat' first | exact .refl _ _ | exact b1 | exact b2 | refine .alloc ?_ ?_ _ | refine .setCell ?_ ?_ _ | refine .drew ?_ | refine below_drewN ?_ _ | refine Below.trans ?_ (b1.mono ?_) | refine Below.trans ?_ (b2.mono ?_)) <;> first | omega | simp <;> omega))⟩
theorem nat_div (m n d : Nat) : ((m * n / d : Nat) : Int) = (m : Int) * n / d := by rw [Int.natCast_ediv, Int.natCast_mul]
theorem nat_mod (m n d : Nat) : ((m * n % d : Nat) : Int) = (m : Int) * n % d := by rw [Int.natCast_emod, Int.natCast_mul]
set_option maxRecDepth 100000 in
set_option maxHeartbeats 1000000 in
theorem Floor_any (a n d : Int) (hin : DrIn a n d) (w : World) : Calls Try.prog 60 #[.int .i64 a, .int .i64 n, .int .i64 d] w fun e w' => e = .returned (.tuple #[.int .i64 (a * n / d), .int .i64 0]) ∧ Below w.heap.size w w' := by
 obtain ⟨m, n', d', rfl, rfl, h1, h2, h3, h4, h5, h6, h7, h8⟩ := dr_nat hin
 obtain ⟨h, l, hq⟩ := quo_mk h3 h4 h5 h6
 have e : a * n' / d' = if a < 0 then (if 0 < m * n' % d' then -(((m * n' / d' : Nat) : Int) + 1) else -((m * n' / d' : Nat) : Int)) else ((m * n' / d' : Nat) : Int) := by
  have hf := flo_abs (a := a) (n := n') (d := d') (by omega) (by omega)
  by_cases h0 : a < 0
  ·rw [if_pos h0, hf.2 h0, h2 h0, Int.neg_neg, nat_div, ← nat_mod]
   by_cases h9 : 0 < m * n' % d'
   ·rw [if_pos h9, if_pos (by omega)]
   ·rw [if_neg h9, if_neg (by omega)]
  ·rw [if_neg h0, h1 (by omega), nat_div]
 obtain ⟨x, hx⟩ : ∃ x : Int, x = a * n' / d' := ⟨_, rfl⟩
 rw [← hx]
 rw [e] at hx
 clear e
 have hm := mx_neg a m (by omega)
 generalize m * n' / d' = q at *
 generalize m * n' % d' = r at *
 have Hx := hide hx
 clear hx h1 h2 hin
 go_enter Try.func60, Try.ntmps60
 go_wp2_with (go_at_call 73; refine (scFloor_any a m n' d' q r h l hm ⟨h7, h8⟩ h3 h4 hq _).mono ?_; rintro e w1 ⟨rfl, b1⟩; rw [← Hx.out])
 go_ret2
 exact ⟨rfl, b1⟩
set_option maxRecDepth 100000 in
set_option maxHeartbeats 1000000 in
theorem Ceil_any (a n d : Int) (hin : DrIn a n d) (w : World) : Calls Try.prog 61 #[.int .i64 a, .int .i64 n, .int .i64 d] w fun e w' => e = .returned (.tuple #[.int .i64 (cei (a * n) d), .int .i64 0]) ∧ Below w.heap.size w w' := by
 obtain ⟨m, n', d', rfl, rfl, h1, h2, h3, h4, h5, h6, h7, h8⟩ := dr_nat hin
 obtain ⟨h, l, hq⟩ := quo_mk h3 h4 h5 h6
 have e : cei (a * n') d' = if a < 0 then -((m * n' / d' : Nat) : Int) else (if 0 < m * n' % d' then ((m * n' / d' : Nat) : Int) + 1 else ((m * n' / d' : Nat) : Int)) := by
  have hf := cei_abs (a := a) (n := n') (d := d') (by omega) (by omega)
  by_cases h0 : a < 0
  ·rw [if_pos h0, hf.2 h0, h2 h0, Int.neg_neg, nat_div]
  ·rw [if_neg h0, hf.1 (by omega), h1 (by omega), nat_div, ← nat_mod]
   by_cases h9 : 0 < m * n' % d'
   ·rw [if_pos h9, if_pos (by omega)]
   ·rw [if_neg h9, if_neg (by omega)]
 obtain ⟨x, hx⟩ : ∃ x : Int, x = cei (a * n') d' := ⟨_, rfl⟩
 rw [← hx]
 rw [e] at hx
 clear e
 have hm := mx_neg a m (by omega)
 generalize m * n' / d' = q at *
 generalize m * n' % d' = r at *
 have Hx := hide hx
 clear hx h1 h2 hin
 go_enter Try.func61, Try.ntmps61
 go_wp2_with (go_at_call 73; refine (scCeil_any a m n' d' q r h l hm ⟨h7, h8⟩ h3 h4 hq _).mono ?_; rintro e w1 ⟨rfl, b1⟩; rw [← Hx.out])
 go_ret2
 exact ⟨rfl, b1⟩
end Go.Proofs.Ytlmcoollkmhanaa
/- Package drift, and the references of layers 1 and 7: what each call returns. -/
namespace Go.Proofs.Ytlmcoollkmhanaa
open Go.RowKit
attribute [local go_sem ↓] run_max_mx run_min_mn
set_option maxRecDepth 100000 in
set_option maxHeartbeats 400000 in
theorem isBound_any (n : Int) (w : World) : Calls Try.prog 58 #[.int .i64 n] w fun e w' => e = .returned (.bool (inB n 0 1000000)) ∧ w = w' := by
 go_enter Try.func58, Try.ntmps58
 go_wp2
 all_goals go_ret
 all_goals exact ⟨ret_bool (by unfold inB; rw [Bool.eq_iff_iff]; simp only [decide_eq_true_eq, Bool.false_eq_true, false_iff]; omega), rfl⟩
set_option maxRecDepth 100000 in
set_option maxHeartbeats 400000 in
theorem isStretch_any (n : Int) (w : World) : Calls Try.prog 59 #[.int .i64 n] w fun e w' => e = .returned (.bool (inB n 0 1000000000000000)) ∧ w = w' := by
 go_enter Try.func59, Try.ntmps59
 go_wp2
 all_goals go_ret
 all_goals exact ⟨ret_bool (by unfold inB; rw [Bool.eq_iff_iff]; simp only [decide_eq_true_eq, Bool.false_eq_true, false_iff]; omega), rfl⟩
set_option maxRecDepth 100000 in
set_option maxHeartbeats 400000 in
theorem R7Bound_any (n : Int) (w : World) : Calls Try.prog 77 #[.int .i64 n] w fun e w' => e = .returned (.bool (inB n 0 1000000)) ∧ w = w' := by
 go_enter Try.func77, Try.ntmps77
 go_wp2
 all_goals go_ret
 all_goals exact ⟨ret_bool (by unfold inB; rw [Bool.eq_iff_iff]; simp only [decide_eq_true_eq, Bool.false_eq_true, false_iff]; omega), rfl⟩
set_option maxRecDepth 100000 in
set_option maxHeartbeats 400000 in
theorem R7Stretch_any (n : Int) (w : World) : Calls Try.prog 78 #[.int .i64 n] w fun e w' => e = .returned (.bool (inB n 0 1000000000000000)) ∧ w = w' := by
 go_enter Try.func78, Try.ntmps78
 go_wp2
 all_goals go_ret
 all_goals exact ⟨ret_bool (by unfold inB; rw [Bool.eq_iff_iff]; simp only [decide_eq_true_eq, Bool.false_eq_true, false_iff]; omega), rfl⟩
set_option maxRecDepth 100000 in
set_option maxHeartbeats 400000 in
theorem R1Time_any (n : Int) (w : World) : Calls Try.prog 95 #[.int .i64 n] w fun e w' => e = .returned (.bool (tmB n)) ∧ w = w' := by
 go_enter Try.func95, Try.ntmps95
 go_wp2
 all_goals go_ret
 all_goals exact ⟨ret_bool (by unfold tmB; rw [Bool.eq_iff_iff]; simp only [decide_eq_true_eq, Bool.false_eq_true, false_iff]; omega), rfl⟩
set_option maxRecDepth 100000 in
set_option maxHeartbeats 400000 in
theorem R1Factor_any (n : Int) (w : World) : Calls Try.prog 96 #[.int .i64 n] w fun e w' => e = .returned (.bool (inB n 0 2000000000)) ∧ w = w' := by
 go_enter Try.func96, Try.ntmps96
 go_wp2
 all_goals go_ret
 all_goals exact ⟨ret_bool (by unfold inB; rw [Bool.eq_iff_iff]; simp only [decide_eq_true_eq, Bool.false_eq_true, false_iff]; omega), rfl⟩
set_option maxRecDepth 100000 in
set_option maxHeartbeats 400000 in
theorem R1right_any (a n d : Int) (h : DrIn a n d) (w : World) : Calls Try.prog 88 #[.int .i64 a, .int .i64 n, .int .i64 d] w fun e w' => e = .returned (.bool true) ∧ w = w' := by
 obtain ⟨h1, h2, h3⟩ := h
 have p1 := tmB_yes (n := a) (by omega)
 have p2 : inB n 0 2000000000 = true := by simp [inB]; omega
 have p3 : inB d 0 2000000000 = true := by simp [inB]; omega
 have p4 : decide (1 ≤ d) = true := decide_eq_true (by omega)
 go_enter Try.func88, Try.ntmps88
 go_wp2_with (first | (go_at_call 95; refine (R1Time_any _ _).mono ?_; rintro e w' ⟨rfl, rfl⟩) | (go_at_call 96; refine (R1Factor_any _ _).mono ?_; rintro e w' ⟨rfl, rfl⟩))
 go_ret
 exact ⟨rfl, rfl⟩
set_option maxRecDepth 100000 in
set_option maxHeartbeats 400000 in
theorem R1result_any (n : Int) (h : -3000000000000000 ≤ n ∧ n ≤ 3000000000000000) (w : World) : Calls Try.prog 90 #[.int .i64 n, .bool true] w fun e w' => e = .returned (.tuple #[.int .i64 n, .int .i64 0]) ∧ w = w' := by
 have p1 := tmB_yes h
 go_enter Try.func90, Try.ntmps90
 go_wp2_with (go_at_call 95; refine (R1Time_any _ _).mono ?_; rintro e w' ⟨rfl, rfl⟩)
 go_ret2
 exact ⟨rfl, rfl⟩
set_option maxRecDepth 100000 in
set_option maxHeartbeats 1000000 in
theorem R1Split_any (a n d : Int) (h : DrIn a n d) (h0 : 0 ≤ a) (w : World) : Calls Try.prog 89 #[.int .i64 a, .int .i64 n, .int .i64 d] w fun e w' => e = .returned (.tuple #[.int .i64 (a * n / d), .int .i64 (a * n % d), .bool true]) ∧ ∃ q, w' = w.drewN q := by
 have hq := dr_quo h
 have hs := flo_split (a := a) (n := n) (d := d) (by have := h.2.2; omega)
 obtain ⟨h1, h2, h3⟩ := h
 rw [hs.1, hs.2]
 obtain ⟨T, hT⟩ : ∃ T : Int, T = 3000000000000000 / n := ⟨_, rfl⟩
 have hT1 : 2990000 ≤ T := by rw [hT]; exact le_flo (by omega) (by omega)
 have hT2 : T ≤ 3100000 := by rw [hT]; exact flo_le (by omega) (by omega)
 have hq0 : 0 ≤ a / d := le_flo (by omega) (by omega)
 generalize hqe : a / d = q at hq hq0 ⊢
 generalize hre : a % d = r at hq ⊢
 have b1 : 0 ≤ q * n ∧ q * n ≤ 1002000 * 1001000000 := ⟨Int.mul_nonneg hq0 (by omega), Int.mul_le_mul (by omega) (by omega) (by omega) (by omega)⟩
 have b2 : 0 ≤ r * n ∧ r * n ≤ 1001000000 * 1001000000 := ⟨Int.mul_nonneg (by omega) (by omega), Int.mul_le_mul (by omega) (by omega) (by omega) (by omega)⟩
 obtain ⟨x, hx⟩ : ∃ x : Int, x = r * n / d := ⟨_, rfl⟩
 have b3 : 0 ≤ x ∧ x ≤ 1100000000 := by rw [hx]; exact ⟨le_flo (by omega) (by omega), flo_le (by omega) (by omega)⟩
 rw [← hx]
 have f1 : IntKind.i64.wrap (q * n) = q * n := IntWalk.i64_in _ (by omega)
 have f2 : IntKind.i64.wrap (r * n) = r * n := IntWalk.i64_in _ (by omega)
 have f3 : IntKind.i64.wrap (r * n / d) = x := by rw [← hx]; exact IntWalk.i64_in _ (by omega)
 have f3' : r * n / d = x := hx.symm
 have f4 : IntKind.i64.wrap (q * n + x) = q * n + x := IntWalk.i64_in _ (by omega)
 have f5 : a / d = q := hqe
 have f6 : a % d = r := hre
 have f7 : (3000000000000000 : Int) / n = T := hT.symm
 have f8 : IntKind.i64.wrap (a / d) = q := by rw [f5]; exact IntWalk.i64_in _ (by omega)
 have f9 : IntKind.i64.wrap ((3000000000000000 : Int) / n) = T := by rw [f7]; exact IntWalk.i64_in _ (by omega)
 have g1 : decide (r < 0) = false := decide_eq_false (by omega)
 have g2 : decide (0 < n) = true := decide_eq_true (by omega)
 have g3 : decide (T < q) = false := decide_eq_false (by omega)
 have g4 : decide (T + 1 < -q) = false := decide_eq_false (by omega)
 have hn0 : ¬ n = 0 := by omega
 have hd0 : ¬ d = 0 := by omega
 have hq1 : q ≤ 1002000 := by omega
 have hr1 : 0 ≤ r ∧ r ≤ 1001000000 := by omega
 clear hT hqe hre hx hs hq
 go_enter Try.func89, Try.ntmps89
 go_wp2
 go_quiet (fail)
 go_wp2
 go_ret3
 exact ⟨by first | rfl | (simp only [f5, f6, f3']; rfl) | (simp [f5, f6, f3']), _, rfl⟩
set_option maxRecDepth 100000 in
set_option maxHeartbeats 1000000 in
theorem R1Floor_any (a n d : Int) (h : DrIn a n d) (h0 : 0 ≤ a) (w : World) : Calls Try.prog 79 #[.int .i64 a, .int .i64 n, .int .i64 d] w fun e w' => e = .returned (.tuple #[.int .i64 (a * n / d), .int .i64 0]) ∧ Below w.heap.size w w' := by
 have hq := dr_quo h
 obtain ⟨x, hx⟩ : ∃ x : Int, x = a * n / d := ⟨_, rfl⟩
 obtain ⟨y, hy⟩ : ∃ y : Int, y = a * n % d := ⟨_, rfl⟩
 have hs := R1Split_any a n d h h0
 rw [← hx, ← hy] at hs
 rw [← hx]
 have hb : -3000000000000000 ≤ x ∧ x ≤ 3000000000000000 := by omega
 clear hq hx hy
 go_enter Try.func79, Try.ntmps79
 go_wp2_with (first | (go_at_call 88; refine (R1right_any a n d h _).mono ?_; rintro e w' ⟨rfl, rfl⟩) | (go_at_call 89; refine (hs _).mono ?_; rintro e w' ⟨rfl, q, rfl⟩) | (go_at_call 90; refine (R1result_any x hb _).mono ?_; rintro e w' ⟨rfl, rfl⟩))
 go_ret2
 exact ⟨rfl, (by ((with_reducible repeat' first | exact .refl _ _ | refine .alloc ?_ ?_ _ | refine .setCell ?_ ?_ _ | refine .drew ?_ | refine below_drewN ?_ _) <;> first | omega | simp <;> omega))⟩
set_option maxRecDepth 100000 in
set_option maxHeartbeats 1000000 in
theorem R1Ceil_any (a n d : Int) (h : DrIn a n d) (h0 : 0 ≤ a) (w : World) : Calls Try.prog 80 #[.int .i64 a, .int .i64 n, .int .i64 d] w fun e w' => e = .returned (.tuple #[.int .i64 (cei (a * n) d), .int .i64 0]) ∧ Below w.heap.size w w' := by
 have hq := dr_quo h
 obtain ⟨x, hx⟩ : ∃ x : Int, x = a * n / d := ⟨_, rfl⟩
 obtain ⟨y, hy⟩ : ∃ y : Int, y = a * n % d := ⟨_, rfl⟩
 have hc := cei_mod (N := a * n) (d := d) (by have := h.2.2; omega)
 have hs := R1Split_any a n d h h0
 rw [← hx, ← hy] at hs hc
 have hb : -3000000000000000 ≤ x ∧ x ≤ 1003000000000000 := by omega
 rw [hc]
 clear hq hx hy hc
 by_cases hp : 0 < y
 ·rw [if_pos hp]
  go_enter Try.func80, Try.ntmps80
  go_wp2_with (first | (go_at_call 88; refine (R1right_any a n d h _).mono ?_; rintro e w' ⟨rfl, rfl⟩) | (go_at_call 89; refine (hs _).mono ?_; rintro e w' ⟨rfl, q, rfl⟩) | (go_at_call 90; refine (R1result_any (x + 1) (by omega) _).mono ?_; rintro e w' ⟨rfl, rfl⟩))
  go_ret2
  exact ⟨rfl, (by ((with_reducible repeat' first | exact .refl _ _ | refine .alloc ?_ ?_ _ | refine .setCell ?_ ?_ _ | refine .drew ?_ | refine below_drewN ?_ _) <;> first | omega | simp <;> omega))⟩
 ·rw [if_neg hp]
  go_enter Try.func80, Try.ntmps80
  go_wp2_with (first | (go_at_call 88; refine (R1right_any a n d h _).mono ?_; rintro e w' ⟨rfl, rfl⟩) | (go_at_call 89; refine (hs _).mono ?_; rintro e w' ⟨rfl, q, rfl⟩) | (go_at_call 90; refine (R1result_any x (by omega) _).mono ?_; rintro e w' ⟨rfl, rfl⟩))
  go_ret2
  exact ⟨rfl, (by ((with_reducible repeat' first | exact .refl _ _ | refine .alloc ?_ ?_ _ | refine .setCell ?_ ?_ _ | refine .drew ?_ | refine below_drewN ?_ _) <;> first | omega | simp <;> omega))⟩
end Go.Proofs.Ytlmcoollkmhanaa
/- Package drift's Elapsed and Counts, and those of the reference of layer 7: what each call returns. -/
namespace Go.Proofs.Ytlmcoollkmhanaa
open Go.RowKit
attribute [local go_sem ↓] run_max_mx run_min_mn
theorem el_ways (r c : Int) : (elOk r c = true ∧ inB r 0 1000000 = true ∧ inB c 0 1000000000000000 = true) ∨ (elOk r c = false ∧ inB r 0 1000000 = false) ∨ (elOk r c = false ∧ inB r 0 1000000 = true ∧ inB c 0 1000000000000000 = false) := by
 unfold elOk
 cases inB r 0 1000000 <;> cases inB c 0 1000000000000000 <;> simp
theorem el_in {r c : Int} (h : elOk r c = true) : DrIn (c - 1) 1000000000 (1000000000 + r) ∧ DrIn (c + 1) 1000000000 (1000000000 - r) ∧ DrIn c (1000000000 - r) 1000000000 ∧ DrIn c (1000000000 + r) 1000000000 := by
 have := (elOk_iff r c).1 h
 unfold DrIn
 omega
set_option maxRecDepth 100000 in
set_option maxHeartbeats 1000000 in
theorem Elapsed_any (r c : Int) (w : World) : Calls Try.prog 38 #[.int .i64 r, .int .i64 c] w fun e w' => e = .returned (.tuple #[.agg #[.int .i64 (elLo r c), .int .i64 (elHi r c)], .int .i64 (elEr r c)]) ∧ Below w.heap.size w w' := by
 rcases el_ways r c with ⟨h, h1, h2⟩ | ⟨h, h1⟩ | ⟨h, h1, h2⟩
 ·have hd := el_in h
  have hi := (elOk_iff r c).1 h
  have hb := el_bd h
  have e1 : elLo r c = (c - 1) * 1000000000 / (1000000000 + r) + 1 := by unfold elLo; rw [if_pos h]
  have e2 : elHi r c = cei ((c + 1) * 1000000000) (1000000000 - r) - 1 := by unfold elHi; rw [if_pos h]
  have e3 : elEr r c = 0 := by unfold elEr; rw [if_pos h]
  have hl := Floor_any _ _ _ hd.1
  have hh := Ceil_any _ _ _ hd.2.1
  rw [e1, e2] at hb
  rw [e1, e2, e3]
  generalize (c - 1) * 1000000000 / (1000000000 + r) = x at *
  generalize cei ((c + 1) * 1000000000) (1000000000 - r) = y at *
  have hm : mx (x + 1) 0 = x + 1 := by unfold mx; rw [if_neg (by omega)]
  clear e1 e2 e3 h hd
  go_enter Try.func38, Try.ntmps38
  go_wp2_with (first | (go_at_call 58; refine (isBound_any _ _).mono ?_; rintro e w' ⟨rfl, rfl⟩) | (go_at_call 59; refine (isStretch_any _ _).mono ?_; rintro e w' ⟨rfl, rfl⟩) | (go_at_call 60; refine (hl _).mono ?_; rintro e w1 ⟨rfl, b1⟩; obtain ⟨kb1_0, fb1_0, zb1_0, zab1_0, zbb1_0, zcb1_0, zdb1_0, zeb1_0⟩ := bk3 b1 (w.heap.size) (by first | omega | simp <;> omega)) | (go_at_call 61; refine (hh _).mono ?_; rintro e w2 ⟨rfl, b2⟩; obtain ⟨kb2_0, fb2_0, zb2_0, zab2_0, zbb2_0, zcb2_0, zdb2_0, zeb2_0⟩ := bk3 b2 (w.heap.size) (by first | omega | simp <;> omega)))
  refine bodyPost_ret (v := .tuple #[.agg #[.int .i64 (x + 1), .int .i64 (y - 1)], .int .i64 0]) (by simp [results, Try.results38, go_sem, kb1_0, kb2_0]) rfl ⟨rfl, ?_⟩
  have z1 := b1.size
  ((with_reducible repeat' first | exact .refl _ _ | exact b1 | exact b2 | refine .alloc ?_ ?_ _ | refine .setCell ?_ ?_ _ | refine .drew ?_ | refine below_drewN ?_ _ | refine Below.trans ?_ (b1.mono ?_) | refine Below.trans ?_ (b2.mono ?_)) <;> first | omega | simp <;> omega)
 all_goals
  obtain ⟨e1, e2, e3, -, -⟩ := elOk_no h
  rw [e1, e2, e3]
  clear e1 e2 e3 h
  go_enter Try.func38, Try.ntmps38
  go_wp2_with (first | (go_at_call 58; refine (isBound_any _ _).mono ?_; rintro e w' ⟨rfl, rfl⟩) | (go_at_call 59; refine (isStretch_any _ _).mono ?_; rintro e w' ⟨rfl, rfl⟩))
  refine bodyPost_ret (v := .tuple #[.agg #[.int .i64 0, .int .i64 0], .int .i64 1]) (by simp [results, Try.results38, go_sem]) rfl ⟨rfl, ?_⟩
  ((with_reducible repeat' first | exact .refl _ _ | refine .alloc ?_ ?_ _ | refine .setCell ?_ ?_ _ | refine .drew ?_ | refine below_drewN ?_ _) <;> first | omega | simp <;> omega)
set_option maxRecDepth 100000 in
set_option maxHeartbeats 1000000 in
theorem Counts_any (r c : Int) (w : World) : Calls Try.prog 68 #[.int .i64 r, .int .i64 c] w fun e w' => e = .returned (.tuple #[.agg #[.int .i64 (ctLo r c), .int .i64 (ctHi r c)], .int .i64 (elEr r c)]) ∧ Below w.heap.size w w' := by
 rcases el_ways r c with ⟨h, h1, h2⟩ | ⟨h, h1⟩ | ⟨h, h1, h2⟩
 ·have hd := el_in h
  have hi := (elOk_iff r c).1 h
  have e1 : ctLo r c = c * (1000000000 - r) / 1000000000 := by unfold ctLo; rw [if_pos h]
  have e2 : ctHi r c = cei (c * (1000000000 + r)) 1000000000 := by unfold ctHi; rw [if_pos h]
  have e3 : elEr r c = 0 := by unfold elEr; rw [if_pos h]
  have hl := Floor_any _ _ _ hd.2.2.1
  have hh := Ceil_any _ _ _ hd.2.2.2
  rw [e1, e2, e3]
  generalize c * (1000000000 - r) / 1000000000 = x at *
  generalize cei (c * (1000000000 + r)) 1000000000 = y at *
  clear e1 e2 e3 h hd
  go_enter Try.func68, Try.ntmps68
  go_wp2_with (first | (go_at_call 58; refine (isBound_any _ _).mono ?_; rintro e w' ⟨rfl, rfl⟩) | (go_at_call 59; refine (isStretch_any _ _).mono ?_; rintro e w' ⟨rfl, rfl⟩) | (go_at_call 60; refine (hl _).mono ?_; rintro e w1 ⟨rfl, b1⟩; obtain ⟨kb1_0, fb1_0, zb1_0, zab1_0, zbb1_0, zcb1_0, zdb1_0, zeb1_0⟩ := bk3 b1 (w.heap.size) (by first | omega | simp <;> omega)) | (go_at_call 61; refine (hh _).mono ?_; rintro e w2 ⟨rfl, b2⟩; obtain ⟨kb2_0, fb2_0, zb2_0, zab2_0, zbb2_0, zcb2_0, zdb2_0, zeb2_0⟩ := bk3 b2 (w.heap.size) (by first | omega | simp <;> omega)))
  refine bodyPost_ret (v := .tuple #[.agg #[.int .i64 x, .int .i64 y], .int .i64 0]) (by simp [results, Try.results68, go_sem, kb1_0, kb2_0]) rfl ⟨rfl, ?_⟩
  have z1 := b1.size
  ((with_reducible repeat' first | exact .refl _ _ | exact b1 | exact b2 | refine .alloc ?_ ?_ _ | refine .setCell ?_ ?_ _ | refine .drew ?_ | refine below_drewN ?_ _ | refine Below.trans ?_ (b1.mono ?_) | refine Below.trans ?_ (b2.mono ?_)) <;> first | omega | simp <;> omega)
 all_goals
  obtain ⟨-, -, e3, e1, e2⟩ := elOk_no h
  rw [e1, e2, e3]
  clear e1 e2 e3 h
  go_enter Try.func68, Try.ntmps68
  go_wp2_with (first | (go_at_call 58; refine (isBound_any _ _).mono ?_; rintro e w' ⟨rfl, rfl⟩) | (go_at_call 59; refine (isStretch_any _ _).mono ?_; rintro e w' ⟨rfl, rfl⟩))
  refine bodyPost_ret (v := .tuple #[.agg #[.int .i64 0, .int .i64 0], .int .i64 1]) (by simp [results, Try.results68, go_sem]) rfl ⟨rfl, ?_⟩
  ((with_reducible repeat' first | exact .refl _ _ | refine .alloc ?_ ?_ _ | refine .setCell ?_ ?_ _ | refine .drew ?_ | refine below_drewN ?_ _) <;> first | omega | simp <;> omega)
end Go.Proofs.Ytlmcoollkmhanaa
/- The reference of layer 7, and package link: what each call returns. -/
namespace Go.Proofs.Ytlmcoollkmhanaa
open Go.RowKit
attribute [local go_sem ↓] run_max_mx run_min_mn
set_option maxRecDepth 100000 in
set_option maxHeartbeats 1000000 in
theorem R7Counts_any (r c : Int) (w : World) : Calls Try.prog 65 #[.int .i64 r, .int .i64 c] w fun e w' => e = .returned (.tuple #[.agg #[.int .i64 (ctLo r c), .int .i64 (ctHi r c)], .int .i64 (elEr r c)]) ∧ Below w.heap.size w w' := by
 rcases el_ways r c with ⟨h, h1, h2⟩ | ⟨h, h1⟩ | ⟨h, h1, h2⟩
 ·have hd := el_in h
  have hi := (elOk_iff r c).1 h
  have e1 : ctLo r c = c * (1000000000 - r) / 1000000000 := by unfold ctLo; rw [if_pos h]
  have e2 : ctHi r c = cei (c * (1000000000 + r)) 1000000000 := by unfold ctHi; rw [if_pos h]
  have e3 : elEr r c = 0 := by unfold elEr; rw [if_pos h]
  have hl := R1Floor_any _ _ _ hd.2.2.1 (by omega)
  have hh := R1Ceil_any _ _ _ hd.2.2.2 (by omega)
  rw [e1, e2, e3]
  generalize c * (1000000000 - r) / 1000000000 = x at *
  generalize cei (c * (1000000000 + r)) 1000000000 = y at *
  clear e1 e2 e3 h hd
  go_enter Try.func65, Try.ntmps65
  go_wp2_with (first | (go_at_call 77; refine (R7Bound_any _ _).mono ?_; rintro e w' ⟨rfl, rfl⟩) | (go_at_call 78; refine (R7Stretch_any _ _).mono ?_; rintro e w' ⟨rfl, rfl⟩) | (go_at_call 79; refine (hl _).mono ?_; rintro e w1 ⟨rfl, b1⟩; obtain ⟨kb1_0, fb1_0, zb1_0, zab1_0, zbb1_0, zcb1_0, zdb1_0, zeb1_0⟩ := bk3 b1 (w.heap.size) (by first | omega | simp <;> omega)) | (go_at_call 80; refine (hh _).mono ?_; rintro e w2 ⟨rfl, b2⟩; obtain ⟨kb2_0, fb2_0, zb2_0, zab2_0, zbb2_0, zcb2_0, zdb2_0, zeb2_0⟩ := bk3 b2 (w.heap.size) (by first | omega | simp <;> omega)))
  refine bodyPost_ret (v := .tuple #[.agg #[.int .i64 x, .int .i64 y], .int .i64 0]) (by simp [results, Try.results65, go_sem, kb1_0, kb2_0]) rfl ⟨rfl, ?_⟩
  have z1 := b1.size
  ((with_reducible repeat' first | exact .refl _ _ | exact b1 | exact b2 | refine .alloc ?_ ?_ _ | refine .setCell ?_ ?_ _ | refine .drew ?_ | refine below_drewN ?_ _ | refine Below.trans ?_ (b1.mono ?_) | refine Below.trans ?_ (b2.mono ?_)) <;> first | omega | simp <;> omega)
 all_goals
  obtain ⟨-, -, e3, e1, e2⟩ := elOk_no h
  rw [e1, e2, e3]
  clear e1 e2 e3 h
  go_enter Try.func65, Try.ntmps65
  go_wp2_with (first | (go_at_call 77; refine (R7Bound_any _ _).mono ?_; rintro e w' ⟨rfl, rfl⟩) | (go_at_call 78; refine (R7Stretch_any _ _).mono ?_; rintro e w' ⟨rfl, rfl⟩))
  refine bodyPost_ret (v := .tuple #[.agg #[.int .i64 0, .int .i64 0], .int .i64 1]) (by simp [results, Try.results65, go_sem]) rfl ⟨rfl, ?_⟩
  ((with_reducible repeat' first | exact .refl _ _ | refine .alloc ?_ ?_ _ | refine .setCell ?_ ?_ _ | refine .drew ?_ | refine below_drewN ?_ _) <;> first | omega | simp <;> omega)
set_option maxRecDepth 100000 in
set_option maxHeartbeats 400000 in
theorem lkBounds_any (lo hi : Int) (w : World) : Calls Try.prog 91 #[.int .i64 lo, .int .i64 hi] w fun e w' => e = .returned (.bool (dlB lo hi)) ∧ w = w' := by
 go_enter Try.func91, Try.ntmps91
 go_wp2
 all_goals go_ret
 all_goals exact ⟨ret_bool (by unfold dlB; rw [Bool.eq_iff_iff]; simp only [decide_eq_true_eq, Bool.false_eq_true, false_iff]; omega), rfl⟩
set_option maxRecDepth 100000 in
set_option maxHeartbeats 400000 in
theorem formed_any (t ol oh bl bh : Int) (w : World) : Calls Try.prog 81 #[.agg #[.int .i64 t, .int .i64 ol, .int .i64 oh, .int .i64 bl, .int .i64 bh]] w fun e w' => e = .returned (.bool (lkB ol oh bl bh)) ∧ Below w.heap.size w w' := by
 cases h1 : dlB ol oh <;> cases h2 : dlB bl bh
 all_goals
  go_enter Try.func81, Try.ntmps81
  go_wp2_with (go_at_call 91; refine (lkBounds_any _ _ _).mono ?_; rintro e w' ⟨rfl, rfl⟩)
  go_ret
  exact ⟨ret_bool (by simp [lkB, h1, h2]), (by ((with_reducible repeat' first | exact .refl _ _ | refine .alloc ?_ ?_ _ | refine .setCell ?_ ?_ _ | refine .drew ?_ | refine below_drewN ?_ _) <;> first | omega | simp <;> omega))⟩
set_option maxRecDepth 100000 in
set_option maxHeartbeats 400000 in
theorem R10delays_any (lo hi : Int) (w : World) : Calls Try.prog 76 #[.int .i64 lo, .int .i64 hi] w fun e w' => e = .returned (.bool (dlB lo hi)) ∧ w = w' := by
 go_enter Try.func76, Try.ntmps76
 go_wp2
 all_goals go_ret
 all_goals exact ⟨ret_bool (by unfold dlB; rw [Bool.eq_iff_iff]; simp only [decide_eq_true_eq, Bool.false_eq_true, false_iff]; omega), rfl⟩
set_option maxRecDepth 100000 in
set_option maxHeartbeats 400000 in
theorem R10Form_any (t ol oh bl bh : Int) (w : World) : Calls Try.prog 64 #[.agg #[.int .i64 t, .int .i64 ol, .int .i64 oh, .int .i64 bl, .int .i64 bh]] w fun e w' => e = .returned (.bool (lkB ol oh bl bh)) ∧ Below w.heap.size w w' := by
 cases h1 : dlB ol oh <;> cases h2 : dlB bl bh
 all_goals
  go_enter Try.func64, Try.ntmps64
  go_wp2_with (go_at_call 76; refine (R10delays_any _ _ _).mono ?_; rintro e w' ⟨rfl, rfl⟩)
  go_ret
  exact ⟨ret_bool (by simp [lkB, h1, h2]), (by ((with_reducible repeat' first | exact .refl _ _ | refine .alloc ?_ ?_ _ | refine .setCell ?_ ?_ _ | refine .drew ?_ | refine below_drewN ?_ _) <;> first | omega | simp <;> omega))⟩
def snOk (ol oh bl bh s1 s2 : Int) : Bool := lkB ol oh bl bh && validB s1 s2
def snEr (ol oh bl bh s1 s2 : Int) : Int := if snOk ol oh bl bh s1 s2 = true then (if s2 < ol then 22 else 0) else 1
def snLo (ol oh bl bh s1 s2 : Int) : Int := if snEr ol oh bl bh s1 s2 = 0 then mx 0 (s1 - oh) else 0
def snHi (ol oh bl bh s1 s2 : Int) : Int := if snEr ol oh bl bh s1 s2 = 0 then s2 - ol else 0
theorem lkB_iff (ol oh bl bh : Int) : lkB ol oh bl bh = true ↔ (0 ≤ ol ∧ ol ≤ oh ∧ oh ≤ 1000000) ∧ 0 ≤ bl ∧ bl ≤ bh ∧ bh ≤ 1000000 := by simp [lkB, dlB]
set_option maxRecDepth 100000 in
set_option maxHeartbeats 400000 in
theorem before_any (s1 s2 lo hi : Int) (hl : 0 ≤ lo ∧ lo ≤ hi ∧ hi ≤ 1000000) (hs : 0 ≤ s1 ∧ s1 ≤ s2 ∧ s2 ≤ 3000000000000000) (w : World) : Calls Try.prog 83 #[.agg #[.int .i64 s1, .int .i64 s2], .int .i64 lo, .int .i64 hi] w fun e w' =>
  e = .returned (if s2 < lo then .tuple #[.agg #[.int .i64 0, .int .i64 0], .int .i64 22] else .tuple #[.agg #[.int .i64 (mx 0 (s1 - hi)), .int .i64 (s2 - lo)], .int .i64 0]) ∧ Below w.heap.size w w' := by
 have d1 : decide (hi < lo) = false := decide_eq_false (by omega)
 by_cases h : s2 < lo
 ·rw [if_pos h]
  go_enter Try.func83, Try.ntmps83
  go_wp2
  refine bodyPost_ret (v := .tuple #[.agg #[.int .i64 0, .int .i64 0], .int .i64 22]) (by simp [results, Try.results83, go_sem]) rfl ⟨rfl, ?_⟩
  ((with_reducible repeat' first | exact .refl _ _ | refine .alloc ?_ ?_ _ | refine .setCell ?_ ?_ _ | refine .drew ?_ | refine below_drewN ?_ _) <;> first | omega | simp <;> omega)
 ·rw [if_neg h]
  go_enter Try.func83, Try.ntmps83
  go_wp2
  refine bodyPost_ret (v := .tuple #[.agg #[.int .i64 (mx 0 (s1 - hi)), .int .i64 (s2 - lo)], .int .i64 0]) (by simp [results, Try.results83, go_sem]) rfl ⟨rfl, ?_⟩
  ((with_reducible repeat' first | exact .refl _ _ | refine .alloc ?_ ?_ _ | refine .setCell ?_ ?_ _ | refine .drew ?_ | refine below_drewN ?_ _) <;> first | omega | simp <;> omega)
set_option maxRecDepth 100000 in
set_option maxHeartbeats 1000000 in
theorem Sent_any (t ol oh bl bh s1 s2 : Int) (w : World) : Calls Try.prog 67 #[.agg #[.int .i64 t, .int .i64 ol, .int .i64 oh, .int .i64 bl, .int .i64 bh], .agg #[.int .i64 s1, .int .i64 s2]] w fun e w' =>
  e = .returned (.tuple #[.agg #[.int .i64 (snLo ol oh bl bh s1 s2), .int .i64 (snHi ol oh bl bh s1 s2)], .int .i64 (snEr ol oh bl bh s1 s2)]) ∧ Below w.heap.size w w' := by
 cases h1 : lkB ol oh bl bh with
 | false =>
  have e1 : snEr ol oh bl bh s1 s2 = 1 := by unfold snEr snOk; rw [h1]; rfl
  have e2 : snLo ol oh bl bh s1 s2 = 0 := by unfold snLo; rw [e1]; rfl
  have e3 : snHi ol oh bl bh s1 s2 = 0 := by unfold snHi; rw [e1]; rfl
  rw [e1, e2, e3]
  clear e1 e2 e3
  go_enter Try.func67, Try.ntmps67
  go_wp2_with (go_at_call 81; refine (formed_any _ _ _ _ _ _).mono ?_; rintro e w1 ⟨rfl, b1⟩; obtain ⟨kb1_0, fb1_0, zb1_0, zab1_0, zbb1_0, zcb1_0, zdb1_0, zeb1_0⟩ := bk3 b1 (w.heap.size) (by first | omega | simp <;> omega); obtain ⟨kb1_1, fb1_1, zb1_1, zab1_1, zbb1_1, zcb1_1, zdb1_1, zeb1_1⟩ := bk3 b1 (w.heap.size + 1) (by first | omega | simp <;> omega); obtain ⟨kb1_2, fb1_2, zb1_2, zab1_2, zbb1_2, zcb1_2, zdb1_2, zeb1_2⟩ := bk3 b1 (w.heap.size + 1 + 1) (by first | omega | simp <;> omega); rw [h1])
  refine bodyPost_ret (v := .tuple #[.agg #[.int .i64 0, .int .i64 0], .int .i64 1]) (by simp [results, Try.results67, go_sem, *]) rfl ⟨rfl, ?_⟩
  ((with_reducible repeat' first | exact .refl _ _ | exact b1 | refine .alloc ?_ ?_ _ | refine .setCell ?_ ?_ _ | refine .drew ?_ | refine below_drewN ?_ _ | refine Below.trans ?_ (b1.mono ?_)) <;> first | omega | simp <;> omega)
 | true =>
  cases h2 : validB s1 s2 with
  | false =>
   have e1 : snEr ol oh bl bh s1 s2 = 1 := by unfold snEr snOk; rw [h1, h2]; rfl
   have e2 : snLo ol oh bl bh s1 s2 = 0 := by unfold snLo; rw [e1]; rfl
   have e3 : snHi ol oh bl bh s1 s2 = 0 := by unfold snHi; rw [e1]; rfl
   rw [e1, e2, e3]
   clear e1 e2 e3
   go_enter Try.func67, Try.ntmps67
   go_wp2_with (first | (go_at_call 81; refine (formed_any _ _ _ _ _ _).mono ?_; rintro e w1 ⟨rfl, b1⟩; obtain ⟨kb1_0, fb1_0, zb1_0, zab1_0, zbb1_0, zcb1_0, zdb1_0, zeb1_0⟩ := bk3 b1 (w.heap.size) (by first | omega | simp <;> omega); obtain ⟨kb1_1, fb1_1, zb1_1, zab1_1, zbb1_1, zcb1_1, zdb1_1, zeb1_1⟩ := bk3 b1 (w.heap.size + 1) (by first | omega | simp <;> omega); obtain ⟨kb1_2, fb1_2, zb1_2, zab1_2, zbb1_2, zcb1_2, zdb1_2, zeb1_2⟩ := bk3 b1 (w.heap.size + 1 + 1) (by first | omega | simp <;> omega); rw [h1]) | (go_at_call 82; refine (Valid_any _ _ _).mono ?_; rintro e w' ⟨rfl, rfl⟩; rw [h2]))
   refine bodyPost_ret (v := .tuple #[.agg #[.int .i64 0, .int .i64 0], .int .i64 1]) (by simp [results, Try.results67, go_sem, *]) rfl ⟨rfl, ?_⟩
   have z1 := b1.size
   ((with_reducible repeat' first | exact .refl _ _ | exact b1 | refine .alloc ?_ ?_ _ | refine .setCell ?_ ?_ _ | refine .drew ?_ | refine below_drewN ?_ _ | refine Below.trans ?_ (b1.mono ?_)) <;> first | omega | simp <;> omega)
  | true =>
   have hl := (lkB_iff _ _ _ _).1 h1
   have hv := (validB_iff _ _).1 h2
   have hs := before_any s1 s2 ol oh hl.1 hv
   have e1 : snEr ol oh bl bh s1 s2 = if s2 < ol then 22 else 0 := by unfold snEr snOk; rw [h1, h2]; rfl
   by_cases h3 : s2 < ol
   ·rw [if_pos h3] at e1
    have e2 : snLo ol oh bl bh s1 s2 = 0 := by unfold snLo; rw [e1]; rfl
    have e3 : snHi ol oh bl bh s1 s2 = 0 := by unfold snHi; rw [e1]; rfl
    rw [e1, e2, e3]
    rw [if_pos h3] at hs
    clear e1 e2 e3
    go_enter Try.func67, Try.ntmps67
    go_wp2_with (first | (go_at_call 81; refine (formed_any _ _ _ _ _ _).mono ?_; rintro e w1 ⟨rfl, b1⟩; obtain ⟨kb1_0, fb1_0, zb1_0, zab1_0, zbb1_0, zcb1_0, zdb1_0, zeb1_0⟩ := bk3 b1 (w.heap.size) (by first | omega | simp <;> omega); obtain ⟨kb1_1, fb1_1, zb1_1, zab1_1, zbb1_1, zcb1_1, zdb1_1, zeb1_1⟩ := bk3 b1 (w.heap.size + 1) (by first | omega | simp <;> omega); obtain ⟨kb1_2, fb1_2, zb1_2, zab1_2, zbb1_2, zcb1_2, zdb1_2, zeb1_2⟩ := bk3 b1 (w.heap.size + 1 + 1) (by first | omega | simp <;> omega); rw [h1]) | (go_at_call 82; refine (Valid_any _ _ _).mono ?_; rintro e w' ⟨rfl, rfl⟩; rw [h2]) | (go_at_call 83; refine (hs _).mono ?_; rintro e w2 ⟨rfl, b2⟩; obtain ⟨kb2_0, fb2_0, zb2_0, zab2_0, zbb2_0, zcb2_0, zdb2_0, zeb2_0⟩ := bk3 b2 (w.heap.size + 1 + 1) (by first | omega | simp <;> omega)))
    refine bodyPost_ret (v := .tuple #[.agg #[.int .i64 0, .int .i64 0], .int .i64 22]) (by simp [results, Try.results67, go_sem, *]) rfl ⟨rfl, ?_⟩
    have z1 := b1.size
    ((with_reducible repeat' first | exact .refl _ _ | exact b1 | exact b2 | refine .alloc ?_ ?_ _ | refine .setCell ?_ ?_ _ | refine .drew ?_ | refine below_drewN ?_ _ | refine Below.trans ?_ (b1.mono ?_) | refine Below.trans ?_ (b2.mono ?_)) <;> first | omega | simp <;> omega)
   ·rw [if_neg h3] at e1
    have e2 : snLo ol oh bl bh s1 s2 = mx 0 (s1 - oh) := by unfold snLo; rw [e1]; rfl
    have e3 : snHi ol oh bl bh s1 s2 = s2 - ol := by unfold snHi; rw [e1]; rfl
    rw [e1, e2, e3]
    rw [if_neg h3] at hs
    clear e1 e2 e3
    go_enter Try.func67, Try.ntmps67
    go_wp2_with (first | (go_at_call 81; refine (formed_any _ _ _ _ _ _).mono ?_; rintro e w1 ⟨rfl, b1⟩; obtain ⟨kb1_0, fb1_0, zb1_0, zab1_0, zbb1_0, zcb1_0, zdb1_0, zeb1_0⟩ := bk3 b1 (w.heap.size) (by first | omega | simp <;> omega); obtain ⟨kb1_1, fb1_1, zb1_1, zab1_1, zbb1_1, zcb1_1, zdb1_1, zeb1_1⟩ := bk3 b1 (w.heap.size + 1) (by first | omega | simp <;> omega); obtain ⟨kb1_2, fb1_2, zb1_2, zab1_2, zbb1_2, zcb1_2, zdb1_2, zeb1_2⟩ := bk3 b1 (w.heap.size + 1 + 1) (by first | omega | simp <;> omega); rw [h1]) | (go_at_call 82; refine (Valid_any _ _ _).mono ?_; rintro e w' ⟨rfl, rfl⟩; rw [h2]) | (go_at_call 83; refine (hs _).mono ?_; rintro e w2 ⟨rfl, b2⟩; obtain ⟨kb2_0, fb2_0, zb2_0, zab2_0, zbb2_0, zcb2_0, zdb2_0, zeb2_0⟩ := bk3 b2 (w.heap.size + 1 + 1) (by first | omega | simp <;> omega)))
    refine bodyPost_ret (v := .tuple #[.agg #[.int .i64 (mx 0 (s1 - oh)), .int .i64 (s2 - ol)], .int .i64 0]) (by simp [results, Try.results67, go_sem, *]) rfl ⟨rfl, ?_⟩
    have z1 := b1.size
    ((with_reducible repeat' first | exact .refl _ _ | exact b1 | exact b2 | refine .alloc ?_ ?_ _ | refine .setCell ?_ ?_ _ | refine .drew ?_ | refine below_drewN ?_ _ | refine Below.trans ?_ (b1.mono ?_) | refine Below.trans ?_ (b2.mono ?_)) <;> first | omega | simp <;> omega)
end Go.Proofs.Ytlmcoollkmhanaa
