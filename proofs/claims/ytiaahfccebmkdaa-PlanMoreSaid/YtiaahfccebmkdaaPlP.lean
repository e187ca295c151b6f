/- Plain mathematics of package plan: costs, offers, what is better, the best one. -/
import Derived.Test.YtiaahfccebmkdaaWdP
import Derived.Lib.Small
namespace Go.Proofs.Ytiaahfccebmkdaa
open Go.RowKit
open Lib (compareInt)

/-- The comparison of two lists of integers. -/
def cmpI : List Int → List Int → Int
  | [], [] => 0
  | [], _ :: _ => -1
  | _ :: _, [] => 1
  | x :: a, y :: b => if x < y then -1 else if y < x then 1 else cmpI a b
def costTo (ps : List Pr) (use : List Int) : Nat → Int
  | 0 => 0
  | k + 1 => costTo ps use k + (pAt ps (iAt use k).toNat).co
/-- The sum of the costs of the peers in use. -/
def costL (ps : List Pr) (use : List Int) : Int := costTo ps use use.length
/-- A schedule with its width. -/
structure Of where
  use : List Int
  ev : Int
  wd : Int
def of0 : Of := ⟨[], 0, 0⟩
def cmpS (ps : List Pr) (ua : List Int) (ea : Int) (ub : List Int) (eb : Int) : Int := compareInt (costL ps ua * eb) (costL ps ub * ea)
def cmpC (ps : List Pr) (a b : Of) : Int := cmpS ps a.use a.ev b.use b.ev
def cmpW (a b : Of) : Int := compareInt a.wd b.wd
def c1 (nr : Bool) (ps : List Pr) (a b : Of) : Int := if nr then cmpW a b else cmpC ps a b
def c2 (nr : Bool) (ps : List Pr) (a b : Of) : Int := if nr then cmpC ps a b else cmpW a b
def c3 (a b : Of) : Int := compareInt a.use.length b.use.length
def c4 (a b : Of) : Int := cmpI a.use b.use
def c5 (a b : Of) : Int := compareInt b.ev a.ev
/-- The first offer is better; nr: the least width counts first. -/
def btr (nr : Bool) (ps : List Pr) (a b : Of) : Bool :=
  if c1 nr ps a b ≠ 0 then decide (c1 nr ps a b < 0) else if c2 nr ps a b ≠ 0 then decide (c2 nr ps a b < 0) else if c3 a b ≠ 0 then decide (c3 a b < 0) else if c4 a b ≠ 0 then decide (c4 a b < 0) else if c5 a b ≠ 0 then decide (c5 a b < 0) else false
/-- The indexes below k of the bits of a number. -/
def mkL (m : Nat) : Nat → List Int
  | 0 => []
  | k + 1 => if m / 2 ^ k % 2 = 1 then mkL m k ++ [(k : Int)] else mkL m k
/-- The offers of one choice of peers for the first k periods. -/
def perTo (s : Si) (use pl : List Int) : Nat → List Of
  | 0 => []
  | k + 1 => if rgB s use (iAt pl k) = true then perTo s use pl k ++ [⟨use, iAt pl k, wdt s use (iAt pl k)⟩] else perTo s use pl k
def ofTo (s : Si) (pl : List Int) : Nat → List Of
  | 0 => []
  | m + 1 => ofTo s pl m ++ perTo s (mkL m s.ps.length) pl pl.length
/-- All offers, in order. -/
def ofL (s : Si) (pl : List Int) : List Of := ofTo s pl (2 ^ s.ps.length)
/-- What has been found. -/
def bstS (nr : Bool) (ps : List Pr) (most : Int) (acc : Option Of) (o : Of) : Option Of :=
  match acc with
  | none => if o.wd ≤ most then some o else none
  | some b => if o.wd ≤ most ∧ btr nr ps o b = true then some o else some b
def bstL (nr : Bool) (ps : List Pr) (most : Int) (l : List Of) : Option Of := l.foldl (bstS nr ps most) none
theorem bstL_snoc (nr : Bool) (ps : List Pr) (most : Int) (l : List Of) (o : Of) : bstL nr ps most (l ++ [o]) = bstS nr ps most (bstL nr ps most l) o := by simp [bstL]
def bstO (nr : Bool) (s : Si) (pl : List Int) (most : Int) : Option Of := bstL nr s.ps most (ofL s pl)
/-- The periods of a site: each is greater than the one before, the first than the time for a reply. -/
def perB (tm : Int) (pl : List Int) : Nat → Bool
  | 0 => true
  | k + 1 => perB tm pl k && decide ((if k = 0 then tm else iAt pl (k - 1)) < iAt pl k ∧ 1 ≤ iAt pl k ∧ iAt pl k ≤ 1000000000000)
def prdB (tm : Int) (pl : List Int) : Bool := perB tm pl pl.length && decide (1 ≤ pl.length ∧ pl.length ≤ 10)
def ckE (s : Si) (pl : List Int) : Int := if siB s = true ∧ prdB s.tm pl = true then (if s.ps.length ≤ 10 then 0 else 2) else 1
/-- What Best returns: the schedule, whether there is one, the error. -/
def bsE (s : Si) (pl : List Int) (x : Int) : Int := if 0 ≤ x ∧ x ≤ 3000000000000000 then ckE s pl else 1
def bsO (s : Si) (pl : List Int) (x : Int) : Option Of := if bsE s pl x = 0 then bstO false s pl x else none
def nwO (s : Si) (pl : List Int) : Option Of := if ckE s pl = 0 then bstO true s pl 9223372036854775807 else none
def nwE (s : Si) (pl : List Int) : Int := if ckE s pl = 0 then (if (nwO s pl).isSome then 0 else 20) else ckE s pl

theorem perB_iff (tm : Int) (pl : List Int) : ∀ k, (perB tm pl k = true ↔ ∀ j, j < k → (if j = 0 then tm else iAt pl (j - 1)) < iAt pl j ∧ 1 ≤ iAt pl j ∧ iAt pl j ≤ 1000000000000)
  | 0 => by simp [perB]
  | k + 1 => by
    rw [perB, Bool.and_eq_true, perB_iff tm pl k, decide_eq_true_eq]
    constructor
    · rintro ⟨h1, h2⟩ j hj
      rcases Nat.lt_or_ge j k with h | h
      · exact h1 j h
      · obtain rfl : j = k := by omega
        exact h2
    · intro h
      exact ⟨fun j hj => h j (by omega), h k (by omega)⟩
theorem perB_false {tm : Int} {pl : List Int} {k : Nat} (hv : ¬ ((if k = 0 then tm else iAt pl (k - 1)) < iAt pl k ∧ 1 ≤ iAt pl k ∧ iAt pl k ≤ 1000000000000)) (n : Nat) (h : k < n) : perB tm pl n = false := by
  cases hp : perB tm pl n with
  | false => rfl
  | true => exact absurd ((perB_iff tm pl n).1 hp k h) hv
theorem mkL_mem (m : Nat) : ∀ k x, (x ∈ mkL m k ↔ ∃ i : Nat, i < k ∧ x = i ∧ m / 2 ^ i % 2 = 1)
  | 0, x => by simp [mkL]
  | k + 1, x => by
    rw [mkL]
    have ih := mkL_mem m k x
    split
    · rename_i h
      simp only [List.mem_append, List.mem_singleton, ih]
      constructor
      · rintro (⟨i, h1, h2, h3⟩ | rfl)
        · exact ⟨i, by omega, h2, h3⟩
        · exact ⟨k, by omega, rfl, h⟩
      · rintro ⟨i, h1, h2, h3⟩
        rcases Nat.lt_or_ge i k with h4 | h4
        · exact .inl ⟨i, h4, h2, h3⟩
        · obtain rfl : i = k := by omega
          exact .inr h2
    · rename_i h
      rw [ih]
      constructor
      · rintro ⟨i, h1, h2, h3⟩; exact ⟨i, by omega, h2, h3⟩
      · rintro ⟨i, h1, h2, h3⟩
        refine ⟨i, ?_, h2, h3⟩
        rcases Nat.lt_or_ge i k with h4 | h4
        · exact h4
        · obtain rfl : i = k := by omega
          exact absurd h3 h
theorem mkL_len (m : Nat) : ∀ k, (mkL m k).length ≤ k
  | 0 => by simp [mkL]
  | k + 1 => by
    have := mkL_len m k
    rw [mkL]
    split
    · simp only [List.length_append, List.length_cons, List.length_nil]; omega
    · omega
theorem costTo_bd {r tm : Int} {ps : List Pr} {use : List Int} (h : ∀ j, j < use.length → 0 ≤ (pAt ps (iAt use j).toNat).co ∧ (pAt ps (iAt use j).toNat).co ≤ 1000000) : ∀ k, k ≤ use.length → 0 ≤ costTo ps use k ∧ costTo ps use k ≤ k * 1000000
  | 0, _ => by simp [costTo]
  | k + 1, hk => by
    have ih := costTo_bd (r := r) (tm := tm) h k (by omega)
    have := h k (by omega)
    rw [costTo]
    omega
theorem perTo_mem (s : Si) (use pl : List Int) : ∀ k o, (o ∈ perTo s use pl k ↔ ∃ j, j < k ∧ rgB s use (iAt pl j) = true ∧ o = ⟨use, iAt pl j, wdt s use (iAt pl j)⟩)
  | 0, o => by simp [perTo]
  | k + 1, o => by
    have ih := perTo_mem s use pl k o
    rw [perTo]
    split
    · rename_i h
      simp only [List.mem_append, List.mem_singleton, ih]
      constructor
      · rintro (⟨i, h1, h2⟩ | h2)
        · exact ⟨i, by omega, h2⟩
        · exact ⟨k, by omega, h, h2⟩
      · rintro ⟨i, h1, h2, h3⟩
        rcases Nat.lt_or_ge i k with h4 | h4
        · exact .inl ⟨i, h4, h2, h3⟩
        · obtain rfl : i = k := by omega
          exact .inr h3
    · rename_i h
      rw [ih]
      constructor
      · rintro ⟨i, h1, h2⟩; exact ⟨i, by omega, h2⟩
      · rintro ⟨i, h1, h2, h3⟩
        refine ⟨i, ?_, h2, h3⟩
        rcases Nat.lt_or_ge i k with h4 | h4
        · exact h4
        · obtain rfl : i = k := by omega
          exact absurd h2 h
theorem ofTo_mem (s : Si) (pl : List Int) : ∀ n o, (o ∈ ofTo s pl n ↔ ∃ m j, m < n ∧ j < pl.length ∧ rgB s (mkL m s.ps.length) (iAt pl j) = true ∧ o = ⟨mkL m s.ps.length, iAt pl j, wdt s (mkL m s.ps.length) (iAt pl j)⟩)
  | 0, o => by simp [ofTo]
  | n + 1, o => by
    have ih := ofTo_mem s pl n o
    rw [ofTo, List.mem_append, ih, perTo_mem]
    constructor
    · rintro (⟨m, j, h1, h2⟩ | ⟨j, h2⟩)
      · exact ⟨m, j, by omega, h2⟩
      · exact ⟨n, j, by omega, h2⟩
    · rintro ⟨m, j, h1, h2⟩
      rcases Nat.lt_or_ge m n with h4 | h4
      · exact .inl ⟨m, j, h4, h2⟩
      · obtain rfl : m = n := by omega
        exact .inr ⟨j, h2⟩
end Go.Proofs.Ytiaahfccebmkdaa
