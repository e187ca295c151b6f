
/- Plain mathematics of package scene: answers, the worst scene, what may happen, what is played. -/
import Derived.Test.YtigjljmhpkeahaaGreatGu
import Derived.Test.YtigjljmhpkeahaaGreatGg
import Derived.Test.YtigjljmhpkeahaaGreatGm
namespace Go.Proofs.YtigjljmhpkeahaaGreat
open Go.RowKit

structure An where
 au : Int
 ls : Bool
 ou : Int
 bk : Int
 lo : Int
 hi : Int
def an0 : An := ⟨0, false, 0, 0, 0, 0⟩
def anAt (l : List An) (i : Nat) : An := l.getD i an0
theorem anAt_left (l d : List An) (k : Nat) (hk : k < l.length) : anAt (l ++ d) k = anAt l k := by simp [anAt, List.getD_eq_getElem?_getD, List.getElem?_append_left hk]
theorem anAt_len (l : List An) (a : An) : anAt (l ++ [a]) l.length = a := by simp [anAt, List.getD_eq_getElem?_getD]
def anEq (a b : An) : Bool := decide (a.au = b.au ∧ a.ls = b.ls ∧ a.ou = b.ou ∧ a.bk = b.bk ∧ a.lo = b.lo ∧ a.hi = b.hi)
theorem anEq_iff (a b : An) : anEq a b = true ↔ a = b := by
 obtain ⟨a1, a2, a3, a4, a5, a6⟩ := a
 obtain ⟨b1, b2, b3, b4, b5, b6⟩ := b
 simp [anEq]
def pu (ps : List Pr) (use : List Int) (i : Nat) : Pr := pAt ps (iAt use i).toNat
def wsG (ps : List Pr) (use bad gone : List Int) (place : List Iv) (t : Int) (i : Nat) : An :=
 if (i : Int) ∈ gone then ⟨(pu ps use i).au, true, 0, 0, 0, 0⟩
 else ⟨(pu ps use i).au, false, if (i : Int) ∈ bad then (pu ps use i).ol else mx (pu ps use i).ol ((ivAt place i).1 + (pu ps use i).oh - t), (pu ps use i).bl, (ivAt place i).1 + (pu ps use i).oh, (ivAt place i).2 + (pu ps use i).ol⟩
def wsT (ps : List Pr) (use bad gone : List Int) (place : List Iv) (t : Int) : Nat → List An
 | 0 => []
 | k + 1 => wsT ps use bad gone place t k ++ [wsG ps use bad gone place t k]
theorem wsT_length (ps : List Pr) (use bad gone : List Int) (place : List Iv) (t : Int) : ∀ k, (wsT ps use bad gone place t k).length = k
 | 0 => rfl
 | k + 1 => by rw [wsT, List.length_append, wsT_length ps use bad gone place t k]; rfl
theorem wsT_at (ps : List Pr) (use bad gone : List Int) (place : List Iv) (t : Int) : ∀ k i, i < k → anAt (wsT ps use bad gone place t k) i = wsG ps use bad gone place t i
 | k + 1, i, h => by
  have hl := wsT_length ps use bad gone place t k
  rw [wsT]
  rcases Nat.lt_or_ge i k with h1 | h1
  ·rw [anAt_left _ _ _ (by omega)]
   exact wsT_at ps use bad gone place t k i h1
  ·obtain rfl : i = k := by omega
   have := anAt_len (wsT ps use bad gone place t i) (wsG ps use bad gone place t i)
   rwa [hl] at this
def lateB (l : List An) : Nat → Bool
 | 0 => false
 | k + 1 => lateB l k || decide (3000000000000000 < (anAt l k).hi)
theorem lateB_iff (l : List An) : ∀ k, (lateB l k = true ↔ ∃ j, j < k ∧ 3000000000000000 < (anAt l j).hi)
 | 0 => by simp [lateB]
 | k + 1 => by
  rw [lateB, Bool.or_eq_true, lateB_iff l k, decide_eq_true_eq]
  constructor
  ·rintro (⟨j, h1, h2⟩ | h)
   ·exact ⟨j, by omega, h2⟩
   ·exact ⟨k, by omega, h⟩
  ·rintro ⟨j, h1, h2⟩
   rcases Nat.lt_or_ge j k with h | h
   ·exact .inl ⟨j, h, h2⟩
   ·obtain rfl : j = k := by omega
    exact .inr h2
def wsL (s : Si) (use : List Int) (t : Int) : List An := wsT s.ps use (pickL (wdL s.ps use) s.f s.lo) (goneL (wdL s.ps use) s.f s.lo) (placeL (wdL s.ps use) s.f s.lo t) t use.length
def wsEr (s : Si) (use : List Int) (ev t : Int) : Int :=
 if rgB s use ev = true ∧ timeB t = true then (if placeEr (wdL s.ps use) s.f s.lo t = 0 ∧ lateB (wsL s use t) use.length = false then 0 else 3) else 1
structure Sc where
 use : List Int
 ev : Int
 at_ : Int
 an : List An
 ct : Int
def sc0 : Sc := ⟨[], 0, 0, [], 0⟩
def wsS (s : Si) (use : List Int) (ev t : Int) : Sc := if wsEr s use ev t = 0 then ⟨use, ev, t, wsL s use t, ev + s.tm⟩ else sc0
def anFit (a : An) (p : Pr) : Bool :=
 if a.ls = true then decide (a.au = p.au ∧ a.ou = 0 ∧ a.bk = 0 ∧ a.lo = 0 ∧ a.hi = 0)
 else decide (a.au = p.au) && (inB a.ou 0 1000000 && inB a.bk 0 1000000 && validB a.lo a.hi)
def fitTo (ps : List Pr) (use : List Int) (l : List An) : Nat → Bool
 | 0 => true
 | k + 1 => fitTo ps use l k && anFit (anAt l k) (pu ps use k)
theorem fitTo_iff (ps : List Pr) (use : List Int) (l : List An) : ∀ k, (fitTo ps use l k = true ↔ ∀ j, j < k → anFit (anAt l j) (pu ps use j) = true)
 | 0 => by simp [fitTo]
 | k + 1 => by
  rw [fitTo, Bool.and_eq_true, fitTo_iff ps use l k]
  constructor
  ·rintro ⟨h1, h2⟩ j hj
   rcases Nat.lt_or_ge j k with h | h
   ·exact h1 j h
   ·obtain rfl : j = k := by omega
    exact h2
  ·exact fun h => ⟨fun j hj => h j (by omega), h k (by omega)⟩
def fitN (s : Si) (x : Sc) : Bool := rgB s x.use x.ev && (timeB x.at_ && (inB x.ct 0 (x.ev + s.tm) && decide (x.an.length = x.use.length)))
def fitB (s : Si) (x : Sc) : Bool := fitN s x && fitTo s.ps x.use x.an x.an.length
def anSnE (a : An) (p : Pr) : Int := snEr p.ol p.oh p.bl p.bh a.lo a.hi
def dlOk (a : An) (p : Pr) : Bool := decide (anSnE a p = 0) && (inB a.ou p.ol p.oh && inB a.bk p.bl p.bh)
def hnOk (a : An) (p : Pr) (t : Int) : Bool := inB (t + a.ou) a.lo a.hi && decide (a.hi - a.lo ≤ 2 * p.er)
def isLost (l : List An) (i : Nat) : Bool := (anAt l i).ls
def isBent (ps : List Pr) (use : List Int) (l : List An) (i : Nat) : Bool := !(anAt l i).ls && !dlOk (anAt l i) (pu ps use i)
def isLie (ps : List Pr) (use : List Int) (t : Int) (l : List An) (i : Nat) : Bool := !(anAt l i).ls && !hnOk (anAt l i) (pu ps use i) t
def alB (s : Si) (x : Sc) : Bool := decide ((cntTo (isLost x.an) x.an.length : Int) ≤ s.lo) && (decide (cntTo (isBent s.ps x.use x.an) x.an.length = 0) && decide ((cntTo (isLie s.ps x.use x.at_ x.an) x.an.length : Int) ≤ s.f))
def pyL (ps : List Pr) (use : List Int) (l : List An) : Nat → List Iv
 | 0 => []
 | k + 1 => if (anAt l k).ls = true then pyL ps use l k else pyL ps use l k ++ [(snLo (pu ps use k).ol (pu ps use k).oh (pu ps use k).bl (pu ps use k).bh (anAt l k).lo (anAt l k).hi, snHi (pu ps use k).ol (pu ps use k).oh (pu ps use k).bl (pu ps use k).bh (anAt l k).lo (anAt l k).hi)]
def pySn (ps : List Pr) (use : List Int) (l : List An) : Nat → Bool
 | 0 => false
 | k + 1 => pySn ps use l k || (!(anAt l k).ls && !decide (anSnE (anAt l k) (pu ps use k) = 0))
theorem pySn_iff (ps : List Pr) (use : List Int) (l : List An) : ∀ k, (pySn ps use l k = true ↔ ∃ j, j < k ∧ (anAt l j).ls = false ∧ anSnE (anAt l j) (pu ps use j) ≠ 0)
 | 0 => by simp [pySn]
 | k + 1 => by
  rw [pySn, Bool.or_eq_true, pySn_iff ps use l k, Bool.and_eq_true, Bool.not_eq_true', Bool.not_eq_true', decide_eq_false_iff_not]
  constructor
  ·rintro (⟨j, h1, h2⟩ | h)
   ·exact ⟨j, by omega, h2⟩
   ·exact ⟨k, by omega, h⟩
  ·rintro ⟨j, h1, h2⟩
   rcases Nat.lt_or_ge j k with h | h
   ·exact .inl ⟨j, h, h2⟩
   ·obtain rfl : j = k := by omega
    exact .inr h2
theorem pyL_length (ps : List Pr) (use : List Int) (l : List An) : ∀ k, (pyL ps use l k).length + cntTo (isLost l) k = k
 | 0 => rfl
 | k + 1 => by
  have := pyL_length ps use l k
  rw [pyL, cntTo]
  unfold isLost at *
  split
  ·omega
  ·rw [List.length_append, List.length_singleton]; omega
def scL (s : Si) (x : Sc) : List Iv := pyL s.ps x.use x.an x.an.length
def pyEr (s : Si) (x : Sc) : Int :=
 if fitB s x = true then (if pySn s.ps x.use x.an x.an.length = true then 22 else if ((scL s x).length : Int) < x.an.length - s.lo then 20 else if cbEr (scL s x) s.f = 0 then atEr 0 (cbLo (scL s x) s.f) (cbHi (scL s x) s.f) s.r x.ct else cbEr (scL s x) s.f) else 1
def pyLo (s : Si) (x : Sc) : Int := if pyEr s x = 0 then atLo 0 (cbLo (scL s x) s.f) (cbHi (scL s x) s.f) s.r x.ct else 0
def pyHi (s : Si) (x : Sc) : Int := if pyEr s x = 0 then atHi 0 (cbLo (scL s x) s.f) (cbHi (scL s x) s.f) s.r x.ct else 0
def anSame (a b : List An) : Nat → Bool
 | 0 => true
 | k + 1 => anSame a b k && anEq (anAt a k) (anAt b k)
theorem anSame_iff (a b : List An) : ∀ k, (anSame a b k = true ↔ ∀ j, j < k → anAt a j = anAt b j)
 | 0 => by simp [anSame]
 | k + 1 => by
  rw [anSame, Bool.and_eq_true, anSame_iff a b k, anEq_iff]
  constructor
  ·rintro ⟨h1, h2⟩ j hj
   rcases Nat.lt_or_ge j k with h | h
   ·exact h1 j h
   ·obtain rfl : j = k := by omega
    exact h2
  ·exact fun h => ⟨fun j hj => h j (by omega), h k (by omega)⟩
def scSame (x y : Sc) : Bool := decide (x.use = y.use ∧ x.ev = y.ev ∧ x.at_ = y.at_ ∧ x.ct = y.ct ∧ x.an.length = y.an.length) && anSame x.an y.an x.an.length
theorem scSame_self (x : Sc) : scSame x x = true := by
 unfold scSame
 rw [Bool.and_eq_true]
 exact ⟨decide_eq_true ⟨rfl, rfl, rfl, rfl, rfl⟩, (anSame_iff _ _ _).2 fun _ _ => rfl⟩
theorem fitB_iff (s : Si) (x : Sc) : fitB s x = true ↔ rgB s x.use x.ev = true ∧ (0 ≤ x.at_ ∧ x.at_ ≤ 3000000000000000) ∧ (0 ≤ x.ct ∧ x.ct ≤ x.ev + s.tm) ∧ x.an.length = x.use.length ∧ ∀ j, j < x.an.length → anFit (anAt x.an j) (pu s.ps x.use j) = true := by
 simp only [fitB, fitN, Bool.and_eq_true, fitTo_iff, timeB, inB, decide_eq_true_eq]
 constructor
 ·rintro ⟨⟨h1, h2, h3, h4⟩, h5⟩; exact ⟨h1, h2, h3, h4, h5⟩
 ·rintro ⟨h1, h2, h3, h4, h5⟩; exact ⟨⟨h1, h2, h3, h4⟩, h5⟩
theorem anFit_no {a : An} {p : Pr} (h : a.ls = false) : anFit a p = true ↔ a.au = p.au ∧ (0 ≤ a.ou ∧ a.ou ≤ 1000000) ∧ (0 ≤ a.bk ∧ a.bk ≤ 1000000) ∧ (0 ≤ a.lo ∧ a.lo ≤ a.hi ∧ a.hi ≤ 3000000000000000) := by
 simp only [anFit, h, Bool.false_eq_true, if_false, inB, validB, Bool.and_eq_true, decide_eq_true_eq, and_assoc]
theorem cnt_zero {p : Nat → Bool} {n : Nat} (h : cntTo p n = 0) : ∀ t, t < n → p t = false := by
 induction n with
 | zero => intro t ht; omega
 | succ n ih =>
  rw [cntTo] at h
  intro t ht
  rcases Nat.lt_or_ge t n with h1 | h1
  ·exact ih (by omega) t h1
  ·obtain rfl : t = n := by omega
   cases hp : p t with
   | false => rfl
   | true => rw [if_pos hp] at h; omega
end Go.Proofs.YtigjljmhpkeahaaGreat
