
/- Parts CbP CbQ of the proof, joined. -/
import Derived.Test.YtlmcoollkmhanaaGreatGa
/- Plain mathematics of what package combine returns. -/
namespace Go.Proofs.YtlmcoollkmhanaaGreat
open Go.RowKit

def insE (e : Ed) : List Ed → List Ed
 | [] => [e]
 | f :: r => if e.1 ≤ f.1 then e :: f :: r else f :: insE e r
def isrt : List Ed → List Ed
 | [] => []
 | e :: r => insE e (isrt r)
theorem insE_perm (e : Ed) : ∀ l, (insE e l).Perm (e :: l)
 | [] => List.Perm.refl _
 | f :: r => by
  unfold insE
  split
  ·exact List.Perm.refl _
  ·exact ((insE_perm e r).cons f).trans (List.Perm.swap e f r)
theorem isrt_perm : ∀ l : List Ed, (isrt l).Perm l
 | [] => List.Perm.refl _
 | e :: r => (insE_perm e (isrt r)).trans ((isrt_perm r).cons e)
theorem insE_sorted (e : Ed) : ∀ l : List Ed, l.Pairwise (fun a b => a.1 ≤ b.1) → (insE e l).Pairwise (fun a b => a.1 ≤ b.1)
 | [], _ => List.pairwise_singleton _ _
 | f :: r, h => by
  have h2 := List.pairwise_cons.1 h
  unfold insE
  split
  ·rename_i hle
   refine List.pairwise_cons.2 ⟨fun x hx => ?_, h⟩
   rcases List.mem_cons.1 hx with rfl | hx
   ·exact hle
   ·have := h2.1 x hx; omega
  ·rename_i hle
   refine List.pairwise_cons.2 ⟨fun x hx => ?_, insE_sorted e r h2.2⟩
   rcases List.mem_cons.1 ((insE_perm e r).mem_iff.1 hx) with rfl | hx
   ·omega
   ·exact h2.1 x hx
theorem isrt_sorted : ∀ l : List Ed, (isrt l).Pairwise (fun a b => a.1 ≤ b.1)
 | [] => List.Pairwise.nil
 | e :: r => insE_sorted e _ (isrt_sorted r)
def covL (l : List Iv) (need : Int) : List Iv := (sweep need (grp (isrt (edg l)))).2
theorem covL_spec {l : List Iv} {need : Int} (hl : listB l = true) (hn : 1 ≤ need) : CovSpec l need (covL l need) := by
 have hm : ∀ e, e ∈ isrt (edg l) → 0 ≤ e.1 ∧ e.1 ≤ 3000000000000001 ∧ -1 ≤ e.2 ∧ e.2 ≤ 1 := fun e he => by
  have := edg_mem l ((listB_iff l).1 hl).2 l.length (Nat.le_refl _) e
  rw [List.take_length] at this
  exact this ((isrt_perm _).mem_iff.1 he)
 exact Run.done hl hn (isrt_perm _) (Run.sweep hn (grp (isrt (edg l))) (grp_sorted _ (isrt_sorted _)) (fun g hg => by have := grp_mem _ hm g hg; omega) _ (List.prefix_refl _))

def setOk (l : List Iv) (f : Int) : Bool := listB l && decide (0 ≤ f ∧ f < l.length)
def setEr (l : List Iv) (f : Int) : Int := if listB l = true ∧ 0 ≤ f then (if f < l.length then 0 else 20) else 1
def setL (l : List Iv) (f : Int) : List Iv := if setOk l f = true then covL l (l.length - f) else []
def cbEr (l : List Iv) (f : Int) : Int := if setOk l f = true then (if (setL l f).length = 0 then 21 else 0) else setEr l f
def cbLo (l : List Iv) (f : Int) : Int := iLo (setL l f) 0
def cbHi (l : List Iv) (f : Int) : Int := iHi (setL l f) ((setL l f).length - 1)
def crossB (a b c d : Int) : Bool := decide (mx a c ≤ mn b d)
def anyX (a b : Int) (c : List Iv) : Nat → Bool
 | 0 => false
 | k + 1 => anyX a b c k || crossB a b (iLo c k) (iHi c k)
def missTo (l : List Iv) (x : Int) : Nat → Int
 | 0 => 0
 | k + 1 => if hasB (iLo l k) (iHi l k) x = true then missTo l x k else missTo l x k + 1
theorem missTo_dep (l : List Iv) (x : Int) (k : Nat) : missTo l x k = k - dep l x k := by
 induction k with
 | zero => simp [missTo, dep]
 | succ k ih => simp only [missTo, dep]; split <;> omega
theorem setOk_iff (l : List Iv) (f : Int) : setOk l f = true ↔ listB l = true ∧ 0 ≤ f ∧ f < l.length := by simp [setOk]
theorem setEr_ok {l : List Iv} {f : Int} (h : setOk l f = true) : setEr l f = 0 := by
 rw [setOk_iff] at h; unfold setEr; rw [if_pos ⟨h.1, h.2.1⟩, if_pos h.2.2]
theorem setEr_no {l : List Iv} {f : Int} (h : setOk l f = false) : setEr l f = 1 ∨ setEr l f = 20 := by
 unfold setEr
 split
 ·rename_i h1
  split
  ·rename_i h2
   have : setOk l f = true := (setOk_iff l f).2 ⟨h1.1, h1.2, h2⟩
   rw [this] at h; cases h
  ·exact .inr rfl
 ·exact .inl rfl
theorem setL_spec {l : List Iv} {f : Int} (h : setOk l f = true) : CovSpec l (l.length - f) (setL l f) := by
 unfold setL; rw [if_pos h]
 rw [setOk_iff] at h
 exact covL_spec h.1 (by omega)
theorem setL_no {l : List Iv} {f : Int} (h : setOk l f = false) : setL l f = [] := by unfold setL; rw [if_neg (by simp [h])]
theorem mem_setL {l : List Iv} {f : Int} (h : setOk l f = true) (t : Int) : mem (setL l f) t ↔ missTo l t l.length ≤ f := by
 rw [(setL_spec h).2 t, missTo_dep]; omega
theorem Sep.at {c : List Iv} (h : Sep c) (k : Nat) (hk : k < c.length) : 0 ≤ iLo c k ∧ iLo c k ≤ iHi c k ∧ iHi c k ≤ 3000000000000000 := by
 obtain ⟨p, hp, e1, e2⟩ := mem_of_at hk
 have := h.2 p hp; omega
theorem Sep.mono {c : List Iv} (h : Sep c) {i j : Nat} (hij : i < j) (hj : j < c.length) : iHi c i + 1 < iLo c j := by
 have h1 := List.pairwise_iff_getElem.1 h.1 i j (by omega) hj hij
 simpa [iLo, iHi, List.getD_eq_getElem?_getD, List.getElem?_eq_getElem hj, List.getElem?_eq_getElem (show i < c.length by omega)] using h1
theorem Sep.ends {c : List Iv} (h : Sep c) {t : Int} (ht : mem c t) : iLo c 0 ≤ t ∧ t ≤ iHi c (c.length - 1) := by
 obtain ⟨p, hp, h1, h2⟩ := ht
 obtain ⟨k, hk, e1, e2⟩ := at_of_mem hp
 constructor
 ·rcases Nat.eq_zero_or_pos k with h0 | h0
  ·subst h0; omega
  ·have := h.mono h0 hk; have := h.at 0 (by omega); omega
 ·rcases Nat.lt_or_ge k (c.length - 1) with h0 | h0
  ·have := h.mono h0 (by omega); have := h.at (c.length - 1) (by omega); omega
  ·have : k = c.length - 1 := by omega
   subst this; omega
theorem Sep.ends_mem {c : List Iv} (h : Sep c) (hc : 0 < c.length) : mem c (iLo c 0) ∧ mem c (iHi c (c.length - 1)) := by
 obtain ⟨p, hp, e1, e2⟩ := mem_of_at hc
 obtain ⟨q, hq, e3, e4⟩ := mem_of_at (l := c) (k := c.length - 1) (by omega)
 have := h.2 p hp
 have := h.2 q hq
 exact ⟨⟨p, hp, by omega, by omega⟩, ⟨q, hq, by omega, by omega⟩⟩
theorem mem_pos {c : List Iv} {t : Int} (h : mem c t) : 0 < c.length := by
 obtain ⟨p, hp, _⟩ := h; exact List.length_pos_of_mem hp
theorem cb_has {l : List Iv} {f : Int} {t : Int} (h : mem (setL l f) t) : cbLo l f ≤ t ∧ t ≤ cbHi l f := by
 cases hs : setOk l f with
 | true => exact (setL_spec hs).1.ends h
 | false => rw [setL_no hs] at h; exact absurd h mem_nil
theorem cbEr_mem {l : List Iv} {f : Int} {t : Int} (h : mem (setL l f) t) : cbEr l f = 0 := by
 cases hs : setOk l f with
 | true => unfold cbEr; rw [if_pos hs, if_neg (by have := mem_pos h; omega)]
 | false => rw [setL_no hs] at h; exact absurd h mem_nil
end Go.Proofs.YtlmcoollkmhanaaGreat
/- More plain mathematics of depths: counts, lists that are joined. -/
namespace Go.Proofs.YtlmcoollkmhanaaGreat
open Go.RowKit
theorem lo_at (l : List Iv) (n : Nat) (h : n < l.length) : iLo l n = l[n].1 := by simp [iLo, List.getD_eq_getElem?_getD, List.getElem?_eq_getElem h]
theorem hi_at (l : List Iv) (n : Nat) (h : n < l.length) : iHi l n = l[n].2 := by simp [iHi, List.getD_eq_getElem?_getD, List.getElem?_eq_getElem h]
theorem dep_count (l : List Iv) (t : Int) : dep l t l.length = ((l.countP fun p => hasB p.1 p.2 t : Nat) : Int) := by
 have key : ∀ n, n ≤ l.length → dep l t n = (((l.take n).countP fun p => hasB p.1 p.2 t : Nat) : Int) := by
  intro n
  induction n with
  | zero => intro _; simp [dep]
  | succ n ih =>
   intro hn
   have hlt : n < l.length := hn
   rw [dep, ih (by omega), List.take_add_one, List.getElem?_eq_getElem hlt, List.countP_append, lo_at l n hlt, hi_at l n hlt]
   simp only [Option.toList_some, List.countP_cons, List.countP_nil]
   split <;> simp
 simpa using key l.length (Nat.le_refl _)
theorem listB_iff2 (l : List Iv) : listB l = true ↔ l.length ≤ 64 ∧ ∀ p, p ∈ l → 0 ≤ p.1 ∧ p.1 ≤ p.2 ∧ p.2 ≤ 3000000000000000 := by
 rw [listB_iff]
 refine and_congr Iff.rfl ⟨fun h p hp => ?_, fun h k hk => ?_⟩
 ·obtain ⟨k, hk, e1, e2⟩ := at_of_mem hp
  have := h k hk; omega
 ·obtain ⟨p, hp, e1, e2⟩ := mem_of_at hk
  have := h p hp; omega
theorem dep_join (a b : List Iv) (t : Int) : dep (a ++ b) t (a ++ b).length = dep a t a.length + dep b t b.length := by
 rw [dep_count, dep_count, dep_count, List.countP_append]; simp
end Go.Proofs.YtlmcoollkmhanaaGreat
