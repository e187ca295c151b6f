/- Parts CbP CbQ of the proof, joined. -/
import Derived.Test.YtigjljmhpkeahaaGreatGa
/- Plain mathematics of what package combine returns. -/
namespace Go.Proofs.YtigjljmhpkeahaaGreat
open Go.RowKit

def insE (e : Ed) : List Ed → List Ed
  | [] => [e]
  | f :: r => if e.1 ≤ f.1 then e :: f :: r else f :: insE e r
def isrt : List Ed → List Ed
  | [] => []
  | e :: r => insE e (isrt r)
theorem insE_perm (e : Ed) : ∀ l, (insE e l).Perm (e :: l)
  | [] => List.Perm.refl _
  | f :: r => by
    unfold insE
    split
    · exact List.Perm.refl _
    · exact ((insE_perm e r).cons f).trans (List.Perm.swap e f r)
theorem isrt_perm : ∀ l : List Ed, (isrt l).Perm l
  | [] => List.Perm.refl _
  | e :: r => (insE_perm e (isrt r)).trans ((isrt_perm r).cons e)
theorem insE_sorted (e : Ed) : ∀ l : List Ed, l.Pairwise (fun a b => a.1 ≤ b.1) → (insE e l).Pairwise (fun a b => a.1 ≤ b.1)
  | [], _ => List.pairwise_singleton _ _
  | f :: r, h => by
    have h2 := List.pairwise_cons.1 h
    unfold insE
    split
    · rename_i hle
      refine List.pairwise_cons.2 ⟨fun x hx => ?_, h⟩
      rcases List.mem_cons.1 hx with rfl | hx
      · exact hle
      · have := h2.1 x hx; omega
    · rename_i hle
      refine List.pairwise_cons.2 ⟨fun x hx => ?_, insE_sorted e r h2.2⟩
      rcases List.mem_cons.1 ((insE_perm e r).mem_iff.1 hx) with rfl | hx
      · omega
      · exact h2.1 x hx
theorem isrt_sorted : ∀ l : List Ed, (isrt l).Pairwise (fun a b => a.1 ≤ b.1)
  | [] => List.Pairwise.nil
  | e :: r => insE_sorted e _ (isrt_sorted r)
def covL (l : List Iv) (need : Int) : List Iv := (sweep need (grp (isrt (edg l)))).2
theorem covL_spec {l : List Iv} {need : Int} (hl : listB l = true) (hn : 1 ≤ need) : CovSpec l need (covL l need) := by
  have hm : ∀ e, e ∈ isrt (edg l) → 0 ≤ e.1 ∧ e.1 ≤ 3000000000000001 ∧ -1 ≤ e.2 ∧ e.2 ≤ 1 := fun e he => by
    have := edg_mem l ((listB_iff l).1 hl).2 l.length (Nat.le_refl _) e
    rw [List.take_length] at this
    exact this ((isrt_perm _).mem_iff.1 he)
  exact Run.done hl hn (isrt_perm _) (Run.sweep hn (grp (isrt (edg l))) (grp_sorted _ (isrt_sorted _)) (fun g hg => by have := grp_mem _ hm g hg; omega) _ (List.prefix_refl _))

def setOk (l : List Iv) (f : Int) : Bool := listB l && decide (0 ≤ f ∧ f < l.length)
def setEr (l : List Iv) (f : Int) : Int := if listB l = true ∧ 0 ≤ f then (if f < l.length then 0 else 20) else 1
def setL (l : List Iv) (f : Int) : List Iv := if setOk l f = true then covL l (l.length - f) else []
def cbEr (l : List Iv) (f : Int) : Int := if setOk l f = true then (if (setL l f).length = 0 then 21 else 0) else setEr l f
def cbLo (l : List Iv) (f : Int) : Int := iLo (setL l f) 0
def cbHi (l : List Iv) (f : Int) : Int := iHi (setL l f) ((setL l f).length - 1)
def crossB (a b c d : Int) : Bool := decide (mx a c ≤ mn b d)
def anyX (a b : Int) (c : List Iv) : Nat → Bool
  | 0 => false
  | k + 1 => anyX a b c k || crossB a b (iLo c k) (iHi c k)
def outTo (l c : List Iv) : Nat → List Int
  | 0 => []
  | k + 1 => if anyX (iLo l k) (iHi l k) c c.length = true then outTo l c k else outTo l c k ++ [(k : Int)]
def outL (l : List Iv) (f : Int) : List Int := if (setL l f).length = 0 then [] else outTo l (setL l f) l.length
def missTo (l : List Iv) (x : Int) : Nat → Int
  | 0 => 0
  | k + 1 => if hasB (iLo l k) (iHi l k) x = true then missTo l x k else missTo l x k + 1
theorem missTo_dep (l : List Iv) (x : Int) (k : Nat) : missTo l x k = k - dep l x k := by
  induction k with
  | zero => simp [missTo, dep]
  | succ k ih => simp only [missTo, dep]; split <;> omega
theorem missTo_bd (l : List Iv) (x : Int) (k : Nat) : 0 ≤ missTo l x k ∧ missTo l x k ≤ k := by
  have := missTo_dep l x k; have := dep_bd l x k; omega
theorem setOk_iff (l : List Iv) (f : Int) : setOk l f = true ↔ listB l = true ∧ 0 ≤ f ∧ f < l.length := by simp [setOk]
theorem setEr_ok {l : List Iv} {f : Int} (h : setOk l f = true) : setEr l f = 0 := by
  rw [setOk_iff] at h; unfold setEr; rw [if_pos ⟨h.1, h.2.1⟩, if_pos h.2.2]
theorem setEr_no {l : List Iv} {f : Int} (h : setOk l f = false) : setEr l f = 1 ∨ setEr l f = 20 := by
  unfold setEr
  split
  · rename_i h1
    split
    · rename_i h2
      have : setOk l f = true := (setOk_iff l f).2 ⟨h1.1, h1.2, h2⟩
      rw [this] at h; cases h
    · exact .inr rfl
  · exact .inl rfl
theorem setL_spec {l : List Iv} {f : Int} (h : setOk l f = true) : CovSpec l (l.length - f) (setL l f) := by
  unfold setL; rw [if_pos h]
  rw [setOk_iff] at h
  exact covL_spec h.1 (by omega)
theorem setL_no {l : List Iv} {f : Int} (h : setOk l f = false) : setL l f = [] := by unfold setL; rw [if_neg (by simp [h])]
theorem mem_setL {l : List Iv} {f : Int} (h : setOk l f = true) (t : Int) : mem (setL l f) t ↔ missTo l t l.length ≤ f := by
  rw [(setL_spec h).2 t, missTo_dep]; omega
theorem Sep.at {c : List Iv} (h : Sep c) (k : Nat) (hk : k < c.length) : 0 ≤ iLo c k ∧ iLo c k ≤ iHi c k ∧ iHi c k ≤ 3000000000000000 := by
  obtain ⟨p, hp, e1, e2⟩ := mem_of_at hk
  have := h.2 p hp; omega
theorem Sep.mono {c : List Iv} (h : Sep c) {i j : Nat} (hij : i < j) (hj : j < c.length) : iHi c i + 1 < iLo c j := by
  have h1 := List.pairwise_iff_getElem.1 h.1 i j (by omega) hj hij
  simpa [iLo, iHi, List.getD_eq_getElem?_getD, List.getElem?_eq_getElem hj, List.getElem?_eq_getElem (show i < c.length by omega)] using h1
theorem Sep.ends {c : List Iv} (h : Sep c) {t : Int} (ht : mem c t) : iLo c 0 ≤ t ∧ t ≤ iHi c (c.length - 1) := by
  obtain ⟨p, hp, h1, h2⟩ := ht
  obtain ⟨k, hk, e1, e2⟩ := at_of_mem hp
  constructor
  · rcases Nat.eq_zero_or_pos k with h0 | h0
    · subst h0; omega
    · have := h.mono h0 hk; have := h.at 0 (by omega); omega
  · rcases Nat.lt_or_ge k (c.length - 1) with h0 | h0
    · have := h.mono h0 (by omega); have := h.at (c.length - 1) (by omega); omega
    · have : k = c.length - 1 := by omega
      subst this; omega
theorem Sep.ends_mem {c : List Iv} (h : Sep c) (hc : 0 < c.length) : mem c (iLo c 0) ∧ mem c (iHi c (c.length - 1)) := by
  obtain ⟨p, hp, e1, e2⟩ := mem_of_at hc
  obtain ⟨q, hq, e3, e4⟩ := mem_of_at (l := c) (k := c.length - 1) (by omega)
  have := h.2 p hp
  have := h.2 q hq
  exact ⟨⟨p, hp, by omega, by omega⟩, ⟨q, hq, by omega, by omega⟩⟩
theorem mem_pos {c : List Iv} {t : Int} (h : mem c t) : 0 < c.length := by
  obtain ⟨p, hp, _⟩ := h; exact List.length_pos_of_mem hp
theorem setL_length (l : List Iv) (f : Int) : (setL l f).length ≤ l.length := by
  by_cases h : setOk l f = true
  · have hs := setL_spec h
    have hl := ((setOk_iff l f).1 h).1
    have := CovTo.length_le (l := l) (need := l.length - f) (x := 3000000000000001) (c := setL l f) ⟨hs.1, fun p hp => by have := hs.1.2 p hp; omega, fun t => ⟨fun ht => ⟨by
      obtain ⟨p, hp, h1, h2⟩ := ht
      have := hs.1.2 p hp; omega, (hs.2 t).1 ht⟩, fun ht => (hs.2 t).2 ht.2⟩⟩
    exact this
  · rw [setL_no (by simpa using h)]; exact Nat.zero_le _
theorem cb_has {l : List Iv} {f : Int} {t : Int} (h : mem (setL l f) t) : cbLo l f ≤ t ∧ t ≤ cbHi l f := by
  cases hs : setOk l f with
  | true => exact (setL_spec hs).1.ends h
  | false => rw [setL_no hs] at h; exact absurd h mem_nil
theorem cbEr_mem {l : List Iv} {f : Int} {t : Int} (h : mem (setL l f) t) : cbEr l f = 0 := by
  cases hs : setOk l f with
  | true => unfold cbEr; rw [if_pos hs, if_neg (by have := mem_pos h; omega)]
  | false => rw [setL_no hs] at h; exact absurd h mem_nil
theorem cbEr_zero {l : List Iv} {f : Int} (h : cbEr l f = 0) : setOk l f = true ∧ 0 < (setL l f).length := by
  cases hs : setOk l f with
  | true =>
    refine ⟨rfl, ?_⟩
    unfold cbEr at h
    rw [if_pos hs] at h
    by_cases h0 : (setL l f).length = 0
    · rw [if_pos h0] at h; cases h
    · omega
  | false =>
    unfold cbEr at h
    rw [if_neg (by simp [hs])] at h
    rcases setEr_no hs with h1 | h1 <;> omega
theorem anyX_iff (a b : Int) (c : List Iv) : ∀ k, (anyX a b c k = true ↔ ∃ j, j < k ∧ mx a (iLo c j) ≤ mn b (iHi c j))
  | 0 => by simp [anyX]
  | k + 1 => by
    simp only [anyX, Bool.or_eq_true, anyX_iff a b c k, crossB, decide_eq_true_eq]
    constructor
    · rintro (⟨j, hj, h⟩ | h)
      · exact ⟨j, by omega, h⟩
      · exact ⟨k, by omega, h⟩
    · rintro ⟨j, hj, h⟩
      rcases Nat.lt_or_ge j k with h1 | h1
      · exact .inl ⟨j, h1, h⟩
      · obtain rfl : j = k := by omega
        exact .inr h
/-- An interval meets one of a list exactly if they have a time in common. -/
theorem anyX_mem {a b : Int} {c : List Iv} : anyX a b c c.length = true ↔ ∃ t, a ≤ t ∧ t ≤ b ∧ mem c t := by
  rw [anyX_iff]
  constructor
  · rintro ⟨j, hj, h⟩
    have := mx_spec a (iLo c j); have := mn_spec b (iHi c j)
    obtain ⟨p, hp, e1, e2⟩ := mem_of_at hj
    exact ⟨mx a (iLo c j), by omega, by omega, p, hp, by omega, by omega⟩
  · rintro ⟨t, h1, h2, p, hp, h3, h4⟩
    obtain ⟨k, hk, e1, e2⟩ := at_of_mem hp
    have := mx_spec a (iLo c k); have := mn_spec b (iHi c k)
    exact ⟨k, hk, by omega⟩
theorem outTo_length (l c : List Iv) : ∀ k, (outTo l c k).length ≤ k
  | 0 => Nat.le_refl _
  | k + 1 => by
    have := outTo_length l c k
    unfold outTo
    split
    · omega
    · simp; omega
theorem outTo_mem (l c : List Iv) : ∀ k, ∀ x, (x ∈ outTo l c k ↔ ∃ j : Nat, j < k ∧ x = j ∧ anyX (iLo l j) (iHi l j) c c.length = false)
  | 0, x => by simp [outTo]
  | k + 1, x => by
    unfold outTo
    split
    · rename_i h
      rw [outTo_mem l c k x]
      constructor
      · rintro ⟨j, hj, h2⟩; exact ⟨j, by omega, h2⟩
      · rintro ⟨j, hj, h2⟩
        refine ⟨j, ?_, h2⟩
        rcases Nat.lt_or_ge j k with h1 | h1
        · exact h1
        · obtain rfl : j = k := by omega
          rw [h2.2] at h; cases h
    · rename_i h
      rw [List.mem_append, outTo_mem l c k x, List.mem_singleton]
      constructor
      · rintro (⟨j, hj, h2⟩ | h2)
        · exact ⟨j, by omega, h2⟩
        · exact ⟨k, by omega, h2, by simpa using h⟩
      · rintro ⟨j, hj, h2⟩
        rcases Nat.lt_or_ge j k with h1 | h1
        · exact .inl ⟨j, h1, h2⟩
        · obtain rfl : j = k := by omega
          exact .inr h2.1
theorem outTo_sorted (l c : List Iv) : ∀ k, (outTo l c k).Pairwise (· < ·)
  | 0 => List.Pairwise.nil
  | k + 1 => by
    unfold outTo
    split
    · exact outTo_sorted l c k
    · refine List.pairwise_append.2 ⟨outTo_sorted l c k, List.pairwise_singleton _ _, fun x hx y hy => ?_⟩
      rw [List.mem_singleton] at hy
      obtain ⟨j, hj, h2, _⟩ := (outTo_mem l c k x).1 hx
      omega
theorem outL_length (l : List Iv) (f : Int) : (outL l f).length ≤ l.length := by
  unfold outL; split
  · exact Nat.zero_le _
  · exact outTo_length _ _ _
end Go.Proofs.YtigjljmhpkeahaaGreat
/- More plain mathematics of depths: counts, lists that are joined. -/
namespace Go.Proofs.YtigjljmhpkeahaaGreat
open Go.RowKit
theorem lo_at (l : List Iv) (n : Nat) (h : n < l.length) : iLo l n = l[n].1 := by simp [iLo, List.getD_eq_getElem?_getD, List.getElem?_eq_getElem h]
theorem hi_at (l : List Iv) (n : Nat) (h : n < l.length) : iHi l n = l[n].2 := by simp [iHi, List.getD_eq_getElem?_getD, List.getElem?_eq_getElem h]
theorem dep_count (l : List Iv) (t : Int) : dep l t l.length = ((l.countP fun p => hasB p.1 p.2 t : Nat) : Int) := by
  have key : ∀ n, n ≤ l.length → dep l t n = (((l.take n).countP fun p => hasB p.1 p.2 t : Nat) : Int) := by
    intro n
    induction n with
    | zero => intro _; simp [dep]
    | succ n ih =>
      intro hn
      have hlt : n < l.length := hn
      rw [dep, ih (by omega), List.take_add_one, List.getElem?_eq_getElem hlt, List.countP_append, lo_at l n hlt, hi_at l n hlt]
      simp only [Option.toList_some, List.countP_cons, List.countP_nil]
      split <;> simp
  simpa using key l.length (Nat.le_refl _)
theorem listB_iff2 (l : List Iv) : listB l = true ↔ l.length ≤ 64 ∧ ∀ p, p ∈ l → 0 ≤ p.1 ∧ p.1 ≤ p.2 ∧ p.2 ≤ 3000000000000000 := by
  rw [listB_iff]
  refine and_congr Iff.rfl ⟨fun h p hp => ?_, fun h k hk => ?_⟩
  · obtain ⟨k, hk, e1, e2⟩ := at_of_mem hp
    have := h k hk; omega
  · obtain ⟨p, hp, e1, e2⟩ := mem_of_at hk
    have := h p hp; omega
theorem dep_pos_iff (c : List Iv) (t : Int) : 0 < dep c t c.length ↔ mem c t := by
  have key : ∀ n, n ≤ c.length → (0 < dep c t n ↔ ∃ k, k < n ∧ iLo c k ≤ t ∧ t ≤ iHi c k) := by
    intro n
    induction n with
    | zero => intro _; simp [dep]
    | succ n ih =>
      intro hn
      have hb := dep_bd c t n
      have ih := ih (by omega)
      rw [dep]
      by_cases h : hasB (iLo c n) (iHi c n) t = true
      · rw [if_pos h]
        exact ⟨fun _ => ⟨n, by omega, by simpa [hasB] using h⟩, fun _ => by omega⟩
      · rw [if_neg h, Int.add_zero, ih]
        constructor
        · rintro ⟨k, hk, h2⟩; exact ⟨k, by omega, h2⟩
        · rintro ⟨k, hk, h2⟩
          refine ⟨k, ?_, h2⟩
          rcases Nat.lt_or_ge k n with h3 | h3
          · exact h3
          · obtain rfl : k = n := by omega
            exact absurd (by simpa [hasB] using h2) h
  rw [key _ (Nat.le_refl _)]
  constructor
  · rintro ⟨k, hk, h⟩
    obtain ⟨p, hp, e1, e2⟩ := mem_of_at hk
    exact ⟨p, hp, by omega, by omega⟩
  · rintro ⟨p, hp, h⟩
    obtain ⟨k, hk, e1, e2⟩ := at_of_mem hp
    exact ⟨k, hk, by omega, by omega⟩
theorem dep_join (a b : List Iv) (t : Int) : dep (a ++ b) t (a ++ b).length = dep a t a.length + dep b t b.length := by
  rw [dep_count, dep_count, dep_count, List.countP_append]; simp
theorem dep_ex {l : List Iv} {t : Int} (h : 0 < dep l t l.length) : ∃ k, k < l.length ∧ iLo l k ≤ t ∧ t ≤ iHi l k := by
  obtain ⟨p, hp, h1, h2⟩ := (dep_pos_iff l t).1 h
  obtain ⟨k, hk, e1, e2⟩ := at_of_mem hp
  exact ⟨k, hk, by omega, by omega⟩
theorem dep_all {l : List Iv} {t : Int} (h : ∀ k, k < l.length → iLo l k ≤ t ∧ t ≤ iHi l k) : ∀ n, n ≤ l.length → dep l t n = n
  | 0, _ => rfl
  | n + 1, hn => by
    have := h n (by omega)
    rw [dep, dep_all h n (by omega), if_pos (by simpa [hasB] using this)]; omega
theorem listB_join {a b : List Iv} (ha : listB a = true) (hb : listB b = true) (hl : (a ++ b).length ≤ 64) : listB (a ++ b) = true := by
  rw [listB_iff2] at *
  refine ⟨hl, fun p hp => ?_⟩
  rcases List.mem_append.1 hp with h | h
  · exact ha.2 p h
  · exact hb.2 p h
theorem hLo_le (l : List Iv) : ∀ k j, j ≤ k → hLo l k ≤ iLo l j
  | 0, j, h => by obtain rfl : j = 0 := by omega
                  exact Int.le_refl _
  | k + 1, j, h => by
    have := mn_spec (hLo l k) (iLo l (k + 1))
    rcases Nat.lt_or_ge j (k + 1) with h1 | h1
    · have := hLo_le l k j (by omega); simp only [hLo]; omega
    · obtain rfl : j = k + 1 := by omega
      simp only [hLo]; omega
theorem hHi_le (l : List Iv) : ∀ k j, j ≤ k → iHi l j ≤ hHi l k
  | 0, j, h => by obtain rfl : j = 0 := by omega
                  exact Int.le_refl _
  | k + 1, j, h => by
    have := mx_spec (hHi l k) (iHi l (k + 1))
    rcases Nat.lt_or_ge j (k + 1) with h1 | h1
    · have := hHi_le l k j (by omega); simp only [hHi]; omega
    · obtain rfl : j = k + 1 := by omega
      simp only [hHi]; omega
/-- Liars' intervals and more right ones, which have a time in common: what is combined lies within the hull of the right ones, and has this time. -/
theorem lies_law {ls L : List Iv} {t : Int} (h1 : listB ls = true) (h2 : listB L = true) (h3 : ls.length < L.length) (h4 : L.length ≤ 32) (h5 : ∀ k, k < L.length → iLo L k ≤ t ∧ t ≤ iHi L k) :
    hullEr L = 0 ∧ cbEr (ls ++ L) ls.length = 0 ∧ hasB (cbLo (ls ++ L) ls.length) (cbHi (ls ++ L) ls.length) t = true ∧ hullLo L ≤ cbLo (ls ++ L) ls.length ∧ cbHi (ls ++ L) ls.length ≤ hullHi L := by
  have hh : hullOk L = true := by simp [hullOk, h2]; intro h0; rw [h0] at h3; simp at h3
  have hlen : (ls ++ L).length = ls.length + L.length := by simp
  have hok : setOk (ls ++ L) ls.length = true := (setOk_iff _ _).2 ⟨listB_join h1 h2 (by omega), by omega, by omega⟩
  have hb := fun x => dep_bd ls x ls.length
  have hm : mem (setL (ls ++ L) ls.length) t := by
    rw [mem_setL hok, missTo_dep, dep_join, dep_all h5 _ (Nat.le_refl _)]
    have := hb t; omega
  have hin : ∀ x, mem (setL (ls ++ L) ls.length) x → hullLo L ≤ x ∧ x ≤ hullHi L := by
    intro x hx
    rw [mem_setL hok, missTo_dep, dep_join] at hx
    have := hb x
    obtain ⟨k, hk, e1, e2⟩ := dep_ex (l := L) (t := x) (by omega)
    have k1 := hLo_le L (L.length - 1) k (by omega)
    have k2 := hHi_le L (L.length - 1) k (by omega)
    simp only [hullLo, hullHi, hh, if_true]
    omega
  have he := (setL_spec hok).1.ends_mem (mem_pos hm)
  refine ⟨by simp [hullEr, hh], cbEr_mem hm, by simpa [hasB] using cb_has hm, (hin _ he.1).1, (hin _ he.2).2⟩
end Go.Proofs.YtigjljmhpkeahaaGreat
