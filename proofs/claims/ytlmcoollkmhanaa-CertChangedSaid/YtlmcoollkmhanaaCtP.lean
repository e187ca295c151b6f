
/- Plain mathematics of package cert: choices, limits, cases. -/
import Derived.Test.YtlmcoollkmhanaaGc
import Derived.Test.YtlmcoollkmhanaaGu
namespace Go.Proofs.Ytlmcoollkmhanaa
open Go.RowKit

def plFrom (wo : List Int) (n a : Nat) : List Int := ((List.range' a (n - a)).map fun i : Nat => (i : Int)).filter fun i => !decide (i ∈ wo)
theorem plFrom_end (wo : List Int) {n a : Nat} (h : n ≤ a) : plFrom wo n a = [] := by unfold plFrom; rw [show n - a = 0 by omega]; rfl
theorem plFrom_step (wo : List Int) {n a : Nat} (h : a < n) : plFrom wo n a = if ((a : Nat) : Int) ∈ wo then plFrom wo n (a + 1) else (a : Int) :: plFrom wo n (a + 1) := by
 unfold plFrom
 rw [show n - a = n - (a + 1) + 1 by omega, List.range'_succ, List.map_cons, List.filter_cons]
 by_cases hw : (a : Int) ∈ wo
 ·rw [if_pos hw, if_neg (by simp [hw])]
 ·rw [if_neg hw, if_pos (by simp [hw])]
def chR : List Int → Nat → List (List Int)
 | _, 0 => [[]]
 | [], _ + 1 => []
 | a :: l, k + 1 => (chR l k).map (fun x => a :: x) ++ chR l (k + 1)
theorem chR_zero (l : List Int) : chR l 0 = [[]] := by cases l <;> rfl
theorem chR_nil (k : Nat) : chR [] (k + 1) = [] := rfl
theorem chR_cons (a : Int) (l : List Int) (k : Nat) : chR (a :: l) (k + 1) = (chR l k).map (fun x => a :: x) ++ chR l (k + 1) := rfl
theorem mem_chR : ∀ (l : List Int) (k : Nat) (x : List Int), x ∈ chR l k ↔ x.Sublist l ∧ x.length = k
 | l, 0, x => by
  rw [chR_zero, List.mem_singleton]
  constructor
  ·rintro rfl; exact ⟨List.nil_sublist _, rfl⟩
  ·rintro ⟨_, h⟩; exact List.eq_nil_of_length_eq_zero h
 | [], k + 1, x => by
  rw [chR_nil]
  constructor
  ·intro h; cases h
  ·rintro ⟨h1, h2⟩
   rw [List.sublist_nil] at h1
   subst h1
   cases h2
 | a :: l, k + 1, x => by
  rw [chR_cons, List.mem_append, List.mem_map, mem_chR l (k + 1) x]
  constructor
  ·rintro (⟨y, hy, rfl⟩ | ⟨h1, h2⟩)
   ·have := (mem_chR l k y).1 hy
    exact ⟨this.1.cons_cons a, by simp [this.2]⟩
   ·exact ⟨h1.cons a, h2⟩
  ·rintro ⟨h1, h2⟩
   cases h1 with
   | cons _ h => exact .inr ⟨h, h2⟩
   | cons_cons _ h => exact .inl ⟨_, (mem_chR l k _).2 ⟨h, by simpa using h2⟩, rfl⟩
def fuT (wo : List Int) (n r a : Nat) : Nat → List (List Int)
 | 0 => []
 | t + 1 => fuT wo n r a t ++ (if ((a + t : Nat) : Int) ∈ wo then [] else (chR (plFrom wo n (a + t + 1)) r).map (fun x => ((a + t : Nat) : Int) :: x))
theorem fuT_front (wo : List Int) (n r : Nat) : ∀ (t a : Nat), fuT wo n r a (t + 1) = (if ((a : Nat) : Int) ∈ wo then [] else (chR (plFrom wo n (a + 1)) r).map (fun x => ((a : Nat) : Int) :: x)) ++ fuT wo n r (a + 1) t
 | 0, a => by rw [fuT, fuT, fuT]; simp
 | t + 1, a => by
  rw [fuT, fuT_front wo n r t a, fuT, show a + 1 + t = a + (t + 1) by omega, List.append_assoc]
theorem fuT_all (wo : List Int) (n r : Nat) : ∀ (d a : Nat), n - a = d → a ≤ n → fuT wo n r a (n - a) = chR (plFrom wo n a) (r + 1)
 | 0, a, h, ha => by rw [h, plFrom_end wo (by omega)]; rfl
 | d + 1, a, h, ha => by
  rw [h, fuT_front, show d = n - (a + 1) by omega, fuT_all wo n r d (a + 1) (by omega) (by omega), plFrom_step wo (by omega : a < n)]
  by_cases hw : ((a : Nat) : Int) ∈ wo
  ·rw [if_pos hw, if_pos hw]; rfl
  ·rw [if_neg hw, if_neg hw, chR_cons]
def isB (l : List Int) (k : Int) (n : Nat) : Bool := inAll n l l.length && risB l && decide ((l.length : Int) = k)
theorem isB_iff (l : List Int) (k : Int) (n : Nat) : isB l k n = true ↔ (∀ j, j < l.length → 0 ≤ iAt l j ∧ iAt l j < n) ∧ (∀ j, j < l.length → (if j = 0 then -1 else iAt l (j - 1)) < iAt l j) ∧ (l.length : Int) = k := by
 unfold isB risB
 simp only [Bool.and_eq_true, inAll_iff, risTo_iff, decide_eq_true_eq, and_assoc]
def cmB (a b : List Int) : Bool := a.any fun x => decide (x ∈ b)
theorem cmB_iff (a b : List Int) : cmB a b = false ↔ ∀ x, x ∈ a → x ∉ b := by
 unfold cmB
 rw [List.any_eq_false]
 constructor
 ·intro h x hx hb; exact h x hx (by simpa using hb)
 ·intro h x hx hb; exact h x hx (by simpa using hb)
def coB (s : Si) (use li lo : List Int) : Bool := isB li s.f use.length && isB lo s.lo use.length && !cmB li lo
theorem up_of_ris {l : List Int} (h : ∀ j, j < l.length → (if j = 0 then -1 else iAt l (j - 1)) < iAt l j) : l.Pairwise (· < ·) := by
 have key : ∀ i j, i < j → j < l.length → iAt l i < iAt l j := by
  intro i j hij
  induction j with
  | zero => omega
  | succ j ih =>
   intro hj
   have h1 := h (j + 1) hj
   rw [if_neg (by omega), Nat.add_sub_cancel] at h1
   rcases Nat.lt_or_ge i j with h2 | h2
   ·have := ih h2 (by omega); omega
   ·obtain rfl : i = j := by omega
    exact h1
 rw [List.pairwise_iff_getElem]
 intro i j hi hj hij
 have := key i j hij hj
 rwa [iAt_lt l i hi, iAt_lt l j hj] at this
theorem sub_of_up : ∀ (x l : List Int), x.Pairwise (· < ·) → l.Pairwise (· < ·) → (∀ y, y ∈ x → y ∈ l) → x.Sublist l
 | [], l, _, _, _ => List.nil_sublist l
 | y :: x, [], _, _, h => by have := h y (by simp); simp at this
 | y :: x, a :: l, h1, h2, h => by
  rw [List.pairwise_cons] at h1 h2
  by_cases e : y = a
  ·subst e
   refine (sub_of_up x l h1.2 h2.2 fun z hz => ?_).cons_cons y
   have hz2 := h z (by simp [hz])
   rw [List.mem_cons] at hz2
   rcases hz2 with rfl | hz2
   ·have := h1.1 z hz; omega
   ·exact hz2
  ·refine (sub_of_up (y :: x) l (List.pairwise_cons.2 h1) h2.2 fun z hz => ?_).cons a
   have hy := h y (by simp)
   rw [List.mem_cons] at hy
   rcases hy with hy | hy
   ·exact absurd hy e
   ·have hz2 := h z hz
    rw [List.mem_cons] at hz hz2
    rcases hz2 with rfl | hz2
    ·rcases hz with rfl | hz
     ·exact absurd rfl e
     ·have ha := h2.1 y hy
      have hb := h1.1 z hz
      omega
    ·exact hz2
theorem plFrom_mem (wo : List Int) (n a : Nat) (y : Int) : y ∈ plFrom wo n a ↔ ((a : Int) ≤ y ∧ y < n) ∧ y ∉ wo := by
 unfold plFrom
 rw [List.mem_filter, List.mem_map]
 simp only [List.mem_range', Bool.not_eq_true', decide_eq_false_iff_not]
 constructor
 ·rintro ⟨⟨i, ⟨j, h1, rfl⟩, rfl⟩, h2⟩; exact ⟨by omega, h2⟩
 ·rintro ⟨h1, h2⟩; exact ⟨⟨y.toNat, ⟨y.toNat - a, by omega, by omega⟩, by omega⟩, h2⟩
theorem plFrom_up (wo : List Int) (n a : Nat) : (plFrom wo n a).Pairwise (· < ·) := by
 unfold plFrom
 refine List.Pairwise.filter _ (List.pairwise_map.2 ?_)
 exact (List.pairwise_lt_range' (s := a) (n := n - a)).imp fun h => by omega
theorem mem_choice (wo : List Int) (n k : Nat) (x : List Int) : x ∈ chR (plFrom wo n 0) k ↔ isB x k n = true ∧ ∀ y, y ∈ x → y ∉ wo := by
 rw [mem_chR, isB_iff]
 constructor
 ·rintro ⟨h1, h2⟩
  have hm := fun y (hy : y ∈ x) => (plFrom_mem wo n 0 y).1 (h1.subset hy)
  have hu := (plFrom_up wo n 0).sublist h1
  refine ⟨⟨fun j hj => ?_, fun j hj => ?_, by omega⟩, fun y hy => (hm y hy).2⟩
  ·have := (hm _ (iAt_mem hj)).1; omega
  ·split
   ·have := (hm _ (iAt_mem hj)).1; omega
   ·have := List.pairwise_iff_getElem.1 hu (j - 1) j (by omega) hj (by omega)
    rwa [iAt_lt x _ hj, iAt_lt x _ (by omega)]
 ·rintro ⟨⟨h1, h2, h3⟩, h4⟩
  refine ⟨sub_of_up _ _ (up_of_ris h2) (plFrom_up wo n 0) fun y hy => ?_, by omega⟩
  obtain ⟨j, hj, rfl⟩ := List.mem_iff_getElem.1 hy
  have := h1 j hj
  rw [iAt_lt x j hj] at this
  exact (plFrom_mem wo n 0 _).2 ⟨by omega, h4 _ hy⟩
def cwTo (ws li lo : List Int) : Nat → List Int
 | 0 => []
 | k + 1 => if (k : Int) ∈ li ∨ (k : Int) ∈ lo then cwTo ws li lo k else cwTo ws li lo k ++ [iAt ws k]
def cwL (ws li lo : List Int) : List Int := cwTo ws li lo ws.length
def zsL (f : Int) : List Int := List.replicate f.toNat 0
def clL (ws li lo : List Int) (f : Int) : List Int := zsL f ++ cwL ws li lo
def lim (s : Si) (use : List Int) (ev : Int) (li lo : List Int) : Int := worst (clL (wdL s.ps use) li lo s.f) s.f 0 + grw s.r (ev + s.tm)
def lmB (s : Si) (use : List Int) (ev : Int) (li lo : List Int) : Bool := rgB s use ev && coB s use li lo
def lmV (s : Si) (use : List Int) (ev : Int) (li lo : List Int) : Int := if lmB s use ev li lo = true then lim s use ev li lo else 0
def lmE (s : Si) (use : List Int) (ev : Int) (li lo : List Int) : Int := if lmB s use ev li lo = true then 0 else 1
def inTo (li lo : List Int) : Nat → Nat
 | 0 => 0
 | k + 1 => inTo li lo k + if (k : Int) ∈ li ∨ (k : Int) ∈ lo then 1 else 0
theorem cwTo_length (ws li lo : List Int) : ∀ k, (cwTo ws li lo k).length + inTo li lo k = k
 | 0 => rfl
 | k + 1 => by
  have := cwTo_length ws li lo k
  rw [cwTo, inTo]
  split
  ·omega
  ·rw [List.length_append, List.length_singleton]; omega
theorem inTo_mem (li lo : List Int) : ∀ k, inTo li lo k = (((List.range k).map fun i : Nat => (i : Int)).filter fun i => decide (i ∈ li ∨ i ∈ lo)).length
 | 0 => rfl
 | k + 1 => by
  rw [inTo, inTo_mem li lo k, List.range_succ, List.map_append, List.filter_append, List.length_append]
  congr 1
  by_cases h : (k : Int) ∈ li ∨ (k : Int) ∈ lo
  ·rw [if_pos h]; simp [h]
  ·rw [if_neg h]; simp [h]
theorem inTo_len {n : Nat} {li lo : List Int} {a b : Int} (h1 : isB li a n = true) (h2 : isB lo b n = true) (h3 : cmB li lo = false) : inTo li lo n = li.length + lo.length := by
 obtain ⟨p1, p2, p3⟩ := (isB_iff _ _ _).1 h1
 obtain ⟨q1, q2, q3⟩ := (isB_iff _ _ _).1 h2
 have hc := (cmB_iff _ _).1 h3
 have u1 : li.Nodup := (up_of_ris p2).imp fun h => by omega
 have u2 : lo.Nodup := (up_of_ris q2).imp fun h => by omega
 have hr : ((List.range n).map fun i : Nat => (i : Int)).Nodup := by
  refine List.Pairwise.map _ (R := (· ≠ ·)) (fun a b h => ?_) List.nodup_range
  intro e; exact h (by omega)
 have hin : ∀ l : List Int, (∀ j, j < l.length → 0 ≤ iAt l j ∧ iAt l j < n) → ∀ y, y ∈ l → 0 ≤ y ∧ y < n := by
  intro l h y hy
  obtain ⟨j, hj, rfl⟩ := List.mem_iff_getElem.1 hy
  have := h j hj
  rwa [iAt_lt l j hj] at this
 rw [inTo_mem]
 have hd : (li ++ lo).Nodup := List.nodup_append.2 ⟨u1, u2, fun x hx y hy e => hc x hx (by rw [e]; exact hy)⟩
 have a1 := nodup_sub_length (li ++ lo) (((List.range n).map fun i : Nat => (i : Int)).filter fun i => decide (i ∈ li ∨ i ∈ lo)) hd (fun y hy => by
  rw [List.mem_append] at hy
  rw [List.mem_filter, List.mem_map]
  have : 0 ≤ y ∧ y < n := by rcases hy with h | h; exact hin _ p1 y h; exact hin _ q1 y h
  exact ⟨⟨y.toNat, by rw [List.mem_range]; omega, by omega⟩, by simpa using hy⟩)
 have a2 := nodup_sub_length (((List.range n).map fun i : Nat => (i : Int)).filter fun i => decide (i ∈ li ∨ i ∈ lo)) (li ++ lo) (hr.sublist List.filter_sublist) (fun y hy => by
  rw [List.mem_filter] at hy
  rw [List.mem_append]
  simpa using hy.2)
 rw [List.length_append] at a1 a2
 omega
theorem cge_zr (ws li lo : List Int) {x : Int} (hx : 1 ≤ x) : ∀ k, cge x (((List.range k).map fun i : Nat => if (i : Int) ∈ li ++ lo then 0 else iAt ws i)) = cge x (cwTo ws li lo k)
 | 0 => rfl
 | k + 1 => by
  rw [List.range_succ, List.map_append, cge_append, cge_zr ws li lo hx k, cwTo]
  by_cases h : (k : Int) ∈ li ∨ (k : Int) ∈ lo
  ·rw [if_pos h]
   simp only [List.map_cons, List.map_nil, List.mem_append, if_pos h, cge_cons, if_neg (show ¬ x ≤ 0 by omega)]
   simp [cge]
  ·rw [if_neg h, cge_append]
   simp only [List.map_cons, List.map_nil, List.mem_append, if_neg h]
theorem cge_zs {x : Int} (hx : 1 ≤ x) (f : Int) : cge x (zsL f) = 0 := cge_none fun a ha => by
 have := List.eq_of_mem_replicate ha; omega
structure Choice (s : Si) (use li lo : List Int) : Prop where
 a : isB li s.f use.length = true
 b : isB lo s.lo use.length = true
 c : cmB li lo = false
theorem coB_iff (s : Si) (use li lo : List Int) : coB s use li lo = true ↔ Choice s use li lo := by
 unfold coB
 simp only [Bool.and_eq_true, Bool.not_eq_true']
 exact ⟨fun ⟨⟨a, b⟩, c⟩ => ⟨a, b, c⟩, fun ⟨a, b, c⟩ => ⟨⟨a, b⟩, c⟩⟩
theorem Choice.len {s : Si} {use li lo : List Int} (h : Choice s use li lo) : (li.length : Int) = s.f ∧ (lo.length : Int) = s.lo ∧ ((cwL (wdL s.ps use) li lo).length : Int) = use.length - s.f - s.lo ∧ ((clL (wdL s.ps use) li lo s.f).length : Int) = use.length - s.lo := by
 obtain ⟨p1, p2, p3⟩ := (isB_iff _ _ _).1 h.a
 obtain ⟨q1, q2, q3⟩ := (isB_iff _ _ _).1 h.b
 have h1 := inTo_len h.a h.b h.c
 have h2 := cwTo_length (wdL s.ps use) li lo (wdL s.ps use).length
 rw [wdL_length, h1] at h2
 have e : (cwL (wdL s.ps use) li lo).length = (cwTo (wdL s.ps use) li lo use.length).length := by unfold cwL; rw [wdL_length]
 refine ⟨p3, q3, by rw [e]; omega, ?_⟩
 unfold clL zsL
 rw [List.length_append, List.length_replicate, e]
 omega
theorem cwTo_in (ws li lo : List Int) : ∀ k, ∀ a, a ∈ cwTo ws li lo k → ∃ j, j < k ∧ a = iAt ws j
 | 0, a, h => by simp [cwTo] at h
 | k + 1, a, h => by
  rw [cwTo] at h
  split at h
  ·obtain ⟨j, h1, h2⟩ := cwTo_in ws li lo k a h; exact ⟨j, by omega, h2⟩
  ·rw [List.mem_append, List.mem_singleton] at h
   rcases h with h | h
   ·obtain ⟨j, h1, h2⟩ := cwTo_in ws li lo k a h; exact ⟨j, by omega, h2⟩
   ·exact ⟨k, by omega, h⟩
theorem clL_bd {s : Si} {use li lo : List Int} {ev : Int} (hr : rgB s use ev = true) (j : Nat) (hj : j < (clL (wdL s.ps use) li lo s.f).length) : 0 ≤ iAt (clL (wdL s.ps use) li lo s.f) j ∧ iAt (clL (wdL s.ps use) li lo s.f) j ≤ 1000000000000 := by
 have hsp := (spOk_iff _ _ _).1 (rg_spOk hr)
 have hm := iAt_mem hj
 unfold clL at hm
 rw [List.mem_append] at hm
 rcases hm with hm | hm
 ·have := List.eq_of_mem_replicate hm; unfold clL; omega
 ·obtain ⟨i, h1, h2⟩ := cwTo_in _ _ _ _ _ hm
  have := hsp.1.2 i h1
  unfold clL at *
  omega
theorem cl_ok {s : Si} {use li lo : List Int} {ev : Int} (hr : rgB s use ev = true) (h : Choice s use li lo) : spOk (clL (wdL s.ps use) li lo s.f) s.f 0 = true := by
 have hsp := (spOk_iff _ _ _).1 (rg_spOk hr)
 have hl := h.len
 rw [wdL_length] at hsp
 rw [spOk_iff]
 exact ⟨⟨⟨by omega, by omega⟩, fun j hj => clL_bd hr j hj⟩, by omega, by omega, by omega⟩
theorem zr_nn {ws : List Int} (h : ∀ j, j < ws.length → 0 ≤ iAt ws j ∧ iAt ws j ≤ 1000000000000) (ys : List Int) (j : Nat) (hj : j < (zr ws ys).length) : 0 ≤ iAt (zr ws ys) j ∧ iAt (zr ws ys) j ≤ 1000000000000 := by
 rw [zr_length] at hj
 rw [zr_at ws ys j hj]
 split
 ·omega
 ·exact h j hj
theorem srt_cl {s : Si} {use li lo : List Int} {ev : Int} (hr : rgB s use ev = true) (h : Choice s use li lo) (i : Nat) (hi : (i : Int) < use.length - s.lo) :
  iAt (srt (clL (wdL s.ps use) li lo s.f)) i = iAt (srt (zr (wdL s.ps use) (li ++ lo))) i := by
 have hsp := (spOk_iff _ _ _).1 (rg_spOk hr)
 have hl := h.len
 have b1 := srt_bd _ (fun j hj => clL_bd (li := li) (lo := lo) hr j hj) i
 have b2 := srt_bd _ (fun j hj => zr_nn hsp.1.2 (li ++ lo) j hj) i
 have hz : (zr (wdL s.ps use) (li ++ lo)).length = use.length := by rw [zr_length, wdL_length]
 have hc : ∀ x : Int, 1 ≤ x → cge x (clL (wdL s.ps use) li lo s.f) = cge x (zr (wdL s.ps use) (li ++ lo)) := by
  intro x hx
  unfold clL zr cwL
  rw [cge_append, cge_zs hx, cge_zr _ _ _ hx]
  omega
 have k1 := fun x => srt_cge (clL (wdL s.ps use) li lo s.f) x i (by omega)
 have k2 := fun x => srt_cge (zr (wdL s.ps use) (li ++ lo)) x i (by omega)
 generalize iAt (srt (clL (wdL s.ps use) li lo s.f)) i = a at *
 generalize iAt (srt (zr (wdL s.ps use) (li ++ lo))) i = b at *
 have g1 : a ≤ b := by
  rcases Int.lt_or_le a 1 with c | c
  ·omega
  ·exact (k2 a).2 (by rw [← hc a c]; exact (k1 a).1 (Int.le_refl _))
 have g2 : b ≤ a := by
  rcases Int.lt_or_le b 1 with c | c
  ·omega
  ·exact (k1 b).2 (by rw [hc b c]; exact (k2 b).1 (Int.le_refl _))
 omega
theorem worst_cl {s : Si} {use li lo : List Int} {ev : Int} (hr : rgB s use ev = true) (h : Choice s use li lo) : worst (clL (wdL s.ps use) li lo s.f) s.f 0 = worst (zr (wdL s.ps use) (li ++ lo)) s.f s.lo := by
 have hsp := (spOk_iff _ _ _).1 (rg_spOk hr)
 have hl := h.len
 have ok1 := cl_ok hr h
 have ok2 : spOk (zr (wdL s.ps use) (li ++ lo)) s.f s.lo = true := zr_ok (rg_spOk hr)
 have hz : (zr (wdL s.ps use) (li ++ lo)).length = use.length := by rw [zr_length, wdL_length]
 rw [wdL_length] at hsp
 have eM : spM (clL (wdL s.ps use) li lo s.f) s.f 0 = spM (zr (wdL s.ps use) (li ++ lo)) s.f s.lo := by unfold spM; rw [hz]; omega
 have eK : spK (clL (wdL s.ps use) li lo s.f) s.f 0 = spK (zr (wdL s.ps use) (li ++ lo)) s.f s.lo := by unfold spK; rw [hz]; omega
 have hm := sp_mk ok2
 rw [hz] at hm
 obtain ⟨j1, a1, a2, a3⟩ := worst_at ok1
 obtain ⟨j2, c1, c2, c3⟩ := worst_at ok2
 have g1 := worst_ge ok1
 have g2 := worst_ge ok2
 rw [eM, eK] at a1 g1
 rw [eK] at a2 a3
 have hv : ∀ j, jLo (spM (zr (wdL s.ps use) (li ++ lo)) s.f s.lo) (spK (zr (wdL s.ps use) (li ++ lo)) s.f s.lo) ≤ j → j ≤ spK (zr (wdL s.ps use) (li ++ lo)) s.f s.lo →
   vJ (srt (clL (wdL s.ps use) li lo s.f)) (spK (zr (wdL s.ps use) (li ++ lo)) s.f s.lo) j = vJ (srt (zr (wdL s.ps use) (li ++ lo))) (spK (zr (wdL s.ps use) (li ++ lo)) s.f s.lo) j := by
  intro j h1 h2
  unfold jLo at h1
  unfold vJ
  rw [srt_cl hr h _ (by omega), srt_cl hr h _ (by omega)]
  by_cases h0 : 0 < j
  ·rw [if_pos h0, if_pos h0, srt_cl hr h (j - 1) (by omega)]
  ·rw [if_neg h0, if_neg h0]
 have e1 := g2 j1 a1 a2
 have e2 := g1 j2 c1 c2
 rw [hv j2 c1 c2] at e2
 rw [hv j1 a1 a2] at a3
 omega
theorem lim_le {s : Si} {use li lo : List Int} {ev : Int} (hr : rgB s use ev = true) (h : Choice s use li lo) : lim s use ev li lo ≤ wdt s use ev ∧ grw s.r (ev + s.tm) ≤ lim s use ev li lo := by
 have ok := rg_spOk hr
 have hsp := (spOk_iff _ _ _).1 ok
 have okz : spOk (zr (wdL s.ps use) (li ++ lo)) s.f s.lo = true := zr_ok ok
 have e : wdt s use ev = worst (wdL s.ps use) s.f s.lo + grw s.r (ev + s.tm) := by unfold wdt; rw [if_pos hr]
 have hm := worst_mono (l := zr (wdL s.ps use) (li ++ lo)) (r := wdL s.ps use) (zr_length _ _) (fun i hi => by
  rw [zr_length] at hi
  rw [zr_at _ _ i hi]
  split
  ·exact (hsp.1.2 i hi).1
  ·exact Int.le_refl _) okz ok
 have hn : 0 ≤ worst (clL (wdL s.ps use) li lo s.f) s.f 0 := by
  obtain ⟨j, h1, h2, h3⟩ := worst_at (cl_ok hr h)
  rw [h3]
  exact vJ_nn (fun i => srt_bd _ (fun j hj => clL_bd hr j hj) i) _ _
 unfold lim
 have := worst_cl hr h
 omega
theorem pick_choice {s : Si} {use : List Int} {ev : Int} (hr : rgB s use ev = true) : Choice s use (pickL (wdL s.ps use) s.f s.lo) (goneL (wdL s.ps use) s.f s.lo) ∧ lim s use ev (pickL (wdL s.ps use) s.f s.lo) (goneL (wdL s.ps use) s.f s.lo) = wdt s use ev := by
 have ok := rg_spOk hr
 have hlen := picks_len ok
 obtain ⟨r1, r2⟩ := picks_rising ok
 have conv : ∀ (z : List Int) (k : Int), Rising (wdL s.ps use).length z → (z.length : Int) = k → isB z k use.length = true := by
  intro z k h hk
  rw [wdL_length] at h
  rw [isB_iff]
  refine ⟨h.1, fun j hj => ?_, hk⟩
  split
  ·have := (h.1 j hj).1; omega
  ·exact h.2 (j - 1) j (by omega) hj
 have hC : Choice s use (pickL (wdL s.ps use) s.f s.lo) (goneL (wdL s.ps use) s.f s.lo) := ⟨conv _ _ r1 hlen.1, conv _ _ r2 hlen.2, (cmB_iff _ _).2 fun x h1 h2 => picks_apart ok x h1 h2⟩
 refine ⟨hC, ?_⟩
 unfold lim
 rw [worst_cl hr hC, picks_worst ok]
 unfold wdt
 rw [if_pos hr]
structure Cs where
 li : List Int
 lo : List Int
 wd : Int
def cs0 : Cs := ⟨[], [], 0⟩
def csAt (l : List Cs) (i : Nat) : Cs := l.getD i cs0
def csOf (s : Si) (use : List Int) (ev : Int) (li : List Int) (lost : List (List Int)) : List Cs := lost.map fun lo => ⟨li, lo, lim s use ev li lo⟩
def csL (s : Si) (use : List Int) (ev : Int) : List Cs := (chR (plFrom [] use.length 0) s.f.toNat).flatMap fun li => csOf s use ev li (chR (plFrom li use.length 0) s.lo.toNat)
theorem csL_mem {s : Si} {use : List Int} {ev : Int} (hr : rgB s use ev = true) (c : Cs) : c ∈ csL s use ev ↔ Choice s use c.li c.lo ∧ c.wd = lim s use ev c.li c.lo := by
 have h9 := (siN_iff s).1 ((siB_iff s).1 ((rgB_iff s use ev).1 hr).1).1
 have e1 : ((s.f.toNat : Nat) : Int) = s.f := by omega
 have e2 : ((s.lo.toNat : Nat) : Int) = s.lo := by omega
 unfold csL csOf
 simp only [List.mem_flatMap, List.mem_map, mem_choice, e1, e2]
 constructor
 ·rintro ⟨li, ⟨h1, -⟩, lo, ⟨h2, h3⟩, rfl⟩
  exact ⟨⟨h1, h2, (cmB_iff _ _).2 fun x hx hy => h3 x hy hx⟩, rfl⟩
 ·rintro ⟨⟨h1, h2, h3⟩, h4⟩
  obtain ⟨li, lo, wd⟩ := c
  simp only at h1 h2 h3 h4
  exact ⟨li, ⟨h1, fun y _ => by simp⟩, lo, ⟨h2, fun y hy hx => (cmB_iff _ _).1 h3 y hx hy⟩, by rw [h4]⟩
def mxC (l : List Cs) : Nat → Int
 | 0 => 0
 | k + 1 => mx (mxC l k) (csAt l k).wd
theorem csAt_lt (l : List Cs) (i : Nat) (h : i < l.length) : csAt l i = l[i] := by simp [csAt, List.getD_eq_getElem?_getD, List.getElem?_eq_getElem h]
theorem mxC_ge (l : List Cs) : ∀ k, 0 ≤ mxC l k ∧ ∀ j, j < k → (csAt l j).wd ≤ mxC l k
 | 0 => ⟨Int.le_refl _, fun j h => by omega⟩
 | k + 1 => by
  have ih := mxC_ge l k
  have m := mx_spec (mxC l k) (csAt l k).wd
  rw [mxC]
  refine ⟨by omega, fun j hj => ?_⟩
  rcases Nat.lt_or_ge j k with h | h
  ·have := ih.2 j h; omega
  ·obtain rfl : j = k := by omega
   omega
theorem mxC_le (l : List Cs) (B : Int) (h0 : 0 ≤ B) : ∀ k, (∀ j, j < k → (csAt l j).wd ≤ B) → mxC l k ≤ B
 | 0, _ => h0
 | k + 1, h => by
  have ih := mxC_le l B h0 k fun j hj => h j (by omega)
  have m := mx_spec (mxC l k) (csAt l k).wd
  have := h k (by omega)
  rw [mxC]
  omega
theorem mxC_cs {s : Si} {use : List Int} {ev : Int} (hr : rgB s use ev = true) : mxC (csL s use ev) (csL s use ev).length = wdt s use ev ∧ 0 < (csL s use ev).length := by
 obtain ⟨hC, hl⟩ := pick_choice hr
 have hg := mxC_ge (csL s use ev) (csL s use ev).length
 have hin : (⟨_, _, lim s use ev (pickL (wdL s.ps use) s.f s.lo) (goneL (wdL s.ps use) s.f s.lo)⟩ : Cs) ∈ csL s use ev := (csL_mem hr _).2 ⟨hC, rfl⟩
 obtain ⟨j, hj, he⟩ := List.mem_iff_getElem.1 hin
 have h1 := hg.2 j hj
 rw [csAt_lt _ j hj, he] at h1
 simp only at h1
 have gn := grw_bd (rg_elOk hr)
 have h2 := mxC_le (csL s use ev) (wdt s use ev) (by have := (lim_le hr hC).2; omega) (csL s use ev).length fun i hi => by
  rw [csAt_lt _ i hi]
  have := (csL_mem hr _).1 (List.getElem_mem hi)
  rw [this.2]
  exact (lim_le hr this.1).1
 exact ⟨by omega, by omega⟩
end Go.Proofs.Ytlmcoollkmhanaa
