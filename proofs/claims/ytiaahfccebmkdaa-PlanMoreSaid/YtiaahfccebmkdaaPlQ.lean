/- Plain laws of plans: the best one of the offers. -/
import Derived.Test.YtiaahfccebmkdaaPlP
import Derived.Test.YtiaahfccebmkdaaWdQ
import Derived.Test.YtiaahfccebmkdaaWdG
namespace Go.Proofs.Ytiaahfccebmkdaa
open Lib (compareInt)

theorem cmpInt_lt (x y : Int) : compareInt x y < 0 ↔ x < y := by unfold compareInt; split <;> (try split) <;> constructor <;> intro _ <;> omega
theorem cmpInt_eq (x y : Int) : compareInt x y = 0 ↔ x = y := by unfold compareInt; split <;> (try split) <;> constructor <;> intro _ <;> omega
theorem cmpInt_le (x y : Int) : compareInt x y ≤ 0 ↔ x ≤ y := by unfold compareInt; split <;> (try split) <;> constructor <;> intro _ <;> omega
theorem cmpInt_gt (x y : Int) : 0 < compareInt x y ↔ y < x := by unfold compareInt; split <;> (try split) <;> constructor <;> intro _ <;> omega
theorem cross_trans {a b c x y z : Int} (hx : 0 < x) (hy : 0 < y) (hz : 0 < z) (h1 : a * y ≤ b * x) (h2 : b * z ≤ c * y) : a * z ≤ c * x := by
  have e1 : a * y * z ≤ b * x * z := Int.mul_le_mul_of_nonneg_right h1 (by omega)
  have e2 : b * z * x ≤ c * y * x := Int.mul_le_mul_of_nonneg_right h2 (by omega)
  have e3 : a * z * y = a * y * z := by rw [Int.mul_assoc, Int.mul_comm z y, ← Int.mul_assoc]
  have e4 : c * x * y = c * y * x := by rw [Int.mul_assoc, Int.mul_comm x y, ← Int.mul_assoc]
  have e5 : b * x * z = b * z * x := by rw [Int.mul_assoc, Int.mul_comm x z, ← Int.mul_assoc]
  exact Int.le_of_mul_le_mul_right (by omega : a * z * y ≤ c * x * y) hy
/-- What is asked of an offer: its period is no less than 1. -/
def OfV (o : Of) : Prop := 0 < o.ev
/-- No worse in the first two respects. -/
def LeX (nr : Bool) (ps : List Pr) (a b : Of) : Prop := c1 nr ps a b < 0 ∨ (c1 nr ps a b = 0 ∧ c2 nr ps a b ≤ 0)
theorem cmpC_trans {ps : List Pr} {a b c : Of} (ha : OfV a) (hb : OfV b) (hc : OfV c) (h1 : cmpC ps a b ≤ 0) (h2 : cmpC ps b c ≤ 0) : cmpC ps a c ≤ 0 := by
  unfold cmpC cmpS at *
  rw [cmpInt_le] at *
  exact cross_trans ha hb hc h1 h2
theorem cmpC_flip (ps : List Pr) (a b : Of) : (cmpC ps b a < 0 ↔ 0 < cmpC ps a b) ∧ (cmpC ps b a = 0 ↔ cmpC ps a b = 0) ∧ (cmpC ps b a ≤ 0 ↔ 0 ≤ cmpC ps a b) := by
  have h1 : cmpC ps b a < 0 ↔ 0 < cmpC ps a b := by unfold cmpC cmpS; rw [cmpInt_lt, cmpInt_gt]
  have h2 : cmpC ps b a = 0 ↔ cmpC ps a b = 0 := by unfold cmpC cmpS; rw [cmpInt_eq, cmpInt_eq]; exact eq_comm
  exact ⟨h1, h2, by omega⟩
theorem cmpW_trans {a b c : Of} (h1 : cmpW a b ≤ 0) (h2 : cmpW b c ≤ 0) : cmpW a c ≤ 0 := by
  unfold cmpW at *
  rw [cmpInt_le] at *
  omega
theorem cmpW_flip (a b : Of) : (cmpW b a < 0 ↔ 0 < cmpW a b) ∧ (cmpW b a = 0 ↔ cmpW a b = 0) ∧ (cmpW b a ≤ 0 ↔ 0 ≤ cmpW a b) := by
  have h1 : cmpW b a < 0 ↔ 0 < cmpW a b := by unfold cmpW; rw [cmpInt_lt, cmpInt_gt]
  have h2 : cmpW b a = 0 ↔ cmpW a b = 0 := by unfold cmpW; rw [cmpInt_eq, cmpInt_eq]; exact eq_comm
  exact ⟨h1, h2, by omega⟩
theorem c1_trans {nr : Bool} {ps : List Pr} {a b c : Of} (ha : OfV a) (hb : OfV b) (hc : OfV c) (h1 : c1 nr ps a b ≤ 0) (h2 : c1 nr ps b c ≤ 0) : c1 nr ps a c ≤ 0 := by
  cases nr
  · exact cmpC_trans ha hb hc h1 h2
  · exact cmpW_trans h1 h2
theorem c2_trans {nr : Bool} {ps : List Pr} {a b c : Of} (ha : OfV a) (hb : OfV b) (hc : OfV c) (h1 : c2 nr ps a b ≤ 0) (h2 : c2 nr ps b c ≤ 0) : c2 nr ps a c ≤ 0 := by
  cases nr
  · exact cmpW_trans h1 h2
  · exact cmpC_trans ha hb hc h1 h2
theorem c1_flip (nr : Bool) (ps : List Pr) (a b : Of) : (c1 nr ps b a < 0 ↔ 0 < c1 nr ps a b) ∧ (c1 nr ps b a = 0 ↔ c1 nr ps a b = 0) ∧ (c1 nr ps b a ≤ 0 ↔ 0 ≤ c1 nr ps a b) := by
  cases nr
  · exact cmpC_flip ps a b
  · exact cmpW_flip a b
theorem c2_flip (nr : Bool) (ps : List Pr) (a b : Of) : (c2 nr ps b a < 0 ↔ 0 < c2 nr ps a b) ∧ (c2 nr ps b a = 0 ↔ c2 nr ps a b = 0) ∧ (c2 nr ps b a ≤ 0 ↔ 0 ≤ c2 nr ps a b) := by
  cases nr
  · exact cmpW_flip a b
  · exact cmpC_flip ps a b
theorem LeX.refl (nr : Bool) (ps : List Pr) (a : Of) : LeX nr ps a a := by
  have h1 := c1_flip nr ps a a
  have h2 := c2_flip nr ps a a
  exact .inr ⟨by omega, by omega⟩
theorem LeX.trans {nr : Bool} {ps : List Pr} {a b c : Of} (ha : OfV a) (hb : OfV b) (hc : OfV c) (h1 : LeX nr ps a b) (h2 : LeX nr ps b c) : LeX nr ps a c := by
  have l1 : c1 nr ps a b ≤ 0 := by rcases h1 with h | h <;> omega
  have l2 : c1 nr ps b c ≤ 0 := by rcases h2 with h | h <;> omega
  have l3 := c1_trans ha hb hc l1 l2
  by_cases h0 : c1 nr ps a c < 0
  · exact .inl h0
  · have e0 : c1 nr ps a c = 0 := by omega
    have f1 := c1_flip nr ps a c
    have f2 := c1_flip nr ps a b
    have f3 := c1_flip nr ps b c
    have t1 := c1_trans (nr := nr) (ps := ps) hc ha hb (by omega) l1
    have t2 := c1_trans (nr := nr) (ps := ps) hb hc ha l2 (by omega)
    have e1 : c1 nr ps a b = 0 := by omega
    have e2 : c1 nr ps b c = 0 := by omega
    refine .inr ⟨e0, c2_trans ha hb hc ?_ ?_⟩
    · rcases h1 with h | h
      · omega
      · exact h.2
    · rcases h2 with h | h
      · omega
      · exact h.2
theorem btr_true {nr : Bool} {ps : List Pr} {a b : Of} (h : btr nr ps a b = true) : LeX nr ps a b := by
  unfold btr at h
  by_cases h1 : c1 nr ps a b ≠ 0
  · rw [if_pos h1] at h
    exact .inl (of_decide_eq_true h)
  · rw [if_neg h1] at h
    by_cases h2 : c2 nr ps a b ≠ 0
    · rw [if_pos h2] at h
      have := of_decide_eq_true h
      exact .inr ⟨by omega, by omega⟩
    · exact .inr ⟨by omega, by omega⟩
theorem btr_false {nr : Bool} {ps : List Pr} {a b : Of} (h : btr nr ps a b = false) : LeX nr ps b a := by
  have f1 := c1_flip nr ps a b
  have f2 := c2_flip nr ps a b
  unfold btr at h
  by_cases h1 : c1 nr ps a b ≠ 0
  · rw [if_pos h1] at h
    have := of_decide_eq_false h
    exact .inl (by omega)
  · rw [if_neg h1] at h
    by_cases h2 : c2 nr ps a b ≠ 0
    · rw [if_pos h2] at h
      have := of_decide_eq_false h
      exact .inr ⟨by omega, by omega⟩
    · exact .inr ⟨by omega, by omega⟩
/-- What has been found is the best one of what has been seen. -/
def BsSpec (nr : Bool) (ps : List Pr) (most : Int) (l : List Of) : Option Of → Prop
  | none => ∀ o, o ∈ l → most < o.wd
  | some b => b ∈ l ∧ b.wd ≤ most ∧ ∀ o, o ∈ l → o.wd ≤ most → LeX nr ps b o
theorem bs_step {nr : Bool} {ps : List Pr} {most : Int} {d : List Of} {acc : Option Of} {x : Of} (hv : ∀ o, o ∈ d ++ [x] → OfV o) (h : BsSpec nr ps most d acc) : BsSpec nr ps most (d ++ [x]) (bstS nr ps most acc x) := by
  cases acc with
  | none =>
    simp only [bstS]
    split
    · rename_i hx
      refine ⟨by simp, hx, fun o ho hle => ?_⟩
      rcases List.mem_append.1 ho with h1 | h1
      · have := h o h1; omega
      · rw [List.mem_singleton] at h1; subst h1; exact LeX.refl _ _ _
    · rename_i hx
      intro o ho
      rcases List.mem_append.1 ho with h1 | h1
      · exact h o h1
      · rw [List.mem_singleton] at h1; subst h1; omega
  | some b =>
    obtain ⟨h1, h2, h3⟩ := h
    have hb : OfV b := hv b (by simp [h1])
    have hx : OfV x := hv x (by simp)
    simp only [bstS]
    split
    · rename_i hc
      refine ⟨by simp, hc.1, fun o ho hle => ?_⟩
      rcases List.mem_append.1 ho with h4 | h4
      · exact LeX.trans hx hb (hv o ho) (btr_true hc.2) (h3 o h4 hle)
      · rw [List.mem_singleton] at h4; subst h4; exact LeX.refl _ _ _
    · rename_i hc
      refine ⟨by simp [h1], h2, fun o ho hle => ?_⟩
      rcases List.mem_append.1 ho with h4 | h4
      · exact h3 o h4 hle
      · rw [List.mem_singleton] at h4
        subst h4
        exact btr_false (by cases hq : btr nr ps o b with | false => rfl | true => exact absurd ⟨hle, hq⟩ hc)
theorem bs_fold {nr : Bool} {ps : List Pr} {most : Int} : ∀ (l d : List Of) (acc : Option Of), (∀ o, o ∈ d ++ l → OfV o) → BsSpec nr ps most d acc → BsSpec nr ps most (d ++ l) (l.foldl (bstS nr ps most) acc)
  | [], d, acc, _, h => by simpa using h
  | x :: l, d, acc, hv, h => by
    have h2 := bs_fold l (d ++ [x]) (bstS nr ps most acc x) (by simpa using hv) (bs_step (fun o ho => hv o (by simp at ho ⊢; rcases ho with h | h <;> simp [h])) h)
    simpa using h2
theorem bst_spec {nr : Bool} {s : Si} {pl : List Int} {most : Int} (hv : ∀ o, o ∈ ofL s pl → OfV o) : BsSpec nr s.ps most (ofL s pl) (bstO nr s pl most) := by
  have := bs_fold (nr := nr) (ps := s.ps) (most := most) (ofL s pl) [] none (by simpa using hv) (fun o ho => by simp at ho)
  rw [List.nil_append] at this
  exact this
theorem ofL_mem (s : Si) (pl : List Int) (o : Of) : o ∈ ofL s pl ↔ ∃ m j, m < 2 ^ s.ps.length ∧ j < pl.length ∧ rgB s (mkL m s.ps.length) (iAt pl j) = true ∧ o = ⟨mkL m s.ps.length, iAt pl j, wdt s (mkL m s.ps.length) (iAt pl j)⟩ := ofTo_mem s pl _ o
theorem rg_ev {s : Si} {use : List Int} {ev : Int} (h : rgB s use ev = true) : 0 < ev := by
  obtain ⟨h2, h3, -⟩ := (rgB_iff _ _ _).1 h
  have := (siN_iff _).1 ((siB_iff _).1 h2).1
  omega
theorem ofL_v {s : Si} {pl : List Int} {o : Of} (h : o ∈ ofL s pl) : OfV o ∧ rgB s o.use o.ev = true ∧ o.wd = wdt s o.use o.ev ∧ o.ev ∈ pl := by
  obtain ⟨m, j, h1, h2, h3, rfl⟩ := (ofL_mem s pl o).1 h
  exact ⟨rg_ev h3, h3, rfl, iAt_mem h2⟩
theorem mkL_mod (m n : Nat) : ∀ k, k ≤ n → mkL (m % 2 ^ n) k = mkL m k
  | 0, _ => rfl
  | k + 1, hk => by
    have ih := mkL_mod m n k (by omega)
    have hb : m % 2 ^ n / 2 ^ k % 2 = m / 2 ^ k % 2 := by
      obtain ⟨d, rfl⟩ : ∃ d, n = k + (d + 1) := ⟨n - k - 1, by omega⟩
      rw [Nat.pow_add, Nat.mod_mul_right_div_self, Nat.pow_succ, Nat.mul_comm (2 ^ d) 2, Nat.mod_mul_right_mod]
    rw [mkL, mkL, ih, hb]
theorem ofL_of {s : Si} {pl : List Int} (m : Nat) {j : Nat} (hj : j < pl.length) (h : rgB s (mkL m s.ps.length) (iAt pl j) = true) : (⟨mkL m s.ps.length, iAt pl j, wdt s (mkL m s.ps.length) (iAt pl j)⟩ : Of) ∈ ofL s pl := by
  refine (ofL_mem s pl _).2 ⟨m % 2 ^ s.ps.length, j, Nat.mod_lt _ (Nat.two_pow_pos _), hj, ?_, ?_⟩ <;> rw [mkL_mod m _ _ (Nat.le_refl _)]
  exact h
theorem ofL_more {s : Si} {pl : List Int} {p : Int} {o : Of} (h : o ∈ ofL s pl) : o ∈ ofL s (pl ++ [p]) := by
  obtain ⟨m, j, h1, h2, h3, h4⟩ := (ofL_mem s pl o).1 h
  refine (ofL_mem s _ o).2 ⟨m, j, h1, by simp; omega, ?_⟩
  rw [iAt_left _ _ _ h2]
  exact ⟨h3, h4⟩
theorem bsO_some {s : Si} {pl : List Int} {x : Int} {b : Of} (h : bsO s pl x = some b) : bsE s pl x = 0 ∧ bstO false s pl x = some b ∧ (0 ≤ x ∧ x ≤ 3000000000000000) ∧ ckE s pl = 0 := by
  unfold bsO at h
  split at h
  · rename_i h0
    have h0' := h0
    unfold bsE at h0'
    split at h0'
    · rename_i hx
      exact ⟨h0, h, hx, h0'⟩
    · omega
  · cases h
theorem bst_some {nr : Bool} {s : Si} {pl : List Int} {x : Int} {b : Of} (h : bstO nr s pl x = some b) : b ∈ ofL s pl ∧ b.wd ≤ x ∧ ∀ o, o ∈ ofL s pl → o.wd ≤ x → LeX nr s.ps b o := by
  have := bst_spec (nr := nr) (s := s) (pl := pl) (most := x) (fun o ho => (ofL_v ho).1)
  rw [h] at this
  exact this
theorem bst_no {nr : Bool} {s : Si} {pl : List Int} {x : Int} (h : bstO nr s pl x = none) : ∀ o, o ∈ ofL s pl → x < o.wd := by
  have := bst_spec (nr := nr) (s := s) (pl := pl) (most := x) (fun o ho => (ofL_v ho).1)
  rw [h] at this
  exact this
theorem wdEr_ok {s : Si} {use : List Int} {ev : Int} (h : rgB s use ev = true) : wdEr s use ev = 0 := by unfold wdEr; rw [h]; rfl
theorem wdt_bd {s : Si} {use : List Int} {ev : Int} (h : rgB s use ev = true) : 0 ≤ wdt s use ev ∧ wdt s use ev ≤ 1004000000000010 := by
  have e1 : wdt s use ev = worst (wdL s.ps use) s.f s.lo + grw s.r (ev + s.tm) := by unfold wdt; rw [h]; rfl
  have h1 := worst_bd29 (rg_spOk h)
  have h2 := grw_bd (rg_elOk h)
  omega
/-- Best and Narrow together. -/
theorem best_narrow {s : Si} {pl : List Int} {x : Int} (hck : ckE s pl = 0) (hx : 0 ≤ x ∧ x ≤ 3000000000000000) : bsE s pl x = 0 ∧
    ((nwO s pl = none ∧ nwE s pl = 20 ∧ bsO s pl x = none) ∨ ∃ n, nwO s pl = some n ∧ nwE s pl = 0 ∧ (bsO s pl x).isSome = decide (n.wd ≤ x)) := by
  have hE : bsE s pl x = 0 := by unfold bsE; rw [if_pos hx]; exact hck
  refine ⟨hE, ?_⟩
  have hb : bsO s pl x = bstO false s pl x := by unfold bsO; rw [if_pos hE]
  have hn : nwO s pl = bstO true s pl 9223372036854775807 := by unfold nwO; rw [if_pos hck]
  have he : nwE s pl = if (nwO s pl).isSome then 0 else 20 := by unfold nwE; rw [if_pos hck]
  cases hN : nwO s pl with
  | none =>
    rw [hN] at he
    refine .inl ⟨rfl, he, ?_⟩
    cases hB : bsO s pl x with
    | none => rfl
    | some b =>
      rw [hb] at hB
      have h1 := (bst_some hB).1
      rw [hn] at hN
      have h2 := bst_no hN b h1
      have h3 := ofL_v h1
      have h4 := wdt_bd h3.2.1
      rw [h3.2.2.1] at h2
      omega
  | some n =>
    rw [hN] at he
    rw [hn] at hN
    obtain ⟨m1, m2, m3⟩ := bst_some hN
    refine .inr ⟨n, rfl, he, ?_⟩
    rw [hb]
    cases hB : bstO false s pl x with
    | none =>
      have := bst_no hB n m1
      exact (decide_eq_false (by omega)).symm
    | some b =>
      obtain ⟨k1, k2, -⟩ := bst_some hB
      have h3 := ofL_v k1
      have h4 := wdt_bd h3.2.1
      have := m3 b k1 (by rw [h3.2.2.1]; omega)
      refine (decide_eq_true ?_).symm
      have hc : cmpW n b ≤ 0 := by
        rcases this with h | h
        · have : cmpW n b < 0 := h; omega
        · have : cmpW n b = 0 := h.1; omega
      have : n.wd ≤ b.wd := by unfold cmpW at hc; rw [cmpInt_le] at hc; exact hc
      omega
end Go.Proofs.Ytiaahfccebmkdaa
