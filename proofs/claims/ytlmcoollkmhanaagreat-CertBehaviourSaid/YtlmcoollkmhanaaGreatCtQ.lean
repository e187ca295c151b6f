
/- Plain laws of package cert: whatever is stated in a choice; what Place attains. -/
import Derived.Test.YtlmcoollkmhanaaGreatCtP
import Derived.Test.YtlmcoollkmhanaaGreatGv
import Derived.Test.YtlmcoollkmhanaaGreatGu
namespace Go.Proofs.YtlmcoollkmhanaaGreat
open Go.RowKit

def inL (l : List Int) (i : Nat) : Bool := decide ((i : Int) ∈ l)
theorem inTo_cnt (l : List Int) : ∀ k, inTo [] l k = cntTo (inL l) k
 | 0 => rfl
 | k + 1 => by
  rw [inTo, cntTo, inTo_cnt l k]
  unfold inL
  by_cases h : (k : Int) ∈ l
  ·simp [h]
  ·simp [h]
theorem cnt_isB {l : List Int} {k : Int} {n : Nat} (h : isB l k n = true) : (cntTo (inL l) n : Int) = k := by
 have h1 : isB [] 0 n = true := (isB_iff _ _ _).2 ⟨fun j hj => by simp at hj, fun j hj => by simp at hj, rfl⟩
 have h2 := inTo_len h1 h ((cmB_iff _ _).2 fun x hx => by simp at hx)
 rw [inTo_cnt] at h2
 have h3 := ((isB_iff _ _ _).1 h).2.2
 simp only [List.length_nil, Nat.zero_add] at h2
 omega
def bhL (lo : List Int) (P : Nat → Iv) : Nat → List Iv
 | 0 => []
 | k + 1 => if (k : Int) ∈ lo then bhL lo P k else bhL lo P k ++ [P k]
def BhOk (ws li lo : List Int) (t : Int) (P : Nat → Iv) : Prop :=
 ∀ k, k < ws.length → (k : Int) ∉ lo → ((k : Int) ∈ li → 0 ≤ (P k).1 ∧ (P k).1 ≤ (P k).2 ∧ (P k).2 ≤ 3000000000000000) ∧ ((k : Int) ∉ li → (P k).1 ≤ t ∧ t ≤ (P k).2 ∧ (P k).2 - (P k).1 ≤ iAt ws k)
def bhPt (ws li lo : List Int) (t : Int) (P : Nat → Iv) (k : Nat) : Pt :=
 ⟨t - (P k).1, iAt ws k - (t - (P k).1) - ((P k).2 - t), if (k : Int) ∈ lo then 1 else if (k : Int) ∈ li then 2 else 0, (P k).1, (P k).2⟩
theorem cnt_lt {p : Nat → Bool} {i n : Nat} (hi : i < n) (hp : p i = true) : cntTo p i < cntTo p n := by
 have := cnt_mono p (show i + 1 ≤ n by omega)
 rw [cntTo, if_pos hp] at this
 omega
theorem bh_fold {s : Si} {use li lo : List Int} {ev t : Int} {P : Nat → Iv} (hr : rgB s use ev = true) (hC : Choice s use li lo) (ht : 1000000000000 ≤ t ∧ t ≤ 2000000000000) (hP : BhOk (wdL s.ps use) li lo t P) : ∀ i, i ≤ use.length →
  bdS (zr (wdL s.ps use) (li ++ lo)) (bhPt (wdL s.ps use) li lo t P) s.f s.lo t i = ⟨bhL lo P i, cntTo (inL lo) i, cntTo (inL li) i⟩
 | 0, _ => rfl
 | i + 1, hi => by
  have ih := bh_fold hr hC ht hP i (by omega)
  have hwl := wdL_length s.ps use
  have hsp := ((spOk_iff _ _ _).1 (rg_spOk hr)).1.2 i (by omega)
  have c1 := cnt_isB hC.a
  have c2 := cnt_isB hC.b
  have hlo : inL lo i = decide ((i : Int) ∈ lo) := rfl
  have hli : inL li i = decide ((i : Int) ∈ li) := rfl
  rw [bdS, ih, bhL, cntTo, cntTo]
  by_cases h1 : (i : Int) ∈ lo
  ·have h2 : (i : Int) ∉ li := fun h => (cmB_iff _ _).1 hC.c _ h h1
   have hlt := cnt_lt (p := inL lo) (show i < use.length by omega) (by rw [hlo]; exact decide_eq_true h1)
   have hg : ptGone (bhPt (wdL s.ps use) li lo t P i) ((cntTo (inL lo) i : Nat) : Int) s.lo = true := by
    unfold ptGone bhPt
    simp only [if_pos h1, Bool.and_eq_true, decide_eq_true_eq]
    omega
   rw [hlo, hli, decide_eq_true h1, decide_eq_false h2]
   simp only [hg, if_true, if_pos h1, Bool.false_eq_true, if_false]
   simp
  ·have hg : ptGone (bhPt (wdL s.ps use) li lo t P i) ((cntTo (inL lo) i : Nat) : Int) s.lo = false := by
    unfold ptGone bhPt
    simp only [if_neg h1]
    split <;> simp
   rw [hlo, decide_eq_false h1]
   simp only [hg, if_neg h1, Bool.false_eq_true, if_false, Nat.add_zero]
   obtain ⟨p1, p2⟩ := hP i (by omega) h1
   by_cases h2 : (i : Int) ∈ li
   ·have hlt := cnt_lt (p := inL li) (show i < use.length by omega) (by rw [hli]; exact decide_eq_true h2)
    have hv := p1 h2
    have hl : ptLie (bhPt (wdL s.ps use) li lo t P i) ((cntTo (inL li) i : Nat) : Int) s.f = true := by
     unfold ptLie bhPt
     simp only [if_neg h1, if_pos h2, Bool.and_eq_true, decide_eq_true_eq]
     omega
    rw [hli, decide_eq_true h2]
    simp only [hl, if_true]
    unfold bhPt
    simp
   ·have hl : ptLie (bhPt (wdL s.ps use) li lo t P i) ((cntTo (inL li) i : Nat) : Int) s.f = false := by
     unfold ptLie bhPt
     simp [if_neg h1, if_neg h2]
    rw [hli, decide_eq_false h2]
    simp only [hl, Bool.false_eq_true, if_false, Nat.add_zero]
    have hv := p2 h2
    have hz : iAt (zr (wdL s.ps use) (li ++ lo)) i = iAt (wdL s.ps use) i := by rw [zr_at _ _ i (by omega), if_neg (by simp [h1, h2])]
    have e : ptI (iAt (zr (wdL s.ps use) (li ++ lo)) i) t (bhPt (wdL s.ps use) li lo t P i) = P i := by
     rw [hz]
     unfold ptI ptR ptL bhPt
     simp only
     generalize iAt (wdL s.ps use) i = w at *
     generalize hQ : P i = Q at *
     obtain ⟨a, b⟩ := Q
     simp only at hv ⊢
     have q1 : (t - a) % (w + 1) = t - a := Int.emod_eq_of_lt (by omega) (by omega)
     rw [q1]
     have q2 : (w - (t - a) - (b - t)) % (w - (t - a) + 1) = w - (t - a) - (b - t) := Int.emod_eq_of_lt (by omega) (by omega)
     rw [q2]
     have m1 := mx_spec 0 (t - (t - a))
     have m2 := mn_spec 3000000000000000 (t + (w - (t - a) - (w - (t - a) - (b - t))))
     simp only [Prod.mk.injEq]
     omega
    rw [e]
theorem bh_law {s : Si} {use li lo : List Int} {ev t : Int} {P : Nat → Iv} (hr : rgB s use ev = true) (hC : Choice s use li lo) (ht : 1000000000000 ≤ t ∧ t ≤ 2000000000000) (hP : BhOk (wdL s.ps use) li lo t P) :
  cbEr (bhL lo P use.length) s.f = 0 ∧ cbLo (bhL lo P use.length) s.f ≤ t ∧ t ≤ cbHi (bhL lo P use.length) s.f ∧ cbHi (bhL lo P use.length) s.f - cbLo (bhL lo P use.length) s.f ≤ lim s use ev li lo - grw s.r (ev + s.tm) ∧ 0 ≤ cbLo (bhL lo P use.length) s.f ∧ cbHi (bhL lo P use.length) s.f ≤ 3000000000000000 := by
 have okz : spOk (zr (wdL s.ps use) (li ++ lo)) s.f s.lo = true := zr_ok (rg_spOk hr)
 have hb := bd_bound (P := bhPt (wdL s.ps use) li lo t P) (x := t) (show 0 ≤ t ∧ t ≤ 3000000000000000 by omega) okz
 have hz : (zr (wdL s.ps use) (li ++ lo)).length = use.length := by rw [zr_length, wdL_length]
 rw [hz, bh_fold hr hC ht hP use.length (Nat.le_refl _)] at hb
 simp only at hb
 rw [← worst_cl hr hC] at hb
 unfold lim
 omega
theorem bhL_le (lo : List Int) (P : Nat → Iv) : ∀ k, (bhL lo P k).length ≤ k
 | 0 => Nat.le_refl _
 | k + 1 => by
  have := bhL_le lo P k
  rw [bhL]
  split
  ·omega
  ·rw [List.length_append, List.length_singleton]; omega
def atL (ws li lo : List Int) (f : Int) : List Int := cwL ws li lo ++ zsL f
theorem at_ok31 {s : Si} {use li lo : List Int} {ev : Int} (hr : rgB s use ev = true) (hC : Choice s use li lo) : spOk (atL (wdL s.ps use) li lo s.f) s.f 0 = true ∧ worst (atL (wdL s.ps use) li lo s.f) s.f 0 = lim s use ev li lo - grw s.r (ev + s.tm) ∧ ((atL (wdL s.ps use) li lo s.f).length : Int) = use.length - s.lo := by
 have hp : (clL (wdL s.ps use) li lo s.f).Perm (atL (wdL s.ps use) li lo s.f) := clL_perm _ _ _ _
 have hok := cl_ok hr hC
 refine ⟨?_, ?_, ?_⟩
 ·unfold spOk at hok ⊢
  rw [← spA_perm hp, ← hp.length_eq]
  exact hok
 ·unfold lim
  rw [worst_perm hp]
  omega
 ·rw [← hp.length_eq]; exact hC.len.2.2.2
end Go.Proofs.YtlmcoollkmhanaaGreat
