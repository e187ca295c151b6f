
/- Parts MpI SpW SpX SpY SpYa SpYb of the proof, joined. -/
import Derived.Maps.OwnOps
import Derived.Maps.Views
import Derived.Maps.OwnSet
import Derived.Test.YtlmcoollkmhanaaGa
import Derived.Test.YtlmcoollkmhanaaGb
import Derived.Test.YtlmcoollkmhanaaGs
import Derived.Test.YtlmcoollkmhanaaGf
import Derived.Test.YtlmcoollkmhanaaGw
/- A map from int to int that the call has made, read as a function. -/
namespace Go.Proofs.Ytlmcoollkmhanaa
open Go.RowKit Go.Maps

end Go.Proofs.Ytlmcoollkmhanaa
/- Package spread: what Pick picks, in plain: the widths at the picked numbers put to nothing, the worst stays. -/
namespace Go.Proofs.Ytlmcoollkmhanaa
open Go.RowKit

theorem ordL_nodup (l : List Int) : (ordL l).Nodup := (ordTo_perm l l.length).nodup_iff.2 List.nodup_range
theorem ordL_inj (l : List Int) {p q : Nat} (hp : p < l.length) (hq : q < l.length) (h : nAt (ordL l) p = nAt (ordL l) q) : p = q := by
 have hp' : p < (ordL l).length := by rw [ordL_length]; exact hp
 have hq' : q < (ordL l).length := by rw [ordL_length]; exact hq
 rw [nAt_lt _ _ hp', nAt_lt _ _ hq'] at h
 exact (List.getElem_inj (ordL_nodup l)).1 h
theorem pieceI_mem_iff {l : List Int} {lo n : Nat} (h : lo + n ≤ l.length) (y : Int) : y ∈ pieceI l lo n ↔ ∃ p, lo ≤ p ∧ p < lo + n ∧ y = (nAt (ordL l) p : Int) := by
 constructor
 ·intro hy
  obtain ⟨i, hi, e⟩ := List.getElem_of_mem hy
  have hi' := hi
  rw [pieceI_length l lo n h] at hi'
  exact ⟨lo + i, by omega, by omega, by rw [← pieceI_at l lo n i h hi', iAt_lt _ _ hi]; exact e.symm⟩
 ·rintro ⟨p, h1, h2, rfl⟩
  have hi : p - lo < (pieceI l lo n).length := by rw [pieceI_length l lo n h]; omega
  have e := pieceI_at l lo n (p - lo) h (by omega)
  rw [show lo + (p - lo) = p by omega] at e
  rw [← e, iAt_lt _ _ hi]
  exact List.getElem_mem hi
theorem pieceI_nodup (l : List Int) (lo n : Nat) : (pieceI l lo n).Nodup := by
 have h : (toI (ordL l)).Nodup := by
  unfold toI
  exact List.Pairwise.map _ (fun a b hab e => hab (by omega)) (ordL_nodup l)
 exact ((List.take_sublist _ _).trans (List.drop_sublist _ _)).nodup h
theorem srtI_perm (z : List Int) : (srtI z).Perm z := List.mergeSort_perm z _
theorem srtI_up {z : List Int} (hz : z.Nodup) {i j : Nat} (hij : i < j) (hj : j < z.length) : iAt (srtI z) i < iAt (srtI z) j := by
 have hs : (srtI z).Pairwise fun a b => a ≤ b := by
  have := List.pairwise_mergeSort (le := fun x y : Int => decide (x ≤ y)) (fun a b c h1 h2 => by simp at *; omega) (fun a b => by simp; omega) z
  exact this.imp (fun h => by simpa using h)
 have hn : (srtI z).Nodup := (srtI_perm z).nodup_iff.2 hz
 have hl := srtI_length z
 rw [iAt_lt _ _ (by omega), iAt_lt _ _ (by omega)]
 have h1 := List.pairwise_iff_getElem.1 hs i j (by omega) (by omega) hij
 have h2 := List.pairwise_iff_getElem.1 hn i j (by omega) (by omega) hij
 omega

def zr (l : List Int) (ys : List Int) : List Int := (List.range l.length).map fun i : Nat => if (i : Int) ∈ ys then 0 else iAt l i
theorem zr_length (l ys : List Int) : (zr l ys).length = l.length := by simp [zr]
theorem zr_at (l ys : List Int) (i : Nat) (h : i < l.length) : iAt (zr l ys) i = if (i : Int) ∈ ys then 0 else iAt l i := by
 rw [iAt_lt _ _ (by rw [zr_length]; exact h)]
 simp [zr]
theorem fall_srt {D : List Int} (h : D.Pairwise fun a b => b ≤ a) : srt D = D := by
 refine ints_ext (srt_length D) fun i hi => ?_
 rw [srt_length] at hi
 have h1 := (srt_cge D (iAt (srt D) i) i hi).1 (Int.le_refl _)
 have h2 := (fall_cge D h (iAt D i) i hi).1 (Int.le_refl _)
 have h3 := (fall_cge D h (iAt (srt D) i) i hi).2 h1
 have h4 := (srt_cge D (iAt D i) i hi).2 h2
 omega
theorem srt_zr {l ys : List Int} {m : Nat} (hw : ∀ j, j < l.length → 0 ≤ iAt l j) (_hm : m ≤ l.length) (hy : ∀ p, p < l.length → ((nAt (ordL l) p : Int) ∈ ys ↔ m ≤ p)) (i : Nat) (hi : i < l.length) :
  iAt (srt (zr l ys)) i = if i < m then iAt (srt l) i else 0 := by
 have hp : (zr l ys).Perm ((ordL l).map fun i : Nat => if (i : Int) ∈ ys then 0 else iAt l i) := ((ordTo_perm l l.length).map _).symm
 have hEl : ((ordL l).map fun i : Nat => if (i : Int) ∈ ys then 0 else iAt l i).length = l.length := by rw [List.length_map, ordL_length]
 have hE : ∀ p, p < l.length → iAt ((ordL l).map fun i : Nat => if (i : Int) ∈ ys then 0 else iAt l i) p = if p < m then iAt (srt l) p else 0 := by
  intro p hpl
  have hpo : p < (ordL l).length := by rw [ordL_length]; exact hpl
  rw [iAt_lt _ _ (by rw [hEl]; exact hpl), srt_at l p hpl]
  simp only [List.getElem_map]
  rw [← nAt_lt _ _ hpo]
  by_cases h : p < m
  ·rw [if_pos h, if_neg (by rw [hy p hpl]; omega)]
  ·rw [if_neg h, if_pos (by rw [hy p hpl]; omega)]
 rw [srt_of_perm hp, fall_srt, hE i hi]
 refine List.pairwise_iff_getElem.2 fun a b ha hb hab => ?_
 have ea := hE a (by omega)
 have eb := hE b (by omega)
 rw [iAt_lt _ _ ha] at ea
 rw [iAt_lt _ _ hb] at eb
 rw [ea, eb]
 have hs := srt_fall l (Nat.le_of_lt hab) (by omega : b < l.length)
 have h0 : 0 ≤ iAt (srt l) a := by rw [srt_at l a (by omega)]; exact hw _ (ordL_bd l a (by omega))
 split <;> split <;> omega
theorem zr_ok {l ys : List Int} {f lost : Int} (h : spOk l f lost = true) : spOk (zr l ys) f lost = true := by
 have hi := (spOk_iff l f lost).1 h
 rw [spOk_iff, zr_length]
 refine ⟨⟨hi.1.1, fun j hj => ?_⟩, hi.2⟩
 rw [zr_at l ys j hj]
 have := hi.1.2 j hj
 split <;> omega
theorem worst_zr {l ys : List Int} {f lost : Int} (h : spOk l f lost = true) (hy : ∀ p, p < l.length → ((nAt (ordL l) p : Int) ∈ ys ↔ spM l f lost ≤ p)) : worst (zr l ys) f lost = worst l f lost := by
 have hok := zr_ok (ys := ys) h
 obtain ⟨m1, m2, m3, m4, m5, m6⟩ := sp_mk h
 have eM : spM (zr l ys) f lost = spM l f lost := by unfold spM; rw [zr_length]
 have eK : spK (zr l ys) f lost = spK l f lost := by unfold spK; rw [zr_length]
 have hw : ∀ j, j < l.length → 0 ≤ iAt l j := fun j hj => (((spOk_iff l f lost).1 h).1.2 j hj).1
 have hD : ∀ i, i < spM l f lost → iAt (srt (zr l ys)) i = iAt (srt l) i := fun i hi => by rw [srt_zr hw m5 hy i (by omega), if_pos hi]
 obtain ⟨j, j1, j2, j3⟩ := worst_at h
 obtain ⟨q, q1, q2, q3⟩ := worst_at hok
 have g1 := worst_ge hok j (by rw [eM, eK]; exact j1) (by rw [eK]; exact j2)
 have g2 := worst_ge h q (by rw [eM, eK] at q1; exact q1) (by rw [eK] at q2; exact q2)
 rw [eM, eK] at q1
 rw [eK] at q2 q3 g1
 have v1 := vJ_le (n := spM l f lost) (j := j) (fun i hi => Int.le_of_eq (hD i hi).symm) m3 m4 j2 (by unfold jLo at j1; omega)
 have v2 := vJ_le (n := spM l f lost) (j := q) (fun i hi => Int.le_of_eq (hD i hi)) m3 m4 q2 (by unfold jLo at q1; omega)
 omega
end Go.Proofs.Ytlmcoollkmhanaa
/- Package spread: what Pick answers, in plain. -/
namespace Go.Proofs.Ytlmcoollkmhanaa
open Go.RowKit

def Rising (n : Nat) (z : List Int) : Prop := (∀ i, i < z.length → 0 ≤ iAt z i ∧ iAt z i < n) ∧ ∀ i j, i < j → j < z.length → iAt z i < iAt z j
theorem rising_srtI {n : Nat} {z : List Int} (h : ∀ y, y ∈ z → 0 ≤ y ∧ y < n) (hz : z.Nodup) : Rising n (srtI z) := by
 refine ⟨fun i hi => ?_, fun i j hij hj => srtI_up hz hij (by rw [srtI_length] at hj; exact hj)⟩
 rw [iAt_lt _ _ hi]
 exact h _ ((srtI_perm z).mem_iff.1 (List.getElem_mem hi))
theorem picks_len {l : List Int} {f lost : Int} (h : spOk l f lost = true) : ((pickL l f lost).length : Int) = f ∧ ((goneL l f lost).length : Int) = lost := by
 obtain ⟨m1, m2, m3, m4, m5, m6⟩ := sp_mk h
 have hi := (spOk_iff l f lost).1 h
 unfold pickL goneL
 rw [if_pos h, if_pos h, srtI_length, srtI_length, pieceI_length _ _ _ (by omega), pieceI_length _ _ _ (by omega)]
 omega
theorem pickL_mem {l : List Int} {f lost : Int} (h : spOk l f lost = true) (y : Int) : y ∈ pickL l f lost ↔ ∃ p, spM l f lost ≤ p ∧ p < spM l f lost + f.toNat ∧ y = (nAt (ordL l) p : Int) := by
 obtain ⟨m1, m2, m3, m4, m5, m6⟩ := sp_mk h
 have hi := (spOk_iff l f lost).1 h
 unfold pickL
 rw [if_pos h, (srtI_perm _).mem_iff, pieceI_mem_iff (by omega)]
theorem goneL_mem {l : List Int} {f lost : Int} (h : spOk l f lost = true) (y : Int) : y ∈ goneL l f lost ↔ ∃ p, spM l f lost + f.toNat ≤ p ∧ p < l.length ∧ y = (nAt (ordL l) p : Int) := by
 obtain ⟨m1, m2, m3, m4, m5, m6⟩ := sp_mk h
 have hi := (spOk_iff l f lost).1 h
 unfold goneL
 rw [if_pos h, (srtI_perm _).mem_iff, pieceI_mem_iff (by omega)]
 rw [show spM l f lost + f.toNat + (l.length - (spM l f lost + f.toNat)) = l.length by omega]
theorem picks_rising {l : List Int} {f lost : Int} (h : spOk l f lost = true) : Rising l.length (pickL l f lost) ∧ Rising l.length (goneL l f lost) := by
 obtain ⟨m1, m2, m3, m4, m5, m6⟩ := sp_mk h
 have hi := (spOk_iff l f lost).1 h
 unfold pickL goneL
 rw [if_pos h, if_pos h]
 have key : ∀ lo n, lo + n ≤ l.length → ∀ y, y ∈ pieceI l lo n → 0 ≤ y ∧ y < l.length := by
  intro lo n hln y hy
  obtain ⟨p, h1, h2, rfl⟩ := (pieceI_mem_iff hln y).1 hy
  have := ordL_bd l p (by omega)
  omega
 exact ⟨rising_srtI (key _ _ (by omega)) (pieceI_nodup _ _ _), rising_srtI (key _ _ (by omega)) (pieceI_nodup _ _ _)⟩
theorem picks_apart {l : List Int} {f lost : Int} (h : spOk l f lost = true) (y : Int) (h1 : y ∈ pickL l f lost) (h2 : y ∈ goneL l f lost) : False := by
 obtain ⟨p, a1, a2, rfl⟩ := (pickL_mem h y).1 h1
 obtain ⟨q, b1, b2, e⟩ := (goneL_mem h _).1 h2
 obtain ⟨m1, m2, m3, m4, m5, m6⟩ := sp_mk h
 have := ordL_inj l (p := p) (q := q) (by omega) b2 (by omega)
 omega
theorem picks_worst {l : List Int} {f lost : Int} (h : spOk l f lost = true) : worst (zr l (pickL l f lost ++ goneL l f lost)) f lost = worst l f lost := by
 refine worst_zr h fun p hp => ?_
 obtain ⟨m1, m2, m3, m4, m5, m6⟩ := sp_mk h
 have hi := (spOk_iff l f lost).1 h
 rw [List.mem_append, pickL_mem h, goneL_mem h]
 constructor
 ·rintro (⟨q, a1, a2, e⟩ | ⟨q, a1, a2, e⟩)
  ·have := ordL_inj l (p := p) (q := q) hp (by omega) (by omega); omega
  ·have := ordL_inj l (p := p) (q := q) hp (by omega) (by omega); omega
 ·intro hmp
  by_cases hq : p < spM l f lost + f.toNat
  ·exact .inl ⟨p, hmp, hq, rfl⟩
  ·exact .inr ⟨p, by omega, hp, rfl⟩
end Go.Proofs.Ytlmcoollkmhanaa
/- Plain mathematics of SpreadAttained: how many of Place's right intervals have a time. -/
namespace Go.Proofs.Ytlmcoollkmhanaa
open Go.RowKit

end Go.Proofs.Ytlmcoollkmhanaa
/- Plain mathematics of SpreadAttained: the list without the lost ones, and its combination. -/
namespace Go.Proofs.Ytlmcoollkmhanaa
open Go.RowKit

end Go.Proofs.Ytlmcoollkmhanaa
/- Plain law of SpreadAttained: the combination is exactly as wide as the greatest width. -/
namespace Go.Proofs.Ytlmcoollkmhanaa
open Go.RowKit

end Go.Proofs.Ytlmcoollkmhanaa
