/- Where each index stands in the order of widths: behind as many as are ahead of it. -/
import Derived.Test.YtcpfifbchijleaaSpJ
namespace Go.Proofs.Ytcpfifbchijleaa
open Go.RowKit
def Ahd (l : List Int) (i k : Nat) : Prop := iAt l k < iAt l i ∨ (iAt l i = iAt l k ∧ i < k)
theorem aheadB_iff (l : List Int) (i k : Nat) : aheadB l i k = true ↔ Ahd l i k := by simp [aheadB, Ahd]
theorem insW_ahd (l : List Int) (x : Nat) : ∀ o, o.Pairwise (Ahd l) → (∀ y, y ∈ o → y < x) → (insW l x o).Pairwise (Ahd l)
  | [], _, _ => List.pairwise_singleton _ _
  | y :: r, h, hx => by
    have h' := List.pairwise_cons.1 h
    have hy := hx y List.mem_cons_self
    unfold insW
    split
    · rename_i hlt
      refine List.pairwise_cons.2 ⟨fun z hz => ?_, h⟩
      rcases List.mem_cons.1 hz with rfl | hz
      · exact .inl hlt
      · rcases h'.1 z hz with h1 | h1
        · exact .inl (by omega)
        · exact .inl (by omega)
    · rename_i hlt
      refine List.pairwise_cons.2 ⟨fun z hz => ?_, insW_ahd l x r h'.2 (fun z hz => hx z (List.mem_cons_of_mem _ hz))⟩
      rcases List.mem_cons.1 ((insW_perm l x r).mem_iff.1 hz) with rfl | hz
      · unfold Ahd; omega
      · exact h'.1 z hz
theorem ordTo_ahd (l : List Int) : ∀ k, (ordTo l k).Pairwise (Ahd l)
  | 0 => List.Pairwise.nil
  | k + 1 => insW_ahd l k _ (ordTo_ahd l k) (fun _y hy => ordTo_lt hy)
def plc (l : List Int) (i : Nat) : Nat → Nat
  | 0 => 0
  | k + 1 => if aheadB l k i = true then plc l i k + 1 else plc l i k
theorem plc_count (l : List Int) (i : Nat) : ∀ k, plc l i k = (List.range k).countP fun j => aheadB l j i
  | 0 => rfl
  | k + 1 => by
    rw [plc, List.range_succ, List.countP_append, plc_count l i k]
    simp only [List.countP_cons, List.countP_nil]
    split <;> simp
theorem plc_le (l : List Int) (i k : Nat) : plc l i k ≤ k := by
  induction k with
  | zero => exact Nat.le_refl _
  | succ k ih => unfold plc; split <;> omega
theorem plc_at {l : List Int} {i : Nat} (hi : i < l.length) : plc l i l.length < l.length ∧ nAt (ordL l) (plc l i l.length) = i := by
  have hm : i ∈ ordL l := (ordTo_perm l l.length).mem_iff.2 (List.mem_range.2 hi)
  obtain ⟨A, B, hAB⟩ := List.append_of_mem hm
  have hp := ordTo_ahd l l.length
  have hl : (ordL l).length = l.length := ordL_length l
  have hcount : plc l i l.length = A.length := by
    rw [plc_count, ← (ordTo_perm l l.length).countP_eq]
    show (ordL l).countP _ = _
    have hp' : (A ++ i :: B).Pairwise (Ahd l) := hAB ▸ hp
    rw [List.pairwise_append] at hp'
    obtain ⟨_, p2, p3⟩ := hp'
    have p2' := List.pairwise_cons.1 p2
    rw [hAB, List.countP_append, List.countP_cons]
    have c1 : A.countP (fun j => aheadB l j i) = A.length := List.countP_eq_length.2 fun a ha => (aheadB_iff l a i).2 (p3 a ha i List.mem_cons_self)
    have c2 : B.countP (fun j => aheadB l j i) = 0 := List.countP_eq_zero.2 fun b hb h => by
      have h1 := p2'.1 b hb
      have h2 := (aheadB_iff l b i).1 h
      unfold Ahd at h1 h2; omega
    have c3 : aheadB l i i = false := by
      cases h : aheadB l i i with
      | false => rfl
      | true => have := (aheadB_iff l i i).1 h; unfold Ahd at this; omega
    rw [c1, c2, c3]; simp
  constructor
  · rw [hcount, ← hl, hAB]; simp
  · rw [hcount, hAB]; simp [nAt, List.getD_eq_getElem?_getD]
theorem plc_inj {l : List Int} {i j : Nat} (hi : i < l.length) (hj : j < l.length) (h : plc l i l.length = plc l j l.length) : i = j := by
  have h1 := (plc_at hi).2
  have h2 := (plc_at hj).2
  rw [h] at h1
  omega
theorem plc_onto {l : List Int} {p : Nat} (hp : p < l.length) : ∃ i, i < l.length ∧ plc l i l.length = p ∧ nAt (ordL l) p = i := by
  have hb := ordL_bd l p hp
  refine ⟨nAt (ordL l) p, hb, ?_, rfl⟩
  have h := plc_at hb
  have hnd : (ordL l).Nodup := (ordTo_perm l l.length).nodup_iff.2 List.nodup_range
  have hl : (ordL l).length = l.length := ordL_length l
  obtain ⟨q, hq⟩ : ∃ q, q = plc l (nAt (ordL l) p) l.length := ⟨_, rfl⟩
  rw [← hq] at h ⊢
  obtain ⟨h1, h2⟩ := h
  rw [nAt_lt _ _ (show q < (ordL l).length by omega), nAt_lt _ _ (show p < (ordL l).length by omega)] at h2
  exact (List.getElem_inj hnd).1 h2
end Go.Proofs.Ytcpfifbchijleaa
