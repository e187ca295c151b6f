/- Plain mathematics: with one more width the greatest width is not greater. -/
import Derived.Test.YtiaahfccebmkdaaWdP
namespace Go.Proofs.Ytiaahfccebmkdaa
open Go.RowKit

theorem srt_more {l r : List Int} {x : Int} (h : r.Perm (x :: l)) (i : Nat) (hi : i < l.length) : iAt (srt r) (i + 1) ≤ iAt (srt l) i := by
  have hl : r.length = l.length + 1 := by rw [h.length_eq, List.length_cons]
  rw [srt_cge l _ i hi]
  have h1 := (srt_cge r (iAt (srt r) (i + 1)) (i + 1) (by omega)).1 (Int.le_refl _)
  rw [cge_perm h, cge_cons] at h1
  split at h1 <;> omega
theorem worst_more {l r : List Int} {x f lost : Int} (h : r.Perm (x :: l)) (h1 : spOk l f lost = true) (h2 : spOk r f lost = true) : worst r f lost ≤ worst l f lost := by
  have hl : r.length = l.length + 1 := by rw [h.length_eq, List.length_cons]
  obtain ⟨j', g1, g2, g3⟩ := worst_at h2
  have m1 := sp_mk h1
  have m2 := sp_mk h2
  have hk : spK r f lost = spK l f lost + 1 := by omega
  have hm : spM r f lost = spM l f lost + 1 := by omega
  rw [hk, hm] at g1
  rw [hk] at g2 g3
  rw [g3]
  have W := fun j => worst_ge h1 j
  generalize spK l f lost = k at *
  generalize spM l f lost = m at *
  have hmn : m ≤ l.length := by omega
  have hs := vJ_spec (srt r) (k + 1) j'
  unfold jLo at g1
  have hd : iAt (srt r) (k + 1 - 1) ≤ iAt (srt l) (k - 1) := by
    have := srt_more h (k - 1) (by omega)
    rwa [show k - 1 + 1 = k + 1 - 1 by omega] at this
  rcases Nat.eq_zero_or_pos j' with h0 | h0
  · subst h0
    have hw : vJ (srt r) (k + 1) 0 ≤ vJ (srt l) k 0 := (vJ_spec (srt l) k 0).2.2 _ (by
      have a1 := srt_more h (2 * k) (by omega)
      have a2 := srt_fall l (show 2 * k - 0 - 1 ≤ 2 * k by omega) (by omega)
      rw [show 2 * k + 1 = 2 * (k + 1) - 0 - 1 by omega] at a1
      have := hs.1
      omega) (fun h => by omega)
    have := W 0 (by unfold jLo; omega) (by omega)
    omega
  · obtain ⟨j, rfl⟩ : ∃ j, j' = j + 1 := ⟨j' - 1, by omega⟩
    have hw : vJ (srt r) (k + 1) (j + 1) ≤ vJ (srt l) k j := (vJ_spec (srt l) k j).2.2 _ (by
      have a1 := srt_more h (2 * k - j - 1) (by omega)
      rw [show 2 * k - j - 1 + 1 = 2 * (k + 1) - (j + 1) - 1 by omega] at a1
      have := hs.1
      omega) (fun hj => by
      have a1 := srt_more h (j - 1) (by omega)
      rw [show j - 1 + 1 = j + 1 - 1 by omega] at a1
      have := hs.2.1 h0
      omega)
    have := W j (by unfold jLo; omega) (by omega)
    omega
end Go.Proofs.Ytiaahfccebmkdaa
