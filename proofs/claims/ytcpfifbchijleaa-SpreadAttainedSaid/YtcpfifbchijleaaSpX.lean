/- Package spread: what Pick answers, in plain. -/
import Derived.Test.YtcpfifbchijleaaSpW
namespace Go.Proofs.Ytcpfifbchijleaa
open Go.RowKit

/-- 1 at the liars, 2 at the lost, 0 elsewhere. -/
def roleP (P G : List Int) (y : Int) : Int := if y ∈ G then 2 else if y ∈ P then 1 else 0
def Rising (n : Nat) (z : List Int) : Prop := (∀ i, i < z.length → 0 ≤ iAt z i ∧ iAt z i < n) ∧ ∀ i j, i < j → j < z.length → iAt z i < iAt z j
theorem rising_srtI {n : Nat} {z : List Int} (h : ∀ y, y ∈ z → 0 ≤ y ∧ y < n) (hz : z.Nodup) : Rising n (srtI z) := by
  refine ⟨fun i hi => ?_, fun i j hij hj => srtI_up hz hij (by rw [srtI_length] at hj; exact hj)⟩
  rw [iAt_lt _ _ hi]
  exact h _ ((srtI_perm z).mem_iff.1 (List.getElem_mem hi))
theorem picks_len {l : List Int} {f lost : Int} (h : spOk l f lost = true) : ((pickL l f lost).length : Int) = f ∧ ((goneL l f lost).length : Int) = lost := by
  obtain ⟨m1, m2, m3, m4, m5, m6⟩ := sp_mk h
  have hi := (spOk_iff l f lost).1 h
  unfold pickL goneL
  rw [if_pos h, if_pos h, srtI_length, srtI_length, pieceI_length _ _ _ (by omega), pieceI_length _ _ _ (by omega)]
  omega
theorem pickL_mem {l : List Int} {f lost : Int} (h : spOk l f lost = true) (y : Int) : y ∈ pickL l f lost ↔ ∃ p, spM l f lost ≤ p ∧ p < spM l f lost + f.toNat ∧ y = (nAt (ordL l) p : Int) := by
  obtain ⟨m1, m2, m3, m4, m5, m6⟩ := sp_mk h
  have hi := (spOk_iff l f lost).1 h
  unfold pickL
  rw [if_pos h, (srtI_perm _).mem_iff, pieceI_mem_iff (by omega)]
theorem goneL_mem {l : List Int} {f lost : Int} (h : spOk l f lost = true) (y : Int) : y ∈ goneL l f lost ↔ ∃ p, spM l f lost + f.toNat ≤ p ∧ p < l.length ∧ y = (nAt (ordL l) p : Int) := by
  obtain ⟨m1, m2, m3, m4, m5, m6⟩ := sp_mk h
  have hi := (spOk_iff l f lost).1 h
  unfold goneL
  rw [if_pos h, (srtI_perm _).mem_iff, pieceI_mem_iff (by omega)]
  rw [show spM l f lost + f.toNat + (l.length - (spM l f lost + f.toNat)) = l.length by omega]
theorem picks_rising {l : List Int} {f lost : Int} (h : spOk l f lost = true) : Rising l.length (pickL l f lost) ∧ Rising l.length (goneL l f lost) := by
  obtain ⟨m1, m2, m3, m4, m5, m6⟩ := sp_mk h
  have hi := (spOk_iff l f lost).1 h
  unfold pickL goneL
  rw [if_pos h, if_pos h]
  have key : ∀ lo n, lo + n ≤ l.length → ∀ y, y ∈ pieceI l lo n → 0 ≤ y ∧ y < l.length := by
    intro lo n hln y hy
    obtain ⟨p, h1, h2, rfl⟩ := (pieceI_mem_iff hln y).1 hy
    have := ordL_bd l p (by omega)
    omega
  exact ⟨rising_srtI (key _ _ (by omega)) (pieceI_nodup _ _ _), rising_srtI (key _ _ (by omega)) (pieceI_nodup _ _ _)⟩
theorem picks_apart {l : List Int} {f lost : Int} (h : spOk l f lost = true) (y : Int) (h1 : y ∈ pickL l f lost) (h2 : y ∈ goneL l f lost) : False := by
  obtain ⟨p, a1, a2, rfl⟩ := (pickL_mem h y).1 h1
  obtain ⟨q, b1, b2, e⟩ := (goneL_mem h _).1 h2
  obtain ⟨m1, m2, m3, m4, m5, m6⟩ := sp_mk h
  have := ordL_inj l (p := p) (q := q) (by omega) b2 (by omega)
  omega
theorem picks_worst {l : List Int} {f lost : Int} (h : spOk l f lost = true) : worst (zr l (pickL l f lost ++ goneL l f lost)) f lost = worst l f lost := by
  refine worst_zr h fun p hp => ?_
  obtain ⟨m1, m2, m3, m4, m5, m6⟩ := sp_mk h
  have hi := (spOk_iff l f lost).1 h
  rw [List.mem_append, pickL_mem h, goneL_mem h]
  constructor
  · rintro (⟨q, a1, a2, e⟩ | ⟨q, a1, a2, e⟩)
    · have := ordL_inj l (p := p) (q := q) hp (by omega) (by omega); omega
    · have := ordL_inj l (p := p) (q := q) hp (by omega) (by omega); omega
  · intro hmp
    by_cases hq : p < spM l f lost + f.toNat
    · exact .inl ⟨p, hmp, hq, rfl⟩
    · exact .inr ⟨p, by omega, hp, rfl⟩
theorem role_at {l : List Int} {f lost : Int} (h : spOk l f lost = true) (p : Nat) (hp : p < l.length) :
    roleP (pickL l f lost) (goneL l f lost) (nAt (ordL l) p : Int) = if p < spM l f lost then 0 else if p < spM l f lost + f.toNat then 1 else 2 := by
  obtain ⟨m1, m2, m3, m4, m5, m6⟩ := sp_mk h
  have hi := (spOk_iff l f lost).1 h
  have h1 : (nAt (ordL l) p : Int) ∈ goneL l f lost ↔ spM l f lost + f.toNat ≤ p := by
    rw [goneL_mem h]
    constructor
    · rintro ⟨q, a1, a2, e⟩
      have := ordL_inj l (p := p) (q := q) hp a2 (by omega); omega
    · exact fun hq => ⟨p, hq, hp, rfl⟩
  have h2 : (nAt (ordL l) p : Int) ∈ pickL l f lost ↔ spM l f lost ≤ p ∧ p < spM l f lost + f.toNat := by
    rw [pickL_mem h]
    constructor
    · rintro ⟨q, a1, a2, e⟩
      have := ordL_inj l (p := p) (q := q) hp (by omega) (by omega); omega
    · exact fun hq => ⟨p, hq.1, hq.2, rfl⟩
  unfold roleP
  simp only [h1, h2]
  split <;> split <;> (try split) <;> omega
theorem role_falls {l : List Int} {f lost : Int} (h : spOk l f lost = true) {i j : Nat} (hi : i < l.length) (hj : j < l.length)
    (hr : roleP (pickL l f lost) (goneL l f lost) j < roleP (pickL l f lost) (goneL l f lost) i) : iAt l i ≤ iAt l j := by
  obtain ⟨p, hp, rfl⟩ := ordL_surj l hi
  obtain ⟨q, hq, rfl⟩ := ordL_surj l hj
  rw [role_at h p hp, role_at h q hq] at hr
  have hqp : q < p := by
    by_cases hc : p ≤ q
    · exfalso; revert hr; split <;> split <;> (try split) <;> (try split) <;> omega
    · omega
  have := srt_fall l (Nat.le_of_lt hqp) hp
  rw [srt_at l p hp, srt_at l q hq] at this
  exact this
end Go.Proofs.Ytcpfifbchijleaa
