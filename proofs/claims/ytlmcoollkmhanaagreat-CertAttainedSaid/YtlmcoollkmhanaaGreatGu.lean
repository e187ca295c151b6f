
/- Parts MpI SpW SpX SpY SpYa SpYb of the proof, joined. -/
import Derived.Maps.OwnOps
import Derived.Maps.Views
import Derived.Maps.OwnSet
import Derived.Test.YtlmcoollkmhanaaGreatGa
import Derived.Test.YtlmcoollkmhanaaGreatGb
import Derived.Test.YtlmcoollkmhanaaGreatGs
import Derived.Test.YtlmcoollkmhanaaGreatGf
import Derived.Test.YtlmcoollkmhanaaGreatGw
/- A map from int to int that the call has made, read as a function. -/
namespace Go.Proofs.YtlmcoollkmhanaaGreat
open Go.RowKit Go.Maps

end Go.Proofs.YtlmcoollkmhanaaGreat
/- Package spread: what Pick picks, in plain: the widths at the picked numbers put to nothing, the worst stays. -/
namespace Go.Proofs.YtlmcoollkmhanaaGreat
open Go.RowKit

theorem ordL_nodup (l : List Int) : (ordL l).Nodup := (ordTo_perm l l.length).nodup_iff.2 List.nodup_range
theorem ordL_inj (l : List Int) {p q : Nat} (hp : p < l.length) (hq : q < l.length) (h : nAt (ordL l) p = nAt (ordL l) q) : p = q := by
  have hp' : p < (ordL l).length := by rw [ordL_length]; exact hp
  have hq' : q < (ordL l).length := by rw [ordL_length]; exact hq
  rw [nAt_lt _ _ hp', nAt_lt _ _ hq'] at h
  exact (List.getElem_inj (ordL_nodup l)).1 h
theorem ordL_surj (l : List Int) {i : Nat} (h : i < l.length) : ∃ p, p < l.length ∧ nAt (ordL l) p = i := by
  have hm : i ∈ ordL l := (ordTo_perm l l.length).mem_iff.2 (List.mem_range.2 h)
  obtain ⟨p, hp, e⟩ := List.getElem_of_mem hm
  exact ⟨p, by rw [ordL_length] at hp; exact hp, by rw [nAt_lt _ _ hp]; exact e⟩
theorem pieceI_mem_iff {l : List Int} {lo n : Nat} (h : lo + n ≤ l.length) (y : Int) : y ∈ pieceI l lo n ↔ ∃ p, lo ≤ p ∧ p < lo + n ∧ y = (nAt (ordL l) p : Int) := by
  constructor
  · intro hy
    obtain ⟨i, hi, e⟩ := List.getElem_of_mem hy
    have hi' := hi
    rw [pieceI_length l lo n h] at hi'
    exact ⟨lo + i, by omega, by omega, by rw [← pieceI_at l lo n i h hi', iAt_lt _ _ hi]; exact e.symm⟩
  · rintro ⟨p, h1, h2, rfl⟩
    have hi : p - lo < (pieceI l lo n).length := by rw [pieceI_length l lo n h]; omega
    have e := pieceI_at l lo n (p - lo) h (by omega)
    rw [show lo + (p - lo) = p by omega] at e
    rw [← e, iAt_lt _ _ hi]
    exact List.getElem_mem hi
theorem pieceI_nodup (l : List Int) (lo n : Nat) : (pieceI l lo n).Nodup := by
  have h : (toI (ordL l)).Nodup := by
    unfold toI
    exact List.Pairwise.map _ (fun a b hab e => hab (by omega)) (ordL_nodup l)
  exact ((List.take_sublist _ _).trans (List.drop_sublist _ _)).nodup h
theorem srtI_perm (z : List Int) : (srtI z).Perm z := List.mergeSort_perm z _
theorem srtI_up {z : List Int} (hz : z.Nodup) {i j : Nat} (hij : i < j) (hj : j < z.length) : iAt (srtI z) i < iAt (srtI z) j := by
  have hs : (srtI z).Pairwise fun a b => a ≤ b := by
    have := List.pairwise_mergeSort (le := fun x y : Int => decide (x ≤ y)) (fun a b c h1 h2 => by simp at *; omega) (fun a b => by simp; omega) z
    exact this.imp (fun h => by simpa using h)
  have hn : (srtI z).Nodup := (srtI_perm z).nodup_iff.2 hz
  have hl := srtI_length z
  rw [iAt_lt _ _ (by omega), iAt_lt _ _ (by omega)]
  have h1 := List.pairwise_iff_getElem.1 hs i j (by omega) (by omega) hij
  have h2 := List.pairwise_iff_getElem.1 hn i j (by omega) (by omega) hij
  omega

def zr (l : List Int) (ys : List Int) : List Int := (List.range l.length).map fun i : Nat => if (i : Int) ∈ ys then 0 else iAt l i
theorem zr_length (l ys : List Int) : (zr l ys).length = l.length := by simp [zr]
theorem zr_at (l ys : List Int) (i : Nat) (h : i < l.length) : iAt (zr l ys) i = if (i : Int) ∈ ys then 0 else iAt l i := by
  rw [iAt_lt _ _ (by rw [zr_length]; exact h)]
  simp [zr]
theorem fall_srt {D : List Int} (h : D.Pairwise fun a b => b ≤ a) : srt D = D := by
  refine ints_ext (srt_length D) fun i hi => ?_
  rw [srt_length] at hi
  have h1 := (srt_cge D (iAt (srt D) i) i hi).1 (Int.le_refl _)
  have h2 := (fall_cge D h (iAt D i) i hi).1 (Int.le_refl _)
  have h3 := (fall_cge D h (iAt (srt D) i) i hi).2 h1
  have h4 := (srt_cge D (iAt D i) i hi).2 h2
  omega
theorem srt_zr {l ys : List Int} {m : Nat} (hw : ∀ j, j < l.length → 0 ≤ iAt l j) (_hm : m ≤ l.length) (hy : ∀ p, p < l.length → ((nAt (ordL l) p : Int) ∈ ys ↔ m ≤ p)) (i : Nat) (hi : i < l.length) :
    iAt (srt (zr l ys)) i = if i < m then iAt (srt l) i else 0 := by
  have hp : (zr l ys).Perm ((ordL l).map fun i : Nat => if (i : Int) ∈ ys then 0 else iAt l i) := ((ordTo_perm l l.length).map _).symm
  have hEl : ((ordL l).map fun i : Nat => if (i : Int) ∈ ys then 0 else iAt l i).length = l.length := by rw [List.length_map, ordL_length]
  have hE : ∀ p, p < l.length → iAt ((ordL l).map fun i : Nat => if (i : Int) ∈ ys then 0 else iAt l i) p = if p < m then iAt (srt l) p else 0 := by
    intro p hpl
    have hpo : p < (ordL l).length := by rw [ordL_length]; exact hpl
    rw [iAt_lt _ _ (by rw [hEl]; exact hpl), srt_at l p hpl]
    simp only [List.getElem_map]
    rw [← nAt_lt _ _ hpo]
    by_cases h : p < m
    · rw [if_pos h, if_neg (by rw [hy p hpl]; omega)]
    · rw [if_neg h, if_pos (by rw [hy p hpl]; omega)]
  rw [srt_of_perm hp, fall_srt, hE i hi]
  refine List.pairwise_iff_getElem.2 fun a b ha hb hab => ?_
  have ea := hE a (by omega)
  have eb := hE b (by omega)
  rw [iAt_lt _ _ ha] at ea
  rw [iAt_lt _ _ hb] at eb
  rw [ea, eb]
  have hs := srt_fall l (Nat.le_of_lt hab) (by omega : b < l.length)
  have h0 : 0 ≤ iAt (srt l) a := by rw [srt_at l a (by omega)]; exact hw _ (ordL_bd l a (by omega))
  split <;> split <;> omega
theorem zr_ok {l ys : List Int} {f lost : Int} (h : spOk l f lost = true) : spOk (zr l ys) f lost = true := by
  have hi := (spOk_iff l f lost).1 h
  rw [spOk_iff, zr_length]
  refine ⟨⟨hi.1.1, fun j hj => ?_⟩, hi.2⟩
  rw [zr_at l ys j hj]
  have := hi.1.2 j hj
  split <;> omega
theorem worst_zr {l ys : List Int} {f lost : Int} (h : spOk l f lost = true) (hy : ∀ p, p < l.length → ((nAt (ordL l) p : Int) ∈ ys ↔ spM l f lost ≤ p)) : worst (zr l ys) f lost = worst l f lost := by
  have hok := zr_ok (ys := ys) h
  obtain ⟨m1, m2, m3, m4, m5, m6⟩ := sp_mk h
  have eM : spM (zr l ys) f lost = spM l f lost := by unfold spM; rw [zr_length]
  have eK : spK (zr l ys) f lost = spK l f lost := by unfold spK; rw [zr_length]
  have hw : ∀ j, j < l.length → 0 ≤ iAt l j := fun j hj => (((spOk_iff l f lost).1 h).1.2 j hj).1
  have hD : ∀ i, i < spM l f lost → iAt (srt (zr l ys)) i = iAt (srt l) i := fun i hi => by rw [srt_zr hw m5 hy i (by omega), if_pos hi]
  obtain ⟨j, j1, j2, j3⟩ := worst_at h
  obtain ⟨q, q1, q2, q3⟩ := worst_at hok
  have g1 := worst_ge hok j (by rw [eM, eK]; exact j1) (by rw [eK]; exact j2)
  have g2 := worst_ge h q (by rw [eM, eK] at q1; exact q1) (by rw [eK] at q2; exact q2)
  rw [eM, eK] at q1
  rw [eK] at q2 q3 g1
  have v1 := vJ_le (n := spM l f lost) (j := j) (fun i hi => Int.le_of_eq (hD i hi).symm) m3 m4 j2 (by unfold jLo at j1; omega)
  have v2 := vJ_le (n := spM l f lost) (j := q) (fun i hi => Int.le_of_eq (hD i hi)) m3 m4 q2 (by unfold jLo at q1; omega)
  omega
end Go.Proofs.YtlmcoollkmhanaaGreat
/- Package spread: what Pick answers, in plain. -/
namespace Go.Proofs.YtlmcoollkmhanaaGreat
open Go.RowKit

def roleP (P G : List Int) (y : Int) : Int := if y ∈ G then 2 else if y ∈ P then 1 else 0
def Rising (n : Nat) (z : List Int) : Prop := (∀ i, i < z.length → 0 ≤ iAt z i ∧ iAt z i < n) ∧ ∀ i j, i < j → j < z.length → iAt z i < iAt z j
theorem rising_srtI {n : Nat} {z : List Int} (h : ∀ y, y ∈ z → 0 ≤ y ∧ y < n) (hz : z.Nodup) : Rising n (srtI z) := by
  refine ⟨fun i hi => ?_, fun i j hij hj => srtI_up hz hij (by rw [srtI_length] at hj; exact hj)⟩
  rw [iAt_lt _ _ hi]
  exact h _ ((srtI_perm z).mem_iff.1 (List.getElem_mem hi))
theorem picks_len {l : List Int} {f lost : Int} (h : spOk l f lost = true) : ((pickL l f lost).length : Int) = f ∧ ((goneL l f lost).length : Int) = lost := by
  obtain ⟨m1, m2, m3, m4, m5, m6⟩ := sp_mk h
  have hi := (spOk_iff l f lost).1 h
  unfold pickL goneL
  rw [if_pos h, if_pos h, srtI_length, srtI_length, pieceI_length _ _ _ (by omega), pieceI_length _ _ _ (by omega)]
  omega
theorem pickL_mem {l : List Int} {f lost : Int} (h : spOk l f lost = true) (y : Int) : y ∈ pickL l f lost ↔ ∃ p, spM l f lost ≤ p ∧ p < spM l f lost + f.toNat ∧ y = (nAt (ordL l) p : Int) := by
  obtain ⟨m1, m2, m3, m4, m5, m6⟩ := sp_mk h
  have hi := (spOk_iff l f lost).1 h
  unfold pickL
  rw [if_pos h, (srtI_perm _).mem_iff, pieceI_mem_iff (by omega)]
theorem goneL_mem {l : List Int} {f lost : Int} (h : spOk l f lost = true) (y : Int) : y ∈ goneL l f lost ↔ ∃ p, spM l f lost + f.toNat ≤ p ∧ p < l.length ∧ y = (nAt (ordL l) p : Int) := by
  obtain ⟨m1, m2, m3, m4, m5, m6⟩ := sp_mk h
  have hi := (spOk_iff l f lost).1 h
  unfold goneL
  rw [if_pos h, (srtI_perm _).mem_iff, pieceI_mem_iff (by omega)]
  rw [show spM l f lost + f.toNat + (l.length - (spM l f lost + f.toNat)) = l.length by omega]
theorem picks_rising {l : List Int} {f lost : Int} (h : spOk l f lost = true) : Rising l.length (pickL l f lost) ∧ Rising l.length (goneL l f lost) := by
  obtain ⟨m1, m2, m3, m4, m5, m6⟩ := sp_mk h
  have hi := (spOk_iff l f lost).1 h
  unfold pickL goneL
  rw [if_pos h, if_pos h]
  have key : ∀ lo n, lo + n ≤ l.length → ∀ y, y ∈ pieceI l lo n → 0 ≤ y ∧ y < l.length := by
    intro lo n hln y hy
    obtain ⟨p, h1, h2, rfl⟩ := (pieceI_mem_iff hln y).1 hy
    have := ordL_bd l p (by omega)
    omega
  exact ⟨rising_srtI (key _ _ (by omega)) (pieceI_nodup _ _ _), rising_srtI (key _ _ (by omega)) (pieceI_nodup _ _ _)⟩
theorem picks_apart {l : List Int} {f lost : Int} (h : spOk l f lost = true) (y : Int) (h1 : y ∈ pickL l f lost) (h2 : y ∈ goneL l f lost) : False := by
  obtain ⟨p, a1, a2, rfl⟩ := (pickL_mem h y).1 h1
  obtain ⟨q, b1, b2, e⟩ := (goneL_mem h _).1 h2
  obtain ⟨m1, m2, m3, m4, m5, m6⟩ := sp_mk h
  have := ordL_inj l (p := p) (q := q) (by omega) b2 (by omega)
  omega
theorem picks_worst {l : List Int} {f lost : Int} (h : spOk l f lost = true) : worst (zr l (pickL l f lost ++ goneL l f lost)) f lost = worst l f lost := by
  refine worst_zr h fun p hp => ?_
  obtain ⟨m1, m2, m3, m4, m5, m6⟩ := sp_mk h
  have hi := (spOk_iff l f lost).1 h
  rw [List.mem_append, pickL_mem h, goneL_mem h]
  constructor
  · rintro (⟨q, a1, a2, e⟩ | ⟨q, a1, a2, e⟩)
    · have := ordL_inj l (p := p) (q := q) hp (by omega) (by omega); omega
    · have := ordL_inj l (p := p) (q := q) hp (by omega) (by omega); omega
  · intro hmp
    by_cases hq : p < spM l f lost + f.toNat
    · exact .inl ⟨p, hmp, hq, rfl⟩
    · exact .inr ⟨p, by omega, hp, rfl⟩
theorem role_at {l : List Int} {f lost : Int} (h : spOk l f lost = true) (p : Nat) (hp : p < l.length) :
    roleP (pickL l f lost) (goneL l f lost) (nAt (ordL l) p : Int) = if p < spM l f lost then 0 else if p < spM l f lost + f.toNat then 1 else 2 := by
  obtain ⟨m1, m2, m3, m4, m5, m6⟩ := sp_mk h
  have hi := (spOk_iff l f lost).1 h
  have h1 : (nAt (ordL l) p : Int) ∈ goneL l f lost ↔ spM l f lost + f.toNat ≤ p := by
    rw [goneL_mem h]
    constructor
    · rintro ⟨q, a1, a2, e⟩
      have := ordL_inj l (p := p) (q := q) hp a2 (by omega); omega
    · exact fun hq => ⟨p, hq, hp, rfl⟩
  have h2 : (nAt (ordL l) p : Int) ∈ pickL l f lost ↔ spM l f lost ≤ p ∧ p < spM l f lost + f.toNat := by
    rw [pickL_mem h]
    constructor
    · rintro ⟨q, a1, a2, e⟩
      have := ordL_inj l (p := p) (q := q) hp (by omega) (by omega); omega
    · exact fun hq => ⟨p, hq.1, hq.2, rfl⟩
  unfold roleP
  simp only [h1, h2]
  split <;> split <;> (try split) <;> omega
end Go.Proofs.YtlmcoollkmhanaaGreat
/- Plain mathematics of SpreadAttained: how many of Place's right intervals have a time. -/
namespace Go.Proofs.YtlmcoollkmhanaaGreat
open Go.RowKit

def cntTo (p : Nat → Bool) : Nat → Nat
  | 0 => 0
  | n + 1 => cntTo p n + if p n = true then 1 else 0
theorem cnt_le (p : Nat → Bool) : ∀ n, cntTo p n ≤ n
  | 0 => Nat.le_refl _
  | n + 1 => by have := cnt_le p n; rw [cntTo]; split <;> omega
theorem cnt_mono (p : Nat → Bool) {a b : Nat} (h : a ≤ b) : cntTo p a ≤ cntTo p b := by
  induction b with
  | zero => obtain rfl : a = 0 := by omega
            exact Nat.le_refl _
  | succ b ih =>
    rcases Nat.lt_or_ge a (b + 1) with h1 | h1
    · have := ih (by omega); rw [cntTo]; omega
    · obtain rfl : a = b + 1 := by omega
      exact Nat.le_refl _
theorem cnt_yes (p : Nat → Bool) {a b : Nat} (h : a ≤ b) (hp : ∀ t, a ≤ t → t < b → p t = true) : cntTo p b = cntTo p a + (b - a) := by
  induction b with
  | zero => obtain rfl : a = 0 := by omega
            rfl
  | succ b ih =>
    rcases Nat.lt_or_ge a (b + 1) with h1 | h1
    · rw [cntTo, ih (by omega) (fun t h2 h3 => hp t h2 (by omega)), if_pos (hp b (by omega) (by omega))]; omega
    · obtain rfl : a = b + 1 := by omega
      omega
theorem cnt_no (p : Nat → Bool) {a b : Nat} (h : a ≤ b) (hp : ∀ t, a ≤ t → t < b → p t = false) : cntTo p b = cntTo p a := by
  induction b with
  | zero => obtain rfl : a = 0 := by omega
            rfl
  | succ b ih =>
    rcases Nat.lt_or_ge a (b + 1) with h1 | h1
    · rw [cntTo, ih (by omega) (fun t h2 h3 => hp t h2 (by omega)), if_neg (by rw [hp b (by omega) (by omega)]; simp)]; omega
    · obtain rfl : a = b + 1 := by omega
      rfl
theorem cnt_up (p : Nat → Bool) {a b : Nat} (h : a ≤ b) : cntTo p b ≤ cntTo p a + (b - a) := by
  induction b with
  | zero => obtain rfl : a = 0 := by omega
            exact Nat.le_refl _
  | succ b ih =>
    rcases Nat.lt_or_ge a (b + 1) with h1 | h1
    · have := ih (by omega); rw [cntTo]; split <;> omega
    · obtain rfl : a = b + 1 := by omega
      omega
theorem cnt_pref {p : Nat → Bool} {q : Nat → Prop} {a n c : Nat} (hpq : ∀ t, a ≤ t → t < n → p t = true → q t) (hq : ∀ t u, a ≤ t → t ≤ u → u < n → q u → q t) (han : a ≤ n) (hc : cntTo p a + c ≤ cntTo p n) (h1 : 1 ≤ c) : q (a + c - 1) := by
  apply Classical.byContradiction
  intro hn
  have hle := cnt_le p n
  by_cases hb : a + c - 1 < n
  · have e1 : cntTo p n = cntTo p (a + c - 1) := cnt_no p (by omega) (fun t h2 h3 => by
      cases hp : p t with
      | false => rfl
      | true => exact absurd (hq _ _ (by omega) h2 h3 (hpq t (by omega) h3 hp)) hn)
    have e2 : cntTo p (a + c - 1) ≤ cntTo p a + (c - 1) := by
      clear e1 hn hc
      obtain ⟨d, rfl⟩ : ∃ d, c = d + 1 := ⟨c - 1, by omega⟩
      rw [show a + (d + 1) - 1 = a + d by omega, show d + 1 - 1 = d by omega]
      have : ∀ d, cntTo p (a + d) ≤ cntTo p a + d := by
        intro d
        induction d with
        | zero => exact Nat.le_refl _
        | succ d ih => rw [show a + (d + 1) = a + d + 1 by omega, cntTo]; split <;> omega
      exact this d
    omega
  · have : ∀ d, cntTo p (a + d) ≤ cntTo p a + d := by
      intro d
      induction d with
      | zero => exact Nat.le_refl _
      | succ d ih => rw [show a + (d + 1) = a + d + 1 by omega, cntTo]; split <;> omega
    have h3 := this (n - a)
    rw [show a + (n - a) = n by omega] at h3
    omega
def plHas (l : List Int) (m k : Nat) (x y : Int) (t : Nat) : Bool := hasB (plP l m k x t).1 (plP l m k x t).2 y
theorem best_facts {l : List Int} {f lost : Int} (hok : spOk l f lost = true) : ∃ j : Nat, (bestP (srt l) (spM l f lost) (spK l f lost)).1 = j ∧ (bestP (srt l) (spM l f lost) (spK l f lost)).2 = worst l f lost ∧ jLo (spM l f lost) (spK l f lost) ≤ j ∧ j ≤ spK l f lost ∧ worst l f lost = vJ (srt l) (spK l f lost) j := by
  have hm := sp_mk hok
  have hd := fun i => srt_bd l ((spOk_iff l f lost).1 hok).1.2 i
  obtain ⟨j, h1, h2, h3⟩ := best_at hd (spM l f lost) (spK l f lost) hm.2.2.2.1
  rw [worst_ok hok, h3]
  exact ⟨j, rfl, rfl, h1, h2, rfl⟩
theorem place_count {l : List Int} {f lost x : Int} (hok : spOk l f lost = true) :
    ∃ X : Int, 0 ≤ X ∧ X ≤ worst l f lost ∧ spK l f lost ≤ cntTo (plHas l (spM l f lost) (spK l f lost) x (x - X)) (spM l f lost) ∧ spK l f lost ≤ cntTo (plHas l (spM l f lost) (spK l f lost) x (x - X + worst l f lost)) (spM l f lost) ∧
      (∀ y, y < x - X → cntTo (plHas l (spM l f lost) (spK l f lost) x y) (spM l f lost) < spK l f lost) ∧ (∀ y, x - X + worst l f lost < y → cntTo (plHas l (spM l f lost) (spK l f lost) x y) (spM l f lost) < spK l f lost) ∧
      (∀ t, t < spM l f lost → plHas l (spM l f lost) (spK l f lost) x x t = true) := by
  obtain ⟨j, b1, b2, b3, b4, b5⟩ := best_facts hok
  have W := fun i => worst_ge hok i
  have hmk := sp_mk hok
  have hd := fun i => srt_bd l ((spOk_iff l f lost).1 hok).1.2 i
  generalize hm : spM l f lost = m at *
  generalize hk : spK l f lost = k at *
  generalize hs : worst l f lost = s at *
  have hmn : m ≤ l.length := by omega
  have hF : ∀ t u, t ≤ u → u < m → iAt (srt l) u ≤ iAt (srt l) t := fun t u h1 h2 => srt_fall l h1 (by omega)
  have hj := vJ_spec (srt l) k j
  rw [← b5] at hj
  unfold jLo at b3 W
  have hX := mn_spec (iAt (srt l) (k - 1)) s
  have hs0 : 0 ≤ s := by rw [b5]; exact vJ_nn hd k j
  have hdk := hd (k - 1)
  have hl1 : ∀ t, t < j → plLeft l m k t = mn (iAt (srt l) (k - 1)) s := fun t ht => by unfold plLeft plX; rw [b1, b2, if_pos (by omega)]
  have hl2 : ∀ t, j ≤ t → t < k → plLeft l m k t = iAt (srt l) t := fun t h1 h2 => by unfold plLeft; rw [b1, if_neg (by omega), if_pos (by omega)]
  have hl3 : ∀ t, k ≤ t → plLeft l m k t = 0 := fun t h1 => by unfold plLeft; rw [b1, if_neg (by omega), if_neg (by omega)]
  have hh : ∀ t y, plHas l m k x y t = true ↔ x - plLeft l m k t ≤ y ∧ y ≤ x - plLeft l m k t + iAt (srt l) t := fun t y => by unfold plHas plP hasB; simp
  have hno : ∀ t y, ¬ (x - plLeft l m k t ≤ y ∧ y ≤ x - plLeft l m k t + iAt (srt l) t) → plHas l m k x y t = false := fun t y h => by
    cases hp : plHas l m k x y t with
    | false => rfl
    | true => exact absurd ((hh t y).1 hp) h
  obtain ⟨X, hXe⟩ : ∃ X, X = mn (iAt (srt l) (k - 1)) s := ⟨_, rfl⟩
  rw [← hXe] at hX
  have hDj : ∀ t, t < j → s ≤ iAt (srt l) t := fun t ht => by
    have := hF t (j - 1) (by omega) (by omega)
    have := hj.2.1 (by omega)
    omega
  have hDk : ∀ t, t < k → X ≤ iAt (srt l) t := fun t ht => by
    have := hF t (k - 1) (by omega) (by omega)
    omega
  rw [← hXe] at hl1
  refine ⟨X, by omega, by omega, ?_, ?_, fun y hy => ?_, fun y hy => ?_, fun t ht => ?_⟩
  · have := cnt_yes (plHas l m k x (x - X)) (Nat.zero_le k) (fun t _ ht => by
      rw [hh]
      have h0 := hd t
      rcases Nat.lt_or_ge t j with h | h
      · rw [hl1 t h]; omega
      · rw [hl2 t h ht]; have := hDk t ht; omega)
    have h2 := cnt_mono (plHas l m k x (x - X)) (show k ≤ m by omega)
    simp only [cntTo] at this
    omega
  · by_cases hsx : s = X
    · have := cnt_yes (plHas l m k x (x - X + s)) (Nat.zero_le k) (fun t _ ht => by
        rw [hh]
        have h0 := hd t
        rcases Nat.lt_or_ge t j with h | h
        · rw [hl1 t h]; have := hDj t h; omega
        · rw [hl2 t h ht]; omega)
      have h2 := cnt_mono (plHas l m k x (x - X + s)) (show k ≤ m by omega)
      simp only [cntTo] at this
      omega
    · have h1 := cnt_yes (plHas l m k x (x - X + s)) (Nat.zero_le j) (fun t _ ht => by
        rw [hh]
        have h0 := hd t
        rw [hl1 t ht]; have := hDj t ht; omega)
      have h2 := cnt_mono (plHas l m k x (x - X + s)) b4
      have h3 := cnt_yes (plHas l m k x (x - X + s)) (show k ≤ 2 * k - j by omega) (fun t h4 h5 => by
        rw [hh, hl3 t h4]
        have h0 := hd t
        have := hF t (2 * k - j - 1) (by omega) (by omega)
        omega)
      have h4 := cnt_mono (plHas l m k x (x - X + s)) (show 2 * k - j ≤ m by omega)
      simp only [cntTo] at h1
      omega
  · have n3 := cnt_no (plHas l m k x y) (show k ≤ m by omega) (fun t h1 h2 => hno t y (by rw [hl3 t h1]; omega))
    rw [n3]
    rcases Nat.eq_zero_or_pos j with h0 | h0
    · have e : s = iAt (srt l) (k - 1) + iAt (srt l) (2 * k - j - 1) := by rw [b5]; unfold vJ; rw [if_neg (by omega)]
      have h2 := hd (2 * k - j - 1)
      have n4 := cnt_no (plHas l m k x y) (show k - 1 ≤ k by omega) (fun t h1 h3 => hno t y (by
        obtain rfl : t = k - 1 := by omega
        rw [hl2 (k - 1) (by omega) (by omega)]; omega))
      rw [n4]
      have := cnt_le (plHas l m k x y) (k - 1)
      omega
    · have n4 := cnt_no (plHas l m k x y) (Nat.zero_le j) (fun t _ h1 => hno t y (by rw [hl1 t h1]; omega))
      have n5 := cnt_up (plHas l m k x y) b4
      simp only [cntTo] at n4
      omega
  · apply Classical.byContradiction
    intro hc
    have hc : k ≤ cntTo (plHas l m k x y) m := by omega
    have n4 := cnt_no (plHas l m k x y) b4 (fun t h1 h2 => hno t y (by rw [hl2 t h1 h2]; omega))
    have n5 := cnt_up (plHas l m k x y) (show k ≤ m by omega)
    have n6 := cnt_le (plHas l m k x y) j
    obtain ⟨B, hB⟩ : ∃ B, B = min (cntTo (plHas l m k x y) m - cntTo (plHas l m k x y) k) k := ⟨_, rfl⟩
    have hw := W (k - B) (by omega) (by omega)
    have hv := (vJ_spec (srt l) k (k - B)).2.2 (s + 1)
    have p1 : ∀ c, 1 ≤ c → c ≤ cntTo (plHas l m k x y) j → s + 1 ≤ iAt (srt l) (c - 1) := fun c h1 h2 => by
      have := cnt_pref (p := plHas l m k x y) (q := fun t => s + 1 ≤ iAt (srt l) t) (a := 0) (n := j) (c := c)
        (fun t _ h4 h5 => by rw [hh, hl1 t h4] at h5; omega) (fun t u _ h4 h5 h6 => by have := hF t u h4 (by omega); omega) (Nat.zero_le _) (by simp only [cntTo]; omega) h1
      rwa [Nat.zero_add] at this
    have p2 : 1 ≤ B → s - X + 1 ≤ iAt (srt l) (k + B - 1) := fun h1 =>
      cnt_pref (p := plHas l m k x y) (q := fun t => s - X + 1 ≤ iAt (srt l) t) (a := k) (n := m) (c := B)
        (fun t h3 h4 h5 => by rw [hh, hl3 t h3] at h5; omega) (fun t u _ h4 h5 h6 => by have := hF t u h4 h5; omega) (by omega) (by omega) h1
    have hres := hv (by
      rw [show 2 * k - (k - B) - 1 = k + B - 1 by omega]
      rcases Nat.eq_zero_or_pos B with h0 | h0
      · have := p1 k (by omega) (by omega)
        rw [h0, Nat.add_zero]; omega
      · have := p2 h0
        omega) (fun h0 => p1 (k - B) h0 (by omega))
    omega
  · rw [hh]
    have h0 := hd t
    rcases Nat.lt_or_ge t j with h | h
    · rw [hl1 t h]; have := hDj t h; omega
    · rcases Nat.lt_or_ge t k with h' | h'
      · rw [hl2 t h h']; omega
      · rw [hl3 t h']; omega
end Go.Proofs.YtlmcoollkmhanaaGreat
/- Plain mathematics of SpreadAttained: the list without the lost ones, and its combination. -/
namespace Go.Proofs.YtlmcoollkmhanaaGreat
open Go.RowKit

def ivAt (L : List Iv) (i : Nat) : Iv := L.getD i (0, 0)
theorem ivAt_set (L : List Iv) (i j : Nat) (p : Iv) (hi : i < L.length) : ivAt (L.set i p) j = if i = j then p else ivAt L j := by
  by_cases h : i = j
  · subst h; rw [if_pos rfl]; simp [ivAt, List.getD_eq_getElem?_getD, hi]
  · rw [if_neg h]; simp [ivAt, List.getD_eq_getElem?_getD, List.getElem?_set_ne h]
theorem out_at {l : List Int} {m k : Nat} {x : Int} (hm : m ≤ l.length) : ∀ t, t ≤ m → ∀ p, p < t → ivAt (plOut l m k x t) (nAt (ordL l) p) = plP l m k x p
  | 0, _, p, h => by omega
  | t + 1, ht, p, h => by
    rw [plOut, ivAt_set _ _ _ _ (by rw [plOut_length]; exact ordL_bd l t (by omega))]
    by_cases e : t = p
    · subst e; rw [if_pos rfl]
    · rw [if_neg (fun h' => e (ordL_inj l (by omega) (by omega) h'))]
      exact out_at hm t (by omega) p (by omega)
theorem lie_at {l : List Int} {m k : Nat} {x : Int} : ∀ s, m + s ≤ l.length → (∀ p, p < m → ivAt (plLie l m k x s) (nAt (ordL l) p) = plP l m k x p) ∧ ∀ p, p < s → ivAt (plLie l m k x s) (nAt (ordL l) (m + p)) = plAll l m k x m
  | 0, h => ⟨fun p hp => out_at (by omega) m (Nat.le_refl _) p hp, fun p hp => by omega⟩
  | s + 1, h => by
    have ih := lie_at (l := l) (m := m) (k := k) (x := x) s (by omega)
    have hb : nAt (ordL l) (m + s) < (plLie l m k x s).length := by rw [plLie_length]; exact ordL_bd l _ (by omega)
    refine ⟨fun p hp => ?_, fun p hp => ?_⟩
    · rw [plLie, ivAt_set _ _ _ _ hb, if_neg (fun h' => by have := ordL_inj l (by omega) (by omega) h'; omega)]
      exact ih.1 p hp
    · rw [plLie, ivAt_set _ _ _ _ hb]
      by_cases e : s = p
      · subst e; rw [if_pos rfl]
      · rw [if_neg (fun h' => by have := ordL_inj l (by omega) (by omega) h'; omega)]
        exact ih.2 p (by omega)
def attTo (A : List Iv) (P G : List Int) : Nat → List Iv
  | 0 => []
  | i + 1 => if roleP P G i < 2 then attTo A P G i ++ [ivAt A i] else attTo A P G i
theorem attTo_length (A : List Iv) (P G : List Int) : ∀ i, (attTo A P G i).length = cntTo (fun i => decide (roleP P G i < 2)) i
  | 0 => rfl
  | i + 1 => by
    rw [attTo, cntTo]
    by_cases h : roleP P G i < 2
    · rw [if_pos h, if_pos (decide_eq_true h), List.length_append, attTo_length A P G i]; rfl
    · rw [if_neg h, if_neg (by simpa using h), attTo_length A P G i]; rfl
theorem attTo_dep (A : List Iv) (P G : List Int) (y : Int) : ∀ i, dep (attTo A P G i) y (attTo A P G i).length = (cntTo (fun i => decide (roleP P G i < 2) && hasB (ivAt A i).1 (ivAt A i).2 y) i : Int)
  | 0 => rfl
  | i + 1 => by
    rw [attTo, cntTo]
    by_cases h : roleP P G i < 2
    · rw [if_pos h, dep_join, attTo_dep A P G y i, decide_eq_true h, Bool.true_and]
      have e : dep [ivAt A i] y [ivAt A i].length = if hasB (ivAt A i).1 (ivAt A i).2 y = true then 1 else 0 := by
        show (0 : Int) + _ = _
        simp [iLo, iHi]
      rw [e]
      split <;> simp
    · rw [if_neg h, attTo_dep A P G y i, decide_eq_false h, Bool.false_and]; simp
theorem cnt_range (h : Nat → Bool) : ∀ n, (List.range n).countP h = cntTo h n
  | 0 => rfl
  | n + 1 => by rw [List.range_succ, List.countP_append, cnt_range h n, cntTo]; simp [List.countP_cons]
theorem cnt_ord (l : List Int) (g : Nat → Bool) : cntTo g l.length = cntTo (fun p => g (nAt (ordL l) p)) l.length := by
  rw [← cnt_range, ← cnt_range]
  have e : ordL l = (List.range l.length).map (nAt (ordL l)) := by
    apply List.ext_getElem (by rw [ordL_length, List.length_map, List.length_range])
    intro i h1 h2
    rw [List.getElem_map, List.getElem_range, nAt_lt _ _ h1]
  have h1 := (ordTo_perm l l.length).countP_eq g
  have h2 : (ordL l).countP g = (List.range l.length).countP (fun p => g (nAt (ordL l) p)) := by
    conv => lhs; rw [e]
    rw [List.countP_map]
    rfl
  rw [← h2]
  exact h1.symm
theorem cnt_congr {p q : Nat → Bool} : ∀ n, (∀ t, t < n → p t = q t) → cntTo p n = cntTo q n
  | 0, _ => rfl
  | n + 1, h => by rw [cntTo, cntTo, cnt_congr n (fun t ht => h t (by omega)), h n (by omega)]
theorem cnt_const (p : Nat → Bool) (b : Bool) {a n : Nat} (h : a ≤ n) (hp : ∀ t, a ≤ t → t < n → p t = b) : cntTo p n = cntTo p a + if b = true then n - a else 0 := by
  cases b with
  | true => rw [if_pos rfl]; exact cnt_yes p h hp
  | false => rw [if_neg (by simp)]; exact cnt_no p h hp
theorem plAll_in (l : List Int) (m k : Nat) (x : Int) : ∀ n t, t < n → (plAll l m k x n).1 ≤ (plP l m k x t).1 ∧ (plP l m k x t).2 ≤ (plAll l m k x n).2
  | 0, t, h => by omega
  | n + 1, t, h => by
    have m1 := mn_spec (plAll l m k x n).1 (plP l m k x n).1
    have m2 := mx_spec (plAll l m k x n).2 (plP l m k x n).2
    simp only [plAll]
    by_cases e : t = n
    · subst e; omega
    · have := plAll_in l m k x n t (by omega); omega
end Go.Proofs.YtlmcoollkmhanaaGreat
/- Plain law of SpreadAttained: the combination is exactly as wide as the greatest width. -/
namespace Go.Proofs.YtlmcoollkmhanaaGreat
open Go.RowKit

theorem att_split {l : List Int} {f lost : Int} (hok : spOk l f lost = true) (g : Nat → Bool) (h1 : Nat → Bool) (b : Bool)
    (q1 : ∀ p, p < spM l f lost → g (nAt (ordL l) p) = h1 p) (q2 : ∀ p, spM l f lost ≤ p → p < spM l f lost + f.toNat → g (nAt (ordL l) p) = b) (q3 : ∀ p, spM l f lost + f.toNat ≤ p → p < l.length → g (nAt (ordL l) p) = false) :
    cntTo g l.length = cntTo h1 (spM l f lost) + if b = true then f.toNat else 0 := by
  have hm := sp_mk hok
  have hi := (spOk_iff l f lost).1 hok
  rw [cnt_ord l g, cnt_const _ false (show spM l f lost + f.toNat ≤ l.length by omega) q3, cnt_const _ b (show spM l f lost ≤ spM l f lost + f.toNat by omega) q2, cnt_congr _ q1]
  simp
theorem place_ok {l : List Int} {f lost x : Int} (h : placeEr l f lost x = 0) : spOk l f lost = true ∧ (0 ≤ x ∧ x ≤ 3000000000000000) ∧ 0 ≤ (plAll l (spM l f lost) (spK l f lost) x (spM l f lost)).1 ∧ (plAll l (spM l f lost) (spK l f lost) x (spM l f lost)).2 ≤ 3000000000000000 ∧ placeL l f lost x = plLie l (spM l f lost) (spK l f lost) x f.toNat := by
  have hL : placeL l f lost x = plLie l (spM l f lost) (spK l f lost) x f.toNat := by unfold placeL; rw [if_pos h]
  unfold placeEr at h
  cases hok : spOk l f lost with
  | false =>
    rw [hok] at h
    simp only [Bool.false_eq_true, if_false] at h
    rcases spEr_no hok with h' | h' <;> omega
  | true =>
    rw [if_pos hok] at h
    split at h
    · rename_i hx
      have hx2 : 0 ≤ x ∧ x ≤ 3000000000000000 := by simpa [inB] using hx
      split at h
      · omega
      · rename_i hn
        exact ⟨rfl, hx2, by omega, by omega, hL⟩
    · omega
theorem att_law {l : List Int} {f lost x : Int} (h : placeEr l f lost x = 0) :
    let L := attTo (placeL l f lost x) (pickL l f lost) (goneL l f lost) l.length
    (L.length : Int) = l.length - lost ∧ cbEr L f = 0 ∧ cbHi L f - cbLo L f = worst l f lost ∧ cbLo L f ≤ x ∧ x ≤ cbHi L f := by
  intro L
  obtain ⟨hok, hx, hA1, hA2, hL⟩ := place_ok h
  obtain ⟨X, x1, x2, c1, c2, c3, c4, c5⟩ := place_count (x := x) hok
  have hm := sp_mk hok
  have hi := (spOk_iff l f lost).1 hok
  have hat := lie_at (l := l) (m := spM l f lost) (k := spK l f lost) (x := x) f.toNat (by omega)
  have hlen : L.length = spM l f lost + f.toNat := by
    show (attTo _ _ _ _).length = _
    rw [attTo_length, att_split hok _ (fun _ => true) true (fun p hp => by rw [role_at hok p (by omega), if_pos hp]; rfl)
      (fun p h1 h2 => by rw [role_at hok p (by omega), if_neg (by omega), if_pos h2]; rfl)
      (fun p h1 h2 => by rw [role_at hok p h2, if_neg (by omega), if_neg (by omega)]; rfl), cnt_yes (fun _ => true) (Nat.zero_le _) (fun _ _ _ => rfl)]
    simp [cntTo]
  have hdep : ∀ y, dep L y L.length = (cntTo (plHas l (spM l f lost) (spK l f lost) x y) (spM l f lost) + (if hasB (plAll l (spM l f lost) (spK l f lost) x (spM l f lost)).1 (plAll l (spM l f lost) (spK l f lost) x (spM l f lost)).2 y = true then f.toNat else 0) : Nat) := by
    intro y
    show dep (attTo _ _ _ _) y (attTo _ _ _ _).length = _
    rw [attTo_dep, att_split hok _ (plHas l (spM l f lost) (spK l f lost) x y) (hasB (plAll l (spM l f lost) (spK l f lost) x (spM l f lost)).1 (plAll l (spM l f lost) (spK l f lost) x (spM l f lost)).2 y)
      (fun p hp => by rw [role_at hok p (by omega), if_pos hp, hL, hat.1 p hp]; rfl)
      (fun p h1 h2 => by
        rw [role_at hok p (by omega), if_neg (by omega), if_pos h2, hL]
        have := hat.2 (p - spM l f lost) (by omega)
        rw [show spM l f lost + (p - spM l f lost) = p by omega] at this
        rw [this]; rfl)
      (fun p h1 h2 => by rw [role_at hok p h2, if_neg (by omega), if_neg (by omega)]; rfl)]
  have hin : ∀ y, spK l f lost ≤ cntTo (plHas l (spM l f lost) (spK l f lost) x y) (spM l f lost) → hasB (plAll l (spM l f lost) (spK l f lost) x (spM l f lost)).1 (plAll l (spM l f lost) (spK l f lost) x (spM l f lost)).2 y = true := by
    intro y hy
    apply Classical.byContradiction
    intro hn
    have := cnt_no (plHas l (spM l f lost) (spK l f lost) x y) (Nat.zero_le (spM l f lost)) (fun t _ ht => by
      cases hp : plHas l (spM l f lost) (spK l f lost) x y t with
      | false => rfl
      | true =>
        exfalso
        have hpi := plAll_in l (spM l f lost) (spK l f lost) x (spM l f lost) t ht
        unfold plHas at hp
        simp only [hasB, decide_eq_true_eq] at hp hn
        omega)
    simp only [cntTo] at this
    omega
  have hlb : listB L = true := by
    rw [listB_iff2]
    refine ⟨by omega, ?_⟩
    have key : ∀ i, i ≤ l.length → ∀ p, p ∈ attTo (placeL l f lost x) (pickL l f lost) (goneL l f lost) i → ∃ t, t < l.length ∧ roleP (pickL l f lost) (goneL l f lost) t < 2 ∧ p = ivAt (placeL l f lost x) t := by
      intro i
      induction i with
      | zero => intro _ p hp; cases hp
      | succ i ih =>
        intro hi' p hp
        rw [attTo] at hp
        split at hp
        · rename_i hr
          rcases List.mem_append.1 hp with h' | h'
          · exact ih (by omega) p h'
          · rw [List.mem_singleton] at h'; exact ⟨i, by omega, hr, h'⟩
        · exact ih (by omega) p hp
    intro p hp
    obtain ⟨t, ht, hr, rfl⟩ := key l.length (Nat.le_refl _) p hp
    obtain ⟨s, hs, rfl⟩ := ordL_surj l ht
    rw [role_at hok s hs] at hr
    have hd := plAll_in l (spM l f lost) (spK l f lost) x (spM l f lost)
    by_cases h1 : s < spM l f lost
    · rw [hL, hat.1 s h1]
      have h5 := c5 s h1
      have h6 := hd s h1
      unfold plHas at h5
      simp only [hasB, decide_eq_true_eq] at h5
      omega
    · have h2 : s < spM l f lost + f.toNat := by
        apply Classical.byContradiction
        intro hn
        rw [if_neg h1, if_neg hn] at hr
        omega
      have := hat.2 (s - spM l f lost) (by omega)
      rw [show spM l f lost + (s - spM l f lost) = s by omega] at this
      rw [hL, this]
      have h0 := c5 0 (by omega)
      have h6 := hd 0 (by omega)
      unfold plHas at h0
      simp only [hasB, decide_eq_true_eq] at h0
      omega
  have hso : setOk L f = true := by rw [setOk_iff]; exact ⟨hlb, by omega, by omega⟩
  have hmem : ∀ y, mem (setL L f) y ↔ spK l f lost ≤ cntTo (plHas l (spM l f lost) (spK l f lost) x y) (spM l f lost) := by
    intro y
    rw [mem_setL hso, missTo_dep, hdep y]
    constructor
    · intro hy
      split at hy <;> omega
    · intro hy
      rw [if_pos (hin y hy)]
      omega
  have hmx : mem (setL L f) (x - X) := (hmem _).2 c1
  have hmy : mem (setL L f) (x - X + worst l f lost) := (hmem _).2 c2
  have e1 := cb_has hmx
  have e2 := cb_has hmy
  have hs := (setL_spec hso).1
  have hpos := mem_pos hmx
  obtain ⟨g1, g2⟩ := hs.ends_mem hpos
  have k1 := (hmem _).1 g1
  have k2 := (hmem _).1 g2
  have f1 : x - X ≤ cbLo L f := by
    apply Classical.byContradiction
    intro hn
    have := c3 (cbLo L f) (by omega)
    unfold cbLo at this
    omega
  have f2 : cbHi L f ≤ x - X + worst l f lost := by
    apply Classical.byContradiction
    intro hn
    have := c4 (cbHi L f) (by omega)
    unfold cbHi at this
    omega
  refine ⟨by omega, cbEr_mem hmx, by omega, by omega, by omega⟩
theorem att_right {l : List Int} {f lost x : Int} (h : placeEr l f lost x = 0) (i : Nat) (hi : i < l.length) (hr : roleP (pickL l f lost) (goneL l f lost) i = 0) :
    (ivAt (placeL l f lost x) i).1 ≤ x ∧ x ≤ (ivAt (placeL l f lost x) i).2 ∧ (ivAt (placeL l f lost x) i).2 - (ivAt (placeL l f lost x) i).1 = iAt l i := by
  obtain ⟨hok, hx, hA1, hA2, hL⟩ := place_ok h
  obtain ⟨X, x1, x2, c1, c2, c3, c4, c5⟩ := place_count (x := x) hok
  have hm := sp_mk hok
  have hat := lie_at (l := l) (m := spM l f lost) (k := spK l f lost) (x := x) f.toNat (by have := (spOk_iff l f lost).1 hok; omega)
  obtain ⟨s, hs, rfl⟩ := ordL_surj l hi
  rw [role_at hok s hs] at hr
  have h1 : s < spM l f lost := by
    apply Classical.byContradiction
    intro hn
    rw [if_neg hn] at hr
    split at hr <;> omega
  rw [hL, hat.1 s h1, ← srt_at l s hs]
  have h5 := c5 s h1
  unfold plHas at h5
  simp only [hasB, decide_eq_true_eq] at h5
  refine ⟨h5.1, h5.2, ?_⟩
  unfold plP
  simp only
  omega
end Go.Proofs.YtlmcoollkmhanaaGreat
