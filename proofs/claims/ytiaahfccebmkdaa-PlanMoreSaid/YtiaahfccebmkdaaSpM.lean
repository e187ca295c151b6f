/- Plain mathematics of package spread's Place; a row of intervals that a call makes. -/
import Derived.Test.YtiaahfccebmkdaaSpD
import Derived.Laws.MakeOwn
namespace Go.Proofs.Ytiaahfccebmkdaa
open Go.RowKit
def plX (l : List Int) (m k : Nat) : Int := mn (iAt (srt l) (k - 1)) (bestP (srt l) m k).2
def plLeft (l : List Int) (m k t : Nat) : Int := if (t : Int) + 1 ≤ (bestP (srt l) m k).1 then plX l m k else if t + 1 ≤ k then iAt (srt l) t else 0
def plP (l : List Int) (m k : Nat) (x : Int) (t : Nat) : Iv := (x - plLeft l m k t, x - plLeft l m k t + iAt (srt l) t)
def plOut (l : List Int) (m k : Nat) (x : Int) : Nat → List Iv
  | 0 => List.replicate l.length (0, 0)
  | t + 1 => (plOut l m k x t).set (nAt (ordL l) t) (plP l m k x t)
def plAll (l : List Int) (m k : Nat) (x : Int) : Nat → Iv
  | 0 => (x, x)
  | t + 1 => (mn (plAll l m k x t).1 (plP l m k x t).1, mx (plAll l m k x t).2 (plP l m k x t).2)
def plLie (l : List Int) (m k : Nat) (x : Int) : Nat → List Iv
  | 0 => plOut l m k x m
  | s + 1 => (plLie l m k x s).set (nAt (ordL l) (m + s)) (plAll l m k x m)
def placeEr (l : List Int) (f lost x : Int) : Int :=
  if spOk l f lost = true then (if inB x 0 3000000000000000 = true then (if (plAll l (spM l f lost) (spK l f lost) x (spM l f lost)).1 < 0 ∨ 3000000000000000 < (plAll l (spM l f lost) (spK l f lost) x (spM l f lost)).2 then 3 else 0) else 1) else spEr l f lost
def placeL (l : List Int) (f lost x : Int) : List Iv := if placeEr l f lost x = 0 then plLie l (spM l f lost) (spK l f lost) x f.toNat else []
theorem plOut_length (l : List Int) (m k : Nat) (x : Int) : ∀ t, (plOut l m k x t).length = l.length
  | 0 => by simp [plOut]
  | t + 1 => by rw [plOut, List.length_set, plOut_length l m k x t]
theorem plLie_length (l : List Int) (m k : Nat) (x : Int) : ∀ s, (plLie l m k x s).length = l.length
  | 0 => plOut_length l m k x m
  | s + 1 => by rw [plLie, List.length_set, plLie_length l m k x s]
theorem bestP_bd {D : List Int} (hwd : ∀ i, 0 ≤ iAt D i ∧ iAt D i ≤ 1000000000000) (m k : Nat) (_hk : 1 ≤ k) (_hkm : k ≤ m) : 0 ≤ (bestP D m k).1 ∧ (bestP D m k).1 ≤ k ∧ 0 ≤ (bestP D m k).2 ∧ (bestP D m k).2 ≤ 2000000000000 := by
  have hv : ∀ j, 0 ≤ vJ D k j ∧ vJ D k j ≤ 2000000000000 := fun j => by
    have a := hwd (k - 1)
    have b := hwd (2 * k - j - 1)
    have c := hwd (j - 1)
    have m := mn_spec (iAt D (k - 1) + iAt D (2 * k - j - 1)) (iAt D (j - 1))
    unfold vJ; split <;> omega
  obtain ⟨s, h1, h2, _⟩ := (bst_max D k (jLo m k) (k - jLo m k + 1)).2 (by omega) (fun s _ => (hv _).1)
  have hj : jLo m k ≤ k := by unfold jLo; omega
  have := hv (jLo m k + s)
  show 0 ≤ (bst D k (jLo m k) (k - jLo m k + 1)).1 ∧ (bst D k (jLo m k) (k - jLo m k + 1)).1 ≤ k ∧ 0 ≤ (bst D k (jLo m k) (k - jLo m k + 1)).2 ∧ (bst D k (jLo m k) (k - jLo m k + 1)).2 ≤ 2000000000000
  rw [h2]
  simp only
  omega
theorem plLeft_bd {l : List Int} (hwd : ∀ i, 0 ≤ iAt (srt l) i ∧ iAt (srt l) i ≤ 1000000000000) (m k t : Nat) (hk : 1 ≤ k) (hkm : k ≤ m) : 0 ≤ plLeft l m k t ∧ plLeft l m k t ≤ 1000000000000 := by
  have b := bestP_bd hwd m k hk hkm
  have a := hwd (k - 1)
  have c := hwd t
  have mm := mn_spec (iAt (srt l) (k - 1)) (bestP (srt l) m k).2
  unfold plLeft plX
  split
  · omega
  · split <;> omega
theorem plAll_bd {l : List Int} (hwd : ∀ i, 0 ≤ iAt (srt l) i ∧ iAt (srt l) i ≤ 1000000000000) (m k : Nat) (x : Int) (hk : 1 ≤ k) (hkm : k ≤ m) : ∀ t, x - 1000000000000 ≤ (plAll l m k x t).1 ∧ (plAll l m k x t).1 ≤ x ∧ x ≤ (plAll l m k x t).2 ∧ (plAll l m k x t).2 ≤ x + 1000000000000
  | 0 => by simp only [plAll]; omega
  | t + 1 => by
    have ih := plAll_bd hwd m k x hk hkm t
    have b := plLeft_bd hwd m k t hk hkm
    have c := hwd t
    have m1 := mn_spec (plAll l m k x t).1 (plP l m k x t).1
    have m2 := mx_spec (plAll l m k x t).2 (plP l m k x t).2
    simp only [plAll]
    simp only [plP] at *
    omega
theorem madeTwo (n : Nat) : (madeCells #[.int .i64 0, .int .i64 0] (n * 2)).toList = encL (List.replicate n (0, 0)) := by
  have h1 : (madeCells #[.int .i64 0, .int .i64 0] (n * 2)).toList = List.replicate (n * 2) (.int .i64 0) := by
    apply List.ext_getElem
    · simp [madeCells]
    · intro i h1 h2
      simp only [madeCells, Array.toList_map, List.getElem_map, List.getElem_replicate]
      rcases Nat.mod_two_eq_zero_or_one i with h | h <;> simp [h]
  have h2 : encL (List.replicate n (0, 0)) = List.replicate (n * 2) (.int .i64 0) := by
    induction n with
    | zero => rfl
    | succ n ih =>
      have e : encL (List.replicate (n + 1) ((0 : Int), (0 : Int))) = .int .i64 0 :: .int .i64 0 :: encL (List.replicate n (0, 0)) := rfl
      rw [e, show (n + 1) * 2 = n * 2 + 1 + 1 by omega, List.replicate_succ, List.replicate_succ]
      congr 2
      apply ih
      apply List.ext_getElem
      · simp [madeCells]
      · intro i h1 h2
        simp only [madeCells, Array.toList_map, List.getElem_map, List.getElem_replicate]
        rcases Nat.mod_two_eq_zero_or_one i with h | h <;> simp [h]
  rw [h1, h2]
theorem ownIv_made (w : World) (base n : Nat) (hb : base ≤ w.heap.size) (hn : n ≤ 9223372036854775807) :
    OwnIv (w.alloc (.cells (madeCells #[.int .i64 0, .int .i64 0] (n * 2)) 111)) base (.slice (some ⟨w.heap.size, 0, none⟩) n n) (List.replicate n (0, 0)) := by
  unfold OwnIv OwnP
  rw [List.length_replicate]
  refine ⟨by rw [encL_length, List.length_replicate], .inr ⟨w.heap.size, n, madeCells #[.int .i64 0, .int .i64 0] (n * 2), rfl, hb, World.alloc_heap_new w _, Nat.le_refl _, hn, by rw [size_madeCells], ?_⟩⟩
  rw [madeTwo, List.take_of_length_le (by rw [encL_length, List.length_replicate]; omega)]
theorem encL_set (c : List Iv) (i : Nat) (p : Iv) (hi : i < c.length) : ((encL c).set (i * 2) (.int .i64 p.1)).set (i * 2 + 1) (.int .i64 p.2) = encL (c.set i p) := by
  induction c generalizing i with
  | nil => simp at hi
  | cons q c ih =>
    have e : encL (q :: c) = .int .i64 q.1 :: .int .i64 q.2 :: encL c := rfl
    cases i with
    | zero => rfl
    | succ i =>
      rw [e, show (i + 1) * 2 = i * 2 + 1 + 1 by omega]
      simp only [List.set_cons_succ]
      rw [ih i (by simpa using hi)]; rfl
theorem OwnP.set {T : TypeId} {w : World} {base g cap : Nat} {c : List Iv} (h : OwnP T w base (.slice (some ⟨g, 0, none⟩) c.length cap) c) (i : Nat) (hi : i < c.length) (p : Iv) :
    OwnP T ((w.setCell ⟨g, i * 2, none⟩ (.int .i64 p.1)).setCell ⟨g, i * 2 + 1, none⟩ (.int .i64 p.2)) base (.slice (some ⟨g, 0, none⟩) (c.set i p).length cap) (c.set i p) := by
  unfold OwnP
  rw [List.length_set, ← encL_set c i p hi]
  exact (World.ownsRow.stored (World.ownsRow.stored h (i * 2) (.int .i64 p.1)).1 (i * 2 + 1) (.int .i64 p.2)).1
end Go.Proofs.Ytiaahfccebmkdaa
