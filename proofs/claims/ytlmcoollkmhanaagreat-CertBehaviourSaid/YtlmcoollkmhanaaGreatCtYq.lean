
/- CertBehaviour: rows of uint32 that came in; what a place states. -/
import Derived.Test.YtlmcoollkmhanaaGreatCtYp
import Derived.Test.YtlmcoollkmhanaaGreatGq
namespace Go.Proofs.YtlmcoollkmhanaaGreat
open Go.ChangeShapes Go.WideShapes Go.ChangeAt Go.RowKit Go.Joins Go.Deep

def encU (x : Int) : List Value := [.int .u32 x]
theorem encU_length (x : Int) : (encU x).length = 1 := rfl
def UWf (x : Int) : Prop := 0 ≤ x ∧ x ≤ 4294967295
def URow (W : World) (v : Value) (l : List Int) : Prop := Rws encU 1 0 W v l ∧ ∀ x, x ∈ l → UWf x
theorem URow.below {w w' : World} {v : Value} {l : List Int} (h : URow w v l) {B : Nat} (hB : w.heap.size ≤ B) (hb : Below B w w') : URow w' v l := ⟨h.1.below hB hb, h.2⟩
theorem URow.at_ {w : World} {v : Value} {l : List Int} (h : URow w v l) {i : Nat} (hi : i < l.length) : ∃ b off cap, v = .slice (some ⟨b, off, none⟩) l.length cap ∧ b < w.heap.size ∧ w.cell? ⟨b, off + i, none⟩ = some (.int .u32 (iAt l i)) ∧ 0 ≤ iAt l i ∧ iAt l i ≤ 4294967295 := by
 obtain ⟨b, off, cap, rfl, -, -, h4, h5⟩ := h.1.at0 (by omega)
 have h6 := h5 i hi 0 _ rfl
 rw [Nat.mul_one, Nat.add_zero] at h6
 refine ⟨b, off, cap, rfl, h4, h6, h.2 _ (iAt_mem hi)⟩
theorem URow.len {w : World} {v : Value} {l : List Int} (h : URow w v l) : ∃ a cap, v = .slice a l.length cap ∧ l.length ≤ cap ∧ cap ≤ 9223372036854775807 := h.1.len
section
variable {H : Type} {enc : TypeId × Value → H} {W : World} {base : Nat}
theorem wf_u32c {x : Int} (h : (Lit.int .u32 x).wf = true) : UWf x := by
 unfold UWf
 simpa [Lit.wf, IntKind.min, IntKind.max, IntKind.signed, IntKind.bits] using h
theorem cellsU : ∀ j, j < 1 → CellP enc Tryz.prog W 0 (fun _ => true) true 55 j (fun v => ∃ n : Int, v = .int .u32 n ∧ UWf n) := by
 intro j hj fuel cs x h
 obtain rfl : j = 0 := by omega
 obtain ⟨n, rfl, _, hw⟩ := DataW.trod_int Tryz.underlying55 h
 exact ⟨_, rfl, n, rfl, wf_u32c hw⟩
set_option maxRecDepth 100000 in
theorem open_u32s {v : Value} {d : DataW H} {p : List MemPlace} (hok : Value.okWide Tryz.prog W .any base 45 v) (h : DataW.Trod enc Tryz.prog W 0 (fun _ => true) true 45 v d p) : ∃ l : List Int, URow W v l := by
 have hc := CellP.rows (enc := enc) (P := Tryz.prog) (w := W) (base := 0) (spare := fun _ => true) (held := true) encU 0 UWf (fun _ v => ∃ n : Int, v = .int .u32 n ∧ UWf n) Tryz.underlying45 (by kernel_rfl) (by omega) cellsU encU_length fun G hG => by
  obtain ⟨n, e, hn⟩ := hG 0 (by omega)
  refine ⟨n, fun j hj => ?_, hn⟩
  obtain rfl : j = 0 := by omega
  rw [e]; rfl
 obtain ⟨a0, len, cap, rfl⟩ := okWide_slice Tryz.underlying45 hok
 obtain ⟨fuel, hf⟩ := h
 obtain ⟨u, e, l, h1, h2⟩ := hc _ _ _ hf
 simp only [Value.cells, List.getElem?_cons_zero, Option.some.injEq] at e
 subst e
 exact ⟨l, h1, h2⟩
end
def lieP (lies : List Iv) (t : Int) (i : Nat) : Iv := if lies.length = 0 then (t, t) else ivAt lies (i % lies.length)
def lftP (ws left : List Int) (i : Nat) : Int := if i < left.length then iAt left i % (iAt ws i + 1) else 0
def rgtP (ws left right : List Int) (i : Nat) : Int := if i % 3 = 2 then iAt ws i - lftP ws left i else if i < right.length then iAt right i % (iAt ws i - lftP ws left i + 1) else 0
def bhP (ws li : List Int) (lies : List Iv) (left right : List Int) (t : Int) (i : Nat) : Iv := if (i : Int) ∈ li then lieP lies t i else (t - lftP ws left i, t + rgtP ws left right i)
theorem lftP_bd {ws left : List Int} {i : Nat} (hw : 0 ≤ iAt ws i) : 0 ≤ lftP ws left i ∧ lftP ws left i ≤ iAt ws i := by
 unfold lftP
 split
 ·have h1 := Int.emod_nonneg (iAt left i) (show iAt ws i + 1 ≠ 0 by omega)
  have h2 := Int.emod_lt_of_pos (iAt left i) (show 0 < iAt ws i + 1 by omega)
  omega
 ·omega
theorem rgtP_bd {ws left right : List Int} {i : Nat} (hw : 0 ≤ iAt ws i) : 0 ≤ rgtP ws left right i ∧ lftP ws left i + rgtP ws left right i ≤ iAt ws i := by
 have hl := lftP_bd (left := left) hw
 unfold rgtP
 split
 ·omega
 ·split
  ·have h1 := Int.emod_nonneg (iAt right i) (show iAt ws i - lftP ws left i + 1 ≠ 0 by omega)
   have h2 := Int.emod_lt_of_pos (iAt right i) (show 0 < iAt ws i - lftP ws left i + 1 by omega)
   omega
  ·omega
theorem bhP_ok {ws li lo : List Int} {lies : List Iv} {left right : List Int} {t : Int} (hw : ∀ i, i < ws.length → 0 ≤ iAt ws i) (hv : ∀ i, i < ws.length → (i : Int) ∈ li → (i : Int) ∉ lo → validB (lieP lies t i).1 (lieP lies t i).2 = true) : BhOk ws li lo t (bhP ws li lies left right t) := by
 intro k hk hlo
 refine ⟨fun hli => ?_, fun hli => ?_⟩
 ·have h := hv k hk hli hlo
  unfold validB at h
  have h2 := of_decide_eq_true h
  unfold bhP
  rw [if_pos hli]
  exact h2
 ·unfold bhP
  rw [if_neg hli]
  have h1 := lftP_bd (left := left) (hw k hk)
  have h2 := rgtP_bd (left := left) (right := right) (hw k hk)
  simp only
  omega
theorem pk_use {s : Si} {use : List Int} {ev : Int} (hr : rgB s use ev = true) {k : Nat} (hk : k < use.length) : pkW s (iAt use k) = iAt (wdL s.ps use) k ∧ pkE s (iAt use k) = 0 := by
 have hrg := (rgB_iff _ _ _).1 hr
 have h := hrg.2.2.1 k hk
 have hb : pkB s (iAt use k) = true := by
  unfold pkB
  rw [hrg.1, decide_eq_true h]
  rfl
 unfold pkW pkE
 rw [if_pos hb, if_pos hb]
 refine ⟨?_, rfl⟩
 unfold wdL
 rw [iAt_lt use k hk, iAt_lt (List.map (fun i => pWd (pAt s.ps i.toNat)) use) k (by simpa using hk), List.getElem_map]
theorem bhL_in {lo : List Int} {P : Nat → Iv} {k : Nat} (h : (k : Int) ∈ lo) : bhL lo P (k + 1) = bhL lo P k := by rw [bhL, if_pos h]
theorem bhL_out {lo : List Int} {P : Nat → Iv} {k : Nat} (h : (k : Int) ∉ lo) : bhL lo P (k + 1) = bhL lo P k ++ [P k] := by rw [bhL, if_neg h]
end Go.Proofs.YtlmcoollkmhanaaGreat
