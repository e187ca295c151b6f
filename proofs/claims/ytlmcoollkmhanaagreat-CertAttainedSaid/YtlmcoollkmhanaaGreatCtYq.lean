
/- CertBehaviour: rows of uint32 that came in; what a place states. -/
import Derived.Test.YtlmcoollkmhanaaGreatCtYp
import Derived.Test.YtlmcoollkmhanaaGreatGq
namespace Go.Proofs.YtlmcoollkmhanaaGreat
open Go.ChangeShapes Go.WideShapes Go.ChangeAt Go.RowKit Go.Joins Go.Deep

section
variable {H : Type} {enc : TypeId × Value → H} {W : World} {base : Nat}
end
theorem pk_use {s : Si} {use : List Int} {ev : Int} (hr : rgB s use ev = true) {k : Nat} (hk : k < use.length) : pkW s (iAt use k) = iAt (wdL s.ps use) k ∧ pkE s (iAt use k) = 0 := by
 have hrg := (rgB_iff _ _ _).1 hr
 have h := hrg.2.2.1 k hk
 have hb : pkB s (iAt use k) = true := by
  unfold pkB
  rw [hrg.1, decide_eq_true h]
  rfl
 unfold pkW pkE
 rw [if_pos hb, if_pos hb]
 refine ⟨?_, rfl⟩
 unfold wdL
 rw [iAt_lt use k hk, iAt_lt (List.map (fun i => pWd (pAt s.ps i.toNat)) use) k (by simpa using hk), List.getElem_map]
end Go.Proofs.YtlmcoollkmhanaaGreat
