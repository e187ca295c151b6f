
/- Parts SpE SpF SpG of the proof, joined. -/
import Derived.Test.YtlmcoollkmhanaaGb
import Derived.Shelf.SortM.Plain
import Derived.Shelf.SortM.SortNone
import Derived.Sort.OwnSortedInts
import Derived.Lib.OwnBridge
import Derived.Deep.RegionHeld3
import Derived.Deep.DeepCutAuto
import Derived.StillTailTactics
/- slices.Values of integers, collected: AppendSeq, Collect. -/
namespace Go.Proofs.Ytlmcoollkmhanaa
open Go.RowKit Go.Shelf
attribute [local go_sem] Oper.semAt_some

end Go.Proofs.Ytlmcoollkmhanaa
/- slices.Sorted of slices.Values of integers. -/
namespace Go.Proofs.Ytlmcoollkmhanaa
open Go.RowKit Go.Shelf
def srtI (zs : List Int) : List Int := zs.mergeSort fun x y => decide (x ≤ y)
theorem srtI_length (zs : List Int) : (srtI zs).length = zs.length := List.length_mergeSort zs
end Go.Proofs.Ytlmcoollkmhanaa
/- Package spread: Pick. -/
namespace Go.Proofs.Ytlmcoollkmhanaa
open Go.RowKit Go.Shelf

def pieceI (l : List Int) (lo n : Nat) : List Int := (toI (ordL l)).drop lo |>.take n
def pickL (l : List Int) (f lost : Int) : List Int := if spOk l f lost = true then srtI (pieceI l (spM l f lost) f.toNat) else []
def goneL (l : List Int) (f lost : Int) : List Int := if spOk l f lost = true then srtI (pieceI l (spM l f lost + f.toNat) (l.length - (spM l f lost + f.toNat))) else []
theorem pieceI_length (l : List Int) (lo n : Nat) (h : lo + n ≤ l.length) : (pieceI l lo n).length = n := by simp [pieceI, toI_length, ordL_length]; omega
theorem pieceI_at (l : List Int) (lo n i : Nat) (h : lo + n ≤ l.length) (hi : i < n) : iAt (pieceI l lo n) i = (nAt (ordL l) (lo + i) : Int) := by
 have h1 : lo + i < (ordL l).length := by rw [ordL_length]; omega
 rw [← toI_at _ _ h1]
 simp [pieceI, iAt, List.getD_eq_getElem?_getD, hi]
end Go.Proofs.Ytlmcoollkmhanaa
