
/- The reference of cert: rows of lists that a call makes. -/
import Derived.Test.YtlmcoollkmhanaaCtL
import Derived.Test.YtlmcoollkmhanaaApp
namespace Go.Proofs.Ytlmcoollkmhanaa
open Go.RowKit

def NewI (w : World) (base : Nat) (v : Value) (l : List Int) : Prop := IsRow w v l ∧ ∀ q, v.ownBlock = some q → base ≤ q ∧ ∃ c fz, w.heap[q]? = some (.cells c 3 fz)
theorem NewI.lt {w : World} {base : Nat} {v : Value} {l : List Int} (h : NewI w base v l) : ∀ q, v.ownBlock = some q → q < w.heap.size := fun q hq => by
 obtain ⟨c, fz, hc⟩ := (h.2 q hq).2
 exact (Array.getElem?_eq_some_iff.1 hc).1
theorem NewI.same {w w' : World} {base : Nat} {v : Value} {l : List Int} (h : NewI w base v l) (hz : w.heap.size ≤ w'.heap.size) (hb : ∀ q, v.ownBlock = some q → w'.heap[q]? = w.heap[q]?) : NewI w' base v l :=
 ⟨isrow_same31 h.1 hz hb, fun q hq => ⟨(h.2 q hq).1, by obtain ⟨c, fz, hc⟩ := (h.2 q hq).2; exact ⟨c, fz, (hb q hq).trans hc⟩⟩⟩
theorem NewI.below {w w' : World} {base B : Nat} {v : Value} {l : List Int} (h : NewI w base v l) (hB : w.heap.size ≤ B) (hb : Below B w w') : NewI w' base v l :=
 h.same hb.size fun q hq => hb.block q (Nat.lt_of_lt_of_le (h.lt q hq) hB)
theorem isrow_empty (w : World) (a : Option Addr) (cap : Nat) (hc : cap ≤ 9223372036854775807) : IsRow w (.slice a 0 cap) [] := ⟨a, cap, rfl, Nat.zero_le _, hc, fun i hi => by simp at hi⟩
end Go.Proofs.Ytlmcoollkmhanaa
