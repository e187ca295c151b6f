
/- The reference of cert: cases. -/
import Derived.Test.YtlmcoollkmhanaaCtS
import Derived.Test.YtlmcoollkmhanaaCtO
import Derived.Test.YtlmcoollkmhanaaCtG
namespace Go.Proofs.Ytlmcoollkmhanaa
open Go.RowKit

def OwnCr (w : World) (base b2 : Nat) (v : Value) (cs : List Cs) : Prop := ∃ xs : List Cv, xs.map (·.c) = cs ∧ Owns 44 encC 3 w base v xs ∧ ∀ x, x ∈ xs → NewI w b2 x.lv x.c.li ∧ NewI w b2 x.gv x.c.lo
theorem OwnCr.below {w w' : World} {base b2 B : Nat} {v : Value} {l : List Cs} (h : OwnCr w base b2 v l) (hB : w.heap.size ≤ B) (hb : Below B w w') : OwnCr w' base b2 v l := by
 obtain ⟨xs, h1, h2, h3⟩ := h
 exact ⟨xs, h1, h2.below hB hb, fun x hx => ⟨(h3 x hx).1.below hB hb, (h3 x hx).2.below hB hb⟩⟩
theorem NewI.rwt {w : World} {base : Nat} {v : Value} {l : List Int} (h : NewI w base v l) : RwT (fun _ => False) w v l := ⟨h.1, fun q hq => ⟨fun hh => hh, (h.2 q hq).2⟩⟩
end Go.Proofs.Ytlmcoollkmhanaa
