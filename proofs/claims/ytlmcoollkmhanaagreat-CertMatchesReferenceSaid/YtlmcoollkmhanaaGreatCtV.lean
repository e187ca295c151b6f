
/- The laws of cert: certificates that came in by value; the examples' site. -/
import Derived.Test.YtlmcoollkmhanaaGreatCtU
import Derived.Test.YtlmcoollkmhanaaGreatRw
import Derived.Test.YtlmcoollkmhanaaGreatBxs
import Derived.Test.YtlmcoollkmhanaaGreatGv
namespace Go.Proofs.YtlmcoollkmhanaaGreat
open Go.ChangeShapes Go.WideShapes Go.ChangeAt Go.RowKit Go.Joins Go.Deep
section
variable {H : Type} {enc : TypeId × Value → H} {W : World} {base : Nat}
def phC (W : World) (j : Nat) (v : Value) : Prop := if j = 2 then IsI64 v else ∃ l, IsRow W v l ∧ WfI l
set_option maxRecDepth 100000 in
theorem cellsC : ∀ j, j < 3 → CellP enc Tryz.prog W 0 (fun _ => true) true 68 j (phC W j) := by
 have c1 : CellP enc Tryz.prog W 0 (fun _ => true) true 3 0 IsI64 := CellP.int Tryz.underlying3
 have s0 := cellP_ints (enc := enc) (W := W)
 have k0 := CellP.field Tryz.underlying68 0 _ rfl (of_decide_eq_true (by kernel_rfl)) s0
 have k1 := CellP.field Tryz.underlying68 1 _ rfl (of_decide_eq_true (by kernel_rfl)) s0
 have k2 := CellP.field Tryz.underlying68 2 _ rfl (of_decide_eq_true (by kernel_rfl)) c1
 intro j hj
 rcases (show j = 0 ∨ j = 1 ∨ j = 2 by omega) with rfl | rfl | rfl
 ·exact k0
 ·exact k1
 ·exact k2
set_option maxRecDepth 100000 in
theorem cells_cs : CellP enc Tryz.prog W 0 (fun _ => true) true 28 0 fun v => ∃ l, CsRow W v l := by
 have h := CellP.rows (enc := enc) (P := Tryz.prog) (w := W) (base := 0) (spare := fun _ => true) (held := true) encC cv0 (CvOk W) (phC W) Tryz.underlying28 (by kernel_rfl) (by omega) cellsC encC_length fun G hG => by
  obtain ⟨l0, h0, -⟩ := hG 0 (by omega)
  obtain ⟨l1, h1, -⟩ := hG 1 (by omega)
  obtain ⟨n2, e2, -⟩ := hG 2 (by omega)
  refine ⟨⟨G 0, G 1, ⟨l0, l1, n2⟩⟩, fun j hj => ?_, h0, h1⟩
  rcases (show j = 0 ∨ j = 1 ∨ j = 2 by omega) with rfl | rfl | rfl
  ·rfl
  ·rfl
  ·rw [e2]; rfl
 intro fuel cs x hx
 obtain ⟨v, hv, l, h1, h2⟩ := h fuel cs x hx
 exact ⟨v, hv, l.map (·.c), l, rfl, h1, h2⟩
structure CtA where
 uv : Value
 cv : Value
 x : Ct
def CtOk (W : World) (v : Value) (a : CtA) : Prop := v = valCt a.x a.uv a.cv ∧ IsRow W a.uv a.x.use ∧ CsRow W a.cv a.x.cs
def phT (W : World) (j : Nat) (v : Value) : Prop := if j = 0 then (∃ l, IsRow W v l ∧ WfI l) else if j = 4 then (∃ l, CsRow W v l) else IsI64 v
set_option maxRecDepth 100000 in
theorem cellsT : ∀ j, j < 5 → CellP enc Tryz.prog W 0 (fun _ => true) true 30 j (phT W j) := by
 have c1 : CellP enc Tryz.prog W 0 (fun _ => true) true 3 0 IsI64 := CellP.int Tryz.underlying3
 have s0 := CellP.field Tryz.underlying27 0 _ rfl (of_decide_eq_true (by kernel_rfl)) (cellP_ints (enc := enc) (W := W))
 have s1 := CellP.field Tryz.underlying27 1 _ rfl (of_decide_eq_true (by kernel_rfl)) c1
 have k0 := CellP.field Tryz.underlying30 0 _ rfl (of_decide_eq_true (by kernel_rfl)) s0
 have k1 := CellP.field Tryz.underlying30 0 _ rfl (of_decide_eq_true (by kernel_rfl)) s1
 have k2 := CellP.field Tryz.underlying30 1 _ rfl (of_decide_eq_true (by kernel_rfl)) c1
 have k3 := CellP.field Tryz.underlying30 2 _ rfl (of_decide_eq_true (by kernel_rfl)) c1
 have k4 := CellP.field Tryz.underlying30 3 _ rfl (of_decide_eq_true (by kernel_rfl)) (cells_cs (enc := enc) (W := W))
 intro j hj
 rcases (show j = 0 ∨ j = 1 ∨ j = 2 ∨ j = 3 ∨ j = 4 by omega) with rfl | rfl | rfl | rfl | rfl
 ·exact k0
 ·exact k1
 ·exact k2
 ·exact k3
 ·exact k4
set_option maxRecDepth 100000 in
theorem open_cert {v : Value} {d : DataW H} {p : List MemPlace} (hok : Value.okWide Tryz.prog W .any base 30 v) (h : DataW.Trod enc Tryz.prog W 0 (fun _ => true) true 30 v d p) : ∃ s : CtA, CtOk W v s := by
 obtain ⟨cs, rfl, hsz, hc⟩ := open_agg (phT W) Tryz.underlying30 (by kernel_rfl) cellsT hok h
 obtain ⟨a, b, c, d', e, rfl⟩ := arr5 hsz
 obtain ⟨u0, e0, l, h0, w0⟩ := hc 0 (by omega)
 obtain ⟨u1, e1, n1, q1, b1⟩ := hc 1 (by omega)
 obtain ⟨u2, e2, n2, q2, b2⟩ := hc 2 (by omega)
 obtain ⟨u3, e3, n3, q3, b3⟩ := hc 3 (by omega)
 obtain ⟨u4, e4, l4, h4⟩ := hc 4 (by omega)
 simp only [List.getElem?_toArray, List.getElem?_cons_zero, List.getElem?_cons_succ, Option.some.injEq] at e0 e1 e2 e3 e4
 subst e0 e1 e2 e3 e4 q1 q2 q3
 exact ⟨⟨_, _, ⟨l, n1, n2, n3, l4⟩⟩, rfl, h0, h4⟩
end
end Go.Proofs.YtlmcoollkmhanaaGreat
