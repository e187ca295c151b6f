
/- Answers and scenes that came in by value, opened. -/
import Derived.Test.YtigjljmhpkeahaaGreatScA
namespace Go.Proofs.YtigjljmhpkeahaaGreat
open Go.ChangeShapes Go.WideShapes Go.ChangeAt Go.RowKit Go.Joins Go.Deep
section
variable {H : Type} {enc : TypeId × Value → H} {W : World} {base : Nat}
def I64 (n : Int) : Prop := -9223372036854775808 ≤ n ∧ n ≤ 9223372036854775807
def AnWf (a : An) : Prop := I64 a.au ∧ I64 a.ou ∧ I64 a.bk ∧ I64 a.lo ∧ I64 a.hi
def phA (j : Nat) (v : Value) : Prop := if j = 1 then IsBl v else IsI64 v
set_option maxRecDepth 100000 in
theorem cellsA : ∀ j, j < 6 → CellP enc Tryz.prog W 0 (fun _ => true) true 59 j (phA j) := by
 have c1 : CellP enc Tryz.prog W 0 (fun _ => true) true 3 0 IsI64 := CellP.int Tryz.underlying3
 have c2 : CellP enc Tryz.prog W 0 (fun _ => true) true 4 0 IsBl := CellP.bool Tryz.underlying4
 have i0 := CellP.field Tryz.underlying41 0 _ rfl (of_decide_eq_true (by kernel_rfl)) c1
 have i1 := CellP.field Tryz.underlying41 1 _ rfl (of_decide_eq_true (by kernel_rfl)) c1
 have k0 := CellP.field Tryz.underlying59 0 _ rfl (of_decide_eq_true (by kernel_rfl)) c1
 have k1 := CellP.field Tryz.underlying59 1 _ rfl (of_decide_eq_true (by kernel_rfl)) c2
 have k2 := CellP.field Tryz.underlying59 2 _ rfl (of_decide_eq_true (by kernel_rfl)) c1
 have k3 := CellP.field Tryz.underlying59 3 _ rfl (of_decide_eq_true (by kernel_rfl)) c1
 have k4 := CellP.field Tryz.underlying59 4 _ rfl (of_decide_eq_true (by kernel_rfl)) i0
 have k5 := CellP.field Tryz.underlying59 4 _ rfl (of_decide_eq_true (by kernel_rfl)) i1
 intro j hj
 rcases (show j = 0 ∨ j = 1 ∨ j = 2 ∨ j = 3 ∨ j = 4 ∨ j = 5 by omega) with rfl | rfl | rfl | rfl | rfl | rfl
 ·exact k0
 ·exact k1
 ·exact k2
 ·exact k3
 ·exact k4
 ·exact k5
set_option maxRecDepth 100000 in
theorem cells_an : CellP enc Tryz.prog W 0 (fun _ => true) true 28 0 fun v => ∃ l, AnRow W v l ∧ ∀ x, x ∈ l → AnWf x := by
 refine CellP.rows encA an0 AnWf phA Tryz.underlying28 (by kernel_rfl) (by omega) cellsA encA_length fun G hG => ?_
 obtain ⟨n0, e0, b0⟩ := hG 0 (by omega)
 obtain ⟨n1, e1⟩ := hG 1 (by omega)
 obtain ⟨n2, e2, b2⟩ := hG 2 (by omega)
 obtain ⟨n3, e3, b3⟩ := hG 3 (by omega)
 obtain ⟨n4, e4, b4⟩ := hG 4 (by omega)
 obtain ⟨n5, e5, b5⟩ := hG 5 (by omega)
 refine ⟨⟨n0, n1, n2, n3, n4, n5⟩, fun j hj => ?_, b0, b2, b3, b4, b5⟩
 rcases (show j = 0 ∨ j = 1 ∨ j = 2 ∨ j = 3 ∨ j = 4 ∨ j = 5 by omega) with rfl | rfl | rfl | rfl | rfl | rfl
 ·rw [e0]; rfl
 ·rw [e1]; rfl
 ·rw [e2]; rfl
 ·rw [e3]; rfl
 ·rw [e4]; rfl
 ·rw [e5]; rfl
structure SnA where
 uv : Value
 av : Value
 sc : Sc
def SnOk (W : World) (v : Value) (x : SnA) : Prop := v = .agg #[x.uv, .int .i64 x.sc.ev, .int .i64 x.sc.at_, x.av, .int .i64 x.sc.ct] ∧ (IsRow W x.uv x.sc.use ∧ WfI x.sc.use) ∧ (AnRow W x.av x.sc.an ∧ ∀ a, a ∈ x.sc.an → AnWf a) ∧ I64 x.sc.ev ∧ I64 x.sc.at_ ∧ I64 x.sc.ct
def phS (W : World) (j : Nat) (v : Value) : Prop := if j = 0 then (∃ l, IsRow W v l ∧ WfI l) else if j = 3 then (∃ l, AnRow W v l ∧ ∀ x, x ∈ l → AnWf x) else IsI64 v
set_option maxRecDepth 100000 in
theorem cellsS : ∀ j, j < 5 → CellP enc Tryz.prog W 0 (fun _ => true) true 30 j (phS W j) := by
 have c1 : CellP enc Tryz.prog W 0 (fun _ => true) true 3 0 IsI64 := CellP.int Tryz.underlying3
 have s0 := CellP.field Tryz.underlying27 0 _ rfl (of_decide_eq_true (by kernel_rfl)) (cellP_ints (enc := enc) (W := W))
 have s1 := CellP.field Tryz.underlying27 1 _ rfl (of_decide_eq_true (by kernel_rfl)) c1
 have k0 := CellP.field Tryz.underlying30 0 _ rfl (of_decide_eq_true (by kernel_rfl)) s0
 have k1 := CellP.field Tryz.underlying30 0 _ rfl (of_decide_eq_true (by kernel_rfl)) s1
 have k2 := CellP.field Tryz.underlying30 1 _ rfl (of_decide_eq_true (by kernel_rfl)) c1
 have k3 := CellP.field Tryz.underlying30 2 _ rfl (of_decide_eq_true (by kernel_rfl)) (cells_an (enc := enc) (W := W))
 have k4 := CellP.field Tryz.underlying30 3 _ rfl (of_decide_eq_true (by kernel_rfl)) c1
 intro j hj
 rcases (show j = 0 ∨ j = 1 ∨ j = 2 ∨ j = 3 ∨ j = 4 by omega) with rfl | rfl | rfl | rfl | rfl
 ·exact k0
 ·exact k1
 ·exact k2
 ·exact k3
 ·exact k4
set_option maxRecDepth 100000 in
theorem open_scene {v : Value} {d : DataW H} {p : List MemPlace} (hok : Value.okWide Tryz.prog W .any base 30 v) (h : DataW.Trod enc Tryz.prog W 0 (fun _ => true) true 30 v d p) : ∃ s : SnA, SnOk W v s := by
 obtain ⟨cs, rfl, hsz, hc⟩ := open_agg (phS W) Tryz.underlying30 (by kernel_rfl) cellsS hok h
 obtain ⟨a, b, c, d', e, rfl⟩ := arr5 hsz
 obtain ⟨u0, e0, l, h0, w0⟩ := hc 0 (by omega)
 obtain ⟨u1, e1, n1, q1, b1⟩ := hc 1 (by omega)
 obtain ⟨u2, e2, n2, q2, b2⟩ := hc 2 (by omega)
 obtain ⟨u3, e3, l3, h3, w3⟩ := hc 3 (by omega)
 obtain ⟨u4, e4, n4, q4, b4⟩ := hc 4 (by omega)
 simp only [List.getElem?_toArray, List.getElem?_cons_zero, List.getElem?_cons_succ, Option.some.injEq] at e0 e1 e2 e3 e4
 subst e0 e1 e2 e3 e4 q1 q2 q4
 exact ⟨⟨_, _, ⟨l, n1, n2, l3, n4⟩⟩, rfl, ⟨h0, w0⟩, ⟨h3, w3⟩, b1, b2, b4⟩
end
end Go.Proofs.YtigjljmhpkeahaaGreat
