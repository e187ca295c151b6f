/- The frame of a statement whose card ties the table of math/bits: what the condition gives, and the lift of a walk. -/
import Derived.Test.YtodkmbjhdckjiaaDoorFr
import Derived.Test.YtodkmbjhdckjiaaDoorTie
import Derived.Test.YtodkmbjhdckjiaaDoorCards
import Derived.LaidMore
import Derived.OpenShut
import Derived.Stop.Joined
import Derived.SevenTiedAt
import Derived.Shelf.Spec.TrailingZeros
namespace Go.Proofs.YtodkmbjhdckjiaaDoor
open Go.ChangeShapes Go.WideShapes Go.ChangeAt Go.RowKit Go.Joins Go.Deep
abbrev laidT : List (String × DataW Unit) := [("math/bits.deBruijn32tab", Rows.laid_math_bits_deBruijn32tab)]
theorem gTab : Tryd.prog.globalNamed "math/bits.deBruijn32tab" = some 0 := by kernel_rfl
theorem tTab : (Tryd.prog.globals[0]?).map (·.type) = some 81 := by kernel_rfl
theorem c8Tab : Tryd.prog.cellsOf 5 = 1 := by kernel_rfl
theorem datTab : (Rows.laid_math_bits_deBruijn32tab : DataW Unit) = .agg (Lib.deBruijn32tab.map fun (n : Nat) => .lit (.int .u8 n)) := by kernel_rfl
/-- What the condition gives the walks: the table's cells. -/
theorem tab_of_laid {W : World} (h : laidMetH Tryd.prog laidT W) : TabAt 0 Lib.deBruijn32tab W := by
  rw [MakeChecks.laidMetH_plain _ _ _ (by kernel_rfl)] at h
  obtain ⟨ps, ⟨g0, t0, cs0, f0, p0, q0, hg0, ht0, hv0, hd0, _, _⟩, _, _⟩ := h
  obtain rfl := Option.some.inj (gTab.symm.trans hg0)
  obtain rfl := Option.some.inj (tTab.symm.trans ht0)
  obtain ⟨xs, m1, rfl, hx1, hlen, hn, hel⟩ := DataW.trod_array Tryd.underlying81 hd0
  simp only [Prod.mk.injEq] at hx1
  rw [datTab] at hx1
  simp only [DataW.agg.injEq] at hx1
  intro j hj
  have hj32 : j < 32 := hj
  have h1 := hel j hj32
  rw [c8Tab, List.getElem?_eq_getElem (by omega), Nat.mul_one] at h1
  obtain ⟨k, e1, e2, _⟩ := DataW.trod_int Tryd.underlying5 h1
  have h2 := congrArg (fun l => l[j]?) hx1.1
  simp only [List.getElem?_map] at h2
  rw [List.getElem?_eq_getElem (show j < xs.length by omega), List.getElem?_eq_getElem hj] at h2
  simp only [Option.map_some, Option.some.injEq] at h2
  rw [e2] at h2
  have hk : k = ((Lib.deBruijn32tab.getD j 0 : Nat) : Int) := by
    rw [List.getD_eq_getElem?_getD, List.getElem?_eq_getElem hj]
    simpa using h2.symm
  subst hk
  have h3 := World.var?_cell hg0 hv0 j
  have h4 := congrArg (fun l => l[0]?) e1
  simp only [List.getElem?_take, List.getElem?_drop] at h4
  simp at h4
  rw [h3]
  first | exact h4 | simpa using h4
theorem door_met (os : Os) (args : Array Value) : laidMetH Tryd.prog laidT ((World.doorLaid Tryd.prog 400 os).forCall (fun _ _ => 0) ⟨#[], args, []⟩).memory :=
  laidMetH_of_parts3 (fuel := 8) (laidMet_of_run' 8 (by kernel_rfl) (by kernel_rfl)) (by kernel_rfl) (by kernel_rfl)
section
variable {H : Type} {enc : TypeId × Value → H}
set_option maxRecDepth 100000 in
theorem law_liftedT {os : Os} (started : os.Started) (f : Nat) (F : Func) (hF : Tryd.prog.funcs[f]? = some F) (hinit : Tryd.prog.inits.idxOf? f = none) (s : ChangeSpec) (hres : F.resultTypes = #[4]) (hsv : s.vars = [])
    (hfn : ∀ ds : List (DataW H), ds.length = F.params.toList.length → (s.fn H (ds ++ [])).results = [.lit (.bool true)] ∧ (s.fn H (ds ++ [])).args = ds ∧ (s.fn H (ds ++ [])).vars = [])
    (hread : ∀ t, t ∈ F.params.toList → Tryd.prog.readableRec t = true ∧ t < Tryd.prog.types.size)
    (wit : ∃ (w : World) (tape : Tape) (i : Input), w.os = os ∧ (w.forCall tape i).Shaped Tryd.checked.prog ∧ i.vars = [] ∧ Input.okWide Tryd.checked.prog (w.forCall tape i) .any w.heap.size f i ∧
      ((s.pre enc Tryd.checked.prog F [] false (w.forCall tape i).memory i.args ∧ laidMetH Tryd.prog laidT (w.forCall tape i).memory) ∧ sizedMet enc Tryd.checked.prog F (OpenSpec.ofChange s) false (w.forCall tape i).memory i.args) ∧ ({} : Assume).holds Tryd.checked.prog (lone (Frame.enter Tryd.checked.prog f i.args .normal) [] (w.forCall tape i)))
    (walk : ∀ (W : World) (base : Nat) (args : Array Value) (ds : List (DataW H)) (p : List MemPlace), TabAt 0 Lib.deBruijn32tab W → DataW.TrodAll enc Tryd.prog W 0 (fun _ => true) true F.params.toList args.toList ds p →
      (∀ (j : Nat) t v, F.params[j]? = some t → args[j]? = some v → Value.okWide Tryd.prog W .any base t v) → Calls Tryd.prog f args W fun e w' => e = .returned (.bool true) ∧ Below W.heap.size W w') :
    ReturnsInHanded {} Tryd.checked os f .any (fun w args => (s.pre enc Tryd.prog F [] false w args ∧ laidMetH Tryd.prog laidT w) ∧ sizedMet enc Tryd.prog F (OpenSpec.ofChange s) false w args) (s.post enc Tryd.prog F false true false false) := by
  refine returnsInHanded_of_change_and (C := Tryd.checked) (X := fun w _ => laidMetH Tryd.prog laidT w) (fun _ _ _ hh h => h.of_heap hh) ownOk started hinit hF wit ?_
  intro W base args ds gs before hval0 hW _ _ hL _
  have hW' := hW
  have hlt0 : ∀ x ∈ before, x.block < W.heap.size := fun x hx => hW.lt x hx
  obtain ⟨p, q, hA, hV, rfl, hfz, hnd⟩ := hW
  rw [hsv] at hV
  obtain ⟨rfl, rfl⟩ := trodVars_none hV
  simp only [List.append_nil] at hW' hlt0
  have hlen := (trodAll_len _ _ _ _ hA).2
  obtain ⟨r1, r2, r3⟩ := hfn ds hlen
  refine (walk W base args ds p (tab_of_laid hL) hA hval0).mono fun e W' ⟨he, hb⟩ => ?_
  subst he
  refine ⟨_, rfl, ds, [], p, [], p, [], hW', ?_, ?_, ?_, hb.frame _, fun h => by cases h⟩
  · rw [hres, r1]; exact trodAll_mk1 (shut_bool Tryd.underlying4 true)
  · rw [r2]; exact trodAll_later hb _ _ _ _ hread hlt0 hA
  · rw [hsv, r3]; rfl
end
end Go.Proofs.YtodkmbjhdckjiaaDoor
