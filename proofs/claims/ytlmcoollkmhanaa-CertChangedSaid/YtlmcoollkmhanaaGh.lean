
/- Parts Fr Fl Fs Fg of the proof, joined. -/
import Derived.Test.YtlmcoollkmhanaaRows
import Derived.Test.YtlmcoollkmhanaaGa
import Derived.ProofKit
import Derived.Lib.SmallJoins
import Derived.Deep.Slices
import Derived.Deep.Fields
import Derived.Test.YtlmcoollkmhanaaGd
/- The frame that every statement of this seat shares: a function that answers true and leaves what was there alone fits its row. -/
namespace Go.Proofs.Ytlmcoollkmhanaa
open Go.ChangeShapes Go.WideShapes Go.ChangeAt Go.RowKit Go.Joins Go.Deep

theorem ownOk : ownKnob Try.prog.godebug = none := by kernel_rfl
theorem laidOk : laidOutB Try.prog = true := by kernel_rfl

section
variable {H : Type} {enc : TypeId × Value → H}
theorem trodAll_later {W W' : World} (hb : Below W.heap.size W W') : ∀ (ts : List TypeId) (vs : List Value) (ds : List (DataW H)) (ps : List MemPlace), (∀ t, t ∈ ts → Try.prog.readableRec t = true ∧ t < Try.prog.types.size) → (∀ x ∈ ps, x.block < W.heap.size) →
  DataW.TrodAll enc Try.prog W 0 (fun _ => true) true ts vs ds ps → DataW.TrodAll enc Try.prog W' 0 (fun b => decide (b < W.heap.size)) true ts vs ds ps
 | [], [], [], ps, _, _, h => h
 | t :: ts, v :: vs, d :: ds, ps, hr, hlt, h => by
  obtain ⟨p, q, h1, h2, rfl⟩ := h
  have ht := hr t List.mem_cons_self
  exact ⟨p, q, Below.trod laidOk ht.1 ht.2 h1 hb (fun x hx => hlt x (List.mem_append.2 (.inl hx))), trodAll_later hb ts vs ds q (fun t' h' => hr t' (List.mem_cons_of_mem _ h')) (fun x hx => hlt x (List.mem_append.2 (.inr hx))) h2, rfl⟩
 | [], _ :: _, _, _, _, _, h => h.elim
 | [], [], _ :: _, _, _, _, h => h.elim
 | _ :: _, [], _, _, _, _, h => h.elim
 | _ :: _, _ :: _, [], _, _, _, h => h.elim
theorem trodAll_len {W : World} {b : Nat} {sp : Nat → Bool} {hd : Bool} : ∀ (ts : List TypeId) (vs : List Value) (ds : List (DataW H)) (ps : List MemPlace), DataW.TrodAll enc Try.prog W b sp hd ts vs ds ps → vs.length = ts.length ∧ ds.length = ts.length
 | [], [], [], _, _ => ⟨rfl, rfl⟩
 | _ :: ts, _ :: vs, _ :: ds, _, h => by
  obtain ⟨p, q, _, h2, _⟩ := h
  have := trodAll_len ts vs ds q h2
  exact ⟨by simp [this.1], by simp [this.2]⟩
 | [], _ :: _, _, _, h => h.elim
 | [], [], _ :: _, _, h => h.elim
 | _ :: _, [], _, _, h => h.elim
 | _ :: _, _ :: _, [], _, h => h.elim
set_option maxRecDepth 100000 in
theorem law_lifted {os : Os} (started : os.Started) (f : Nat) (F : Func) (hF : Try.prog.funcs[f]? = some F) (hinit : Try.prog.inits.idxOf? f = none) (s : ChangeSpec) (hres : F.resultTypes = #[4]) (hsv : s.vars = [])
  (hfn : ∀ ds : List (DataW H), ds.length = F.params.toList.length → (s.fn H (ds ++ [])).results = [.lit (.bool true)] ∧ (s.fn H (ds ++ [])).args = ds ∧ (s.fn H (ds ++ [])).vars = [])
  (hread : ∀ t, t ∈ F.params.toList → Try.prog.readableRec t = true ∧ t < Try.prog.types.size)
  (wit : ∃ (w : World) (tape : Tape) (i : Input), w.os = os ∧ (w.forCall tape i).Shaped Try.checked.prog ∧ i.vars = [] ∧ Input.okWide Try.checked.prog (w.forCall tape i) .any w.heap.size f i ∧
   s.pre6 enc Try.checked.prog F [] false (w.forCall tape i).memory i.args ∧ ({} : Assume).holds Try.checked.prog (lone (Frame.enter Try.checked.prog f i.args .normal) [] (w.forCall tape i)))
  (walk : ∀ (W : World) (base : Nat) (args : Array Value) (ds : List (DataW H)) (p : List MemPlace), DataW.TrodAll enc Try.prog W 0 (fun _ => true) true F.params.toList args.toList ds p →
   (∀ (j : Nat) t v, F.params[j]? = some t → args[j]? = some v → Value.okWide Try.prog W .any base t v) → Calls Try.prog f args W fun e w' => e = .returned (.bool true) ∧ Below W.heap.size W w') :
  ReturnsInHanded {} Try.checked os f .any (s.pre6 enc Try.prog F [] false) (s.post enc Try.prog F false true false false) := by
 refine returnsInHanded_of_change (C := Try.checked) ownOk started hinit hF wit ?_
 intro W base args ds gs before hval0 hW _ _
 have hW' := hW
 have hlt0 : ∀ x ∈ before, x.block < W.heap.size := fun x hx => hW.lt x hx
 obtain ⟨p, q, hA, hV, rfl, hfz, hnd⟩ := hW
 rw [hsv] at hV
 obtain ⟨rfl, rfl⟩ := trodVars_none hV
 simp only [List.append_nil] at hW' hlt0
 have hlen := (trodAll_len _ _ _ _ hA).2
 obtain ⟨r1, r2, r3⟩ := hfn ds hlen
 refine (walk W base args ds p hA hval0).mono fun e W' ⟨he, hb⟩ => ?_
 subst he
 refine ⟨_, rfl, ds, [], p, [], p, [], hW', ?_, ?_, ?_, hb.frame _, fun h => by cases h⟩
 ·rw [hres, r1]; exact trodAll_mk1 (shut_bool Try.underlying4 true)
 ·rw [r2]; exact trodAll_later hb _ _ _ _ hread hlt0 hA
 ·rw [hsv, r3]; rfl
end

section
variable {H : Type} {enc : TypeId × Value → H} {P : Program} {w : World} {base : Nat} {spare : Nat → Bool} {held : Bool}
end
section
variable {H : Type} {enc : TypeId × Value → H} {W : World} {base : Nat}
theorem wf_i64 {x : Int} (h : (Lit.int .i64 x).wf = true) : -9223372036854775808 ≤ x ∧ x ≤ 9223372036854775807 := by
 simpa [Lit.wf, IntKind.min, IntKind.max, IntKind.signed, IntKind.bits] using h
set_option maxRecDepth 100000 in
theorem open_i64 {t : TypeId} {v : Value} {d : DataW H} {p : List MemPlace} (ht : Try.prog.underlying t = some (.int .i64)) (hok : Value.okWide Try.prog W .any base t v) (h : DataW.Trod enc Try.prog W 0 (fun _ => true) true t v d p) :
  ∃ x : Int, v = .int .i64 x ∧ -9223372036854775808 ≤ x ∧ x ≤ 9223372036854775807 := by
 obtain ⟨x, rfl, _, _, wx⟩ := open_int ht hok h
 exact ⟨x, rfl, wf_i64 wx⟩
set_option maxRecDepth 100000 in
theorem open_u8 {t : TypeId} {v : Value} {d : DataW H} {p : List MemPlace} (ht : Try.prog.underlying t = some (.int .u8)) (hok : Value.okWide Try.prog W .any base t v) (h : DataW.Trod enc Try.prog W 0 (fun _ => true) true t v d p) :
  ∃ x : Int, v = .int .u8 x ∧ 0 ≤ x ∧ x ≤ 255 := by
 obtain ⟨x, rfl, _, _, wx⟩ := open_int ht hok h
 exact ⟨x, rfl, by simpa [Lit.wf, IntKind.min, IntKind.max, IntKind.signed, IntKind.bits] using wx⟩
set_option maxRecDepth 100000 in
theorem open_u16 {t : TypeId} {v : Value} {d : DataW H} {p : List MemPlace} (ht : Try.prog.underlying t = some (.int .u16)) (hok : Value.okWide Try.prog W .any base t v) (h : DataW.Trod enc Try.prog W 0 (fun _ => true) true t v d p) :
  ∃ x : Int, v = .int .u16 x ∧ 0 ≤ x ∧ x ≤ 65535 := by
 obtain ⟨x, rfl, _, _, wx⟩ := open_int ht hok h
 exact ⟨x, rfl, by simpa [Lit.wf, IntKind.min, IntKind.max, IntKind.signed, IntKind.bits] using wx⟩
end
end Go.Proofs.Ytlmcoollkmhanaa
/- Values whose cells are all integers, opened: a slice of such elements, a structure by value. -/
namespace Go.Proofs.Ytlmcoollkmhanaa
open Go.ChangeShapes Go.WideShapes Go.ChangeAt Go.RowKit Go.Joins Go.Deep
section
variable {H : Type} {enc : TypeId × Value → H} {P : Program} {w : World} {base : Nat} {spare : Nat → Bool} {held : Bool}
def CellInt {H : Type} (enc : TypeId × Value → H) (P : Program) (w : World) (base : Nat) (spare : Nat → Bool) (held : Bool) (t : TypeId) (j : Nat) (k : IntKind) : Prop :=
 ∀ (fuel : Nat) (cs : List Value) (x : DataW H × List MemPlace), DataW.trod enc P w base spare held fuel t cs = some x → ∃ n : Int, cs[j]? = some (.int k n) ∧ (Lit.int k n).wf = true
theorem CellInt.int {t : TypeId} {k : IntKind} (ht : P.underlying t = some (.int k)) : CellInt enc P w base spare held t 0 k := by
 intro fuel cs x h
 obtain ⟨n, rfl, _, hw⟩ := DataW.trod_int ht h
 exact ⟨n, rfl, hw⟩
theorem CellInt.field {t : TypeId} {fs : Array Field} {j : Nat} {k : IntKind} (ht : P.underlying t = some (.struct fs)) (i : Nat) (f : Field) (hf : fs[i]? = some f) (hj : j < P.cellsOf f.type)
  (h : CellInt enc P w base spare held f.type j k) : CellInt enc P w base spare held t (f.offset + j) k := by
 intro fuel cs x hx
 obtain ⟨xs, n, _, _, hl, hlen, hfld⟩ := DataW.trod_struct ht hx
 have h1 := hfld i f hf
 have hi : i < fs.size := (Array.getElem?_eq_some_iff.1 hf).1
 rw [List.getElem?_eq_getElem (show i < xs.length by omega)] at h1
 obtain ⟨m, h2, h3⟩ := h _ _ _ h1
 refine ⟨m, ?_, h3⟩
 rw [List.getElem?_take_of_lt hj, List.getElem?_drop] at h2
 exact h2
end
end Go.Proofs.Ytlmcoollkmhanaa
/- A slice of integers that came in, opened. -/
namespace Go.Proofs.Ytlmcoollkmhanaa
open Go.ChangeShapes Go.WideShapes Go.ChangeAt Go.RowKit Go.Joins Go.Deep
section
variable {H : Type} {enc : TypeId × Value → H} {W : World} {base : Nat}
def WfI (l : List Int) : Prop := ∀ i, i < l.length → -9223372036854775808 ≤ iAt l i ∧ iAt l i ≤ 9223372036854775807
end
end Go.Proofs.Ytlmcoollkmhanaa
/- A site and a schedule that came in by value, opened. -/
namespace Go.Proofs.Ytlmcoollkmhanaa
open Go.ChangeShapes Go.WideShapes Go.ChangeAt Go.RowKit Go.Joins Go.Deep
section
variable {H : Type} {enc : TypeId × Value → H} {P : Program} {w : World} {base : Nat} {spare : Nat → Bool} {held : Bool}
theorem field_one {fs : Array Field} {n : Nat} {cs : List Value} {xs : List (DataW H × List MemPlace)}
  (hfld : ∀ (i : Nat) (f : Field), fs[i]? = some f → DataW.trod enc P w base spare held n f.type ((cs.drop f.offset).take (P.cellsOf f.type)) = xs[i]?)
  (i : Nat) {t o : Nat} {c : Value} (hf : (fs[i]?.map fun f => (f.type, f.offset)) = some (t, o)) (h1 : P.cellsOf t = 1) (hc : cs[o]? = some c) : DataW.trod enc P w base spare held n t [c] = xs[i]? := by
 cases hx : fs[i]? with
 | none => rw [hx] at hf; cases hf
 | some f =>
  rw [hx] at hf
  simp only [Option.map_some, Option.some.injEq, Prod.mk.injEq] at hf
  obtain ⟨rfl, rfl⟩ := hf
  have h := hfld i f hx
  rw [h1] at h
  have hl : f.offset < cs.length := (List.getElem?_eq_some_iff.1 hc).1
  have e : (cs.drop f.offset).take 1 = [c] := by
   rw [List.drop_eq_getElem_cons hl, ← (List.getElem?_eq_some_iff.1 hc).2]
   rfl
  rw [e] at h
  exact h
theorem open_flat_cell {t e : TypeId} {C : Nat} (ks : Nat → IntKind) {fuel : Nat} {cs : List Value} {x : DataW H × List MemPlace} (ht : P.underlying t = some (.slice e)) (hC : P.cellsOf e = C) (hpos : 0 < C)
  (hk : ∀ j, j < C → CellInt enc P w base spare held e j (ks j)) (hf : DataW.trod enc P w base spare held fuel t cs = some x) :
  ∃ (a : Option Addr) (len cap : Nat) (G : Nat → Nat → Int), cs = [.slice a len cap] ∧ len ≤ cap ∧ cap ≤ 9223372036854775807 ∧ ∀ i, i < len → ∃ b off, a = some ⟨b, off, none⟩ ∧ b < w.heap.size ∧
   ∀ j, j < C → w.cell? ⟨b, off + i * C + j, none⟩ = some (.int (ks j) (G i j)) ∧ (Lit.int (ks j) (G i j)).wf = true := by
 rcases open_slice ht hf with ⟨hcs, _⟩ | ⟨a, len, cap, m, n, D, Pl, hcs, _, hl, hm, hmm, _, hi⟩
 ·exact ⟨none, 0, 0, fun _ _ => 0, hcs, Nat.le_refl _, by omega, fun i hi => by omega⟩
 ·have hml : len ≤ m := by rw [hmm]; split <;> omega
  have key : ∀ i j, ∃ q : Int, i < len → j < C → w.cell? (a.add (i * C + j)) = some (.int (ks j) q) ∧ (Lit.int (ks j) q).wf = true := by
   intro i j
   by_cases h1 : i < len
   ·by_cases h2 : j < C
    ·obtain ⟨cs', hc, ht'⟩ := hi i (by omega)
     rw [hC] at hc
     obtain ⟨q, h3, h4⟩ := hk j h2 _ _ _ ht'
     obtain ⟨_, hcl, hat⟩ := World.cells?_some hc
     refine ⟨q, fun _ _ => ⟨?_, h4⟩⟩
     rw [← Go.Deep.add_add, hat j h2, h3]
    ·exact ⟨0, fun _ h => absurd h h2⟩
   ·exact ⟨0, fun h => absurd h h1⟩
  have key2 : ∀ i, ∃ g : Nat → Int, ∀ j, i < len → j < C → w.cell? (a.add (i * C + j)) = some (.int (ks j) (g j)) ∧ (Lit.int (ks j) (g j)).wf = true := fun i => Classical.skolem.1 (key i)
  obtain ⟨G, hG⟩ := Classical.skolem.1 key2
  refine ⟨some a, len, cap, G, hcs, hl, hm, fun i hil => ?_⟩
  obtain ⟨b, off, spot⟩ := a
  have h0 := hG i 0 hil hpos
  have hspot : spot = none := by
   have h5 := (hG 0 0 (by omega) hpos).1
   rw [show 0 * C + 0 = 0 by omega] at h5
   simpa [Addr.add] using World.cell?_spot h5
  subst hspot
  refine ⟨b, off, rfl, ?_, fun j hj => ?_⟩
  ·have := World.block_lt_of_cell? _ _ h0.1
   rw [Go.WideShapes.add_plain] at this
   exact this
  ·have h6 := hG i j hil hj
   rw [Go.WideShapes.add_plain] at h6
   exact ⟨by rw [Nat.add_assoc]; exact h6.1, h6.2⟩
end
section
variable {H : Type} {enc : TypeId × Value → H} {W : World} {base : Nat}
def PrWf (p : Pr) : Prop := (-9223372036854775808 ≤ p.au ∧ p.au ≤ 9223372036854775807) ∧ (-9223372036854775808 ≤ p.er ∧ p.er ≤ 9223372036854775807) ∧ (-9223372036854775808 ≤ p.co ∧ p.co ≤ 9223372036854775807) ∧ (-9223372036854775808 ≤ p.at_ ∧ p.at_ ≤ 9223372036854775807) ∧
 (-9223372036854775808 ≤ p.ol ∧ p.ol ≤ 9223372036854775807) ∧ (-9223372036854775808 ≤ p.oh ∧ p.oh ≤ 9223372036854775807) ∧ (-9223372036854775808 ≤ p.bl ∧ p.bl ≤ 9223372036854775807) ∧ (-9223372036854775808 ≤ p.bh ∧ p.bh ≤ 9223372036854775807)
structure SiA where
 r : Int
 f : Int
 lo : Int
 tm : Int
 pv : Value
 ps : List Pr
def SiOk (W : World) (v : Value) (s : SiA) : Prop := v = .agg #[.int .i64 s.r, .int .i64 s.f, .int .i64 s.lo, .int .i64 s.tm, s.pv] ∧ PrRow W s.pv s.ps ∧ (∀ i, i < s.ps.length → PrWf (pAt s.ps i)) ∧
 (-9223372036854775808 ≤ s.r ∧ s.r ≤ 9223372036854775807) ∧ (-9223372036854775808 ≤ s.f ∧ s.f ≤ 9223372036854775807) ∧ (-9223372036854775808 ≤ s.lo ∧ s.lo ≤ 9223372036854775807) ∧ (-9223372036854775808 ≤ s.tm ∧ s.tm ≤ 9223372036854775807)
structure ScA where
 uv : Value
 use : List Int
 ev : Int
def ScOk (W : World) (v : Value) (c : ScA) : Prop := v = .agg #[c.uv, .int .i64 c.ev] ∧ IsRow W c.uv c.use ∧ WfI c.use ∧ (-9223372036854775808 ≤ c.ev ∧ c.ev ≤ 9223372036854775807)
theorem arr2 {cs : Array Value} (h : cs.size = 2) : ∃ a b, cs = #[a, b] := by
 obtain ⟨l⟩ := cs
 match l, h with
 | [a, b], _ => exact ⟨a, b, rfl⟩
theorem arr5 {cs : Array Value} (h : cs.size = 5) : ∃ a b c d e, cs = #[a, b, c, d, e] := by
 obtain ⟨l⟩ := cs
 match l, h with
 | [a, b, c, d, e], _ => exact ⟨a, b, c, d, e, rfl⟩
set_option maxRecDepth 100000 in
theorem cellPr {spare : Nat → Bool} {held : Bool} {b0 : Nat} (j : Nat) (hj : j < 8) : CellInt enc Try.prog W b0 spare held 58 j .i64 := by
 match j, hj with
 | 0, _ => exact CellInt.field Try.underlying58 0 _ rfl (by decide +kernel) (CellInt.int Try.underlying3)
 | 1, _ => exact CellInt.field Try.underlying58 1 _ rfl (by decide +kernel) (CellInt.int Try.underlying3)
 | 2, _ => exact CellInt.field Try.underlying58 2 _ rfl (by decide +kernel) (CellInt.int Try.underlying3)
 | 3, _ => exact CellInt.field Try.underlying58 3 _ rfl (by decide +kernel) (CellInt.field Try.underlying56 0 _ rfl (by decide +kernel) (CellInt.int Try.underlying3))
 | 4, _ => exact CellInt.field Try.underlying58 3 _ rfl (by decide +kernel) (CellInt.field Try.underlying56 1 _ rfl (by decide +kernel) (CellInt.int Try.underlying3))
 | 5, _ => exact CellInt.field Try.underlying58 3 _ rfl (by decide +kernel) (CellInt.field Try.underlying56 2 _ rfl (by decide +kernel) (CellInt.int Try.underlying3))
 | 6, _ => exact CellInt.field Try.underlying58 3 _ rfl (by decide +kernel) (CellInt.field Try.underlying56 3 _ rfl (by decide +kernel) (CellInt.int Try.underlying3))
 | 7, _ => exact CellInt.field Try.underlying58 3 _ rfl (by decide +kernel) (CellInt.field Try.underlying56 4 _ rfl (by decide +kernel) (CellInt.int Try.underlying3))
set_option maxRecDepth 100000 in
theorem open_prs {fuel : Nat} {cs : List Value} {x : DataW H × List MemPlace} (hf : DataW.trod enc Try.prog W 0 (fun _ => true) true fuel 22 cs = some x) : ∃ (pv : Value) (ps : List Pr), cs = [pv] ∧ PrRow W pv ps ∧ ∀ i, i < ps.length → PrWf (pAt ps i) := by
 obtain ⟨a, len, cap, G, rfl, hl, hm, hc⟩ := open_flat_cell (C := 8) (fun _ => .i64) Try.underlying22 (by kernel_rfl) (by decide) (fun j hj => cellPr j hj) hf
 have e : ∀ i, i < len → pAt ((List.range len).map fun i => (⟨G i 0, G i 1, G i 2, G i 3, G i 4, G i 5, G i 6, G i 7⟩ : Pr)) i = ⟨G i 0, G i 1, G i 2, G i 3, G i 4, G i 5, G i 6, G i 7⟩ := fun i hi => by
  rw [pAt_lt _ _ (by simpa using hi)]; simp
 refine ⟨_, (List.range len).map fun i => (⟨G i 0, G i 1, G i 2, G i 3, G i 4, G i 5, G i 6, G i 7⟩ : Pr), rfl, ⟨a, cap, by simp, by simpa using hl, hm, fun i hi => ?_⟩, fun i hi => ?_⟩
 ·have hi' : i < len := by simpa using hi
  obtain ⟨b, off, h1, h2, h3⟩ := hc i hi'
  refine ⟨b, off, h1, h2, ?_⟩
  rw [e i hi']
  exact ⟨by simpa using (h3 0 (by decide)).1, (h3 1 (by decide)).1, (h3 2 (by decide)).1, (h3 3 (by decide)).1, (h3 4 (by decide)).1, (h3 5 (by decide)).1, (h3 6 (by decide)).1, (h3 7 (by decide)).1⟩
 ·have hi' : i < len := by simpa using hi
  obtain ⟨b, off, h1, h2, h3⟩ := hc i hi'
  rw [e i hi']
  exact ⟨wf_i64 (h3 0 (by decide)).2, wf_i64 (h3 1 (by decide)).2, wf_i64 (h3 2 (by decide)).2, wf_i64 (h3 3 (by decide)).2, wf_i64 (h3 4 (by decide)).2, wf_i64 (h3 5 (by decide)).2, wf_i64 (h3 6 (by decide)).2, wf_i64 (h3 7 (by decide)).2⟩
set_option maxRecDepth 100000 in
theorem open_intsC {fuel : Nat} {cs : List Value} {x : DataW H × List MemPlace} (hf : DataW.trod enc Try.prog W 0 (fun _ => true) true fuel 25 cs = some x) : ∃ (uv : Value) (l : List Int), cs = [uv] ∧ IsRow W uv l ∧ WfI l := by
 obtain ⟨a, len, cap, G, rfl, hl, hm, hc⟩ := open_flat_cell (C := 1) (fun _ => .i64) Try.underlying25 (by kernel_rfl) (by decide) (fun j hj => by
  obtain rfl : j = 0 := by omega
  exact CellInt.int Try.underlying3) hf
 have e : ∀ i, i < len → iAt ((List.range len).map fun i => G i 0) i = G i 0 := fun i hi => by
  rw [iAt_lt _ _ (by simpa using hi)]; simp
 refine ⟨_, (List.range len).map fun i => G i 0, rfl, ⟨a, cap, by simp, by simpa using hl, hm, fun i hi => ?_⟩, fun i hi => ?_⟩
 ·have hi' : i < len := by simpa using hi
  obtain ⟨b, off, h1, h2, h3⟩ := hc i hi'
  have h4 := (h3 0 (by decide)).1
  rw [Nat.mul_one, Nat.add_zero] at h4
  exact ⟨b, off, h1, h2, by rw [e i hi']; exact h4⟩
 ·have hi' : i < len := by simpa using hi
  obtain ⟨b, off, h1, h2, h3⟩ := hc i hi'
  rw [e i hi']
  exact wf_i64 (h3 0 (by decide)).2
set_option maxRecDepth 100000 in
theorem open_site {v : Value} {d : DataW H} {p : List MemPlace} (hok : Value.okWide Try.prog W .any base 24 v) (h : DataW.Trod enc Try.prog W 0 (fun _ => true) true 24 v d p) : ∃ s : SiA, SiOk W v s := by
 obtain ⟨cs, rfl, hsz⟩ := okWide_struct Try.underlying24 hok
 obtain ⟨fuel, hf⟩ := h
 have h5 : cs.size = 5 := hsz.trans (by kernel_rfl)
 obtain ⟨c0, c1, c2, c3, c4, rfl⟩ := arr5 h5
 obtain ⟨xs, n, _, _, hl, hlen, hfld⟩ := DataW.trod_struct Try.underlying24 hf
 have k1 : Try.prog.cellsOf 3 = 1 := by kernel_rfl
 have k2 : Try.prog.cellsOf 22 = 1 := by kernel_rfl
 have g0 := field_one hfld 0 (t := 3) (o := 0) (c := c0) rfl k1 rfl
 have g1 := field_one hfld 1 (t := 3) (o := 1) (c := c1) rfl k1 rfl
 have g2 := field_one hfld 2 (t := 3) (o := 2) (c := c2) rfl k1 rfl
 have g3 := field_one hfld 3 (t := 3) (o := 3) (c := c3) rfl k1 rfl
 have g4 := field_one hfld 4 (t := 22) (o := 4) (c := c4) rfl k2 rfl
 have hx : xs.length = 5 := hlen
 rw [List.getElem?_eq_getElem (by omega)] at g0 g1 g2 g3 g4
 obtain ⟨r, e0, _, w0⟩ := DataW.trod_int Try.underlying3 g0
 obtain ⟨f, e1, _, w1⟩ := DataW.trod_int Try.underlying3 g1
 obtain ⟨lo, e2, _, w2⟩ := DataW.trod_int Try.underlying3 g2
 obtain ⟨tm, e3, _, w3⟩ := DataW.trod_int Try.underlying3 g3
 obtain ⟨pv, ps, e4, hp, hw⟩ := open_prs g4
 simp only [List.cons.injEq, and_true] at e0 e1 e2 e3 e4
 subst e0 e1 e2 e3 e4
 exact ⟨⟨r, f, lo, tm, c4, ps⟩, rfl, hp, hw, wf_i64 w0, wf_i64 w1, wf_i64 w2, wf_i64 w3⟩
set_option maxRecDepth 100000 in
theorem open_sched {v : Value} {d : DataW H} {p : List MemPlace} (hok : Value.okWide Try.prog W .any base 27 v) (h : DataW.Trod enc Try.prog W 0 (fun _ => true) true 27 v d p) : ∃ c : ScA, ScOk W v c := by
 obtain ⟨cs, rfl, hsz⟩ := okWide_struct Try.underlying27 hok
 obtain ⟨fuel, hf⟩ := h
 have h5 : cs.size = 2 := hsz.trans (by kernel_rfl)
 obtain ⟨c0, c1, rfl⟩ := arr2 h5
 obtain ⟨xs, n, _, _, hl, hlen, hfld⟩ := DataW.trod_struct Try.underlying27 hf
 have k1 : Try.prog.cellsOf 3 = 1 := by kernel_rfl
 have k2 : Try.prog.cellsOf 25 = 1 := by kernel_rfl
 have g0 := field_one hfld 0 (t := 25) (o := 0) (c := c0) rfl k2 rfl
 have g1 := field_one hfld 1 (t := 3) (o := 1) (c := c1) rfl k1 rfl
 have hx : xs.length = 2 := hlen
 rw [List.getElem?_eq_getElem (by omega)] at g0 g1
 obtain ⟨uv, l, e0, hp, hw⟩ := open_intsC g0
 obtain ⟨ev, e1, _, w1⟩ := DataW.trod_int Try.underlying3 g1
 simp only [List.cons.injEq, and_true] at e0 e1
 subst e0 e1
 exact ⟨⟨c0, l, ev⟩, rfl, hp, hw, wf_i64 w1⟩
end
end Go.Proofs.Ytlmcoollkmhanaa
