/- The frame that every statement of this seat shares: a function that answers true and leaves what was there alone fits its row. -/
import Derived.Test.YtiaahfccebmkdaaRows
import Derived.Test.YtiaahfccebmkdaaIvP
import Derived.ProofKit
import Derived.Lib.SmallJoins
import Derived.Deep.Slices
import Derived.Deep.Fields
namespace Go.Proofs.Ytiaahfccebmkdaa
open Go.ChangeShapes Go.WideShapes Go.ChangeAt Go.RowKit Go.Joins Go.Deep

theorem ownOk : ownKnob Try.prog.godebug = none := by kernel_rfl
theorem laidOk : laidOutB Try.prog = true := by kernel_rfl

section
variable {H : Type} {enc : TypeId × Value → H}
theorem trodAll_later {W W' : World} (hb : Below W.heap.size W W') : ∀ (ts : List TypeId) (vs : List Value) (ds : List (DataW H)) (ps : List MemPlace), (∀ t, t ∈ ts → Try.prog.readableRec t = true ∧ t < Try.prog.types.size) → (∀ x ∈ ps, x.block < W.heap.size) →
    DataW.TrodAll enc Try.prog W 0 (fun _ => true) true ts vs ds ps → DataW.TrodAll enc Try.prog W' 0 (fun b => decide (b < W.heap.size)) true ts vs ds ps
  | [], [], [], ps, _, _, h => h
  | t :: ts, v :: vs, d :: ds, ps, hr, hlt, h => by
    obtain ⟨p, q, h1, h2, rfl⟩ := h
    have ht := hr t List.mem_cons_self
    exact ⟨p, q, Below.trod laidOk ht.1 ht.2 h1 hb (fun x hx => hlt x (List.mem_append.2 (.inl hx))), trodAll_later hb ts vs ds q (fun t' h' => hr t' (List.mem_cons_of_mem _ h')) (fun x hx => hlt x (List.mem_append.2 (.inr hx))) h2, rfl⟩
  | [], _ :: _, _, _, _, _, h => h.elim
  | [], [], _ :: _, _, _, _, h => h.elim
  | _ :: _, [], _, _, _, _, h => h.elim
  | _ :: _, _ :: _, [], _, _, _, h => h.elim
theorem trodAll_len {W : World} {b : Nat} {sp : Nat → Bool} {hd : Bool} : ∀ (ts : List TypeId) (vs : List Value) (ds : List (DataW H)) (ps : List MemPlace), DataW.TrodAll enc Try.prog W b sp hd ts vs ds ps → vs.length = ts.length ∧ ds.length = ts.length
  | [], [], [], _, _ => ⟨rfl, rfl⟩
  | _ :: ts, _ :: vs, _ :: ds, _, h => by
    obtain ⟨p, q, _, h2, _⟩ := h
    have := trodAll_len ts vs ds q h2
    exact ⟨by simp [this.1], by simp [this.2]⟩
  | [], _ :: _, _, _, h => h.elim
  | [], [], _ :: _, _, h => h.elim
  | _ :: _, [], _, _, h => h.elim
  | _ :: _, _ :: _, [], _, h => h.elim
set_option maxRecDepth 100000 in
theorem law_lifted {os : Os} (started : os.Started) (f : Nat) (F : Func) (hF : Try.prog.funcs[f]? = some F) (hinit : Try.prog.inits.idxOf? f = none) (s : ChangeSpec) (hres : F.resultTypes = #[4]) (hsv : s.vars = [])
    (hfn : ∀ ds : List (DataW H), ds.length = F.params.toList.length → (s.fn H (ds ++ [])).results = [.lit (.bool true)] ∧ (s.fn H (ds ++ [])).args = ds ∧ (s.fn H (ds ++ [])).vars = [])
    (hread : ∀ t, t ∈ F.params.toList → Try.prog.readableRec t = true ∧ t < Try.prog.types.size)
    (wit : ∃ (w : World) (tape : Tape) (i : Input), w.os = os ∧ (w.forCall tape i).Shaped Try.checked.prog ∧ i.vars = [] ∧ Input.okWide Try.checked.prog (w.forCall tape i) .any w.heap.size f i ∧
      s.pre6 enc Try.checked.prog F [] false (w.forCall tape i).memory i.args ∧ ({} : Assume).holds Try.checked.prog (lone (Frame.enter Try.checked.prog f i.args .normal) [] (w.forCall tape i)))
    (walk : ∀ (W : World) (base : Nat) (args : Array Value) (ds : List (DataW H)) (p : List MemPlace), DataW.TrodAll enc Try.prog W 0 (fun _ => true) true F.params.toList args.toList ds p →
      (∀ (j : Nat) t v, F.params[j]? = some t → args[j]? = some v → Value.okWide Try.prog W .any base t v) → Calls Try.prog f args W fun e w' => e = .returned (.bool true) ∧ Below W.heap.size W w') :
    ReturnsInHanded {} Try.checked os f .any (s.pre6 enc Try.prog F [] false) (s.post enc Try.prog F false true false false) := by
  refine returnsInHanded_of_change (C := Try.checked) ownOk started hinit hF wit ?_
  intro W base args ds gs before hval0 hW _ _
  have hW' := hW
  have hlt0 : ∀ x ∈ before, x.block < W.heap.size := fun x hx => hW.lt x hx
  obtain ⟨p, q, hA, hV, rfl, hfz, hnd⟩ := hW
  rw [hsv] at hV
  obtain ⟨rfl, rfl⟩ := trodVars_none hV
  simp only [List.append_nil] at hW' hlt0
  have hlen := (trodAll_len _ _ _ _ hA).2
  obtain ⟨r1, r2, r3⟩ := hfn ds hlen
  refine (walk W base args ds p hA hval0).mono fun e W' ⟨he, hb⟩ => ?_
  subst he
  refine ⟨_, rfl, ds, [], p, [], p, [], hW', ?_, ?_, ?_, hb.frame _, fun h => by cases h⟩
  · rw [hres, r1]; exact trodAll_mk1 (shut_bool Try.underlying4 true)
  · rw [r2]; exact trodAll_later hb _ _ _ _ hread hlt0 hA
  · rw [hsv, r3]; rfl
end

section
variable {H : Type} {enc : TypeId × Value → H} {P : Program} {w : World} {base : Nat} {spare : Nat → Bool} {held : Bool}
theorem open_slice_fields {t e : TypeId} {fs : Array Field} {fuel : Nat} {cs : List Value} {x : DataW H × List MemPlace} (ht : P.underlying t = some (.slice e)) (he : P.underlying e = some (.struct fs))
    (hone : oneCellFields P fs = true) (hC : P.cellsOf e = fs.size) (h : DataW.trod enc P w base spare held fuel t cs = some x) :
    (cs = [.slice none 0 0] ∧ x = (.nil, [])) ∨
    ∃ (a : Addr) (len cap m : Nat) (D : Nat → DataW H) (Pl : Nat → List MemPlace), cs = [.slice (some a) len cap] ∧ base ≤ a.block ∧ len ≤ cap ∧ cap ≤ maxLen ∧ m = (if spare a.block then cap else len) ∧
      x = (.slice ((List.range len).map D) ((List.range (m - len)).map fun j => D (len + j)), MemPlace.row a (m * fs.size) ++ (List.range m).flatMap Pl) ∧
      ∀ i, i < m → ∃ (ys : List (DataW H × List MemPlace)) (n : Nat), D i = .agg (ys.map (·.1)) ∧ Pl i = ys.flatMap (·.2) ∧ ys.length = fs.size ∧
        ∀ (j : Nat) (f : Field), fs[j]? = some f → ∃ (v : Value) (y : DataW H × List MemPlace), w.cell? (a.add (i * fs.size + j)) = some v ∧ ys[j]? = some y ∧ DataW.trod enc P w base spare held n f.type [v] = some y := by
  rcases open_slice ht h with h0 | ⟨a, len, cap, m, n, D, Pl, hcs, hb, hl, hm, hmm, hx, hi⟩
  · exact .inl h0
  · refine .inr ⟨a, len, cap, m, D, Pl, hcs, hb, hl, hm, hmm, by rw [hC] at hx; exact hx, fun i him => ?_⟩
    obtain ⟨cs', hc, ht'⟩ := hi i him
    rw [hC] at hc
    obtain ⟨ys, n', hn', hy, hlen, hyl, hf⟩ := DataW.trod_struct he ht'
    obtain ⟨_, hcl, hat⟩ := World.cells?_some hc
    simp only [Prod.mk.injEq] at hy
    refine ⟨ys, n', hy.1, hy.2, hyl, fun j f hj => ?_⟩
    obtain ⟨ho, hk⟩ := hone_of hone j f hj
    have hjl : j < fs.size := (Array.getElem?_eq_some_iff.1 hj).1
    have hcell := hat j hjl
    have hv : cs'[j]? = some (cs'[j]'(by omega)) := List.getElem?_eq_getElem (by omega)
    have h1 := hf j f hj
    rw [ho, hk] at h1
    have hone' : (cs'.drop j).take 1 = [cs'[j]'(by omega)] := by
      rw [List.drop_eq_getElem_cons (by omega)]
      rfl
    rw [hone'] at h1
    have hys : ys[j]? = some (ys[j]'(by omega)) := List.getElem?_eq_getElem (by omega)
    refine ⟨_, _, ?_, hys, h1.trans hys⟩
    rw [← Go.Deep.add_add, hcell, hv]
end
section
variable {H : Type} {enc : TypeId × Value → H} {W : World} {base : Nat}
theorem wf_i64 {x : Int} (h : (Lit.int .i64 x).wf = true) : -9223372036854775808 ≤ x ∧ x ≤ 9223372036854775807 := by
  simpa [Lit.wf, IntKind.min, IntKind.max, IntKind.signed, IntKind.bits] using h
set_option maxRecDepth 100000 in
theorem open_i64 {t : TypeId} {v : Value} {d : DataW H} {p : List MemPlace} (ht : Try.prog.underlying t = some (.int .i64)) (hok : Value.okWide Try.prog W .any base t v) (h : DataW.Trod enc Try.prog W 0 (fun _ => true) true t v d p) :
    ∃ x : Int, v = .int .i64 x ∧ -9223372036854775808 ≤ x ∧ x ≤ 9223372036854775807 := by
  obtain ⟨x, rfl, _, _, wx⟩ := open_int ht hok h
  exact ⟨x, rfl, wf_i64 wx⟩
set_option maxRecDepth 100000 in
theorem open_u8 {t : TypeId} {v : Value} {d : DataW H} {p : List MemPlace} (ht : Try.prog.underlying t = some (.int .u8)) (hok : Value.okWide Try.prog W .any base t v) (h : DataW.Trod enc Try.prog W 0 (fun _ => true) true t v d p) :
    ∃ x : Int, v = .int .u8 x ∧ 0 ≤ x ∧ x ≤ 255 := by
  obtain ⟨x, rfl, _, _, wx⟩ := open_int ht hok h
  exact ⟨x, rfl, by simpa [Lit.wf, IntKind.min, IntKind.max, IntKind.signed, IntKind.bits] using wx⟩
set_option maxRecDepth 100000 in
theorem open_u16 {t : TypeId} {v : Value} {d : DataW H} {p : List MemPlace} (ht : Try.prog.underlying t = some (.int .u16)) (hok : Value.okWide Try.prog W .any base t v) (h : DataW.Trod enc Try.prog W 0 (fun _ => true) true t v d p) :
    ∃ x : Int, v = .int .u16 x ∧ 0 ≤ x ∧ x ≤ 65535 := by
  obtain ⟨x, rfl, _, _, wx⟩ := open_int ht hok h
  exact ⟨x, rfl, by simpa [Lit.wf, IntKind.min, IntKind.max, IntKind.signed, IntKind.bits] using wx⟩
set_option maxRecDepth 100000 in
theorem open_u32 {t : TypeId} {v : Value} {d : DataW H} {p : List MemPlace} (ht : Try.prog.underlying t = some (.int .u32)) (hok : Value.okWide Try.prog W .any base t v) (h : DataW.Trod enc Try.prog W 0 (fun _ => true) true t v d p) :
    ∃ x : Int, v = .int .u32 x ∧ 0 ≤ x ∧ x ≤ 4294967295 := by
  obtain ⟨x, rfl, _, _, wx⟩ := open_int ht hok h
  exact ⟨x, rfl, by simpa [Lit.wf, IntKind.min, IntKind.max, IntKind.signed, IntKind.bits] using wx⟩
set_option maxRecDepth 100000 in
theorem open_u64 {t : TypeId} {v : Value} {d : DataW H} {p : List MemPlace} (ht : Try.prog.underlying t = some (.int .u64)) (hok : Value.okWide Try.prog W .any base t v) (h : DataW.Trod enc Try.prog W 0 (fun _ => true) true t v d p) :
    ∃ x : Int, v = .int .u64 x ∧ 0 ≤ x ∧ x ≤ 18446744073709551615 := by
  obtain ⟨x, rfl, _, _, wx⟩ := open_int ht hok h
  exact ⟨x, rfl, by simpa [Lit.wf, IntKind.min, IntKind.max, IntKind.signed, IntKind.bits] using wx⟩
set_option maxRecDepth 100000 in
theorem cellsIv : Try.prog.cellsOf 111 = 2 := by kernel_rfl
set_option maxRecDepth 100000 in
theorem open_iv {v : Value} {d : DataW H} {p : List MemPlace} (hok : Value.okWide Try.prog W .any base 111 v) (h : DataW.Trod enc Try.prog W 0 (fun _ => true) true 111 v d p) :
    ∃ a b : Int, v = .agg #[.int .i64 a, .int .i64 b] ∧ (-9223372036854775808 ≤ a ∧ a ≤ 9223372036854775807) ∧ -9223372036854775808 ≤ b ∧ b ≤ 9223372036854775807 := by
  obtain ⟨c0, c1, y0, y1, m, rfl, _, _, h0, h1⟩ := open_agg2 Try.underlying111 (by kernel_rfl) cellsIv hok h
  obtain ⟨a, e0, _, wa⟩ := DataW.trod_int Try.underlying3 h0
  obtain ⟨b, e1, _, wb⟩ := DataW.trod_int Try.underlying3 h1
  simp only [List.cons.injEq, and_true] at e0 e1
  subst e0 e1
  exact ⟨a, b, rfl, wf_i64 wa, wf_i64 wb⟩
/-- The numbers of a list of pairs are int64's. -/
def Wf64 (l : List Iv) : Prop := ∀ i, i < l.length → (-9223372036854775808 ≤ iLo l i ∧ iLo l i ≤ 9223372036854775807) ∧ -9223372036854775808 ≤ iHi l i ∧ iHi l i ≤ 9223372036854775807
end
end Go.Proofs.Ytiaahfccebmkdaa
