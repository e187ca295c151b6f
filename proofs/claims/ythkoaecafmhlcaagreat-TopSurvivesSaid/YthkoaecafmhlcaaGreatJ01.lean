/- Parts Apz Fr of the proof, joined. -/
import Derived.Test.YthkoaecafmhlcaaGreatJ00
import Derived.Lib.AppendZeros
import Derived.Maps.AppendAt
import Derived.RangeFuncRecord
import Derived.Test.YthkoaecafmhlcaaGreatRows
import Derived.ProofKit
import Derived.Lib.SmallJoins
import Derived.Deep.Slices
import Derived.Deep.Fields
/- append of some zeros ('append(l, make([]int, n)...)') to a row of integers of the call's own. -/
namespace Go.Proofs.YthkoaecafmhlcaaGreat
open Go.RowKit

theorem zeroCells_one (z : Value) (n : Nat) (hz : z.cells = #[z]) : Builtin.zeroCells z.cells n = (List.replicate n z).toArray := by
 rw [hz]
 unfold Builtin.zeroCells
 apply Array.ext'
 simp only [Array.toList_map, Array.toList_range, List.size_toArray, List.length_cons, List.length_nil, Nat.zero_add, Nat.mul_one, Nat.mod_one]
 rw [List.eq_replicate_iff]
 refine ⟨by simp, fun b hb => ?_⟩
 simp at hb
 exact hb.2.symm
theorem run_append_zeros {P : Program} (w : World) (base : Nat) (t tn ty e : TypeId) (i : TypeInfo) (z : Value) (bytes : Nat) (k kn : IntKind) (ht : P.underlying t = some (.slice e)) (htn : P.underlying tn = some (.int kn)) (hi : P.info? e = some i) (hz : i.zero = some z)
  (hsize : i.size = 1) (hby : i.bytes = bytes) (hzc : z.cells = #[z]) (h1 : z.oneCell' = true)
  (v : Value) (n : Nat) (xs : List Value) (hown : w.ownsRow base e 1 v n xs) (m : Nat) (h63 : n + m ≤ maxLen) (hbytes : (n + m) * bytes ≤ 140737488355328) (hbase : base ≤ w.heap.size) :
  ∃ v' w', (Builtin.append_ #[t, tn] ty #[v, .int k m]).run P w = .ok v' w' ∧ w'.ownsRow base e 1 v' (n + m) (xs ++ List.replicate m z) ∧ w.grownBy w' v.ownBlock := by
 subst hby
 have hsmall : n + m ≤ 9223372036854775807 := by simp only [maxLen] at h63; omega
 have hw : IntKind.i64.wrap (m : Int) = m := by rw [IntKind.wrap_i64]; omega
 have hneg : ¬ ((m : Int) < 0) := by omega
 have hmb : m * i.bytes ≤ 140737488355328 := Nat.le_trans (Nat.mul_le_mul_right _ (by omega)) hbytes
 have h48i : ¬ (281474976710656 < (m : Int) * (i.bytes : Int)) := by
  rw [← Int.natCast_mul]
  omega
 rcases Nat.eq_zero_or_pos m with h0 | h0
 ·subst h0
  have w0 : IntKind.i64.wrap 0 = 0 := rfl
  refine ⟨v, w, ?_, by simpa using hown, World.grownBy.refl w _⟩
  rcases hown.2 with ⟨rfl, rfl⟩ | ⟨g, cap, cur, rfl, hbg, hg, hnc, hcm, hcs, htake⟩
  ·simp [Builtin.append_, run_underlying ht, run_underlying htn, sizeOf, typeInfo, zeroValue, hi, hz, asInt, asIntOf, w0]
  ·simp [Builtin.append_, run_underlying ht, run_underlying htn, sizeOf, typeInfo, zeroValue, hi, hz, asInt, asIntOf, w0, hnc, storeCells]
 ·have hm0 : m ≠ 0 := by omega
  have hlen : (xs ++ List.replicate m z).length = (n + m) * 1 := by rw [List.length_append, hown.1, List.length_replicate]; omega
  have grown : ∀ (old : Nat), old < n + m → ∀ (row : Option Nat),
    (w.drew.alloc (.cells (xs.toArray ++ (List.replicate m z).toArray ++ Builtin.zeroCells z.cells (grownCap w (n + m) old e - (n + m))) e)).ownsRow base e 1
     (.slice (some ⟨w.heap.size, 0, none⟩) (n + m) (grownCap w (n + m) old e)) (n + m) (xs ++ List.replicate m z) ∧
    w.grownBy (w.drew.alloc (.cells (xs.toArray ++ (List.replicate m z).toArray ++ Builtin.zeroCells z.cells (grownCap w (n + m) old e - (n + m))) e)) row := by
   intro old ho row
   have hge := grownCap_ge w (n + m) old e
   have hcm : grownCap w (n + m) old e ≤ maxLen := grownCap_le_maxLen w (n + m) old e h63
   refine ⟨⟨hlen, .inr ⟨w.heap.size, _, _, rfl, hbase, World.alloc_heap_new w.drew _, hge, hcm, ?_, ?_⟩⟩, ⟨rfl, rfl, rfl, by simp, fun k hk _ => Below.heap_alloc w.drew _ k hk⟩⟩
   ·have hx := hown.1
    simp only [zeroCells_one z _ hzc, Array.size_append, List.size_toArray, List.length_replicate, hx]
    omega
   ·simp only [Array.toList_append, List.append_assoc]
    rw [← List.append_assoc, ← hlen]
    exact List.take_left
  have hns : ¬ (m * 1 = 0) := by omega
  rcases hown.2 with ⟨rfl, rfl⟩ | ⟨g, cap, cur, rfl, hbg, hg, hnc, hcm, hcs, htake⟩
  ·have hx : xs = [] := List.eq_nil_of_length_eq_zero (by simpa using hown.1)
   subst hx
   have hr := Lib.run_append_nil_zeros (P := P) w t tn ty e i z k kn ht htn hi hz m h0 (by omega) (by omega) (by omega)
   have hgr := grown 0 (by omega) (Value.ownBlock (.slice none 0 0))
   rw [zeroCells_one z m hzc] at hr
   simp only [Nat.zero_add, List.nil_append, Array.empty_append] at hgr ⊢
   exact ⟨_, _, hr, hgr.1, hgr.2⟩
  ·by_cases hroom : n + m ≤ cap
   ·have hfit : n * 1 + (List.replicate m z).length ≤ cur.size := by rw [hcs, List.length_replicate]; omega
    have hst := run_storeCells_at P g (n * 1) e (List.replicate m z) 0 cur w hg (by simpa using hfit) (fun u hu => by rw [List.eq_of_mem_replicate hu]; exact h1)
    simp only [Nat.add_zero] at hst
    have hr : (Builtin.append_ #[t, tn] ty #[.slice (some ⟨g, 0, none⟩) n cap, .int k m]).run P w =
      .ok (.slice (some ⟨g, 0, none⟩) (n + m) cap) (w.setRow g (cur.toList.take (n * 1) ++ List.replicate m z ++ cur.toList.drop (n * 1 + (List.replicate m z).length)).toArray) := by
     simp [Builtin.append_, run_underlying ht, run_underlying htn, sizeOf, typeInfo, zeroValue, hi, hz, asInt, asIntOf, hw, hneg, hm0, hsize, h48i, hroom, Addr.add_lit, zeroCells_one z m hzc]
     have hst2 : (storeCells ⟨g, n, none⟩ (List.replicate m z)).run P w = .ok () (w.setRow g (cur.toList.take n ++ (List.replicate m z ++ cur.toList.drop (n + m))).toArray) := by simpa using hst
     rw [hst2]
     rfl
    refine ⟨_, _, hr, ⟨hlen, .inr ⟨g, cap, _, rfl, hbg, setRow_heap w g cur _ e _ hg, hroom, hcm, ?_, ?_⟩⟩, ⟨rfl, rfl, rfl, by simp, fun k _ hk => setRow_other w g k _ (fun e => hk (by simp [Value.ownBlock, e]))⟩⟩
    ·have hcs2 : cur.size = cap := by omega
     simp only [List.size_toArray, List.length_append, List.length_take, List.length_drop, Array.length_toList, List.length_replicate]
     omega
    ·rw [htake, ← hlen]
     exact List.take_left
   ·have holds : ∀ j u, xs[j]? = some u → w.cell? ((⟨g, 0, none⟩ : Addr).add j) = some u := World.ownsRow.cells hown (g := g) rfl
    have hfo := run_firstCells_some (P := P) w.drew 1 n ⟨g, 0, none⟩ n cap xs hown.1 (by simpa using holds)
    have hn' : ¬ (n + m ≤ cap) := hroom
    have h63' : ¬ (9223372036854775807 < ((n : Int) + (m : Int))) := by omega
    have hfit := growslice_fits (show cap < n + m by omega) hbytes
    have h48' : ¬ (281474976710656 < Builtin.nextslicecap (n + m) cap * i.bytes) := by omega
    have hr : (Builtin.append_ #[t, tn] ty #[.slice (some ⟨g, 0, none⟩) n cap, .int k m]).run P w =
      .ok (.slice (some ⟨w.heap.size, 0, none⟩) (n + m) (grownCap w (n + m) cap e))
       (w.drew.alloc (.cells (xs.toArray ++ (List.replicate m z).toArray ++ Builtin.zeroCells z.cells (grownCap w (n + m) cap e - (n + m))) e)) := by
     simp [Builtin.append_, run_underlying ht, run_underlying htn, sizeOf, typeInfo, zeroValue, hi, hz, asInt, asIntOf, hw, hneg, hm0, hsize, h48i, hn', h63', h48', Question.forced, hfo, newRow, grownCap, zeroCells_one z m hzc]
    have hgr := grown cap (by omega) (Value.ownBlock (.slice (some ⟨g, 0, none⟩) n cap))
    exact ⟨_, _, hr, hgr.1, hgr.2⟩
end Go.Proofs.YthkoaecafmhlcaaGreat
/- The frame that every statement of this seat shares: a function that answers true and leaves what was there alone fits its row. -/
namespace Go.Proofs.YthkoaecafmhlcaaGreat
open Go.ChangeShapes Go.WideShapes Go.ChangeAt Go.RowKit Go.Joins Go.Deep

theorem ownOk : ownKnob Tryz.prog.godebug = none := by kernel_rfl
theorem laidOk : laidOutB Tryz.prog = true := by kernel_rfl

section
variable {H : Type} {enc : TypeId × Value → H}
theorem trodAll_later {W W' : World} (hb : Below W.heap.size W W') : ∀ (ts : List TypeId) (vs : List Value) (ds : List (DataW H)) (ps : List MemPlace), (∀ t, t ∈ ts → Tryz.prog.readableRec t = true ∧ t < Tryz.prog.types.size) → (∀ x ∈ ps, x.block < W.heap.size) →
  DataW.TrodAll enc Tryz.prog W 0 (fun _ => true) true ts vs ds ps → DataW.TrodAll enc Tryz.prog W' 0 (fun b => decide (b < W.heap.size)) true ts vs ds ps
 | [], [], [], ps, _, _, h => h
 | t :: ts, v :: vs, d :: ds, ps, hr, hlt, h => by
  obtain ⟨p, q, h1, h2, rfl⟩ := h
  have ht := hr t List.mem_cons_self
  exact ⟨p, q, Below.trod laidOk ht.1 ht.2 h1 hb (fun x hx => hlt x (List.mem_append.2 (.inl hx))), trodAll_later hb ts vs ds q (fun t' h' => hr t' (List.mem_cons_of_mem _ h')) (fun x hx => hlt x (List.mem_append.2 (.inr hx))) h2, rfl⟩
 | [], _ :: _, _, _, _, _, h => h.elim
 | [], [], _ :: _, _, _, _, h => h.elim
 | _ :: _, [], _, _, _, _, h => h.elim
 | _ :: _, _ :: _, [], _, _, _, h => h.elim
theorem trodAll_len {W : World} {b : Nat} {sp : Nat → Bool} {hd : Bool} : ∀ (ts : List TypeId) (vs : List Value) (ds : List (DataW H)) (ps : List MemPlace), DataW.TrodAll enc Tryz.prog W b sp hd ts vs ds ps → vs.length = ts.length ∧ ds.length = ts.length
 | [], [], [], _, _ => ⟨rfl, rfl⟩
 | _ :: ts, _ :: vs, _ :: ds, _, h => by
  obtain ⟨p, q, _, h2, _⟩ := h
  have := trodAll_len ts vs ds q h2
  exact ⟨by simp [this.1], by simp [this.2]⟩
 | [], _ :: _, _, _, h => h.elim
 | [], [], _ :: _, _, h => h.elim
 | _ :: _, [], _, _, h => h.elim
 | _ :: _, _ :: _, [], _, h => h.elim
set_option maxRecDepth 100000 in
theorem law_lifted {os : Os} (started : os.Started) (f : Nat) (F : Func) (hF : Tryz.prog.funcs[f]? = some F) (hinit : Tryz.prog.inits.idxOf? f = none) (s : ChangeSpec) (hres : F.resultTypes = #[4]) (hsv : s.vars = [])
  (hfn : ∀ ds : List (DataW H), ds.length = F.params.toList.length → (s.fn H (ds ++ [])).results = [.lit (.bool true)] ∧ (s.fn H (ds ++ [])).args = ds ∧ (s.fn H (ds ++ [])).vars = [])
  (hread : ∀ t, t ∈ F.params.toList → Tryz.prog.readableRec t = true ∧ t < Tryz.prog.types.size)
  (wit : ∃ (w : World) (tape : Tape) (i : Input), w.os = os ∧ (w.forCall tape i).Shaped Tryz.checked.prog ∧ i.vars = [] ∧ Input.okWide Tryz.checked.prog (w.forCall tape i) .any w.heap.size f i ∧
   s.pre6 enc Tryz.checked.prog F [] false (w.forCall tape i).memory i.args ∧ ({} : Assume).holds Tryz.checked.prog (lone (Frame.enter Tryz.checked.prog f i.args .normal) [] (w.forCall tape i)))
  (walk : ∀ (W : World) (base : Nat) (args : Array Value) (ds : List (DataW H)) (p : List MemPlace), DataW.TrodAll enc Tryz.prog W 0 (fun _ => true) true F.params.toList args.toList ds p →
   (∀ (j : Nat) t v, F.params[j]? = some t → args[j]? = some v → Value.okWide Tryz.prog W .any base t v) → Calls Tryz.prog f args W fun e w' => e = .returned (.bool true) ∧ Below W.heap.size W w') :
  ReturnsInHanded {} Tryz.checked os f .any (s.pre6 enc Tryz.prog F [] false) (s.post enc Tryz.prog F false true false false) := by
 refine returnsInHanded_of_change (C := Tryz.checked) ownOk started hinit hF wit ?_
 intro W base args ds gs before hval0 hW _ _
 have hW' := hW
 have hlt0 : ∀ x ∈ before, x.block < W.heap.size := fun x hx => hW.lt x hx
 obtain ⟨p, q, hA, hV, rfl, hfz, hnd⟩ := hW
 rw [hsv] at hV
 obtain ⟨rfl, rfl⟩ := trodVars_none hV
 simp only [List.append_nil] at hW' hlt0
 have hlen := (trodAll_len _ _ _ _ hA).2
 obtain ⟨r1, r2, r3⟩ := hfn ds hlen
 refine (walk W base args ds p hA hval0).mono fun e W' ⟨he, hb⟩ => ?_
 subst he
 refine ⟨_, rfl, ds, [], p, [], p, [], hW', ?_, ?_, ?_, hb.frame _, fun h => by cases h⟩
 ·rw [hres, r1]; exact trodAll_mk1 (shut_bool Tryz.underlying4 true)
 ·rw [r2]; exact trodAll_later hb _ _ _ _ hread hlt0 hA
 ·rw [hsv, r3]; rfl
end

section
variable {H : Type} {enc : TypeId × Value → H} {P : Program} {w : World} {base : Nat} {spare : Nat → Bool} {held : Bool}
end
section
variable {H : Type} {enc : TypeId × Value → H} {W : World} {base : Nat}
theorem wf_i64 {x : Int} (h : (Lit.int .i64 x).wf = true) : -9223372036854775808 ≤ x ∧ x ≤ 9223372036854775807 := by
 simpa [Lit.wf, IntKind.min, IntKind.max, IntKind.signed, IntKind.bits] using h
set_option maxRecDepth 100000 in
theorem open_i64 {t : TypeId} {v : Value} {d : DataW H} {p : List MemPlace} (ht : Tryz.prog.underlying t = some (.int .i64)) (hok : Value.okWide Tryz.prog W .any base t v) (h : DataW.Trod enc Tryz.prog W 0 (fun _ => true) true t v d p) :
  ∃ x : Int, v = .int .i64 x ∧ -9223372036854775808 ≤ x ∧ x ≤ 9223372036854775807 := by
 obtain ⟨x, rfl, _, _, wx⟩ := open_int ht hok h
 exact ⟨x, rfl, wf_i64 wx⟩
set_option maxRecDepth 100000 in
theorem open_u8 {t : TypeId} {v : Value} {d : DataW H} {p : List MemPlace} (ht : Tryz.prog.underlying t = some (.int .u8)) (hok : Value.okWide Tryz.prog W .any base t v) (h : DataW.Trod enc Tryz.prog W 0 (fun _ => true) true t v d p) :
  ∃ x : Int, v = .int .u8 x ∧ 0 ≤ x ∧ x ≤ 255 := by
 obtain ⟨x, rfl, _, _, wx⟩ := open_int ht hok h
 exact ⟨x, rfl, by simpa [Lit.wf, IntKind.min, IntKind.max, IntKind.signed, IntKind.bits] using wx⟩
end
end Go.Proofs.YthkoaecafmhlcaaGreat
