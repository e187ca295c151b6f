/- Parts SpE SpF Sto TsP of the proof, joined. -/
import Derived.Test.YthkoaecafmhlcaaGreatJ02
import Derived.Shelf.SortM.Plain
import Derived.Shelf.SortM.SortNone
import Derived.Sort.OwnSortedInts
import Derived.Lib.OwnBridge
import Derived.Test.YthkoaecafmhlcaaGreatJ00
/- slices.Values of integers, collected: AppendSeq, Collect. -/
namespace Go.Proofs.YthkoaecafmhlcaaGreat
open Go.RowKit Go.Shelf
attribute [local go_sem] Oper.semAt_some

set_option maxRecDepth 100000 in
set_option maxHeartbeats 1000000 in
theorem vals_in (n : Nat) (hn : 1 ≤ n) (l Bn : Nat) (v : Value) (zs : List Int) (w0 : World) (hv : IsRow w0 v zs) (J Jx : List Int → World → Prop) (W : World) (_hs0 : w0.heap.size ≤ W.heap.size) (hb0 : ∀ q, q < w0.heap.size → W.heap[q]? = w0.heap[q]?) (_hJ : AbidesFrom W.heap.size J)
  (hY : ∀ pre x W1, J pre W1 → pre.length < zs.length → YieldAt Fence.wide (n - 1) Tryz.prog l #[.int .i64 x] W1 fun e W' =>
   (e = .returned (.bool true) ∧ J (pre ++ [x]) W' ∧ KeepS (fun q => q < w0.heap.size ∨ q = Bn) W1 W') ∨ (e = .returned (.bool false) ∧ Jx (pre ++ [x]) W'))
  (hc : W.cell? ⟨Bn, 0, none⟩ = some v) (h0 : J [] W) :
  CallsIn Fence.wide n Tryz.prog 76 #[.func (.yield l) #[] #[], .pointer (some ⟨Bn, 0, none⟩)] W fun e W' => (∃ v, e = .returned v) ∧
   ((∃ ys, ys = zs ∧ J ys W') ∨ (∃ pre, pre <+: zs ∧ Jx pre W')) := by
 obtain ⟨a, cap, rfl, h1, h2, h3⟩ := hv
 refine callsIn_of_wp Tryz.func76 rfl trivial ?_ rfl
 simp only [Tryz.ntmps76, List.size_toArray, List.length_cons, List.length_nil, Nat.reduceAdd, Nat.reduceSub, Array.replicate_succ, Array.replicate_zero, List.push_toArray, List.append_toArray, List.nil_append, List.cons_append]
 gi_wp2
 gi_loopw [7] (fun i wr => ∃ (t : Nat) (pre : List Int), t ≤ zs.length ∧ i = .int .i64 (t : Int) ∧ Hid (pre = zs.take t) ∧ J pre wr ∧ KeepS (fun q => q < w0.heap.size ∨ q = Bn) W wr) (fun i _ => zs.length - (intOf i).toNat)
 case atStart => exact ⟨0, [], Nat.zero_le _, rfl, hide rfl, h0, KeepS.refl _ _⟩
 case round =>
  obtain ⟨t, pre, ht, rfl, Hp, hJs, hK⟩ := hrel
  by_cases hlt : t < zs.length
  ·obtain ⟨b, off, rfl, h4, h5⟩ := h3 t hlt
   have h5' : wr.cell? ⟨b, off + t, none⟩ = some (.int .i64 (iAt zs t)) := ((hK.cell (b := b) (.inl h4) (off + t)).trans (World.cell?_of_block (a := ⟨b, off + t, none⟩) (hb0 b h4))).trans h5
   have Hpn : Hid (pre ++ [iAt zs t] = zs.take (t + 1)) := by
    show _ = _
    rw [Hp.out, take_snoc_is zs t hlt]
   obtain ⟨fn, tmps, assign, body, hy, hR⟩ := hY pre (iAt zs t) wr hJs (by rw [Hp.out, List.length_take]; omega)
   clear h5 h3
   gi_wp2
   refine hR.mono ?_
   rintro e W3 (⟨rfl, hJ3, hk3⟩ | ⟨rfl, hJx3⟩)
   ·gi_wp2
    go_roundw
    case rel => exact ⟨t + 1, _, by omega, by go_num, Hpn, hJ3, hK.trans hk3⟩
    case measure => simp [intOf]; omega
   ·gi_wp2
    refine bodyPost_ret (results_none rfl _ _ _) rfl ?_
    exact ⟨⟨_, rfl⟩, .inr ⟨_, by rw [Hpn.out]; exact List.take_prefix _ _, hJx3⟩⟩
  ·gi_wp2
   go_end0
   exact ⟨⟨_, rfl⟩, .inl ⟨pre, by rw [Hp.out, show t = zs.length by omega, List.take_length], hJs⟩⟩
theorem vals_stops (n : Nat) (hn : 1 ≤ n) (Bn : Nat) (v : Value) (zs : List Int) (w0 w : World) (hv : IsRow w0 v zs) (hs0 : w0.heap.size ≤ w.heap.size) (hb0 : ∀ q, q < w0.heap.size → w.heap[q]? = w0.heap[q]?) (hc : w.cell? ⟨Bn, 0, none⟩ = some v) :
  SeqStopsK Fence.wide n Tryz.prog 76 #[.pointer (some ⟨Bn, 0, none⟩)] (fun x : Int => #[Value.int .i64 x]) (KeepS (fun q => q < w0.heap.size ∨ q = Bn)) (fun ys => ys = zs) (fun pre => pre <+: zs) zs.length w := by
 intro l J Jx W hW hJ hJx hY h0
 have hlt := World.block_lt_of_cell? _ _ hc
 exact vals_in n hn l Bn v zs w0 hv J Jx W (Nat.le_trans hs0 hW.size) (fun q hq => (hW.block q (Nat.lt_of_lt_of_le hq hs0)).trans (hb0 q hq)) hJ hY ((hW.cell (p := ⟨Bn, 0, none⟩) hlt).trans hc) h0
set_option maxRecDepth 100000 in
set_option maxHeartbeats 400000 in
theorem Values_any (v : Value) (zs : List Int) (w : World) (hv : IsRow w v zs) : Calls Tryz.prog 30 #[v] w fun e w' =>
  e = .returned (.func (.func 76) #[] #[.pointer (some ⟨w.heap.size, 0, none⟩)]) ∧ w' = w.alloc (.cells #[v] 55) := by
 obtain ⟨a, cap, rfl, -⟩ := hv
 go_enter Tryz.func30, Tryz.ntmps30
 go_wp2
 go_ret
 exact ⟨rfl, rfl⟩
def AI (w : World) (pre : List Int) (W : World) : Prop :=
 ∃ ov, W.cell? ⟨w.heap.size, 0, none⟩ = some ov ∧ W.frozen? ⟨w.heap.size, 0, none⟩ = false ∧ OwnIs W (w.heap.size + 1) ov pre ∧ Below w.heap.size w W ∧ w.heap.size < W.heap.size
theorem KeepS.grown {S : Nat → Prop} {A B C : World} {row : Option Nat} (h : KeepS S A B) (hg : B.grownBy C row) (hS : ∀ q, S q → q < B.heap.size) (hr : ∀ k, row = some k → ¬ S k) : KeepS S A C :=
 ⟨Nat.le_trans h.1 hg.size, fun q hq => (hg.block q (hS q hq) (fun e => hr q e.symm hq)).trans (h.2 q hq)⟩
theorem ownsRow_kept' {W W' : World} {base : Nat} {v : Value} {c : List Int} {row : Option Nat} (h : OwnIs W base v c) (hg : W.grownBy W' row) (hr : ∀ r, row = some r → ∃ o : Obj, W.heap[r]? = some o ∧ o.isCells = false) : OwnIs W' base v c := by
 refine World.ownsRow.kept h hg ?_
 rcases h.2 with ⟨hv, _⟩ | ⟨g, cap, cur, hv, _, hc, _⟩
 ·left; rw [hv]; rfl
 ·right
  rw [hv]
  intro e
  obtain ⟨o, ho, hc2⟩ := hr g e.symm
  rw [hc] at ho; cases ho; cases hc2
theorem own_cells' {W : World} {base e size n : Nat} {v : Value} {xs : List Value} (h : W.ownsRow base e size v n xs) {r : Nat} (hr : v.ownBlock = some r) {o : Obj} (ho' : W.heap[r]? = some o) : o.isCells = true := by
 rcases h.2 with ⟨hv, _⟩ | ⟨g, cap, cur, hv, _, hc, _⟩
 ·rw [hv] at hr; cases hr
 ·rw [hv] at hr; cases hr
  rw [hc] at ho'; cases ho'; rfl
set_option maxRecDepth 100000 in
set_option maxHeartbeats 2000000 in
theorem AppendSeq_any (Bn : Nat) (v : Value) (zs : List Int) (w0 w : World) (hv : IsRow w0 v zs) (hz : zs.length ≤ 1000) (hs0 : w0.heap.size ≤ w.heap.size) (hb0 : ∀ q, q < w0.heap.size → w.heap[q]? = w0.heap[q]?) (hBn : w0.heap.size ≤ Bn) (hc : w.cell? ⟨Bn, 0, none⟩ = some v) :
  Calls Tryz.prog 122 #[.slice none 0 0, .func (.func 76) #[] #[.pointer (some ⟨Bn, 0, none⟩)]] w fun e w' => ∃ ov, e = .returned ov ∧ OwnIs w' w.heap.size ov zs ∧ Below w.heap.size w w' := by
 have hBl := World.block_lt_of_cell? _ _ hc
 simp only at hBl
 obtain ⟨i0, hi, hz0, hz1, hz2⟩ := info_parts infoIs
 refine (callsIn_wide (n := 4)).1 ?_
 refine callsIn_of_wp_marks Tryz.func122 rfl trivial ?_ rfl
 simp only [Tryz.ntmps122, List.size_toArray, List.length_cons, List.length_nil, Nat.reduceAdd, Nat.reduceSub, Array.replicate_succ, Array.replicate_zero, List.push_toArray, List.append_toArray, List.nil_append, List.cons_append]
 gi_wp2_with fail
 have b0 : Below w.heap.size w (w.alloc (.cells #[.slice none 0 0] 55)) := (by ((repeat' (first | exact Below.refl _ _ | refine Below.alloc ?_ ?_ _ | refine Below.setCell ?_ ?_ _ | refine Below.drew ?_ | refine below_drewN ?_ _)) <;> (first | omega | (simp; done) | (simp; omega))))
 have x1 : AI w [] (w.alloc (.cells #[.slice none 0 0] 55)) := ⟨_, by simp, by simp, OwnIs.nil _ _, b0, by simp⟩
 have x2 : (w.alloc (.cells #[.slice none 0 0] 55)).heap.size = w.heap.size + 1 := by simp
 have xc := (b0.cell (p := ⟨Bn, 0, none⟩) hBl).trans hc
 have x3 : ∀ q, q < w0.heap.size → (w.alloc (.cells #[.slice none 0 0] 55)).heap[q]? = w0.heap[q]? := fun q hq => (b0.block q (by omega)).trans (hb0 q hq)
 generalize w.alloc (.cells #[.slice none 0 0] 55) = W0 at *
 refine wpIn_rangeFunc_ownF rfl (by omega) (gf := 76) (lb := #[.pointer (some ⟨Bn, 0, none⟩)]) rfl trivial (enters_of Tryz.func76 (by kernel_rfl) rfl)
  (vals_stops 3 (by omega) Bn v zs w0 W0 hv (by omega) x3 xc) (fun h k => h.trans k) (fun W q o o' hq h1 _ _ => KeepS.put (by rintro (h | h) <;> omega) (Array.getElem?_eq_some_iff.1 h1).1 _) (Below.refl _ _) (fun _ => rfl)
  (fun pre W => AI w pre W) (fun _ _ _ => False)
  (by
   rintro pre X Y row ⟨ov, a1, a2, a3, e1, e2⟩ hg hr
   have hr' := fun r e => (hr r e).2
   exact ⟨ov, cell_kept a1 hg hr', (frozen_kept a1 hg hr').trans a2, ownsRow_kept' a3 hg hr', e1.grown hg e1.size (fun k e => by have := (hr k e).1; omega), Nat.lt_of_lt_of_le e2 hg.size⟩)
  (fun _ _ _ _ _ hs _ _ => hs) x1
  (fun x => { tmps := #[.slice none 0 0, .func (.func 76) #[] #[.pointer (some ⟨Bn, 0, none⟩)], .pointer (some ⟨w.heap.size, 0, none⟩), undef, .slice none 0 0, .int .i64 x, .func (.func 76) #[] #[.pointer (some ⟨Bn, 0, none⟩)], .int .i64 x, undef, undef, undef, undef, undef], defers := [] }) ?assign ?body ?done ?stop
 case assign =>
  intro l x W K hK
  gi_wp2
  exact hK
 case body =>
  rintro l pre x W ⟨ov, a1, a2, a3, e1, e2⟩ hlen
  obtain ⟨oa, ocap, hov, q1, q2⟩ := a3.val
  have hlow := World.ownsRow.lt a3
  have a3' := a3
  unfold OwnIs at a3'
  subst hov
  have hez := e1.size
  gi_wp2_with (gi_at_builtin; refine wpListIn_append_own _ rfl _ _ 55 rfl (w.heap.size + 1) 3 i0 (.int .i64 0) 1 8 Tryz.underlying55 hi hz0 hz1 hz2 rfl (by decide) _ pre.length (encI pre) rfl (World.ownsRow.alloc a3' _) ⟨W.heap.size, 0, none⟩ 1 1 [.int .i64 x] rfl rfl (cells_new W [.int .i64 x] _) (by simp [Value.oneCell']) (by unfold maxLen; omega) (by omega) (by simp; omega) ?_; intro v4 w4 hown4 hg4 _; obtain ⟨a4, cap4, rfl⟩ := ownsRow_val hown4; obtain ⟨p1, p2⟩ := grown_keeps hg4 (b := w.heap.size) (by simp; omega) (fun h => (by have := hlow _ h.symm; omega)))
  have o1 := (old1 W (.cells #[.int .i64 x] 3) e2 0)
  have hz4 := hg4.size
  simp only [World.size_alloc] at hz4
  refine ⟨((KeepsOthers.alloc W _).trans (KeepsOthers.of_grownBy hg4 (fun r o hr ho => own_cells' (World.ownsRow.alloc a3' _) hr ho))).trans (KeepsOthers.setCell _ _ _), ?_, ?_⟩
  ·refine KeepS.set (KeepS.grown (B := W.alloc (.cells #[.int .i64 x] 3)) ⟨by simp, fun q hq => Below.heap_alloc _ _ _ (by rcases hq with h | h <;> omega)⟩ hg4 (fun q hq => by simp; rcases hq with h | h <;> omega) (fun r hr => by have := hlow r hr; show ¬ (r < w0.heap.size ∨ r = Bn); omega)) (by show ¬ (w.heap.size < w0.heap.size ∨ w.heap.size = Bn); omega) _
  ·refine ⟨_, World.cell?_setCell_same' _ _ _ (by rw [p1, o1.1, a1]; rfl), by rw [World.frozen?_setCell, p2, o1.2]; exact a2, ownsRow_setCell_below (OwnIs.app hown4) (by first | omega | simp) _, ?_, by simp; omega⟩
   exact Below.setCell ((e1.alloc (by omega) _).grown hg4 (by simp; omega) (fun r h => by have := hlow r h; omega)) (Nat.le_refl _) _
 case done =>
  rintro D ys W hD rfl ⟨ov, a1, a2, a3, e1, e2⟩ hK
  gi_wp2
  refine ⟨by simp, .inl ⟨_, _, rfl, run_takeDeferred hK, ?_⟩⟩
  exact ⟨_, results_tmp rfl _ _ _, ov, rfl, (World.ownsRow.mono (ownsRow_putObj a3 _ hK rfl) (by omega)), e1.grown (grownBy_putObj' W D (.deferred none)) e1.size (fun k e => by cases e; omega)⟩
 case stop =>
  rintro D c pre W _ _ h _
  exact h.elim
set_option maxRecDepth 100000 in
set_option maxHeartbeats 400000 in
theorem Collect_any (Bn : Nat) (v : Value) (zs : List Int) (w0 w : World) (hv : IsRow w0 v zs) (hz : zs.length ≤ 1000) (hs0 : w0.heap.size ≤ w.heap.size) (hb0 : ∀ q, q < w0.heap.size → w.heap[q]? = w0.heap[q]?) (hBn : w0.heap.size ≤ Bn) (hc : w.cell? ⟨Bn, 0, none⟩ = some v) :
  Calls Tryz.prog 75 #[.func (.func 76) #[] #[.pointer (some ⟨Bn, 0, none⟩)]] w fun e w' => ∃ ov, e = .returned ov ∧ OwnIs w' w.heap.size ov zs ∧ Below w.heap.size w w' := by
 have Hb0 := hide hb0
 clear hb0
 go_enter Tryz.func75, Tryz.ntmps75
 go_wp2_with fail
 refine (AppendSeq_any Bn v zs w0 _ hv hz hs0 Hb0.out hBn hc).mono ?_
 rintro e w1 ⟨ov, rfl, ho, b1⟩
 go_wp2_with fail
 go_ret
 exact ⟨ov, rfl, ho, b1⟩
end Go.Proofs.YthkoaecafmhlcaaGreat
/- slices.Sorted of slices.Values of integers. -/
namespace Go.Proofs.YthkoaecafmhlcaaGreat
open Go.RowKit Go.Shelf
def sortA_ren : Go.Shelf.Ren := ⟨fun | 5 => 28 | 8 => 74 | 7 => 73 | 19 => 120 | 20 => 121 | 10 => 111 | 11 => 112 | 12 => 113 | 13 => 114 | 14 => 115 | 15 => 116 | 16 => 117 | 17 => 118 | 18 => 119 | 30 => 133 | 31 => 134 | 32 => 135 | 33 => 136 | 34 => 137 | 35 => 99 | 40 => 140 | n => n, fun | 23 => 55 | 25 => 3 | 3 => 3 | 32 => 117 | 22 => 55 | 0 => 0 | 44 => 29 | 46 => 149 | 4 => 4 | 36 => 169 | 35 => 168 | 41 => 174 | 5 => 5 | 9 => 9 | 53 => 190 | 57 => 194 | 63 => 197 | 64 => 198 | n => n, fun | n => n⟩
theorem sortA : Go.Proofs.SlLaysM.n5 Tryz.prog sortA_ren := {
 mixed := by kernel_rfl,
 f5 := ⟨Tryz.f28.name, by decide, Tryz.func28.trans (congrArg some (by kernel_rfl))⟩,
 f7 := ⟨Tryz.f73.name, by decide, Tryz.func73.trans (congrArg some (by kernel_rfl))⟩,
 f8 := Tryz.func74.trans (congrArg some (by kernel_rfl)),
 f10 := ⟨Tryz.f111.name, by decide, Tryz.func111.trans (congrArg some (by kernel_rfl))⟩,
 f11 := ⟨Tryz.f112.name, by decide, Tryz.func112.trans (congrArg some (by kernel_rfl))⟩,
 f12 := ⟨Tryz.f113.name, by decide, Tryz.func113.trans (congrArg some (by kernel_rfl))⟩,
 f13 := ⟨Tryz.f114.name, by decide, Tryz.func114.trans (congrArg some (by kernel_rfl))⟩,
 f14 := ⟨Tryz.f115.name, by decide, Tryz.func115.trans (congrArg some (by kernel_rfl))⟩,
 f15 := ⟨Tryz.f116.name, by decide, Tryz.func116.trans (congrArg some (by kernel_rfl))⟩,
 f16 := ⟨Tryz.f117.name, by decide, Tryz.func117.trans (congrArg some (by kernel_rfl))⟩,
 f17 := ⟨Tryz.f118.name, by decide, Tryz.func118.trans (congrArg some (by kernel_rfl))⟩,
 f18 := ⟨Tryz.f119.name, by decide, Tryz.func119.trans (congrArg some (by kernel_rfl))⟩,
 f19 := Tryz.func120.trans (congrArg some (by kernel_rfl)),
 f20 := Tryz.func121.trans (congrArg some (by kernel_rfl)),
 f30 := ⟨Tryz.f133.name, by decide, Tryz.func133.trans (congrArg some (by kernel_rfl))⟩,
 f31 := Tryz.func134.trans (congrArg some (by kernel_rfl)),
 f32 := Tryz.func135.trans (congrArg some (by kernel_rfl)),
 f33 := ⟨Tryz.f136.name, by decide, Tryz.func136.trans (congrArg some (by kernel_rfl))⟩,
 f34 := ⟨Tryz.f137.name, by decide, Tryz.func137.trans (congrArg some (by kernel_rfl))⟩,
 f35 := ⟨Tryz.f99.name, by decide, Tryz.func99.trans (congrArg some (by kernel_rfl))⟩,
 f40 := ⟨Tryz.f140.name, by decide, Tryz.func140.trans (congrArg some (by kernel_rfl))⟩,
 t0 := Tryz.underlying0,
 a0 := Tryz.isAgg0,
 z0 := Tryz.sizeOf0,
 v0 := Tryz.zeroValue0,
 t3 := Tryz.underlying3,
 a3 := Tryz.isAgg3,
 z3 := Tryz.sizeOf3,
 v3 := Tryz.zeroValue3,
 t4 := Tryz.underlying4,
 a4 := Tryz.isAgg4,
 z4 := Tryz.sizeOf4,
 v4 := Tryz.zeroValue4,
 t5 := Tryz.underlying5,
 a5 := Tryz.isAgg5,
 z5 := Tryz.sizeOf5,
 v5 := Tryz.zeroValue5,
 t9 := Tryz.underlying9,
 a9 := Tryz.isAgg9,
 z9 := Tryz.sizeOf9,
 v9 := Tryz.zeroValue9,
 t22 := Tryz.underlying55,
 a22 := Tryz.isAgg55,
 z22 := Tryz.sizeOf55,
 v22 := Tryz.zeroValue55,
 t23 := Tryz.underlying55,
 a23 := Tryz.isAgg55,
 z23 := Tryz.sizeOf55,
 v23 := Tryz.zeroValue55,
 t25 := Tryz.underlying3,
 a25 := Tryz.isAgg3,
 z25 := Tryz.sizeOf3,
 v25 := Tryz.zeroValue3,
 t32 := Tryz.underlying117,
 a32 := Tryz.isAgg117,
 z32 := Tryz.sizeOf117,
 v32 := Tryz.zeroValue117,
 t35 := Tryz.underlying168,
 a35 := Tryz.isAgg168,
 z35 := Tryz.sizeOf168,
 v35 := Tryz.zeroValue168,
 t36 := Tryz.underlying169,
 a36 := Tryz.isAgg169,
 z36 := Tryz.sizeOf169,
 v36 := Tryz.zeroValue169,
 t41 := Tryz.underlying174,
 a41 := Tryz.isAgg174,
 z41 := Tryz.sizeOf174,
 v41 := Tryz.zeroValue174,
 t44 := Tryz.underlying29,
 a44 := Tryz.isAgg29,
 z44 := Tryz.sizeOf29,
 v44 := Tryz.zeroValue29,
 t46 := Tryz.underlying149,
 a46 := Tryz.isAgg149,
 z46 := Tryz.sizeOf149,
 v46 := Tryz.zeroValue149,
 t53 := Tryz.underlying190,
 a53 := Tryz.isAgg190,
 z53 := Tryz.sizeOf190,
 v53 := Tryz.zeroValue190,
 t57 := Tryz.underlying194,
 a57 := Tryz.isAgg194,
 z57 := Tryz.sizeOf194,
 v57 := Tryz.zeroValue194,
 t63 := Tryz.underlying197,
 a63 := Tryz.isAgg197,
 z63 := Tryz.sizeOf197,
 v63 := Tryz.zeroValue197,
 t64 := Tryz.underlying198,
 a64 := Tryz.isAgg198,
 z64 := Tryz.sizeOf198,
 v64 := Tryz.zeroValue198 }


def srtI (zs : List Int) : List Int := zs.mergeSort fun x y => decide (x ≤ y)
theorem srtI_length (zs : List Int) : (srtI zs).length = zs.length := List.length_mergeSort zs
theorem sortI_calls (blk off cap : Nat) (zs : List Int) (w : World) (hH : Sort.Holds (Value.int .i64) w blk off zs.toArray) (hblk : blk < w.heap.size) (hsz : zs.length < 4611686018427387904) :
  Calls Tryz.prog 28 #[.slice (some ⟨blk, off, none⟩) zs.length cap] w fun e w' => e = .returned (.tuple #[]) ∧ ∃ n os, w' = Sort.grow (Sort.putRow (Value.int .i64) (Sort.ahead w n) blk off (srtI zs).toArray) os :=
 AnyM.slices_Sort_int sortA blk off cap zs w hH hblk hsz
theorem sortI_none (p : Option Addr) (cap : Nat) (w : World) : Calls Tryz.prog 28 #[.slice p 0 cap] w fun e w' => e = .returned (.tuple #[]) ∧ w' = w := AnyM.slices_Sort_int_none sortA p cap w
theorem SortI_any (v : Value) (zs : List Int) (base : Nat) (w : World) (hown : OwnIs w base v zs) (hbase : base ≤ w.heap.size) (hz : zs.length ≤ 1000) :
  Calls Tryz.prog 28 #[v] w fun e w' => e = .returned (.tuple #[]) ∧ OwnIs w' base v (srtI zs) ∧ Below base w w' := by
 rcases hown.2 with ⟨hv, h0⟩ | ⟨g, cap, cur, hv, hg, hc, hn, hm, hcur, _⟩
 ·have hz0 : zs = [] := List.eq_nil_of_length_eq_zero h0
  subst hz0 hv
  exact (sortI_none none 0 w).mono fun e w' ⟨he, hw⟩ => ⟨he, by rw [hw, show srtI [] = [] from by simp [srtI]]; exact hown, by rw [hw]; exact Below.refl _ _⟩
 ·subst hv
  obtain ⟨g', cap', e1, e2, e3, e4, e5, e6, hH⟩ := Lib.holds_of_ownsRow (enc := Value.int .i64) hown (by simp)
  cases e1
  refine (sortI_calls g 0 cap zs w hH e3 (by omega)).mono fun e w' ⟨he, n, os, hw⟩ => ⟨he, ?_, ?_⟩
  ·subst hw
   have := ownsRow_sortedI (n := n) (os := os) (ss := zs) (ts := srtI zs) (srtI_length zs) hg hc hn hm hcur
   unfold OwnIs
   rw [srtI_length]
   exact this
  ·subst hw
   exact (Below.refl base w).grown (grownBy_sortedI _) hbase (fun k e => by cases e; exact hg)
set_option maxRecDepth 100000 in
set_option maxHeartbeats 400000 in
theorem Sorted_any (Bn : Nat) (v : Value) (zs : List Int) (w0 w : World) (hv : IsRow w0 v zs) (hz : zs.length ≤ 1000) (hs0 : w0.heap.size ≤ w.heap.size) (hb0 : ∀ q, q < w0.heap.size → w.heap[q]? = w0.heap[q]?) (hBn : w0.heap.size ≤ Bn) (hc : w.cell? ⟨Bn, 0, none⟩ = some v) :
  Calls Tryz.prog 29 #[.func (.func 76) #[] #[.pointer (some ⟨Bn, 0, none⟩)]] w fun e w' => ∃ ov, e = .returned ov ∧ OwnIs w' w.heap.size ov (srtI zs) ∧ Below w.heap.size w w' := by
 have Hb0 := hide hb0
 clear hb0
 go_enter Tryz.func29, Tryz.ntmps29
 go_wp2_with fail
 refine (Collect_any Bn v zs w0 _ hv hz hs0 Hb0.out hBn hc).mono ?_
 rintro e w1 ⟨ov, rfl, ho, b1⟩
 go_wp2_with fail
 refine (SortI_any _ _ _ _ ho b1.size hz).mono ?_
 rintro e w2 ⟨rfl, ho2, b2⟩
 go_wp2_with fail
 go_ret
 exact ⟨ov, rfl, ho2, b1.trans b2⟩
end Go.Proofs.YthkoaecafmhlcaaGreat
/- The cells of a structure stored one behind the other: what is read behind it. -/
namespace Go.Proofs.YthkoaecafmhlcaaGreat
open Go.RowKit

def stores (n : Nat) : List Value → Nat → World → World
 | [], _, W => W
 | v :: vs, k, W => stores n vs (k + 1) (W.setCell ⟨n, k, none⟩ v)
theorem stores_other (n : Nat) (q : Addr) : ∀ (vs : List Value) (k : Nat) (W : World), (∀ j, j < vs.length → q ≠ ⟨n, k + j, none⟩) → (stores n vs k W).cell? q = W.cell? q
 | [], _, _, _ => rfl
 | v :: vs, k, W, h => by
  rw [stores, stores_other n q vs (k + 1) _ (fun j hj => by have := h (j + 1) (by simp; omega); rwa [show k + (j + 1) = k + 1 + j by omega] at this)]
  exact World.cell?_setCell_other _ _ _ _ (by have := h 0 (by simp); first | exact this | exact this.symm)
theorem stores_at (n : Nat) : ∀ (vs : List Value) (k : Nat) (W : World), (∀ j, j < vs.length → ∃ u, W.cell? ⟨n, k + j, none⟩ = some u) → ∀ j u, vs[j]? = some u → (stores n vs k W).cell? ⟨n, k + j, none⟩ = some u
 | [], _, _, _, j, u, h => by simp at h
 | v :: vs, k, W, hw, j, u, h => by
  rw [stores]
  cases j with
  | zero =>
   simp at h
   subst h
   rw [Nat.add_zero, stores_other n _ vs (k + 1) _ (fun j hj e => by simp only [Addr.mk.injEq] at e; omega)]
   obtain ⟨u, hu⟩ := hw 0 (by simp)
   exact World.cell?_setCell_same' _ _ _ (by rw [Nat.add_zero] at hu; rw [hu]; rfl)
  | succ j =>
   rw [show k + (j + 1) = k + 1 + j by omega]
   refine stores_at n vs (k + 1) _ (fun i hi => ?_) j u (by simpa using h)
   obtain ⟨u', hu'⟩ := hw (i + 1) (by simp; omega)
   refine ⟨u', (World.cell?_setCell_other _ _ _ _ (fun e => ?_)).trans (by rw [show k + 1 + i = k + (i + 1) by omega]; exact hu')⟩
   first | (simp only [Addr.mk.injEq] at e; omega)
end Go.Proofs.YthkoaecafmhlcaaGreat
/- Plain: integers as bytes, and what is read of them (package codec). -/
namespace Go.Proofs.YthkoaecafmhlcaaGreat

def vint (u : Nat) : List Int := if u < 128 then [(u : Int)] else ((u % 128 + 128 : Nat) : Int) :: vint (u / 128)
termination_by u
decreasing_by omega
theorem vint_lt {u : Nat} (h : u < 128) : vint u = [(u : Int)] := by rw [vint, if_pos h]
theorem vint_ge {u : Nat} (h : 128 ≤ u) : vint u = ((u % 128 + 128 : Nat) : Int) :: vint (u / 128) := by rw [vint, if_neg (by omega)]
theorem vint_byte : ∀ (n u : Nat), u ≤ n → ∀ c, c ∈ vint u → 0 ≤ c ∧ c ≤ 255
 | n, u, h, c, hc => by
  by_cases h1 : u < 128
  ·rw [vint_lt h1, List.mem_singleton] at hc
   omega
  ·rw [vint_ge (by omega), List.mem_cons] at hc
   rcases hc with hc | hc
   ·omega
   ·match n, h with
    | 0, h => omega
    | n + 1, h => exact vint_byte n (u / 128) (by omega) c hc
def zig (n : Int) : Nat := if 0 ≤ n then (2 * n).toNat else (-2 * n - 1).toNat
def putI (n : Int) : List Int := vint (zig n)
def putL (l : List Int) : List Int := l.flatMap putI
end Go.Proofs.YthkoaecafmhlcaaGreat
