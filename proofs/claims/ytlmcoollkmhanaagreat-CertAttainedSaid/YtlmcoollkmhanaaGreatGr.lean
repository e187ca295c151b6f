
/- Parts SpE SpF SpG of the proof, joined. -/
import Derived.Test.YtlmcoollkmhanaaGreatGb
import Derived.Shelf.SortM.Plain
import Derived.Shelf.SortM.SortNone
import Derived.Sort.OwnSortedInts
import Derived.Lib.OwnBridge
import Derived.Deep.RegionHeld3
import Derived.Deep.DeepCutAuto
import Derived.StillTailTactics
/- slices.Values of integers, collected: AppendSeq, Collect. -/
namespace Go.Proofs.YtlmcoollkmhanaaGreat
open Go.RowKit Go.Shelf
attribute [local go_sem] Oper.semAt_some

set_option maxRecDepth 100000 in
set_option maxHeartbeats 1000000 in
theorem vals_in (n : Nat) (hn : 1 ≤ n) (l Bn : Nat) (v : Value) (zs : List Int) (w0 : World) (hv : IsRow w0 v zs) (J Jx : List Int → World → Prop) (W : World) (_hs0 : w0.heap.size ≤ W.heap.size) (hb0 : ∀ q, q < w0.heap.size → W.heap[q]? = w0.heap[q]?) (_hJ : AbidesFrom W.heap.size J)
  (hY : ∀ pre x W1, J pre W1 → pre.length < zs.length → YieldAt Fence.wide (n - 1) Tryz.prog l #[.int .i64 x] W1 fun e W' =>
   (e = .returned (.bool true) ∧ J (pre ++ [x]) W' ∧ KeepS (fun q => q < w0.heap.size ∨ q = Bn) W1 W') ∨ (e = .returned (.bool false) ∧ Jx (pre ++ [x]) W'))
  (hc : W.cell? ⟨Bn, 0, none⟩ = some v) (h0 : J [] W) :
  CallsIn Fence.wide n Tryz.prog 86 #[.func (.yield l) #[] #[], .pointer (some ⟨Bn, 0, none⟩)] W fun e W' => (∃ v, e = .returned v) ∧
   ((∃ ys, ys = zs ∧ J ys W') ∨ (∃ pre, pre <+: zs ∧ Jx pre W')) := by
 obtain ⟨a, cap, rfl, h1, h2, h3⟩ := hv
 refine callsIn_of_wp Tryz.func86 rfl trivial ?_ rfl
 simp only [Tryz.ntmps86, List.size_toArray, List.length_cons, List.length_nil, Nat.reduceAdd, Nat.reduceSub, Array.replicate_succ, Array.replicate_zero, List.push_toArray, List.append_toArray, List.nil_append, List.cons_append]
 gi_wp2
 gi_loopw [7] (fun i wr => ∃ (t : Nat) (pre : List Int), t ≤ zs.length ∧ i = .int .i64 (t : Int) ∧ Hid (pre = zs.take t) ∧ J pre wr ∧ KeepS (fun q => q < w0.heap.size ∨ q = Bn) W wr) (fun i _ => zs.length - (intOf i).toNat)
 case atStart => exact ⟨0, [], Nat.zero_le _, rfl, hide rfl, h0, KeepS.refl _ _⟩
 case round =>
  obtain ⟨t, pre, ht, rfl, Hp, hJs, hK⟩ := hrel
  by_cases hlt : t < zs.length
  ·obtain ⟨b, off, rfl, h4, h5⟩ := h3 t hlt
   have h5' : wr.cell? ⟨b, off + t, none⟩ = some (.int .i64 (iAt zs t)) := ((hK.cell (b := b) (.inl h4) (off + t)).trans (World.cell?_of_block (a := ⟨b, off + t, none⟩) (hb0 b h4))).trans h5
   have Hpn : Hid (pre ++ [iAt zs t] = zs.take (t + 1)) := by
    show _ = _
    rw [Hp.out, take_snoc_is zs t hlt]
   obtain ⟨fn, tmps, assign, body, hy, hR⟩ := hY pre (iAt zs t) wr hJs (by rw [Hp.out, List.length_take]; omega)
   clear h5 h3
   gi_wp2
   refine hR.mono ?_
   rintro e W3 (⟨rfl, hJ3, hk3⟩ | ⟨rfl, hJx3⟩)
   ·gi_wp2
    go_roundw
    case rel => exact ⟨t + 1, _, by omega, by go_num, Hpn, hJ3, hK.trans hk3⟩
    case measure => simp [intOf]; omega
   ·gi_wp2
    refine bodyPost_ret (results_none rfl _ _ _) rfl ?_
    exact ⟨⟨_, rfl⟩, .inr ⟨_, by rw [Hpn.out]; exact List.take_prefix _ _, hJx3⟩⟩
  ·gi_wp2
   go_end0
   exact ⟨⟨_, rfl⟩, .inl ⟨pre, by rw [Hp.out, show t = zs.length by omega, List.take_length], hJs⟩⟩
theorem vals_stops (n : Nat) (hn : 1 ≤ n) (Bn : Nat) (v : Value) (zs : List Int) (w0 w : World) (hv : IsRow w0 v zs) (hs0 : w0.heap.size ≤ w.heap.size) (hb0 : ∀ q, q < w0.heap.size → w.heap[q]? = w0.heap[q]?) (hc : w.cell? ⟨Bn, 0, none⟩ = some v) :
  SeqStopsK Fence.wide n Tryz.prog 86 #[.pointer (some ⟨Bn, 0, none⟩)] (fun x : Int => #[Value.int .i64 x]) (KeepS (fun q => q < w0.heap.size ∨ q = Bn)) (fun ys => ys = zs) (fun pre => pre <+: zs) zs.length w := by
 intro l J Jx W hW hJ hJx hY h0
 have hlt := World.block_lt_of_cell? _ _ hc
 exact vals_in n hn l Bn v zs w0 hv J Jx W (Nat.le_trans hs0 hW.size) (fun q hq => (hW.block q (Nat.lt_of_lt_of_le hq hs0)).trans (hb0 q hq)) hJ hY ((hW.cell (p := ⟨Bn, 0, none⟩) hlt).trans hc) h0
set_option maxRecDepth 100000 in
set_option maxHeartbeats 400000 in
theorem Values_any (v : Value) (zs : List Int) (w : World) (hv : IsRow w v zs) : Calls Tryz.prog 53 #[v] w fun e w' =>
  e = .returned (.func (.func 86) #[] #[.pointer (some ⟨w.heap.size, 0, none⟩)]) ∧ w' = w.alloc (.cells #[v] 25) := by
 obtain ⟨a, cap, rfl, -⟩ := hv
 go_enter Tryz.func53, Tryz.ntmps53
 go_wp2
 go_ret
 exact ⟨rfl, rfl⟩
def AI (w : World) (pre : List Int) (W : World) : Prop :=
 ∃ ov, W.cell? ⟨w.heap.size, 0, none⟩ = some ov ∧ W.frozen? ⟨w.heap.size, 0, none⟩ = false ∧ OwnIs W (w.heap.size + 1) ov pre ∧ Below w.heap.size w W ∧ w.heap.size < W.heap.size
theorem KeepS.grown {S : Nat → Prop} {A B C : World} {row : Option Nat} (h : KeepS S A B) (hg : B.grownBy C row) (hS : ∀ q, S q → q < B.heap.size) (hr : ∀ k, row = some k → ¬ S k) : KeepS S A C :=
 ⟨Nat.le_trans h.1 hg.size, fun q hq => (hg.block q (hS q hq) (fun e => hr q e.symm hq)).trans (h.2 q hq)⟩
theorem ownsRow_kept' {W W' : World} {base : Nat} {v : Value} {c : List Int} {row : Option Nat} (h : OwnIs W base v c) (hg : W.grownBy W' row) (hr : ∀ r, row = some r → ∃ o : Obj, W.heap[r]? = some o ∧ o.isCells = false) : OwnIs W' base v c := by
 refine World.ownsRow.kept h hg ?_
 rcases h.2 with ⟨hv, _⟩ | ⟨g, cap, cur, hv, _, hc, _⟩
 ·left; rw [hv]; rfl
 ·right
  rw [hv]
  intro e
  obtain ⟨o, ho, hc2⟩ := hr g e.symm
  rw [hc] at ho; cases ho; cases hc2
theorem own_cells' {W : World} {base e size n : Nat} {v : Value} {xs : List Value} (h : W.ownsRow base e size v n xs) {r : Nat} (hr : v.ownBlock = some r) {o : Obj} (ho' : W.heap[r]? = some o) : o.isCells = true := by
 rcases h.2 with ⟨hv, _⟩ | ⟨g, cap, cur, hv, _, hc, _⟩
 ·rw [hv] at hr; cases hr
 ·rw [hv] at hr; cases hr
  rw [hc] at ho'; cases ho'; rfl
set_option maxRecDepth 100000 in
set_option maxHeartbeats 2000000 in
theorem AppendSeq_any (Bn : Nat) (v : Value) (zs : List Int) (w0 w : World) (hv : IsRow w0 v zs) (hz : zs.length ≤ 1000) (hs0 : w0.heap.size ≤ w.heap.size) (hb0 : ∀ q, q < w0.heap.size → w.heap[q]? = w0.heap[q]?) (hBn : w0.heap.size ≤ Bn) (hc : w.cell? ⟨Bn, 0, none⟩ = some v) :
  Calls Tryz.prog 109 #[.slice none 0 0, .func (.func 86) #[] #[.pointer (some ⟨Bn, 0, none⟩)]] w fun e w' => ∃ ov, e = .returned ov ∧ OwnIs w' w.heap.size ov zs ∧ Below w.heap.size w w' := by
 have hBl := World.block_lt_of_cell? _ _ hc
 simp only at hBl
 obtain ⟨i0, hi, hz0, hz1, hz2⟩ := info_parts infoIs
 refine (callsIn_wide (n := 4)).1 ?_
 refine callsIn_of_wp_marks Tryz.func109 rfl trivial ?_ rfl
 simp only [Tryz.ntmps109, List.size_toArray, List.length_cons, List.length_nil, Nat.reduceAdd, Nat.reduceSub, Array.replicate_succ, Array.replicate_zero, List.push_toArray, List.append_toArray, List.nil_append, List.cons_append]
 gi_wp2_with fail
 have b0 : Below w.heap.size w (w.alloc (.cells #[.slice none 0 0] 25)) := (by ((repeat' (first | exact Below.refl _ _ | refine Below.alloc ?_ ?_ _ | refine Below.setCell ?_ ?_ _ | refine Below.drew ?_ | refine below_drewN ?_ _)) <;> (first | omega | (simp; done) | (simp; omega))))
 have x1 : AI w [] (w.alloc (.cells #[.slice none 0 0] 25)) := ⟨_, by simp, by simp, OwnIs.nil _ _, b0, by simp⟩
 have x2 : (w.alloc (.cells #[.slice none 0 0] 25)).heap.size = w.heap.size + 1 := by simp
 have xc := (b0.cell (p := ⟨Bn, 0, none⟩) hBl).trans hc
 have x3 : ∀ q, q < w0.heap.size → (w.alloc (.cells #[.slice none 0 0] 25)).heap[q]? = w0.heap[q]? := fun q hq => (b0.block q (by omega)).trans (hb0 q hq)
 generalize w.alloc (.cells #[.slice none 0 0] 25) = W0 at *
 refine wpIn_rangeFunc_ownF rfl (by omega) (gf := 86) (lb := #[.pointer (some ⟨Bn, 0, none⟩)]) rfl trivial (enters_of Tryz.func86 (by kernel_rfl) rfl)
  (vals_stops 3 (by omega) Bn v zs w0 W0 hv (by omega) x3 xc) (fun h k => h.trans k) (fun W q o o' hq h1 _ _ => KeepS.put (by rintro (h | h) <;> omega) (Array.getElem?_eq_some_iff.1 h1).1 _) (Below.refl _ _) (fun _ => rfl)
  (fun pre W => AI w pre W) (fun _ _ _ => False)
  (by
   rintro pre X Y row ⟨ov, a1, a2, a3, e1, e2⟩ hg hr
   have hr' := fun r e => (hr r e).2
   exact ⟨ov, cell_kept a1 hg hr', (frozen_kept a1 hg hr').trans a2, ownsRow_kept' a3 hg hr', e1.grown hg e1.size (fun k e => by have := (hr k e).1; omega), Nat.lt_of_lt_of_le e2 hg.size⟩)
  (fun _ _ _ _ _ hs _ _ => hs) x1
  (fun x => { tmps := #[.slice none 0 0, .func (.func 86) #[] #[.pointer (some ⟨Bn, 0, none⟩)], .pointer (some ⟨w.heap.size, 0, none⟩), undef, .slice none 0 0, .int .i64 x, .func (.func 86) #[] #[.pointer (some ⟨Bn, 0, none⟩)], .int .i64 x, undef, undef, undef, undef, undef], defers := [] }) ?assign ?body ?done ?stop
 case assign =>
  intro l x W K hK
  gi_wp2
  exact hK
 case body =>
  rintro l pre x W ⟨ov, a1, a2, a3, e1, e2⟩ hlen
  obtain ⟨oa, ocap, hov, q1, q2⟩ := a3.val
  have hlow := World.ownsRow.lt a3
  have a3' := a3
  unfold OwnIs at a3'
  subst hov
  have hez := e1.size
  gi_wp2_with (gi_at_builtin; refine wpListIn_append_own _ rfl _ _ 25 rfl (w.heap.size + 1) 3 i0 (.int .i64 0) 1 8 Tryz.underlying25 hi hz0 hz1 hz2 rfl (by decide) _ pre.length (encI pre) rfl (World.ownsRow.alloc a3' _) ⟨W.heap.size, 0, none⟩ 1 1 [.int .i64 x] rfl rfl (cells_new W [.int .i64 x] _) (by simp [Value.oneCell']) (by unfold maxLen; omega) (by omega) (by simp; omega) ?_; intro v4 w4 hown4 hg4 _; obtain ⟨a4, cap4, rfl⟩ := ownsRow_val hown4; obtain ⟨p1, p2⟩ := grown_keeps hg4 (b := w.heap.size) (by simp; omega) (fun h => (by have := hlow _ h.symm; omega)))
  have o1 := (old1 W (.cells #[.int .i64 x] 3) e2 0)
  have hz4 := hg4.size
  simp only [World.size_alloc] at hz4
  refine ⟨((KeepsOthers.alloc W _).trans (KeepsOthers.of_grownBy hg4 (fun r o hr ho => own_cells' (World.ownsRow.alloc a3' _) hr ho))).trans (KeepsOthers.setCell _ _ _), ?_, ?_⟩
  ·refine KeepS.set (KeepS.grown (B := W.alloc (.cells #[.int .i64 x] 3)) ⟨by simp, fun q hq => Below.heap_alloc _ _ _ (by rcases hq with h | h <;> omega)⟩ hg4 (fun q hq => by simp; rcases hq with h | h <;> omega) (fun r hr => by have := hlow r hr; show ¬ (r < w0.heap.size ∨ r = Bn); omega)) (by show ¬ (w.heap.size < w0.heap.size ∨ w.heap.size = Bn); omega) _
  ·refine ⟨_, World.cell?_setCell_same' _ _ _ (by rw [p1, o1.1, a1]; rfl), by rw [World.frozen?_setCell, p2, o1.2]; exact a2, ownsRow_setCell_below (OwnIs.app hown4) (by first | omega | simp) _, ?_, by simp; omega⟩
   exact Below.setCell ((e1.alloc (by omega) _).grown hg4 (by simp; omega) (fun r h => by have := hlow r h; omega)) (Nat.le_refl _) _
 case done =>
  rintro D ys W hD rfl ⟨ov, a1, a2, a3, e1, e2⟩ hK
  gi_wp2
  refine ⟨by simp, .inl ⟨_, _, rfl, run_takeDeferred hK, ?_⟩⟩
  exact ⟨_, results_tmp rfl _ _ _, ov, rfl, (World.ownsRow.mono (ownsRow_putObj a3 _ hK rfl) (by omega)), e1.grown (grownBy_putObj' W D (.deferred none)) e1.size (fun k e => by cases e; omega)⟩
 case stop =>
  rintro D c pre W _ _ h _
  exact h.elim
set_option maxRecDepth 100000 in
set_option maxHeartbeats 400000 in
theorem Collect_any (Bn : Nat) (v : Value) (zs : List Int) (w0 w : World) (hv : IsRow w0 v zs) (hz : zs.length ≤ 1000) (hs0 : w0.heap.size ≤ w.heap.size) (hb0 : ∀ q, q < w0.heap.size → w.heap[q]? = w0.heap[q]?) (hBn : w0.heap.size ≤ Bn) (hc : w.cell? ⟨Bn, 0, none⟩ = some v) :
  Calls Tryz.prog 84 #[.func (.func 86) #[] #[.pointer (some ⟨Bn, 0, none⟩)]] w fun e w' => ∃ ov, e = .returned ov ∧ OwnIs w' w.heap.size ov zs ∧ Below w.heap.size w w' := by
 have Hb0 := hide hb0
 clear hb0
 go_enter Tryz.func84, Tryz.ntmps84
 go_wp2_with fail
 refine (AppendSeq_any Bn v zs w0 _ hv hz hs0 Hb0.out hBn hc).mono ?_
 rintro e w1 ⟨ov, rfl, ho, b1⟩
 go_wp2_with fail
 go_ret
 exact ⟨ov, rfl, ho, b1⟩
end Go.Proofs.YtlmcoollkmhanaaGreat
/- slices.Sorted of slices.Values of integers. -/
namespace Go.Proofs.YtlmcoollkmhanaaGreat
open Go.RowKit Go.Shelf
def sortA_ren : Go.Shelf.Ren := ⟨fun | 5 => 85 | 8 => 111 | 7 => 110 | 19 => 140 | 20 => 141 | 10 => 131 | 11 => 132 | 12 => 133 | 13 => 134 | 14 => 135 | 15 => 136 | 16 => 137 | 17 => 138 | 18 => 139 | 30 => 156 | 31 => 157 | 32 => 158 | 33 => 159 | 34 => 160 | 35 => 107 | 40 => 167 | n => n, fun | 23 => 25 | 25 => 3 | 3 => 3 | 32 => 150 | 22 => 25 | 0 => 0 | 44 => 55 | 46 => 44 | 4 => 4 | 36 => 169 | 35 => 168 | 41 => 172 | 5 => 5 | 9 => 9 | 53 => 187 | 57 => 191 | 63 => 197 | 64 => 99 | n => n, fun | n => n⟩
theorem sortA : Go.Proofs.SlLaysM.n5 Tryz.prog sortA_ren := {
 mixed := by kernel_rfl,
 f5 := ⟨Tryz.f85.name, by decide, Tryz.func85.trans (congrArg some (by kernel_rfl))⟩,
 f7 := ⟨Tryz.f110.name, by decide, Tryz.func110.trans (congrArg some (by kernel_rfl))⟩,
 f8 := Tryz.func111.trans (congrArg some (by kernel_rfl)),
 f10 := ⟨Tryz.f131.name, by decide, Tryz.func131.trans (congrArg some (by kernel_rfl))⟩,
 f11 := ⟨Tryz.f132.name, by decide, Tryz.func132.trans (congrArg some (by kernel_rfl))⟩,
 f12 := ⟨Tryz.f133.name, by decide, Tryz.func133.trans (congrArg some (by kernel_rfl))⟩,
 f13 := ⟨Tryz.f134.name, by decide, Tryz.func134.trans (congrArg some (by kernel_rfl))⟩,
 f14 := ⟨Tryz.f135.name, by decide, Tryz.func135.trans (congrArg some (by kernel_rfl))⟩,
 f15 := ⟨Tryz.f136.name, by decide, Tryz.func136.trans (congrArg some (by kernel_rfl))⟩,
 f16 := ⟨Tryz.f137.name, by decide, Tryz.func137.trans (congrArg some (by kernel_rfl))⟩,
 f17 := ⟨Tryz.f138.name, by decide, Tryz.func138.trans (congrArg some (by kernel_rfl))⟩,
 f18 := ⟨Tryz.f139.name, by decide, Tryz.func139.trans (congrArg some (by kernel_rfl))⟩,
 f19 := Tryz.func140.trans (congrArg some (by kernel_rfl)),
 f20 := Tryz.func141.trans (congrArg some (by kernel_rfl)),
 f30 := ⟨Tryz.f156.name, by decide, Tryz.func156.trans (congrArg some (by kernel_rfl))⟩,
 f31 := Tryz.func157.trans (congrArg some (by kernel_rfl)),
 f32 := Tryz.func158.trans (congrArg some (by kernel_rfl)),
 f33 := ⟨Tryz.f159.name, by decide, Tryz.func159.trans (congrArg some (by kernel_rfl))⟩,
 f34 := ⟨Tryz.f160.name, by decide, Tryz.func160.trans (congrArg some (by kernel_rfl))⟩,
 f35 := ⟨Tryz.f107.name, by decide, Tryz.func107.trans (congrArg some (by kernel_rfl))⟩,
 f40 := ⟨Tryz.f167.name, by decide, Tryz.func167.trans (congrArg some (by kernel_rfl))⟩,
 t0 := Tryz.underlying0,
 a0 := Tryz.isAgg0,
 z0 := Tryz.sizeOf0,
 v0 := Tryz.zeroValue0,
 t3 := Tryz.underlying3,
 a3 := Tryz.isAgg3,
 z3 := Tryz.sizeOf3,
 v3 := Tryz.zeroValue3,
 t4 := Tryz.underlying4,
 a4 := Tryz.isAgg4,
 z4 := Tryz.sizeOf4,
 v4 := Tryz.zeroValue4,
 t5 := Tryz.underlying5,
 a5 := Tryz.isAgg5,
 z5 := Tryz.sizeOf5,
 v5 := Tryz.zeroValue5,
 t9 := Tryz.underlying9,
 a9 := Tryz.isAgg9,
 z9 := Tryz.sizeOf9,
 v9 := Tryz.zeroValue9,
 t22 := Tryz.underlying25,
 a22 := Tryz.isAgg25,
 z22 := Tryz.sizeOf25,
 v22 := Tryz.zeroValue25,
 t23 := Tryz.underlying25,
 a23 := Tryz.isAgg25,
 z23 := Tryz.sizeOf25,
 v23 := Tryz.zeroValue25,
 t25 := Tryz.underlying3,
 a25 := Tryz.isAgg3,
 z25 := Tryz.sizeOf3,
 v25 := Tryz.zeroValue3,
 t32 := Tryz.underlying150,
 a32 := Tryz.isAgg150,
 z32 := Tryz.sizeOf150,
 v32 := Tryz.zeroValue150,
 t35 := Tryz.underlying168,
 a35 := Tryz.isAgg168,
 z35 := Tryz.sizeOf168,
 v35 := Tryz.zeroValue168,
 t36 := Tryz.underlying169,
 a36 := Tryz.isAgg169,
 z36 := Tryz.sizeOf169,
 v36 := Tryz.zeroValue169,
 t41 := Tryz.underlying172,
 a41 := Tryz.isAgg172,
 z41 := Tryz.sizeOf172,
 v41 := Tryz.zeroValue172,
 t44 := Tryz.underlying55,
 a44 := Tryz.isAgg55,
 z44 := Tryz.sizeOf55,
 v44 := Tryz.zeroValue55,
 t46 := Tryz.underlying44,
 a46 := Tryz.isAgg44,
 z46 := Tryz.sizeOf44,
 v46 := Tryz.zeroValue44,
 t53 := Tryz.underlying187,
 a53 := Tryz.isAgg187,
 z53 := Tryz.sizeOf187,
 v53 := Tryz.zeroValue187,
 t57 := Tryz.underlying191,
 a57 := Tryz.isAgg191,
 z57 := Tryz.sizeOf191,
 v57 := Tryz.zeroValue191,
 t63 := Tryz.underlying197,
 a63 := Tryz.isAgg197,
 z63 := Tryz.sizeOf197,
 v63 := Tryz.zeroValue197,
 t64 := Tryz.underlying99,
 a64 := Tryz.isAgg99,
 z64 := Tryz.sizeOf99,
 v64 := Tryz.zeroValue99 }


def srtI (zs : List Int) : List Int := zs.mergeSort fun x y => decide (x ≤ y)
theorem srtI_length (zs : List Int) : (srtI zs).length = zs.length := List.length_mergeSort zs
theorem sortI_calls (blk off cap : Nat) (zs : List Int) (w : World) (hH : Sort.Holds (Value.int .i64) w blk off zs.toArray) (hblk : blk < w.heap.size) (hsz : zs.length < 4611686018427387904) :
  Calls Tryz.prog 85 #[.slice (some ⟨blk, off, none⟩) zs.length cap] w fun e w' => e = .returned (.tuple #[]) ∧ ∃ n os, w' = Sort.grow (Sort.putRow (Value.int .i64) (Sort.ahead w n) blk off (srtI zs).toArray) os :=
 AnyM.slices_Sort_int sortA blk off cap zs w hH hblk hsz
theorem sortI_none (p : Option Addr) (cap : Nat) (w : World) : Calls Tryz.prog 85 #[.slice p 0 cap] w fun e w' => e = .returned (.tuple #[]) ∧ w' = w := AnyM.slices_Sort_int_none sortA p cap w
theorem SortI_any (v : Value) (zs : List Int) (base : Nat) (w : World) (hown : OwnIs w base v zs) (hbase : base ≤ w.heap.size) (hz : zs.length ≤ 1000) :
  Calls Tryz.prog 85 #[v] w fun e w' => e = .returned (.tuple #[]) ∧ OwnIs w' base v (srtI zs) ∧ Below base w w' := by
 rcases hown.2 with ⟨hv, h0⟩ | ⟨g, cap, cur, hv, hg, hc, hn, hm, hcur, _⟩
 ·have hz0 : zs = [] := List.eq_nil_of_length_eq_zero h0
  subst hz0 hv
  exact (sortI_none none 0 w).mono fun e w' ⟨he, hw⟩ => ⟨he, by rw [hw, show srtI [] = [] from by simp [srtI]]; exact hown, by rw [hw]; exact Below.refl _ _⟩
 ·subst hv
  obtain ⟨g', cap', e1, e2, e3, e4, e5, e6, hH⟩ := Lib.holds_of_ownsRow (enc := Value.int .i64) hown (by simp)
  cases e1
  refine (sortI_calls g 0 cap zs w hH e3 (by omega)).mono fun e w' ⟨he, n, os, hw⟩ => ⟨he, ?_, ?_⟩
  ·subst hw
   have := ownsRow_sortedI (n := n) (os := os) (ss := zs) (ts := srtI zs) (srtI_length zs) hg hc hn hm hcur
   unfold OwnIs
   rw [srtI_length]
   exact this
  ·subst hw
   exact (Below.refl base w).grown (grownBy_sortedI _) hbase (fun k e => by cases e; exact hg)
set_option maxRecDepth 100000 in
set_option maxHeartbeats 400000 in
theorem Sorted_any (Bn : Nat) (v : Value) (zs : List Int) (w0 w : World) (hv : IsRow w0 v zs) (hz : zs.length ≤ 1000) (hs0 : w0.heap.size ≤ w.heap.size) (hb0 : ∀ q, q < w0.heap.size → w.heap[q]? = w0.heap[q]?) (hBn : w0.heap.size ≤ Bn) (hc : w.cell? ⟨Bn, 0, none⟩ = some v) :
  Calls Tryz.prog 52 #[.func (.func 86) #[] #[.pointer (some ⟨Bn, 0, none⟩)]] w fun e w' => ∃ ov, e = .returned ov ∧ OwnIs w' w.heap.size ov (srtI zs) ∧ Below w.heap.size w w' := by
 have Hb0 := hide hb0
 clear hb0
 go_enter Tryz.func52, Tryz.ntmps52
 go_wp2_with fail
 refine (Collect_any Bn v zs w0 _ hv hz hs0 Hb0.out hBn hc).mono ?_
 rintro e w1 ⟨ov, rfl, ho, b1⟩
 go_wp2_with fail
 refine (SortI_any _ _ _ _ ho b1.size hz).mono ?_
 rintro e w2 ⟨rfl, ho2, b2⟩
 go_wp2_with fail
 go_ret
 exact ⟨ov, rfl, ho2, b1.trans b2⟩
end Go.Proofs.YtlmcoollkmhanaaGreat
/- Package spread: Pick. -/
namespace Go.Proofs.YtlmcoollkmhanaaGreat
open Go.RowKit Go.Shelf

def pieceI (l : List Int) (lo n : Nat) : List Int := (toI (ordL l)).drop lo |>.take n
def pickL (l : List Int) (f lost : Int) : List Int := if spOk l f lost = true then srtI (pieceI l (spM l f lost) f.toNat) else []
def goneL (l : List Int) (f lost : Int) : List Int := if spOk l f lost = true then srtI (pieceI l (spM l f lost + f.toNat) (l.length - (spM l f lost + f.toNat))) else []
theorem pieceI_length (l : List Int) (lo n : Nat) (h : lo + n ≤ l.length) : (pieceI l lo n).length = n := by simp [pieceI, toI_length, ordL_length]; omega
theorem pieceI_at (l : List Int) (lo n i : Nat) (h : lo + n ≤ l.length) (hi : i < n) : iAt (pieceI l lo n) i = (nAt (ordL l) (lo + i) : Int) := by
 have h1 : lo + i < (ordL l).length := by rw [ordL_length]; omega
 rw [← toI_at _ _ h1]
 simp [pieceI, iAt, List.getD_eq_getElem?_getD, hi]
theorem piece_row {w : World} {l : List Int} {b off lo n c2 : Nat} (h : ∀ i, i < l.length → w.cell? ⟨b, off + i, none⟩ = some (.int .i64 (nAt (ordL l) i))) (hb : b < w.heap.size) (hln : lo + n ≤ l.length) (hc2 : n ≤ c2) (hm : c2 ≤ 9223372036854775807) :
  IsRow w (.slice (some ⟨b, off + lo, none⟩) n c2) (pieceI l lo n) := by
 refine ⟨_, c2, by rw [pieceI_length l lo n hln], by rw [pieceI_length l lo n hln]; exact hc2, hm, fun i hi => ?_⟩
 rw [pieceI_length l lo n hln] at hi
 refine ⟨b, off + lo, rfl, hb, ?_⟩
 rw [pieceI_at l lo n i hln hi, Nat.add_assoc]
 exact h (lo + i) (by omega)
set_option maxRecDepth 100000 in
set_option maxHeartbeats 2000000 in
theorem Pick_ok (v : Value) (l : List Int) (f : Nat) (lost : Int) (w : World) (hv : IsRow w v l) (hok : spOk l f lost = true) :
  Calls Tryz.prog 24 #[v, .int .i64 f, .int .i64 lost] w fun e w' => ∃ v1 v2, e = .returned (.tuple #[v1, v2, .int .i64 0]) ∧ OwnIs w' w.heap.size v1 (pickL l f lost) ∧ OwnIs w' w.heap.size v2 (goneL l f lost) ∧ Below w.heap.size w w' := by
 obtain ⟨m1, m2, m3, m4, m5, m6⟩ := sp_mk hok
 have hi := (spOk_iff l f lost).1 hok
 have hb1 := hi.2.1
 have hb2 := hi.2.2.1
 have Hok := hide hok
 clear hok hi
 go_enter Tryz.func24, Tryz.ntmps24
 go_wp2_with fail
 refine (newGame_ok v l f lost _ hv Hok.out).mono ?_
 rintro e w1 ⟨gb, rfl, hgb, hG, b1⟩
 have hG' := hG
 obtain ⟨-, ⟨b, off, cap, g1, g2, g3, g4, g5⟩, g6, g7, g8, g9⟩ := hG'
 generalize hmq : spM l f lost = m at *
 have Hm := hide hmq
 clear hmq
 generalize spK l f lost = k at *
 have hmf : m + f ≤ l.length := by omega
 have hw1 : IntKind.i64.wrap ((m : Int) + f) = ((m + f : Nat) : Int) := by rw [IntWalk.i64_in _ (by omega)]; omega
 have M1 := hide m1
 have hsub : m + f - m = f := by omega
 have hmf2 : m + f ≤ cap := by omega
 clear m1 m2
 go_wp2_with fail
 have hlen1 : (pieceI l m f).length ≤ 1000 := by rw [pieceI_length _ _ _ hmf]; omega
 go_upto_region 4 with fail
 go_cut [6] (fun s6 wx => OwnIs wx w1.heap.size s6 (srtI (pieceI l m f)) ∧ Below w1.heap.size w1 wx)
 case first =>
  by_cases hcap : m = cap
  ·have hf0 : f = 0 := by omega
   subst hf0
   have hmz : m - m = 0 := by omega
   have hwm : IntKind.i64.wrap (m : Int) = m := IntWalk.i64_in _ (by omega)
   subst hcap
   have hp : IsRow w1 (.slice (some ⟨b, off, none⟩) 0 0) (pieceI l m 0) := ⟨some ⟨b, off, none⟩, 0, by simp [pieceI], by simp [pieceI], by omega, fun i hi => by simp [pieceI] at hi⟩
   have hp2 : IsRow w1.drew (.slice (some ⟨b, off, none⟩) 0 0) (pieceI l m 0) := ⟨some ⟨b, off, none⟩, 0, by simp [pieceI], by simp [pieceI], by omega, fun i hi => by simp [pieceI] at hi⟩
   have q1 : w1.heap.size ≤ ((w1.alloc (.cells #[.slice (some ⟨b, off, none⟩) 0 0] 25)).drew).heap.size := by simp
   have q2 : ∀ q, q < w1.heap.size → ((w1.alloc (.cells #[.slice (some ⟨b, off, none⟩) 0 0] 25)).drew).heap[q]? = w1.heap[q]? := fun q hq => Below.heap_alloc w1 _ q hq
   have q3 : ((w1.alloc (.cells #[.slice (some ⟨b, off, none⟩) 0 0] 25)).drew).cell? ⟨w1.heap.size, 0, none⟩ = some (.slice (some ⟨b, off, none⟩) 0 0) := by simp [go_sem]
   have Q2 := hide q2
   have Q3 := hide q3
   clear q2 q3
   go_region_with (first | (go_at_call 53; refine (Values_any _ _ _ hp2).mono ?_; rintro e w' ⟨rfl, rfl⟩) | (go_at_call 52; refine (Sorted_any w1.heap.size _ _ w1 _ hp hlen1 q1 Q2.out (Nat.le_refl _) Q3.out).mono ?_; rintro e w2 ⟨ov, rfl, ho, b2⟩))
   all_goals go_wp2_with fail
   all_goals go_meet
   all_goals exact ⟨ho.mono (by simp), (by ((repeat' (first | exact Below.refl _ _ | exact b2 | refine Below.alloc ?_ ?_ _ | refine Below.setCell ?_ ?_ _ | refine Below.drew ?_ | refine below_drewN ?_ _ | refine Below.trans ?_ (b2.mono ?_))) <;> (first | omega | (simp; done) | (simp; omega))))⟩
  ·have hmc : m < cap := by omega
   have hp : IsRow w1 (.slice (some ⟨b, off + m, none⟩) f (cap - m)) (pieceI l m f) := piece_row (w := w1) g5 g4 hmf (by omega) (by omega)
   have hp2 : IsRow w1.drew (.slice (some ⟨b, off + m, none⟩) f (cap - m)) (pieceI l m f) := piece_row (w := w1.drew) g5 g4 hmf (by omega) (by omega)
   have q1 : w1.heap.size ≤ ((w1.alloc (.cells #[.slice (some ⟨b, off + m, none⟩) f (cap - m)] 25)).drew).heap.size := by simp
   have q2 : ∀ q, q < w1.heap.size → ((w1.alloc (.cells #[.slice (some ⟨b, off + m, none⟩) f (cap - m)] 25)).drew).heap[q]? = w1.heap[q]? := fun q hq => Below.heap_alloc w1 _ q hq
   have q3 : ((w1.alloc (.cells #[.slice (some ⟨b, off + m, none⟩) f (cap - m)] 25)).drew).cell? ⟨w1.heap.size, 0, none⟩ = some (.slice (some ⟨b, off + m, none⟩) f (cap - m)) := by simp [go_sem]
   have Q2 := hide q2
   have Q3 := hide q3
   clear q2 q3
   go_region_with (first | (go_at_call 53; refine (Values_any _ _ _ hp2).mono ?_; rintro e w' ⟨rfl, rfl⟩) | (go_at_call 52; refine (Sorted_any w1.heap.size _ _ w1 _ hp hlen1 q1 Q2.out (Nat.le_refl _) Q3.out).mono ?_; rintro e w2 ⟨ov, rfl, ho, b2⟩))
   all_goals go_wp2_with fail
   all_goals go_meet
   all_goals exact ⟨ho.mono (by simp), (by ((repeat' (first | exact Below.refl _ _ | exact b2 | refine Below.alloc ?_ ?_ _ | refine Below.setCell ?_ ?_ _ | refine Below.drew ?_ | refine below_drewN ?_ _ | refine Below.trans ?_ (b2.mono ?_))) <;> (first | omega | (simp; done) | (simp; omega))))⟩
 case rest =>
  obtain ⟨ho1, b2⟩ := hcut
  have z2 := b2.size
  have hGc := hG.below (Nat.le_refl _) b2
  have c1 := (b2.cell (p := ⟨gb, 1, none⟩) g9).trans g1
  have c2 := (b2.cell (p := ⟨gb, 2, none⟩) g9).trans g6
  have c5 : ∀ i, i < l.length → wc.cell? ⟨b, off + i, none⟩ = some (.int .i64 (nAt (ordL l) i)) := fun i hi => (b2.cell (p := ⟨b, off + i, none⟩) g4).trans (g5 i hi)
  have c4 : b < wc.heap.size := by omega
  obtain ⟨r, hr⟩ : ∃ r, r = m + f := ⟨_, rfl⟩
  have hwr : IntKind.i64.wrap ((m : Int) + f) = (r : Nat) := by rw [hw1, hr]
  have hrl : r ≤ l.length := by omega
  have hrc : r ≤ cap := by omega
  obtain ⟨n2, hn2⟩ : ∃ n2, n2 = l.length - r := ⟨_, rfl⟩
  have hln : r + n2 ≤ l.length := by omega
  have hln2 : l.length = r + n2 := by omega
  have Hln2 := hide hln2
  have HG := hide g5
  have hlen1 : (pieceI l r n2).length ≤ 1000 := by rw [pieceI_length _ _ _ hln]; omega
  have Hn2 := hide hn2
  have Hr := hide hr
  clear hw1 hr hn2 hln2 g5 g1 g6 hG hGc
  go_upto_region 5 with fail
  go_cut [7] (fun s7 wx => OwnIs wx wc.heap.size s7 (srtI (pieceI l r n2)) ∧ Below wc.heap.size wc wx)
  case first =>
   by_cases hcap : r = cap
   ·have hrz : r - r = 0 := by omega
    have hlz : l.length - r = 0 := by omega
    have hn20 : n2 = 0 := by have := Hn2.out; omega
    subst hn20
    subst hcap
    have hp : IsRow wc (.slice (some ⟨b, off, none⟩) 0 0) (pieceI l r 0) := ⟨some ⟨b, off, none⟩, 0, by simp [pieceI], by simp [pieceI], by omega, fun i hi => by simp [pieceI] at hi⟩
    have hp2 : IsRow wc.drew (.slice (some ⟨b, off, none⟩) 0 0) (pieceI l r 0) := ⟨some ⟨b, off, none⟩, 0, by simp [pieceI], by simp [pieceI], by omega, fun i hi => by simp [pieceI] at hi⟩
    have q1 : wc.heap.size ≤ ((wc.alloc (.cells #[.slice (some ⟨b, off, none⟩) 0 0] 25)).drew).heap.size := by simp
    have q2 : ∀ q, q < wc.heap.size → ((wc.alloc (.cells #[.slice (some ⟨b, off, none⟩) 0 0] 25)).drew).heap[q]? = wc.heap[q]? := fun q hq => Below.heap_alloc wc _ q hq
    have q3 : ((wc.alloc (.cells #[.slice (some ⟨b, off, none⟩) 0 0] 25)).drew).cell? ⟨wc.heap.size, 0, none⟩ = some (.slice (some ⟨b, off, none⟩) 0 0) := by simp [go_sem]
    have Q2 := hide q2
    have Q3 := hide q3
    clear q2 q3
    go_region_with (first | (go_at_call 53; refine (Values_any _ _ _ hp2).mono ?_; rintro e w' ⟨rfl, rfl⟩) | (go_at_call 52; refine (Sorted_any wc.heap.size _ _ wc _ hp hlen1 q1 Q2.out (Nat.le_refl _) Q3.out).mono ?_; rintro e w2 ⟨ov, rfl, ho, b2⟩))
    all_goals go_wp2_with fail
    all_goals go_meet
    all_goals exact ⟨ho.mono (by simp), (by ((repeat' (first | exact Below.refl _ _ | exact b2 | refine Below.alloc ?_ ?_ _ | refine Below.setCell ?_ ?_ _ | refine Below.drew ?_ | refine below_drewN ?_ _ | refine Below.trans ?_ (b2.mono ?_))) <;> (first | omega | (simp; done) | (simp; omega))))⟩
   ·have hmc : r < cap := by omega
    have hn2' : l.length - r = n2 := by have := Hn2.out; omega
    have hp : IsRow wc (.slice (some ⟨b, off + r, none⟩) n2 (cap - r)) (pieceI l r n2) := piece_row (w := wc) c5 c4 hln (by omega) (by omega)
    have hp2 : IsRow wc.drew (.slice (some ⟨b, off + r, none⟩) n2 (cap - r)) (pieceI l r n2) := piece_row (w := wc.drew) c5 c4 hln (by omega) (by omega)
    have q1 : wc.heap.size ≤ ((wc.alloc (.cells #[.slice (some ⟨b, off + r, none⟩) n2 (cap - r)] 25)).drew).heap.size := by simp
    have q2 : ∀ q, q < wc.heap.size → ((wc.alloc (.cells #[.slice (some ⟨b, off + r, none⟩) n2 (cap - r)] 25)).drew).heap[q]? = wc.heap[q]? := fun q hq => Below.heap_alloc wc _ q hq
    have q3 : ((wc.alloc (.cells #[.slice (some ⟨b, off + r, none⟩) n2 (cap - r)] 25)).drew).cell? ⟨wc.heap.size, 0, none⟩ = some (.slice (some ⟨b, off + r, none⟩) n2 (cap - r)) := by simp [go_sem]
    have Q2 := hide q2
    have Q3 := hide q3
    clear q2 q3
    go_region_with (first | (go_at_call 53; refine (Values_any _ _ _ hp2).mono ?_; rintro e w' ⟨rfl, rfl⟩) | (go_at_call 52; refine (Sorted_any wc.heap.size _ _ wc _ hp hlen1 q1 Q2.out (Nat.le_refl _) Q3.out).mono ?_; rintro e w2 ⟨ov, rfl, ho, b2⟩))
    all_goals go_wp2_with fail
    all_goals go_meet
    all_goals exact ⟨ho.mono (by simp), (by ((repeat' (first | exact Below.refl _ _ | exact b2 | refine Below.alloc ?_ ?_ _ | refine Below.setCell ?_ ?_ _ | refine Below.drew ?_ | refine below_drewN ?_ _ | refine Below.trans ?_ (b2.mono ?_))) <;> (first | omega | (simp; done) | (simp; omega))))⟩
  case rest =>
   obtain ⟨ho2, b3⟩ := hcut
   have z3 := b3.size
   go_wp2_with fail
   go_ret3
   refine ⟨_, _, rfl, ?_, ?_, (by ((repeat' (first | exact Below.refl _ _ | exact b1 | exact b2 | exact b3 | refine Below.alloc ?_ ?_ _ | refine Below.setCell ?_ ?_ _ | refine Below.drew ?_ | refine below_drewN ?_ _ | refine Below.trans ?_ (b1.mono ?_) | refine Below.trans ?_ (b2.mono ?_) | refine Below.trans ?_ (b3.mono ?_))) <;> (first | omega | (simp; done) | (simp; omega))))⟩
   ·have e : pickL l f lost = srtI (pieceI l m f) := by unfold pickL; rw [if_pos Hok.out, Hm.out]; simp
    rw [e]
    exact (ho1.mono b1.size).below (Nat.le_refl _) b3
   ·have e : goneL l f lost = srtI (pieceI l r n2) := by unfold goneL; rw [if_pos Hok.out, Hm.out, Hn2.out, Hr.out]; simp
    rw [e]
    exact ho2.mono (by omega)
end Go.Proofs.YtlmcoollkmhanaaGreat
