/- slices.Values of integers, collected: AppendSeq, Collect. -/
import Derived.Test.YtcpfifbchijleaaSpD
namespace Go.Proofs.Ytcpfifbchijleaa
open Go.RowKit Go.Shelf
attribute [local go_sem] Oper.semAt_some

theorem isrow_own_lt {w : World} {v : Value} {l : List Int} (h : IsRow w v l) (h0 : 0 < l.length) : ∀ q, v.ownBlock = some q → q < w.heap.size := by
  obtain ⟨a, cap, rfl, h1, h2, h3⟩ := h
  obtain ⟨b, off, rfl, h4, _⟩ := h3 0 h0
  intro q hq; cases hq; exact h4
theorem take_pre (l : List Int) {s t : Nat} (h : s ≤ t) : l.take s <+: l.take t := by
  have := List.take_prefix s (l.take t)
  rwa [List.take_take, Nat.min_eq_left h] at this
set_option maxRecDepth 100000 in
set_option maxHeartbeats 1000000 in
theorem vals_in (n : Nat) (hn : 1 ≤ n) (l Bn : Nat) (v : Value) (zs : List Int) (w0 : World) (hv : IsRow w0 v zs) (J Jx : List Int → World → Prop) (W : World) (_hs0 : w0.heap.size ≤ W.heap.size) (hb0 : ∀ q, q < w0.heap.size → W.heap[q]? = w0.heap[q]?) (_hJ : AbidesFrom W.heap.size J)
    (hY : ∀ pre x W1, J pre W1 → pre.length < zs.length → YieldAt Fence.wide (n - 1) Try.prog l #[.int .i64 x] W1 fun e W' =>
      (e = .returned (.bool true) ∧ J (pre ++ [x]) W' ∧ KeepS (fun q => q < w0.heap.size ∨ q = Bn) W1 W') ∨ (e = .returned (.bool false) ∧ Jx (pre ++ [x]) W'))
    (hc : W.cell? ⟨Bn, 0, none⟩ = some v) (h0 : J [] W) :
    CallsIn Fence.wide n Try.prog 43 #[.func (.yield l) #[] #[], .pointer (some ⟨Bn, 0, none⟩)] W fun e W' => (∃ v, e = .returned v) ∧
      ((∃ ys, ys = zs ∧ J ys W') ∨ (∃ pre, pre <+: zs ∧ Jx pre W')) := by
  obtain ⟨a, cap, rfl, h1, h2, h3⟩ := hv
  refine callsIn_of_wp Try.func43 rfl trivial ?_ rfl
  simp only [Try.ntmps43, List.size_toArray, List.length_cons, List.length_nil, Nat.reduceAdd, Nat.reduceSub, Array.replicate_succ, Array.replicate_zero, List.push_toArray, List.append_toArray, List.nil_append, List.cons_append]
  gi_wp2
  gi_loopw [7] (fun i wr => ∃ (t : Nat) (pre : List Int), t ≤ zs.length ∧ i = .int .i64 (t : Int) ∧ Hid (pre = zs.take t) ∧ J pre wr ∧ KeepS (fun q => q < w0.heap.size ∨ q = Bn) W wr) (fun i _ => zs.length - (intOf i).toNat)
  case atStart => exact ⟨0, [], Nat.zero_le _, rfl, hide rfl, h0, KeepS.refl _ _⟩
  case round =>
    obtain ⟨t, pre, ht, rfl, Hp, hJs, hK⟩ := hrel
    by_cases hlt : t < zs.length
    · obtain ⟨b, off, rfl, h4, h5⟩ := h3 t hlt
      have h5' : wr.cell? ⟨b, off + t, none⟩ = some (.int .i64 (iAt zs t)) := ((hK.cell (b := b) (.inl h4) (off + t)).trans (World.cell?_of_block (a := ⟨b, off + t, none⟩) (hb0 b h4))).trans h5
      have Hpn : Hid (pre ++ [iAt zs t] = zs.take (t + 1)) := by
        show _ = _
        rw [Hp.out, take_snoc_is zs t hlt]
      obtain ⟨fn, tmps, assign, body, hy, hR⟩ := hY pre (iAt zs t) wr hJs (by rw [Hp.out, List.length_take]; omega)
      clear h5 h3
      gi_wp2
      refine hR.mono ?_
      rintro e W3 (⟨rfl, hJ3, hk3⟩ | ⟨rfl, hJx3⟩)
      · gi_wp2
        go_roundw
        case rel => exact ⟨t + 1, _, by omega, by go_num, Hpn, hJ3, hK.trans hk3⟩
        case measure => simp [intOf]; omega
      · gi_wp2
        refine bodyPost_ret (results_none rfl _ _ _) rfl ?_
        exact ⟨⟨_, rfl⟩, .inr ⟨_, by rw [Hpn.out]; exact List.take_prefix _ _, hJx3⟩⟩
    · gi_wp2
      go_end0
      exact ⟨⟨_, rfl⟩, .inl ⟨pre, by rw [Hp.out, show t = zs.length by omega, List.take_length], hJs⟩⟩
theorem vals_stops (n : Nat) (hn : 1 ≤ n) (Bn : Nat) (v : Value) (zs : List Int) (w0 w : World) (hv : IsRow w0 v zs) (hs0 : w0.heap.size ≤ w.heap.size) (hb0 : ∀ q, q < w0.heap.size → w.heap[q]? = w0.heap[q]?) (hc : w.cell? ⟨Bn, 0, none⟩ = some v) :
    SeqStopsK Fence.wide n Try.prog 43 #[.pointer (some ⟨Bn, 0, none⟩)] (fun x : Int => #[Value.int .i64 x]) (KeepS (fun q => q < w0.heap.size ∨ q = Bn)) (fun ys => ys = zs) (fun pre => pre <+: zs) zs.length w := by
  intro l J Jx W hW hJ hJx hY h0
  have hlt := World.block_lt_of_cell? _ _ hc
  exact vals_in n hn l Bn v zs w0 hv J Jx W (Nat.le_trans hs0 hW.size) (fun q hq => (hW.block q (Nat.lt_of_lt_of_le hq hs0)).trans (hb0 q hq)) hJ hY ((hW.cell (p := ⟨Bn, 0, none⟩) hlt).trans hc) h0
set_option maxRecDepth 100000 in
set_option maxHeartbeats 400000 in
theorem Values_any (v : Value) (zs : List Int) (w : World) (hv : IsRow w v zs) : Calls Try.prog 27 #[v] w fun e w' =>
    e = .returned (.func (.func 43) #[] #[.pointer (some ⟨w.heap.size, 0, none⟩)]) ∧ w' = w.alloc (.cells #[v] 22) := by
  obtain ⟨a, cap, rfl, -⟩ := hv
  go_enter Try.func27, Try.ntmps27
  go_wp2
  go_ret
  exact ⟨rfl, rfl⟩
def AI (w : World) (pre : List Int) (W : World) : Prop :=
  ∃ ov, W.cell? ⟨w.heap.size, 0, none⟩ = some ov ∧ W.frozen? ⟨w.heap.size, 0, none⟩ = false ∧ OwnIs W (w.heap.size + 1) ov pre ∧ Below w.heap.size w W ∧ w.heap.size < W.heap.size
theorem KeepS.grown {S : Nat → Prop} {A B C : World} {row : Option Nat} (h : KeepS S A B) (hg : B.grownBy C row) (hS : ∀ q, S q → q < B.heap.size) (hr : ∀ k, row = some k → ¬ S k) : KeepS S A C :=
  ⟨Nat.le_trans h.1 hg.size, fun q hq => (hg.block q (hS q hq) (fun e => hr q e.symm hq)).trans (h.2 q hq)⟩
theorem ownsRow_kept' {W W' : World} {base : Nat} {v : Value} {c : List Int} {row : Option Nat} (h : OwnIs W base v c) (hg : W.grownBy W' row) (hr : ∀ r, row = some r → ∃ o : Obj, W.heap[r]? = some o ∧ o.isCells = false) : OwnIs W' base v c := by
  refine World.ownsRow.kept h hg ?_
  rcases h.2 with ⟨hv, _⟩ | ⟨g, cap, cur, hv, _, hc, _⟩
  · left; rw [hv]; rfl
  · right
    rw [hv]
    intro e
    obtain ⟨o, ho, hc2⟩ := hr g e.symm
    rw [hc] at ho; cases ho; cases hc2
theorem own_cells' {W : World} {base e size n : Nat} {v : Value} {xs : List Value} (h : W.ownsRow base e size v n xs) {r : Nat} (hr : v.ownBlock = some r) {o : Obj} (ho' : W.heap[r]? = some o) : o.isCells = true := by
  rcases h.2 with ⟨hv, _⟩ | ⟨g, cap, cur, hv, _, hc, _⟩
  · rw [hv] at hr; cases hr
  · rw [hv] at hr; cases hr
    rw [hc] at ho'; cases ho'; rfl
set_option maxRecDepth 100000 in
set_option maxHeartbeats 2000000 in
theorem AppendSeq_any (Bn : Nat) (v : Value) (zs : List Int) (w0 w : World) (hv : IsRow w0 v zs) (hz : zs.length ≤ 1000) (hs0 : w0.heap.size ≤ w.heap.size) (hb0 : ∀ q, q < w0.heap.size → w.heap[q]? = w0.heap[q]?) (hBn : w0.heap.size ≤ Bn) (hc : w.cell? ⟨Bn, 0, none⟩ = some v) :
    Calls Try.prog 50 #[.slice none 0 0, .func (.func 43) #[] #[.pointer (some ⟨Bn, 0, none⟩)]] w fun e w' => ∃ ov, e = .returned ov ∧ OwnIs w' w.heap.size ov zs ∧ Below w.heap.size w w' := by
  have hBl := World.block_lt_of_cell? _ _ hc
  simp only at hBl
  obtain ⟨i0, hi, hz0, hz1, hz2⟩ := info_parts infoIs
  refine (callsIn_wide (n := 4)).1 ?_
  refine callsIn_of_wp_marks Try.func50 rfl trivial ?_ rfl
  simp only [Try.ntmps50, List.size_toArray, List.length_cons, List.length_nil, Nat.reduceAdd, Nat.reduceSub, Array.replicate_succ, Array.replicate_zero, List.push_toArray, List.append_toArray, List.nil_append, List.cons_append]
  gi_wp2_with fail
  have b0 : Below w.heap.size w (w.alloc (.cells #[.slice none 0 0] 22)) := (by ((repeat' (first | exact Below.refl _ _ | refine Below.alloc ?_ ?_ _ | refine Below.setCell ?_ ?_ _ | refine Below.drew ?_ | refine below_drewN ?_ _)) <;> (first | omega | (simp; done) | (simp; omega))))
  have x1 : AI w [] (w.alloc (.cells #[.slice none 0 0] 22)) := ⟨_, by simp, by simp, OwnIs.nil _ _, b0, by simp⟩
  have x2 : (w.alloc (.cells #[.slice none 0 0] 22)).heap.size = w.heap.size + 1 := by simp
  have xc := (b0.cell (p := ⟨Bn, 0, none⟩) hBl).trans hc
  have x3 : ∀ q, q < w0.heap.size → (w.alloc (.cells #[.slice none 0 0] 22)).heap[q]? = w0.heap[q]? := fun q hq => (b0.block q (by omega)).trans (hb0 q hq)
  generalize w.alloc (.cells #[.slice none 0 0] 22) = W0 at *
  refine wpIn_rangeFunc_ownF rfl (by omega) (gf := 43) (lb := #[.pointer (some ⟨Bn, 0, none⟩)]) rfl trivial (enters_of Try.func43 (by kernel_rfl) rfl)
    (vals_stops 3 (by omega) Bn v zs w0 W0 hv (by omega) x3 xc) (fun h k => h.trans k) (fun W q o o' hq h1 _ _ => KeepS.put (by rintro (h | h) <;> omega) (Array.getElem?_eq_some_iff.1 h1).1 _) (Below.refl _ _) (fun _ => rfl)
    (fun pre W => AI w pre W) (fun _ _ _ => False)
    (by
      rintro pre X Y row ⟨ov, a1, a2, a3, e1, e2⟩ hg hr
      have hr' := fun r e => (hr r e).2
      exact ⟨ov, cell_kept a1 hg hr', (frozen_kept a1 hg hr').trans a2, ownsRow_kept' a3 hg hr', e1.grown hg e1.size (fun k e => by have := (hr k e).1; omega), Nat.lt_of_lt_of_le e2 hg.size⟩)
    (fun _ _ _ _ _ hs _ _ => hs) x1
    (fun x => { tmps := #[.slice none 0 0, .func (.func 43) #[] #[.pointer (some ⟨Bn, 0, none⟩)], .pointer (some ⟨w.heap.size, 0, none⟩), undef, .slice none 0 0, .int .i64 x, .func (.func 43) #[] #[.pointer (some ⟨Bn, 0, none⟩)], .int .i64 x, undef, undef, undef, undef, undef], defers := [] }) ?assign ?body ?done ?stop
  case assign =>
    intro l x W K hK
    gi_wp2
    exact hK
  case body =>
    rintro l pre x W ⟨ov, a1, a2, a3, e1, e2⟩ hlen
    obtain ⟨oa, ocap, hov, q1, q2⟩ := a3.val
    have hlow := World.ownsRow.lt a3
    have a3' := a3
    unfold OwnIs at a3'
    subst hov
    have hez := e1.size
    gi_wp2_with (gi_at_builtin; refine wpListIn_append_own _ rfl _ _ 22 rfl (w.heap.size + 1) 3 i0 (.int .i64 0) 1 8 Try.underlying22 hi hz0 hz1 hz2 rfl (by decide) _ pre.length (encI pre) rfl (World.ownsRow.alloc a3' _) ⟨W.heap.size, 0, none⟩ 1 1 [.int .i64 x] rfl rfl (cells_new W [.int .i64 x] _) (by simp [Value.oneCell']) (by unfold maxLen; omega) (by omega) (by simp; omega) ?_; intro v4 w4 hown4 hg4 _; obtain ⟨a4, cap4, rfl⟩ := ownsRow_val hown4; obtain ⟨p1, p2⟩ := grown_keeps hg4 (b := w.heap.size) (by simp; omega) (fun h => (by have := hlow _ h.symm; omega)))
    have o1 := (old1 W (.cells #[.int .i64 x] 3) e2 0)
    have hz4 := hg4.size
    simp only [World.size_alloc] at hz4
    refine ⟨((KeepsOthers.alloc W _).trans (KeepsOthers.of_grownBy hg4 (fun r o hr ho => own_cells' (World.ownsRow.alloc a3' _) hr ho))).trans (KeepsOthers.setCell _ _ _), ?_, ?_⟩
    · refine KeepS.set (KeepS.grown (B := W.alloc (.cells #[.int .i64 x] 3)) ⟨by simp, fun q hq => Below.heap_alloc _ _ _ (by rcases hq with h | h <;> omega)⟩ hg4 (fun q hq => by simp; rcases hq with h | h <;> omega) (fun r hr => by have := hlow r hr; show ¬ (r < w0.heap.size ∨ r = Bn); omega)) (by show ¬ (w.heap.size < w0.heap.size ∨ w.heap.size = Bn); omega) _
    · refine ⟨_, World.cell?_setCell_same' _ _ _ (by rw [p1, o1.1, a1]; rfl), by rw [World.frozen?_setCell, p2, o1.2]; exact a2, ownsRow_setCell_below (OwnIs.app hown4) (by first | omega | simp) _, ?_, by simp; omega⟩
      exact Below.setCell ((e1.alloc (by omega) _).grown hg4 (by simp; omega) (fun r h => by have := hlow r h; omega)) (Nat.le_refl _) _
  case done =>
    rintro D ys W hD rfl ⟨ov, a1, a2, a3, e1, e2⟩ hK
    gi_wp2
    refine ⟨by simp, .inl ⟨_, _, rfl, run_takeDeferred hK, ?_⟩⟩
    exact ⟨_, results_tmp rfl _ _ _, ov, rfl, (World.ownsRow.mono (ownsRow_putObj a3 _ hK rfl) (by omega)), e1.grown (grownBy_putObj' W D (.deferred none)) e1.size (fun k e => by cases e; omega)⟩
  case stop =>
    rintro D c pre W _ _ h _
    exact h.elim
set_option maxRecDepth 100000 in
set_option maxHeartbeats 400000 in
theorem Collect_any (Bn : Nat) (v : Value) (zs : List Int) (w0 w : World) (hv : IsRow w0 v zs) (hz : zs.length ≤ 1000) (hs0 : w0.heap.size ≤ w.heap.size) (hb0 : ∀ q, q < w0.heap.size → w.heap[q]? = w0.heap[q]?) (hBn : w0.heap.size ≤ Bn) (hc : w.cell? ⟨Bn, 0, none⟩ = some v) :
    Calls Try.prog 41 #[.func (.func 43) #[] #[.pointer (some ⟨Bn, 0, none⟩)]] w fun e w' => ∃ ov, e = .returned ov ∧ OwnIs w' w.heap.size ov zs ∧ Below w.heap.size w w' := by
  have Hb0 := hide hb0
  clear hb0
  go_enter Try.func41, Try.ntmps41
  go_wp2_with fail
  refine (AppendSeq_any Bn v zs w0 _ hv hz hs0 Hb0.out hBn hc).mono ?_
  rintro e w1 ⟨ov, rfl, ho, b1⟩
  go_wp2_with fail
  go_ret
  exact ⟨ov, rfl, ho, b1⟩
end Go.Proofs.Ytcpfifbchijleaa
