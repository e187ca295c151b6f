/- Package spread: the best number, and Worst. -/
import Derived.Test.YtiaahfccebmkdaaSpC
namespace Go.Proofs.Ytiaahfccebmkdaa
open Go.RowKit Go.Shelf
attribute [local go_sem] Oper.semAt_some
attribute [local go_sem ↓] run_max_mx run_min_mn

theorem KeepS.set {S : Nat → Prop} {A B : World} (h : KeepS S A B) {p : Addr} (hp : ¬ S p.block) (u : Value) : KeepS S A (B.setCell p u) :=
  ⟨by simpa [World.setCell] using h.1, fun q hq => (Below.heap_setCell B p u q (fun e => hp (e ▸ hq))).trans (h.2 q hq)⟩
theorem KeepS.put {S : Nat → Prop} {W : World} {l : Nat} (hl : ¬ S l) (_hlt : l < W.heap.size) (o : Obj) : KeepS S W (W.putObj l o) :=
  ⟨(grownBy_putObj' W l o).size, fun q hq => by
    rcases Nat.lt_or_ge q W.heap.size with h | h
    · exact (grownBy_putObj' W l o).block q h (by rintro e; cases e; exact hl hq)
    · have hs : (W.putObj l o).heap.size = W.heap.size := by simp [World.putObj]
      rw [Array.getElem?_eq_none h, Array.getElem?_eq_none (by omega)]⟩
theorem values_stops (n : Nat) (hn : 2 ≤ n) (Bn gb : Nat) (ws : List Int) (m k : Nat) (f : Int) (w0 w : World) (hG : GameAt w0 gb ws m k f) (hk1 : 1 ≤ k) (hkm : k ≤ m) (hml : m ≤ ws.length) (hl16 : ws.length ≤ 16) (hwd : ∀ i, 0 ≤ iAt (srt ws) i ∧ iAt (srt ws) i ≤ 1000000000000)
    (hBn : w0.heap.size ≤ Bn) (hs0 : w0.heap.size ≤ w.heap.size) (hb0 : ∀ q, q < w0.heap.size → w.heap[q]? = w0.heap[q]?) (hc : w.cell? ⟨Bn, 0, none⟩ = some (.pointer (some ⟨gb, 0, none⟩))) :
    SeqStopsK Fence.wide n Try.prog 86 #[.pointer (some ⟨Bn, 0, none⟩)] (fun x : Int × Int => #[Value.int .i64 x.1, Value.int .i64 x.2]) (KeepS (fun q => q < w0.heap.size ∨ q = Bn))
      (fun ys => ys = upto (srt ws) k (jLo m k) (k - jLo m k + 1)) (fun pre => pre <+: upto (srt ws) k (jLo m k) (k - jLo m k + 1)) (k - jLo m k + 1) w := by
  intro l J Jx W hW hJ hJx hY h0
  have hlt := World.block_lt_of_cell? _ _ hc
  exact values_in n hn l Bn gb ws m k f w0 hG hk1 hkm hml hl16 hwd hBn J Jx W (Nat.le_trans hs0 hW.size) (fun q hq => (hW.block q (Nat.lt_of_lt_of_le hq hs0)).trans (hb0 q hq)) hJ hY ((hW.cell (p := ⟨Bn, 0, none⟩) hlt).trans hc) h0
def bstOf (pre : List (Int × Int)) : Int × Int := pre.foldl (fun p x => if x.2 > p.2 then x else p) (-1, -1)
theorem bstOf_snoc (pre : List (Int × Int)) (x : Int × Int) : bstOf (pre ++ [x]) = if x.2 > (bstOf pre).2 then x else bstOf pre := by simp [bstOf]
theorem bstOf_upto (D : List Int) (k j0 : Nat) : ∀ t, bstOf (upto D k j0 t) = bst D k j0 t
  | 0 => rfl
  | t + 1 => by rw [upto_succ, bstOf_snoc, bstOf_upto D k j0 t]; rfl
set_option maxRecDepth 100000 in
set_option maxHeartbeats 400000 in
theorem values_any (gb : Nat) (w : World) : Calls Try.prog 71 #[.pointer (some ⟨gb, 0, none⟩)] w fun e w' =>
    e = .returned (.func (.func 86) #[] #[.pointer (some ⟨w.heap.size, 0, none⟩)]) ∧ w' = w.alloc (.cells #[.pointer (some ⟨gb, 0, none⟩)] 83) := by
  go_enter Try.func71, Try.ntmps71
  go_wp2
  go_ret
  exact ⟨rfl, rfl⟩
def BI (w : World) (pre : List (Int × Int)) (W : World) : Prop :=
  (W.cell? ⟨w.heap.size, 0, none⟩ = some (.int .i64 (bstOf pre).1) ∧ W.frozen? ⟨w.heap.size, 0, none⟩ = false) ∧ (W.cell? ⟨w.heap.size + 1, 0, none⟩ = some (.int .i64 (bstOf pre).2) ∧ W.frozen? ⟨w.heap.size + 1, 0, none⟩ = false) ∧ Below w.heap.size w W
set_option maxRecDepth 100000 in
set_option maxHeartbeats 2000000 in
theorem best_any (gb : Nat) (ws : List Int) (m k : Nat) (f : Int) (w : World) (hG : GameAt w gb ws m k f) (hk1 : 1 ≤ k) (hkm : k ≤ m) (hml : m ≤ ws.length) (hl16 : ws.length ≤ 16) (hwd : ∀ i, 0 ≤ iAt (srt ws) i ∧ iAt (srt ws) i ≤ 1000000000000) :
    Calls Try.prog 51 #[.pointer (some ⟨gb, 0, none⟩)] w fun e w' => e = .returned (.tuple #[.int .i64 (bestP (srt ws) m k).1, .int .i64 (bestP (srt ws) m k).2]) ∧ Below w.heap.size w w' := by
  refine (callsIn_wide (n := 4)).1 ?_
  refine callsIn_of_wp_marks Try.func51 rfl trivial ?_ rfl
  simp only [Try.ntmps51, List.size_toArray, List.length_cons, List.length_nil, Nat.reduceAdd, Nat.reduceSub, Array.replicate_succ, Array.replicate_zero, List.push_toArray, List.append_toArray, List.nil_append, List.cons_append]
  gi_wp2_with fail
  refine ⟨trivial, (callsIn_wide.2 (values_any _ _)).mono ?_⟩
  rintro e w1 ⟨rfl, rfl⟩
  simp only [World.size_alloc]
  have x0 : (((w.alloc (.cells #[.int .i64 (-1)] 3)).alloc (.cells #[.int .i64 (-1)] 3)).alloc (.cells #[.pointer (some ⟨gb, 0, none⟩)] 83)).cell? ⟨w.heap.size + 1 + 1, 0, none⟩ = some (.pointer (some ⟨gb, 0, none⟩)) := by simp [go_sem]
  have x1 : BI w [] (((w.alloc (.cells #[.int .i64 (-1)] 3)).alloc (.cells #[.int .i64 (-1)] 3)).alloc (.cells #[.pointer (some ⟨gb, 0, none⟩)] 83)) := by
    refine ⟨⟨?_, ?_⟩, ⟨?_, ?_⟩, (by ((repeat' (first | exact Below.refl _ _ | refine Below.alloc ?_ ?_ _ | refine Below.setCell ?_ ?_ _ | refine Below.drew ?_ | refine below_drewN ?_ _)) <;> (first | omega | (simp; done) | (simp; omega))))⟩ <;> simp [go_sem, bstOf]
  have x2 : (((w.alloc (.cells #[.int .i64 (-1)] 3)).alloc (.cells #[.int .i64 (-1)] 3)).alloc (.cells #[.pointer (some ⟨gb, 0, none⟩)] 83)).heap.size = w.heap.size + 3 := by simp
  have x3 := fun q hq => x1.2.2.block q hq
  gi_wp2_with fail
  generalize ((w.alloc (.cells #[.int .i64 (-1)] 3)).alloc (.cells #[.int .i64 (-1)] 3)).alloc (.cells #[.pointer (some ⟨gb, 0, none⟩)] 83) = W0 at *
  refine wpIn_rangeFunc_ownF rfl (by omega) (gf := 86) (lb := #[.pointer (some ⟨w.heap.size + 1 + 1, 0, none⟩)]) rfl trivial (enters_of Try.func86 (by kernel_rfl) rfl)
    (values_stops 3 (by omega) (w.heap.size + 1 + 1) gb ws m k f w W0 hG hk1 hkm hml hl16 hwd (by omega) (by omega) x3 x0) (fun h k => h.trans k) (fun W q o o' hq h1 _ _ => KeepS.put (by rintro (h | h) <;> omega) (Array.getElem?_eq_some_iff.1 h1).1 _) (Below.refl _ _) (fun _ => rfl)
    (fun pre W => BI w pre W) (fun _ _ _ => False)
    (by
      rintro pre X Y row ⟨⟨a1, a2⟩, ⟨b1, b2⟩, e1⟩ hg hr
      have hr' := fun r e => (hr r e).2
      exact ⟨⟨cell_kept a1 hg hr', (frozen_kept a1 hg hr').trans a2⟩, ⟨cell_kept b1 hg hr', (frozen_kept b1 hg hr').trans b2⟩, e1.grown hg e1.size (fun k e => by have := (hr k e).1; omega)⟩)
    (fun _ _ _ _ _ hs _ _ => hs) x1
    (fun x => { tmps := #[.pointer (some ⟨gb, 0, none⟩), undef, .pointer (some ⟨w.heap.size, 0, none⟩), .pointer (some ⟨w.heap.size + 1, 0, none⟩), .int .i64 x.1, .int .i64 x.2, .pointer (some ⟨gb, 0, none⟩), .func (.func 86) #[] #[.pointer (some ⟨w.heap.size + 1 + 1, 0, none⟩)], .int .i64 x.1, .int .i64 x.2, undef, undef, undef, undef, undef, undef, undef], defers := [] }) ?assign ?body ?done ?stop
  case assign =>
    intro l x W K hK
    gi_wp2
    exact hK
  case body =>
    rintro l pre x W ⟨⟨a1, a2⟩, ⟨b1, b2⟩, e1⟩ _
    by_cases hx : (bstOf pre).2 < x.2
    · gi_wp2
      refine ⟨(KeepsOthers.setCell _ _ _).trans (KeepsOthers.setCell _ _ _), ((KeepS.refl _ _).set (p := ⟨w.heap.size, 0, none⟩) (by show ¬ (w.heap.size < w.heap.size ∨ w.heap.size = w.heap.size + 1 + 1); omega) _).set (p := ⟨w.heap.size + 1, 0, none⟩) (by show ¬ (w.heap.size + 1 < w.heap.size ∨ w.heap.size + 1 = w.heap.size + 1 + 1); omega) _, ?_⟩
      show BI w (pre ++ [x]) _
      unfold BI
      rw [bstOf_snoc, if_pos hx]
      exact ⟨⟨(World.cell?_setCell_other _ _ _ _ (fun e => by simp at e)).trans (World.cell?_setCell_same' _ _ _ (by rw [a1]; rfl)), by rw [World.frozen?_setCell, World.frozen?_setCell]; exact a2⟩,
        ⟨World.cell?_setCell_same' _ _ _ (by rw [World.cell?_setCell_other _ _ _ _ (fun e => by simp at e), b1]; rfl), by rw [World.frozen?_setCell, World.frozen?_setCell]; exact b2⟩,
        (e1.setCell (p := ⟨w.heap.size, 0, none⟩) (Nat.le_refl _) _).setCell (p := ⟨w.heap.size + 1, 0, none⟩) (by show w.heap.size ≤ w.heap.size + 1; omega) _⟩
    · gi_wp2
      refine ⟨KeepsOthers.refl _, KeepS.refl _ _, ?_⟩
      show BI w (pre ++ [x]) _
      unfold BI
      rw [bstOf_snoc, if_neg (by omega)]
      exact ⟨⟨a1, a2⟩, ⟨b1, b2⟩, e1⟩
  case done =>
    rintro D ys W hD hys ⟨⟨a1, a2⟩, ⟨b1, b2⟩, e1⟩ hK
    have hb : bstOf ys = bestP (srt ws) m k := by rw [hys]; exact bstOf_upto _ _ _ _
    rw [hb] at a1 b1
    clear hys hb
    generalize hbp : bestP (srt ws) m k = bp at *
    have Hbp := hide hbp
    clear hbp
    gi_wp2
    refine wpIn_wide.2 ?_
    go_region
    gi_wp2
    have hKV := ((KeepsOthers.drew W).trans ((KeepsOthers.setCell (W.drew) ⟨w.heap.size, 0, none⟩ (.int .i64 bp.1)).trans (KeepsOthers.setCell _ ⟨w.heap.size + 1, 0, none⟩ (.int .i64 bp.2)))).same D _ hK rfl
    have d0 : ((W.setCell ⟨w.heap.size, 0, none⟩ (.int .i64 bp.1)).setCell ⟨w.heap.size + 1, 0, none⟩ (.int .i64 bp.2)).drew.cell? ⟨w.heap.size, 0, none⟩ = some (.int .i64 bp.1) :=
      (World.cell?_setCell_other _ _ _ _ (fun e => by simp at e)).trans (World.cell?_setCell_same' _ _ _ (by rw [a1]; rfl))
    have d1 : ((W.setCell ⟨w.heap.size, 0, none⟩ (.int .i64 bp.1)).setCell ⟨w.heap.size + 1, 0, none⟩ (.int .i64 bp.2)).drew.cell? ⟨w.heap.size + 1, 0, none⟩ = some (.int .i64 bp.2) :=
      World.cell?_setCell_same' _ _ _ (by rw [World.cell?_setCell_other _ _ _ _ (fun e => by simp at e), b1]; rfl)
    have d2 : Below w.heap.size w ((W.setCell ⟨w.heap.size, 0, none⟩ (.int .i64 bp.1)).setCell ⟨w.heap.size + 1, 0, none⟩ (.int .i64 bp.2)).drew :=
      ((e1.setCell (p := ⟨w.heap.size, 0, none⟩) (Nat.le_refl _) _).setCell (p := ⟨w.heap.size + 1, 0, none⟩) (by show w.heap.size ≤ w.heap.size + 1; omega) _).drew
    have hKV2 : ((W.setCell ⟨w.heap.size, 0, none⟩ (.int .i64 bp.1)).setCell ⟨w.heap.size + 1, 0, none⟩ (.int .i64 bp.2)).drew.heap[D]? = some (.deferred (some [])) := hKV
    clear hKV
    generalize ((W.setCell ⟨w.heap.size, 0, none⟩ (.int .i64 bp.1)).setCell ⟨w.heap.size + 1, 0, none⟩ (.int .i64 bp.2)).drew = V at *
    have c0 := cell_kept d0 (grownBy_putObj' V D (.deferred none)) (fun r e => by cases e; exact ⟨_, hKV2, rfl⟩)
    have c1 := cell_kept d1 (grownBy_putObj' V D (.deferred none)) (fun r e => by cases e; exact ⟨_, hKV2, rfl⟩)
    refine ⟨by simp, .inl ⟨_, _, rfl, run_takeDeferred hKV2, ?_⟩⟩
    have e3 : Below w.heap.size w (V.putObj D (.deferred none)) := d2.grown (grownBy_putObj' V D (.deferred none)) d2.size (fun q e => by cases e; omega)
    generalize V.putObj D (.deferred none) = U at *
    refine ⟨.tuple #[.int .i64 bp.1, .int .i64 bp.2], by simp [results, Try.results51, go_sem, c0, c1], by rw [Hbp.out], e3⟩
  case stop =>
    rintro D c pre W _ _ h _
    exact h.elim

theorem worst_no {l : List Int} {f lost : Int} (h : spOk l f lost = false) : worst l f lost = 0 := by unfold worst; rw [if_neg (by simp [h])]
theorem worst_ok {l : List Int} {f lost : Int} (h : spOk l f lost = true) : worst l f lost = (bestP (srt l) (spM l f lost) (spK l f lost)).2 := by unfold worst; rw [if_pos h]
/-- The three ways of a game: made, not well-formed, or too few. -/
theorem sp_ways (l : List Int) (f lost : Int) : (spOk l f lost = true ∧ spEr l f lost = 0) ∨ (spA l f lost = false ∧ spOk l f lost = false ∧ spEr l f lost = 1) ∨ (spA l f lost = true ∧ (¬ 2 * f < l.length - lost) ∧ spOk l f lost = false ∧ spEr l f lost = 20) := by
  cases hA : spA l f lost with
  | false => exact .inr (.inl ⟨rfl, by simp [spOk, hA], spA_false hA⟩)
  | true =>
    by_cases h : 2 * f < (l.length : Int) - lost
    · have hok : spOk l f lost = true := by simp [spOk, hA, h]
      exact .inl ⟨hok, spEr_ok hok⟩
    · exact .inr (.inr ⟨rfl, h, by simp [spOk, hA]; omega, by unfold spEr; rw [if_pos hA, if_neg h]⟩)
set_option maxRecDepth 100000 in
set_option maxHeartbeats 400000 in
theorem Worst_any (v : Value) (l : List Int) (f lost : Int) (w : World) (hv : IsRow w v l) :
    Calls Try.prog 27 #[v, .int .i64 f, .int .i64 lost] w fun e w' => e = .returned (.tuple #[.int .i64 (worst l f lost), .int .i64 (spEr l f lost)]) ∧ Below w.heap.size w w' := by
  rcases sp_ways l f lost with ⟨q1, q2⟩ | ⟨q1, q2, q3⟩ | ⟨q1, q2, q3, q4⟩
  · rw [q2, worst_ok q1]
    have hi := (spOk_iff l f lost).1 q1
    have hm := sp_mk q1
    have hd := srt_bd l hi.1.2
    have Q1 := hide q1
    have Hd := hide hd
    have Hm := hide hm
    clear q1 q2 hi hd hm
    go_enter Try.func27, Try.ntmps27
    go_wp2_with fail
    refine (newGame_ok v l f lost _ hv Q1.out).mono ?_
    rintro e w1 ⟨gb, rfl, hgb, hG, b1⟩
    go_wp2_with fail
    refine (best_any gb l _ _ f _ hG Hm.out.2.2.1 Hm.out.2.2.2.1 Hm.out.2.2.2.2.1 Hm.out.2.2.2.2.2 Hd.out).mono ?_
    rintro e w2 ⟨rfl, b2⟩
    have z1 := b1.size
    go_wp2_with fail
    go_ret2
    exact ⟨rfl, (by ((repeat' (first | exact Below.refl _ _ | exact b1 | exact b2 | refine Below.alloc ?_ ?_ _ | refine Below.setCell ?_ ?_ _ | refine Below.drew ?_ | refine below_drewN ?_ _ | refine Below.trans ?_ (b1.mono ?_) | refine Below.trans ?_ (b2.mono ?_))) <;> (first | omega | (simp; done) | (simp; omega))))⟩
  · rw [q3, worst_no q2]
    go_enter Try.func27, Try.ntmps27
    go_wp2_with fail
    refine (newGame_bad v l f lost _ hv q1).mono ?_
    rintro e w1 ⟨rfl, b1⟩
    go_wp2_with fail
    go_ret2
    exact ⟨rfl, b1⟩
  · rw [q4, worst_no q3]
    have Q2 := hide q2
    clear q2
    go_enter Try.func27, Try.ntmps27
    go_wp2_with fail
    refine (newGame_few v l f lost _ hv q1 (by have := Q2.out; omega)).mono ?_
    rintro e w1 ⟨rfl, b1⟩
    go_wp2_with fail
    go_ret2
    exact ⟨rfl, b1⟩
end Go.Proofs.Ytiaahfccebmkdaa
