/- Package interval's Cover: the same post as the reference's. -/
import Derived.Test.YtbgfgpjgehkdjaaGreatIvG
import Derived.Laws.EntriesVeiled
namespace Go.Proofs.YtbgfgpjgehkdjaaGreat
open Go.RowKit Go.Shelf
attribute [local go_sem] Oper.semAt_some

set_option maxRecDepth 100000 in
set_option maxHeartbeats 400000 in
theorem enough_any (y d need : Int) (db nb : Nat) (W : World) (hd : W.cell? ⟨db, 0, none⟩ = some (.int .i64 d)) (hf : W.frozen? ⟨db, 0, none⟩ = false) (hn : W.cell? ⟨nb, 0, none⟩ = some (.int .i64 need)) (hne : db ≠ nb)
    (b1 : -1000000 ≤ d) (b2 : d ≤ 1000000) (b3 : -1000000 ≤ y) (b4 : y ≤ 1000000) :
    Calls Tryz.prog 77 #[.int .i64 y, .pointer (some ⟨db, 0, none⟩), .pointer (some ⟨nb, 0, none⟩)] W fun e w' =>
      e = .returned (.tuple #[.bool (decide (need ≤ d)), .bool (decide (need ≤ d + y))]) ∧ ∃ nq, w' = (W.setCell ⟨db, 0, none⟩ (.int .i64 (d + y))).drewN nq := by
  have hn2 : (W.setCell ⟨db, 0, none⟩ (.int .i64 (d + y))).cell? ⟨nb, 0, none⟩ = some (.int .i64 need) := (World.cell?_setCell_other _ _ _ _ (fun h => hne (by cases h; rfl))).trans hn
  have hd2 : (W.setCell ⟨db, 0, none⟩ (.int .i64 (d + y))).cell? ⟨db, 0, none⟩ = some (.int .i64 (d + y)) := World.cell?_setCell_same' _ _ _ (by rw [hd]; rfl)
  go_enter Tryz.func77, Tryz.ntmps77
  go_wp2
  go_quiet (fail)
  rename_i nq
  go_wp2
  go_ret2
  exact ⟨rfl, nq, rfl⟩
/-- Between two rounds of the cover's loop. -/
def CI (w w1 w2 : World) (need : Int) (pre : List BEd) (W : World) : Prop :=
  (∃ ov, W.cell? ⟨w1.heap.size, 0, none⟩ = some ov ∧ W.frozen? ⟨w1.heap.size, 0, none⟩ = false ∧ OwnIv W w2.heap.size ov (sweep need (pre.map (·.1))).2) ∧
  (W.cell? ⟨w1.heap.size + 1, 0, none⟩ = some (.int .i64 (sweep need (pre.map (·.1))).1) ∧ W.frozen? ⟨w1.heap.size + 1, 0, none⟩ = false) ∧
  W.cell? ⟨w.heap.size, 0, none⟩ = some (.int .i64 need) ∧
  W.cell? ⟨w1.heap.size + 1 + 1, 0, none⟩ = some (.func (.func 77) #[] #[.pointer (some ⟨w1.heap.size + 1, 0, none⟩), .pointer (some ⟨w.heap.size, 0, none⟩)]) ∧
  Below w.heap.size w W ∧ w2.heap.size ≤ W.heap.size
theorem ownP_kept {T : TypeId} {W W' : World} {base : Nat} {v : Value} {c : List Iv} {row : Option Nat} (h : OwnP T W base v c) (hg : W.grownBy W' row) (hr : ∀ r, row = some r → ∃ o : Obj, W.heap[r]? = some o ∧ o.isCells = false) : OwnP T W' base v c := by
  refine World.ownsRow.kept h hg ?_
  rcases h.2 with ⟨hv, _⟩ | ⟨g, cap, cur, hv, _, hc, _⟩
  · left; rw [hv]; rfl
  · right
    rw [hv]
    intro e
    obtain ⟨o, ho, hc2⟩ := hr g e.symm
    rw [hc] at ho; cases ho; cases hc2
theorem CI.own {w w1 w2 : World} {need : Int} (h1 : w.heap.size + 1 ≤ w1.heap.size) (h2 : w1.heap.size + 1 + 1 + 1 ≤ w2.heap.size) : OwnFrom w2.heap.size (fun pre W => CI w w1 w2 need pre W) := by
  rintro pre X Y row ⟨⟨ov, a1, a2, a3⟩, ⟨b1, b2⟩, c1, d1, e1, f1⟩ hg hr
  have hr' := fun r e => (hr r e).2
  exact ⟨⟨ov, cell_kept a1 hg hr', (frozen_kept a1 hg hr').trans a2, ownP_kept a3 hg hr'⟩, ⟨cell_kept b1 hg hr', (frozen_kept b1 hg hr').trans b2⟩, cell_kept c1 hg hr', cell_kept d1 hg hr', e1.grown hg e1.size (fun k e => by have := (hr k e).1; omega), Nat.le_trans f1 hg.size⟩
theorem CI.start {w w1 w2 : World} {need : Int} (d0 : w2.cell? ⟨w.heap.size, 0, none⟩ = some (.int .i64 need)) (d1 : w2.cell? ⟨w1.heap.size, 0, none⟩ = some (.slice none 0 0) ∧ w2.frozen? ⟨w1.heap.size, 0, none⟩ = false)
    (d2 : w2.cell? ⟨w1.heap.size + 1, 0, none⟩ = some (.int .i64 0) ∧ w2.frozen? ⟨w1.heap.size + 1, 0, none⟩ = false)
    (d3 : w2.cell? ⟨w1.heap.size + 1 + 1, 0, none⟩ = some (.func (.func 77) #[] #[.pointer (some ⟨w1.heap.size + 1, 0, none⟩), .pointer (some ⟨w.heap.size, 0, none⟩)])) (hB : Below w.heap.size w w2) : CI w w1 w2 need [] w2 :=
  ⟨⟨_, d1.1, d1.2, OwnP.nil _ _⟩, d2, d0, d3, hB, Nat.le_refl _⟩
/-- A step that turns two boxes, cells from hi on, and lays new blocks. -/
structure Stp (ob db hi : Nat) (W V : World) : Prop where
  os : V.os = W.os
  tape : V.tape = W.tape
  output : V.output = W.output
  size : W.heap.size ≤ V.heap.size
  keep : ∀ k o, W.heap[k]? = some o → k ≠ ob → k ≠ db → (k < hi ∨ o.isCells = false) → V.heap[k]? = some o
theorem heap_at {W : World} {k : Nat} (h : k < W.heap.size) : ∃ o, W.heap[k]? = some o := ⟨W.heap[k], Array.getElem?_eq_getElem h⟩
theorem Stp.refl (ob db hi : Nat) (W : World) : Stp ob db hi W W := ⟨rfl, rfl, rfl, Nat.le_refl _, fun _ _ h _ _ _ => h⟩
theorem Stp.trans {ob db hi : Nat} {A B C : World} (h : Stp ob db hi A B) (k : Stp ob db hi B C) : Stp ob db hi A C :=
  ⟨k.os.trans h.os, k.tape.trans h.tape, k.output.trans h.output, Nat.le_trans h.size k.size, fun i o h1 h2 h3 h4 => k.keep i o (h.keep i o h1 h2 h3 h4) h2 h3 h4⟩
theorem Stp.drewN {ob db hi : Nat} {A B : World} (h : Stp ob db hi A B) (n : Nat) : Stp ob db hi A (B.drewN n) := ⟨h.os, h.tape, h.output, h.size, h.keep⟩
theorem Stp.set {ob db hi : Nat} {A B : World} (h : Stp ob db hi A B) {p : Addr} (hp : p.block = ob ∨ p.block = db) (u : Value) : Stp ob db hi A (B.setCell p u) :=
  ⟨h.os, h.tape, h.output, by simpa [World.setCell] using h.size, fun k o h1 h2 h3 h4 => (Below.heap_setCell B p u k (by omega)).trans (h.keep k o h1 h2 h3 h4)⟩
theorem Stp.alloc {ob db hi : Nat} {A B : World} (h : Stp ob db hi A B) (o : Obj) : Stp ob db hi A (B.alloc o) :=
  ⟨h.os, h.tape, h.output, Nat.le_trans h.size (by simp), fun k o' h1 h2 h3 h4 => (Below.heap_alloc B o k (by have := (Array.getElem?_eq_some_iff.1 h1).1; have := h.size; omega)).trans (h.keep k o' h1 h2 h3 h4)⟩
theorem Stp.grown {ob db hi : Nat} {A B C : World} {row : Option Nat} (h : Stp ob db hi A B) (hg : B.grownBy C row) (hr : ∀ r, row = some r → hi ≤ r ∧ ∀ o, B.heap[r]? = some o → o.isCells = true) : Stp ob db hi A C :=
  ⟨hg.os.trans h.os, hg.tape.trans h.tape, hg.output.trans h.output, Nat.le_trans h.size hg.size, fun k o h1 h2 h3 h4 => by
    have h5 := h.keep k o h1 h2 h3 h4
    refine (hg.block k (Array.getElem?_eq_some_iff.1 h5).1 ?_).trans h5
    intro e
    have h6 := hr k e.symm
    rcases h4 with h4 | h4
    · omega
    · rw [h6.2 o h5] at h4; cases h4⟩
theorem Stp.row {ob db hi : Nat} {A B : World} (h : Stp ob db hi A B) {p : Addr} (hp : hi ≤ p.block) {v : Value} (hc : B.cell? p = some v) (u : Value) : Stp ob db hi A (B.setCell p u) :=
  ⟨h.os, h.tape, h.output, by simpa [World.setCell] using h.size, fun k o h1 h2 h3 h4 => by
    have h5 := h.keep k o h1 h2 h3 h4
    refine (Below.heap_setCell B p u k ?_).trans h5
    rintro rfl
    rcases h4 with h4 | h4
    · omega
    · obtain ⟨o', ho', hc'⟩ := cells_of_cell hc
      rw [h5] at ho'; cases ho'; rw [h4] at hc'; cases hc'⟩
theorem Stp.from {ob db hi : Nat} {A B : World} (h : Stp ob db hi A B) (h1 : ob < hi) (h2 : db < hi) : KeepsFrom hi A B := ⟨h.size, fun k o hB hk ho => h.keep k o hk (by omega) (by omega) (.inr ho)⟩
theorem Stp.keepB {ob db lo hi : Nat} {A B : World} (h : Stp ob db hi A B) (h1 : ob < lo) (h2 : db < lo) (hh : hi ≤ A.heap.size) : KeepB lo hi A B :=
  ⟨h.size, fun q q1 q2 => by obtain ⟨o, ho⟩ := heap_at (W := A) (k := q) (by omega); rw [ho]; exact h.keep q o ho (by omega) (by omega) (.inl q2)⟩
theorem Stp.below {ob db n hi : Nat} {A B : World} (h : Stp ob db hi A B) (h1 : n ≤ ob) (h2 : n ≤ db) (hh : n ≤ hi) (hA : n ≤ A.heap.size) : Below n A B :=
  ⟨h.os, h.tape, h.output, h.size, fun q q2 => by obtain ⟨o, ho⟩ := heap_at (W := A) (k := q) (by omega); rw [ho]; exact h.keep q o ho (by omega) (by omega) (.inl (by omega))⟩
theorem Stp.cell {ob db hi : Nat} {A B : World} (h : Stp ob db hi A B) {b o : Nat} {v : Value} (hc : A.cell? ⟨b, o, none⟩ = some v) (h1 : b ≠ ob) (h2 : b ≠ db) (h3 : b < hi) : B.cell? ⟨b, o, none⟩ = some v := by
  have hlt := World.block_lt_of_cell? _ _ hc
  obtain ⟨ob', ho⟩ := heap_at (W := A) (k := b) hlt
  exact (World.cell?_of_block (a := ⟨b, o, none⟩) ((h.keep b ob' ho h1 h2 (.inl h3)).trans ho.symm)).trans hc
/-- The invariant behind a round, out of what the round leaves. -/
theorem CI.next {w w1 w2 W V : World} {need : Int} {pre : List BEd} {x : BEd} (h1 : w.heap.size + 1 ≤ w1.heap.size) (h2 : w1.heap.size + 1 + 1 + 1 ≤ w2.heap.size) (h : CI w w1 w2 need pre W) (hs : Stp w1.heap.size (w1.heap.size + 1) w2.heap.size W V)
    {ov : Value} (ho : V.cell? ⟨w1.heap.size, 0, none⟩ = some ov ∧ V.frozen? ⟨w1.heap.size, 0, none⟩ = false) (hrow : OwnIv V w2.heap.size ov (swStep need (sweep need (pre.map (·.1))) x.1).2)
    (hd : V.cell? ⟨w1.heap.size + 1, 0, none⟩ = some (.int .i64 ((sweep need (pre.map (·.1))).1 + x.1.2)) ∧ V.frozen? ⟨w1.heap.size + 1, 0, none⟩ = false) :
    KeepsFrom w2.heap.size W V ∧ KeepB (w1.heap.size + 1 + 1 + 1) w2.heap.size W V ∧ CI w w1 w2 need (pre ++ [x]) V := by
  obtain ⟨_, _, c1, d1, e1, f1⟩ := h
  have e : sweep need ((pre ++ [x]).map (·.1)) = swStep need (sweep need (pre.map (·.1))) x.1 := by rw [List.map_append]; exact sweep_snoc _ _ _
  refine ⟨hs.from (by omega) (by omega), hs.keepB (by omega) (by omega) f1, ⟨ov, ho.1, ho.2, by rw [e]; exact hrow⟩, ⟨by rw [e]; exact hd.1, hd.2⟩, hs.cell c1 (by omega) (by omega) (by omega), hs.cell d1 (by omega) (by omega) (by omega), e1.trans (hs.below (by omega) (by omega) (by omega) (by omega)), Nat.le_trans f1 hs.size⟩
theorem own_cells {W : World} {base e size n : Nat} {v : Value} {xs : List Value} (h : W.ownsRow base e size v n xs) {r : Nat} (hr : v.ownBlock = some r) {o : Obj} (ho' : W.heap[r]? = some o) : o.isCells = true := by
  rcases h.2 with ⟨hv, _⟩ | ⟨g, cap, cur, hv, _, hc, _⟩
  · rw [hv] at hr; cases hr
  · rw [hv] at hr; cases hr
    rw [hc] at ho'; cases ho'; rfl
theorem encs_size (x : BEd) : (#[Value.agg #[.int .i64 x.1.1, .int .i64 x.1.2]] : Array Value).size = 1 := rfl

set_option maxRecDepth 100000 in
set_option maxHeartbeats 2000000 in
theorem Cover_ok (v : Value) (l : List Iv) (need : Int) (w : World) (hv : IvRow w v l) (hl : listB l = true) (hn1 : 1 ≤ need) (hn2 : need ≤ 64) :
    Calls Tryz.prog 62 #[v, .int .i64 need] w fun e w' => ∃ v c, e = .returned (.tuple #[v, .int .i64 0]) ∧ OwnIv w' w.heap.size v c ∧ CovSpec l need c ∧ Below w.heap.size w w' := by
  have hv' := hv
  obtain ⟨a, cap, rfl, h1, h2, h3⟩ := hv
  clear h3
  obtain ⟨i0, hi, hz0, hz1, hz2⟩ := info_parts infoIv
  refine (callsIn_wide (n := 3)).1 ?_
  refine callsIn_of_wp_marks Tryz.func62 rfl trivial ?_ rfl
  simp only [Tryz.ntmps62, List.size_toArray, List.length_cons, List.length_nil, Nat.reduceAdd, Nat.reduceSub, Array.replicate_succ, Array.replicate_zero, List.push_toArray, List.append_toArray, List.nil_append, List.cons_append]
  gi_wp2_with fail
  refine ⟨trivial, (callsIn_wide.2 (listed_any _ l _ (hv'.below (Nat.le_refl _) ((Below.refl _ _).alloc (Nat.le_refl _) _)))).mono ?_⟩
  rintro e w1 ⟨rfl, hb1⟩
  obtain ⟨c1, f1⟩ := bk hb1 w.heap.size (by simp)
  have hz1' := hb1.size
  simp only [World.size_alloc] at hz1'
  have hB1 : Below w.heap.size w w1 := (by ((repeat' (first | exact Below.refl _ _ | exact hb1 | refine Below.alloc ?_ ?_ _ | refine Below.setCell ?_ ?_ _ | refine Below.drew ?_ | refine below_drewN ?_ _ | refine Below.trans ?_ (hb1.mono ?_))) <;> (first | omega | (simp; done) | (simp; omega))))
  gi_wp2_with fail
  refine ⟨trivial, (callsIn_wide.2 (edges_any _ l _ (hv'.below (Nat.le_refl _) (by ((repeat' (first | exact Below.refl _ _ | exact hB1 | refine Below.alloc ?_ ?_ _ | refine Below.setCell ?_ ?_ _ | refine Below.drew ?_ | refine below_drewN ?_ _ | refine Below.trans ?_ (hB1.mono ?_))) <;> (first | omega | (simp; done) | (simp; omega))))) hl)).mono ?_⟩
  rintro e w2 ⟨rfl, hb2, sv, E, hlt2, hcB, hrE, hpE, hsE, hownE⟩
  simp only [World.size_alloc] at hlt2 hcB hownE
  have hz2' := hb2.size
  simp only [World.size_alloc] at hz2'
  have hB2 : Below w.heap.size w w2 := (by ((repeat' (first | exact Below.refl _ _ | exact hB1 | exact hb2 | refine Below.alloc ?_ ?_ _ | refine Below.setCell ?_ ?_ _ | refine Below.drew ?_ | refine below_drewN ?_ _ | refine Below.trans ?_ (hB1.mono ?_) | refine Below.trans ?_ (hb2.mono ?_))) <;> (first | omega | (simp; done) | (simp; omega))))
  have hEl : E.length = 2 * l.length := by rw [hpE.length_eq, edg_length]
  have hl64 := ((listB_iff l).1 hl).1
  have hmem : ∀ e, e ∈ E → 0 ≤ e.1 ∧ e.1 ≤ 3000000000000001 ∧ -1 ≤ e.2 ∧ e.2 ≤ 1 := fun e he => by
    have := edg_mem l ((listB_iff l).1 hl).2 l.length (Nat.le_refl _) e
    rw [List.take_length] at this
    exact this (hpE.mem_iff.1 he)
  have hN : (grp E).length ≤ 128 := Nat.le_trans (grp_length E) (by omega)
  have hrb : 0 < E.length → ∀ k, sv.ownBlock = some k → w1.heap.size + 1 + 1 + 1 ≤ k ∧ k < w2.heap.size := fun h0 k h => ⟨hownE k h, by
    obtain ⟨b, off, cap', rfl, _, _, hb, _⟩ := hrE.at0 h0
    cases h; exact hb⟩
  -- the boxes, in w2
  have d0 : w2.cell? ⟨w.heap.size, 0, none⟩ = some (.int .i64 need) := by
    rw [(bk hb2 w.heap.size (by first | omega | (simp; done) | (simp; omega))).1, (old1 _ _ (by first | omega | (simp; done) | (simp; omega)) 0).1, (old2 w1 _ _ (by omega) 0).1, c1]; simp
  have d1 : w2.cell? ⟨w1.heap.size, 0, none⟩ = some (.slice none 0 0) ∧ w2.frozen? ⟨w1.heap.size, 0, none⟩ = false := by
    rw [(bk hb2 w1.heap.size (by first | omega | (simp; done) | (simp; omega))).1, (bk hb2 w1.heap.size (by first | omega | (simp; done) | (simp; omega))).2]; constructor <;> simp [go_sem]
  have d2 : w2.cell? ⟨w1.heap.size + 1, 0, none⟩ = some (.int .i64 0) ∧ w2.frozen? ⟨w1.heap.size + 1, 0, none⟩ = false := by
    rw [(bk hb2 (w1.heap.size + 1) (by first | omega | (simp; done) | (simp; omega))).1, (bk hb2 (w1.heap.size + 1) (by first | omega | (simp; done) | (simp; omega))).2]; constructor <;> simp [go_sem]
  have d3 : w2.cell? ⟨w1.heap.size + 1 + 1, 0, none⟩ = some (.func (.func 77) #[] #[.pointer (some ⟨w1.heap.size + 1, 0, none⟩), .pointer (some ⟨w.heap.size, 0, none⟩)]) := by
    rw [(bk hb2 (w1.heap.size + 1 + 1) (by first | omega | (simp; done) | (simp; omega))).1]; simp [go_sem]
  have hstop := edges2_stops 2 (by omega) (w1.heap.size + 1 + 1 + 1) (w1.heap.size + 1 + 1 + 1) w2.heap.size sv E (by omega) hmem (Nat.le_refl _) hlt2 w2 (Nat.le_refl _) hcB hrE hrb
  clear hb1 hb2 c1 f1
  have Hmem := hide hmem
  have HrE := hide hrE
  clear hmem hrE hownE hcB hrb
  gi_wp2_with fail
  refine wpIn_rangeFunc_ownH rfl (by omega) (gf := 92) (lb := #[.pointer (some ⟨w1.heap.size + 1 + 1 + 1, 0, none⟩)]) rfl trivial (enters_of Tryz.func92 (by kernel_rfl) rfl)
    hstop (fun h k => h.trans k) (fun W q o o' hq h1 h2 _ => KeepB.grown (grownBy_putObj' W q o') (by have := (Array.getElem?_eq_some_iff.1 h1).1; omega) (fun k e => by cases e; omega)) (Below.refl _ _) encs_size
    (fun pre W => CI w w1 w2 need pre W) (fun _ _ _ => False) (CI.own hz1' hz2') (fun _ _ _ _ _ hs _ _ => hs) (CI.start d0 d1 d2 d3 hB2)
    (fun x a' W => ∃ Bx, w2.heap.size ≤ Bx ∧ W.cell? ⟨Bx, 0, none⟩ = some (.int .i64 x.1.1) ∧ W.cell? ⟨Bx, 1, none⟩ = some (.int .i64 x.1.2) ∧ a' = { tmps := #[Value.slice a l.length cap, Value.int .i64 need, undef, Value.pointer (some ⟨w.heap.size, 0, none⟩), Value.slice none 0 0, Value.int .i64 0, Value.pointer (some ⟨w1.heap.size, 0, none⟩), Value.pointer (some ⟨w1.heap.size + 1, 0, none⟩), Value.pointer (some ⟨w1.heap.size + 1 + 1, 0, none⟩), Value.pointer (some ⟨Bx, 0, none⟩), undef, undef, Value.slice a l.length cap, Value.bool true, Value.bool false, Value.bool false, Value.int .i64 need, Value.bool (decide (need < 1)), Value.bool (decide (need < 1)), Value.bool (decide (need < 1)), Value.int .i64 need, Value.bool (decide (64 < need)), Value.bool (decide (need < 1) || decide (64 < need)), Value.func (Fn.func 77) #[] #[Value.pointer (some ⟨w1.heap.size + 1, 0, none⟩), Value.pointer (some ⟨w.heap.size, 0, none⟩)], Value.slice a l.length cap, Value.func (Fn.func 92) #[] #[Value.pointer (some ⟨w1.heap.size + 1 + 1 + 1, 0, none⟩)], Value.agg #[.int .i64 x.1.1, .int .i64 x.1.2], undef, undef, undef, undef, undef, undef, undef, undef, undef, undef, undef, undef, undef, undef, undef, undef, undef, undef, undef, undef, undef, undef, undef, undef, undef, undef, undef, undef, undef, undef, undef, undef, undef], defers := [] })
    (fun x a' _ X Y row hs hg hr => by obtain ⟨Bx, h1, h2, h3, h4⟩ := hs; exact ⟨Bx, h1, cell_kept h2 hg (fun r e => (hr r e).2), cell_kept h3 hg (fun r e => (hr r e).2), h4⟩)
    ?assign ?body ?done ?stop
  case assign =>
    rintro q pre x W K hI hK
    have hIn := CI.own hz1' hz2' pre W (W.alloc (.cells #[.int .i64 x.1.1, .int .i64 x.1.2] 119)) none hI (World.grownBy_alloc _ _ _) (fun r h => by cases h)
    have hsz : w2.heap.size ≤ W.heap.size := hI.2.2.2.2.2
    gi_wp2
    exact hK _ _ ((KeepsOthers.alloc _ _).from _) (KeepB.grown (World.grownBy_alloc _ _ none) (by omega) (fun k h => by cases h)) hIn ⟨W.heap.size, hsz, by simp, by simp, rfl⟩
  case body =>
    rintro q pre x a' W hq hrec hI ⟨Bx, hBx, x1, x2, rfl⟩ hlen
    have hI' := hide hI
    obtain ⟨⟨ov, a1, a2, a3⟩, ⟨b1, b2⟩, c1', d1', e1, f1⟩ := hI
    have hsafe := sweep_safe need hn1 (pre.map (·.1))
    have htot := sweep_tot need (pre.map (·.1))
    have hbd := tot_bd 200 (by omega) (by omega) (pre.map (·.1)) (by simp; omega) (fun e he => by obtain ⟨y, _, rfl⟩ := List.mem_map.1 he; exact y.2.2.2)
    rw [← htot] at hbd
    rw [List.length_map] at hbd
    have hx := x.2
    have hlc := hsafe.2
    rw [List.length_map] at hlc
    have hne := hsafe.1
    have hnx := fun V ov hs ho hrow hd => CI.next (V := V) (ov := ov) (x := x) hz1' hz2' hI'.out hs ho hrow hd
    simp only [swStep] at hnx
    generalize hdq : (sweep need (pre.map (·.1))).1 = d at *
    generalize hcq : (sweep need (pre.map (·.1))).2 = c at *
    have Hnx := hide hnx
    have HS := hide hne
    clear htot hsafe hne hnx hdq hcq d0 d1 d2 d3 hstop hpE hsE
    have hc128 : c.length ≤ 128 := by omega
    gi_wp2_with fail
    refine ⟨trivial, (CallsIn.inRound q (callsIn_wide.2 (enough_any _ _ _ _ _ W b1 b2 c1' (by omega) (by omega) (by omega) (by omega) (by omega)))).mono ?_⟩
    rintro e w3 ⟨rfl, nq, rfl⟩
    have v0 : Stp w1.heap.size (w1.heap.size + 1) w2.heap.size W ((W.setCell ⟨w1.heap.size + 1, 0, none⟩ (.int .i64 (d + x.1.2))).drewN nq) := (Stp.set (p := ⟨w1.heap.size + 1, 0, none⟩) (Stp.refl w1.heap.size (w1.heap.size + 1) w2.heap.size W) (.inr rfl) _).drewN nq
    have v1 : ((W.setCell ⟨w1.heap.size + 1, 0, none⟩ (.int .i64 (d + x.1.2))).drewN nq).cell? ⟨w1.heap.size, 0, none⟩ = some ov ∧ ((W.setCell ⟨w1.heap.size + 1, 0, none⟩ (.int .i64 (d + x.1.2))).drewN nq).frozen? ⟨w1.heap.size, 0, none⟩ = false :=
      ⟨(World.cell?_setCell_other _ _ _ _ (fun h => by simp at h)).trans a1, (World.frozen?_setCell _ _ _ _).trans a2⟩
    have v2 : ((W.setCell ⟨w1.heap.size + 1, 0, none⟩ (.int .i64 (d + x.1.2))).drewN nq).cell? ⟨w1.heap.size + 1, 0, none⟩ = some (.int .i64 (d + x.1.2)) ∧ ((W.setCell ⟨w1.heap.size + 1, 0, none⟩ (.int .i64 (d + x.1.2))).drewN nq).frozen? ⟨w1.heap.size + 1, 0, none⟩ = false :=
      ⟨World.cell?_setCell_same' _ _ _ (by rw [b1]; rfl), (World.frozen?_setCell _ _ _ _).trans b2⟩
    have v3 : ((W.setCell ⟨w1.heap.size + 1, 0, none⟩ (.int .i64 (d + x.1.2))).drewN nq).ownsRow w2.heap.size 36 2 ov c.length (encL c) := ownsRow_setCell_below a3 (by simp; omega) _
    have v5 : ((W.setCell ⟨w1.heap.size + 1, 0, none⟩ (.int .i64 (d + x.1.2))).drewN nq).cell? ⟨Bx, 0, none⟩ = some (.int .i64 x.1.1) := (World.cell?_setCell_other _ _ _ _ (fun h => by cases h; omega)).trans x1
    have vz : w2.heap.size ≤ ((W.setCell ⟨w1.heap.size + 1, 0, none⟩ (.int .i64 (d + x.1.2))).drewN nq).heap.size := Nat.le_trans f1 v0.size
    generalize (W.setCell ⟨w1.heap.size + 1, 0, none⟩ (.int .i64 (d + x.1.2))).drewN nq = V at *
    have vz1 : w1.heap.size < V.heap.size := by omega
    have V0 := hide v0
    have hlow := World.ownsRow.lt v3
    obtain ⟨v1a, v1b⟩ := v1
    have V2 := hide v2
    clear v0 v2 a1 a2 a3 b1 b2 c1' d1' x1 x2 e1
    obtain ⟨oa, ocap, hov, hoc1, hoc2⟩ := OwnP.val (c := c) v3
    subst hov
    by_cases hdn : need ≤ d <;> by_cases hyn : need ≤ d + x.1.2
    all_goals first | have tdn := decide_eq_true hdn | have tdn := decide_eq_false hdn
    all_goals first | have tyn := decide_eq_true hyn | have tyn := decide_eq_false hyn
    all_goals first | (have sdn : (!decide (need ≤ d)) = false := by simp [hdn]) | (have sdn : (!decide (need ≤ d)) = true := by simp [hdn])
    all_goals first | (have syn : (!decide (need ≤ d + x.1.2)) = false := by simp [hyn]) | (have syn : (!decide (need ≤ d + x.1.2)) = true := by simp [hyn])
    · gi_wp2
      all_goals exact Hnx.out _ _ V0.out ⟨v1a, v1b⟩ (by rw [if_neg (by omega), if_neg (by omega)]; exact v3) V2.out
    · have hcne := HS.out hdn
      rcases List.eq_nil_or_concat c with hc0 | ⟨dd, p, hcp⟩
      · exact absurd hc0 hcne
      · have hcd : c = dd ++ [p] := by rw [hcp]; simp
        clear hcp hcne HS
        subst hcd
        have hdl : (dd ++ [p]).length = dd.length + 1 := by simp
        obtain ⟨g, cap1, hov2, hg1, hg2, hg3, hg4, hcl1, hcl2, hfz, hst⟩ := OwnP.form (d := dd) (p := p) v3
        rw [hdl] at hov2 v1a v3 hoc1 hc128
        simp only [hdl] at *
        cases hov2
        have Hst := hide hst
        clear hst hdl
        gi_wp2
        have k0 : Stp w1.heap.size (w1.heap.size + 1) w2.heap.size W (V.setCell ⟨g, dd.length * 2 + 1, none⟩ (.int .i64 (x.1.1 - 1))) := V0.out.row (p := ⟨g, dd.length * 2 + 1, none⟩) hg1 hcl2 _
        refine Hnx.out _ _ k0 ⟨(World.cell?_setCell_other _ _ _ _ (fun h => by first | (simp at h; done) | (simp at h; omega))).trans v1a, (World.frozen?_setCell _ _ _ _).trans v1b⟩ ?_ ⟨(World.cell?_setCell_other _ _ _ _ (fun h => by first | (simp at h; done) | (simp at h; omega))).trans V2.out.1, (World.frozen?_setCell _ _ _ _).trans V2.out.2⟩
        rw [if_neg (by omega), if_pos ⟨hdn, hyn⟩]
        simpa using Hst.out (x.1.1 - 1)
    · gi_wp2_with (gi_at_builtin; refine wpListIn_append_own _ rfl _ _ 29 rfl w2.heap.size 36 i0 (.agg #[.int .i64 0, .int .i64 0]) 2 16 Tryz.underlying29 hi hz0 hz1 hz2 rfl (by decide) _ c.length (encL c) rfl (World.ownsRow.alloc v3 _) ⟨V.heap.size, 0, none⟩ 1 1 [.int .i64 x.1.1, .int .i64 0] rfl rfl (cell_two_new _ _ _ _) (by simp [Value.oneCell']) (by unfold maxLen; omega) (by omega) (by simp; omega) ?_; intro v4 w4 hown4 hg4 _; obtain ⟨a4, cap4, rfl⟩ := ownsRow_val hown4; obtain ⟨q1, q2⟩ := grown_keeps hg4 (b := w1.heap.size) (by simp; omega) (fun h => (by have := hlow _ h.symm; omega)))
      all_goals
        have k0 : Stp w1.heap.size (w1.heap.size + 1) w2.heap.size W (w4.setCell ⟨w1.heap.size, 0, none⟩ (.slice a4 (c.length + 1) cap4)) := Stp.set (p := ⟨w1.heap.size, 0, none⟩) ((V0.out.alloc _).grown hg4 (fun r h => ⟨(hlow r h).1, fun o ho => own_cells (World.ownsRow.alloc v3 _) h ho⟩)) (.inl rfl) _
        refine Hnx.out _ _ k0 ⟨World.cell?_setCell_same' _ _ _ (by rw [q1, (old1 V _ (by omega) 0).1, v1a]; rfl), (World.frozen?_setCell _ _ _ _).trans ((q2 0).trans ((old1 V _ (by omega) 0).2.trans v1b))⟩ ?_ ?_
        · rw [if_pos ⟨hyn, hdn⟩]
          exact ownsRow_setCell_below (OwnP.app hown4) (by first | omega | (simp; done) | (simp; omega)) _
        · obtain ⟨r1, r2⟩ := grown_keeps hg4 (b := w1.heap.size + 1) (by simp; omega) (fun h => (by have := hlow _ h.symm; omega))
          exact ⟨(World.cell?_setCell_other _ _ _ _ (fun h => by simp at h)).trans ((r1 0).trans ((old1 V _ (by omega) 0).1.trans V2.out.1)), (World.frozen?_setCell _ _ _ _).trans ((r2 0).trans ((old1 V _ (by omega) 0).2.trans V2.out.2))⟩
    · gi_wp2
      all_goals exact Hnx.out _ _ V0.out ⟨v1a, v1b⟩ (by rw [if_neg (by omega), if_neg (by omega)]; exact v3) V2.out
  case done =>
    rintro D ys W hD hys hI hK
    have hfin : CovSpec l need (sweep need (ys.map (·.1))).2 := by
      rw [hys]
      exact Run.done hl hn1 hpE (Run.sweep hn1 (grp E) (grp_sorted E hsE) (fun g hg => by have := grp_mem E Hmem.out g hg; omega) (grp E) (List.prefix_refl _))
    obtain ⟨⟨ov, a1, a2, a3⟩, _, _, _, e1, f1⟩ := hI
    have Hfin := hide hfin
    clear hfin hys d0 d1 d2 d3 hstop hpE hsE
    have hDW := (Array.getElem?_eq_some_iff.1 hK).1
    gi_wp2
    refine ⟨by simp, .inl ⟨_, _, rfl, run_takeDeferred hK, ?_⟩⟩
    exact ⟨_, results_tmp2 rfl _ _ _, ov, _, rfl, World.ownsRow.mono (ownsRow_putObj a3 _ hK rfl) (by omega), Hfin.out, e1.grown (grownBy_putObj' W D (.deferred none)) (by omega) (fun k e => by cases e; omega)⟩
  case stop =>
    rintro D c pre W _ _ h _
    exact h.elim

set_option maxRecDepth 100000 in
set_option maxHeartbeats 1000000 in
theorem Cover_any (v : Value) (l : List Iv) (need : Int) (w : World) (hv : IvRow w v l) :
    Calls Tryz.prog 62 #[v, .int .i64 need] w (CovPost w.heap.size w l need) := by
  by_cases hok : coverOk l need = true
  · have hfin : coverEr l need = 0 := by simp [coverEr, hok]
    have hok' := hok
    simp only [coverOk, Bool.and_eq_true, decide_eq_true_eq] at hok'
    refine (Cover_ok v l need w hv hok'.1 hok'.2.1 hok'.2.2).mono ?_
    rintro e w' ⟨v', c, he, ho, hc, hb⟩
    exact ⟨v', c, by rw [hfin]; exact he, ho, by unfold CovOut; rw [if_pos hok]; exact hc, hb⟩
  · have hfin : coverEr l need = 1 := by simp [coverEr, hok]
    have hfin2 : CovOut l need [] := by unfold CovOut; rw [if_neg hok]
    have Hf := hide hfin; clear hfin
    have hv' := hv
    obtain ⟨a, cap, rfl, h1, h2, h3⟩ := hv
    clear h3
    have hB0 : ∀ o, Below w.heap.size w (w.alloc o) := fun o => (Below.refl _ _).alloc (Nat.le_refl _) _
    have hv2 := hv'.below (Nat.le_refl _) (hB0 (.cells #[.int .i64 need] 3))
    clear hB0
    by_cases hl : listB l = true
    · have hn : ¬ (1 ≤ need ∧ need ≤ 64) := by
        intro h; apply hok; simp [coverOk, hl, h]
      by_cases hn1 : need < 1
      · clear hok hn
        go_enter Tryz.func62, Tryz.ntmps62
        go_wp2_with (go_at_call 76; refine (listed_any _ l _ hv2).mono ?_; rintro e w0 ⟨rfl, hb0⟩; obtain ⟨c0, f0⟩ := bk hb0 w.heap.size (by simp))
        go_ret2
        exact ⟨_, [], by rw [Hf.out]; rfl, OwnP.nil _ _, hfin2, (by ((repeat' (first | exact Below.refl _ _ | exact hb0 | refine Below.alloc ?_ ?_ _ | refine Below.setCell ?_ ?_ _ | refine Below.drew ?_ | refine below_drewN ?_ _ | refine Below.trans ?_ (hb0.mono ?_))) <;> (first | omega | (simp; done) | (simp; omega))))⟩
      · have hn2 : 64 < need := by omega
        clear hok hn
        go_enter Tryz.func62, Tryz.ntmps62
        go_wp2_with (go_at_call 76; refine (listed_any _ l _ hv2).mono ?_; rintro e w0 ⟨rfl, hb0⟩; obtain ⟨c0, f0⟩ := bk hb0 w.heap.size (by simp))
        go_ret2
        exact ⟨_, [], by rw [Hf.out]; rfl, OwnP.nil _ _, hfin2, (by ((repeat' (first | exact Below.refl _ _ | exact hb0 | refine Below.alloc ?_ ?_ _ | refine Below.setCell ?_ ?_ _ | refine Below.drew ?_ | refine below_drewN ?_ _ | refine Below.trans ?_ (hb0.mono ?_))) <;> (first | omega | (simp; done) | (simp; omega))))⟩
    · clear hok
      go_enter Tryz.func62, Tryz.ntmps62
      go_wp2_with (go_at_call 76; refine (listed_any _ l _ hv2).mono ?_; rintro e w0 ⟨rfl, hb0⟩; obtain ⟨c0, f0⟩ := bk hb0 w.heap.size (by simp))
      go_ret2
      exact ⟨_, [], by rw [Hf.out]; rfl, OwnP.nil _ _, hfin2, (by ((repeat' (first | exact Below.refl _ _ | exact hb0 | refine Below.alloc ?_ ?_ _ | refine Below.setCell ?_ ?_ _ | refine Below.drew ?_ | refine below_drewN ?_ _ | refine Below.trans ?_ (hb0.mono ?_))) <;> (first | omega | (simp; done) | (simp; omega))))⟩
end Go.Proofs.YtbgfgpjgehkdjaaGreat
