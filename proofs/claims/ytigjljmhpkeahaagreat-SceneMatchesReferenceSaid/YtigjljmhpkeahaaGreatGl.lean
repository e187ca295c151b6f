
/- Parts PlJ of the proof, joined. -/
import Derived.Test.YtigjljmhpkeahaaGreatGj
import Derived.Test.YtigjljmhpkeahaaGreatGk
import Derived.RangeFuncNested
/- Package plan: best, the loop over all offers. -/
namespace Go.Proofs.YtigjljmhpkeahaaGreat
open Go.RowKit Go.Shelf
attribute [local go_sem] Oper.semAt_some

def accO (acc : Option Of) : Of := acc.getD of0
def BsI (s : Si) (nr : Bool) (most : Int) (B : Nat) (w W0 : World) (bo bf : Nat) (pre : List (Value × Of)) (W : World) : Prop :=
 ∃ uv acc, acc = bstL nr s.ps most (pre.map (·.2)) ∧ W.cell? ⟨bo, 0, none⟩ = some uv ∧ W.cell? ⟨bo, 1, none⟩ = some (.int .i64 (accO acc).ev) ∧ W.cell? ⟨bo, 2, none⟩ = some (.int .i64 (accO acc).wd) ∧ (W.frozen? ⟨bo, 0, none⟩ = false ∧ W.frozen? ⟨bo, 1, none⟩ = false ∧ W.frozen? ⟨bo, 2, none⟩ = false) ∧
  W.cell? ⟨bf, 0, none⟩ = some (.bool acc.isSome) ∧ W.frozen? ⟨bf, 0, none⟩ = false ∧ IsRow W uv (accO acc).use ∧ (∀ q, uv.ownBlock = some q → (q ≠ bo ∧ q ≠ bf) ∧ B ≤ q) ∧ (acc.isSome = true → rgB s (accO acc).use (accO acc).ev = true) ∧ Below w.heap.size w W ∧ KeepC bo bf W0 W
theorem keptC {b1 b2 : Nat} {A B : World} {row : Option Nat} (hg : A.grownBy B row) (hr : ∀ r, row = some r → ∃ o : Obj, A.heap[r]? = some o ∧ o.isCells = false) : KeepC b1 b2 A B := KeepC.grown hg (fun r h => .inr (.inr (hr r h)))
theorem isrow_kept0 {A B : World} {v : Value} {l : List Int} {row : Option Nat} (h : IsRow A v l) (hg : A.grownBy B row) (hr : ∀ r, row = some r → ∃ o : Obj, A.heap[r]? = some o ∧ o.isCells = false) : IsRow B v l := by
 obtain ⟨a, cap, rfl, h1, h2, h3⟩ := h
 refine ⟨a, cap, rfl, h1, h2, fun i hi => ?_⟩
 obtain ⟨b, off, rfl, h4, h5⟩ := h3 i hi
 exact ⟨b, off, rfl, Nat.lt_of_lt_of_le h4 hg.size, cell_kept h5 hg hr⟩
theorem BsI.own {s : Si} {nr : Bool} {most : Int} {B : Nat} {w W0 : World} {bo bf : Nat} (hw : w.heap.size ≤ W0.heap.size) : OwnFrom W0.heap.size (fun pre W => BsI s nr most B w W0 bo bf pre W) := by
 rintro pre X Y row ⟨uv, acc, h0, h1, h2, h3, h4, h5, h6, h7, h8, h9, h10, h11⟩ hg hr
 have hr' := fun r e => (hr r e).2
 exact ⟨uv, acc, h0, cell_kept h1 hg hr', cell_kept h2 hg hr', cell_kept h3 hg hr', ⟨(frozen_kept h1 hg hr').trans h4.1, (frozen_kept h2 hg hr').trans h4.2.1, (frozen_kept h3 hg hr').trans h4.2.2⟩, cell_kept h5 hg hr', (frozen_kept h5 hg hr').trans h6, isrow_kept0 h7 hg hr', h8, h9,
  h10.grown hg h10.size (fun k e => by have := (hr k e).1; omega), h11.trans (keptC hg hr')⟩
theorem KeepC.frozen {b1 b2 : Nat} {A B : World} (h : KeepC b1 b2 A B) {b o o' : Nat} {v : Value} (hc : A.cell? ⟨b, o, none⟩ = some v) (h1 : b ≠ b1) (h2 : b ≠ b2) : B.frozen? ⟨b, o', none⟩ = A.frozen? ⟨b, o', none⟩ := by
 obtain ⟨ob, g1, g2⟩ := Go.Proofs.YtigjljmhpkeahaaGreat.cells_of_cell hc
 exact World.frozen?_of_block (a := ⟨b, o', none⟩) ((h.2 b ob g1 g2 h1 h2).trans g1.symm)
theorem set_same {W : World} {p : Addr} {u : Value} (v : Value) (h : W.cell? p = some u) : (W.setCell p v).cell? p = some v := World.cell?_setCell_same' _ _ _ (by rw [h]; rfl)
theorem set_other {W : World} {p q : Addr} {u : Value} (v : Value) (h : W.cell? q = some u) (hne : q ≠ p) : (W.setCell p v).cell? q = some u := (World.cell?_setCell_other _ _ _ _ (fun e => hne (by first | exact e | exact e.symm))).trans h
theorem BsI.put {s : Si} {nr : Bool} {most : Int} {B : Nat} {w W0 W V : World} {bo bf : Nat} {pre : List (Value × Of)} {x : Value × Of} {acc : Option Of} (_hW0 : W0.heap.size ≤ W.heap.size) (hw : w.heap.size ≤ bo) (hw2 : w.heap.size ≤ bf) (hne : bo ≠ bf) (hoW : bo < W.heap.size) (hfW : bf < W.heap.size)
  (hV : Below W.heap.size W V) (hacc : bstS nr s.ps most acc x.2 = some x.2) (hst : bstL nr s.ps most ((pre ++ [x]).map (·.2)) = bstS nr s.ps most acc x.2)
  {u0 u1 u2 u3 : Value} (h1 : W.cell? ⟨bo, 0, none⟩ = some u0) (h2 : W.cell? ⟨bo, 1, none⟩ = some u1) (h3 : W.cell? ⟨bo, 2, none⟩ = some u2) (h4 : W.frozen? ⟨bo, 0, none⟩ = false ∧ W.frozen? ⟨bo, 1, none⟩ = false ∧ W.frozen? ⟨bo, 2, none⟩ = false) (h5 : W.cell? ⟨bf, 0, none⟩ = some u3) (h6 : W.frozen? ⟨bf, 0, none⟩ = false)
  (h10 : Below w.heap.size w W) (h11 : KeepC bo bf W0 W) (g1 : IsRow W x.1 x.2.use) (g2 : ∀ q, x.1.ownBlock = some q → (q ≠ bo ∧ q ≠ bf) ∧ B ≤ q) (g3 : rgB s x.2.use x.2.ev = true) :
  KeepsFrom W0.heap.size W ((((V.setCell ⟨bo, 0, none⟩ x.1).setCell ⟨bo, 1, none⟩ (.int .i64 x.2.ev)).setCell ⟨bo, 2, none⟩ (.int .i64 x.2.wd)).setCell ⟨bf, 0, none⟩ (.bool true)) ∧
  KeepC bo bf W ((((V.setCell ⟨bo, 0, none⟩ x.1).setCell ⟨bo, 1, none⟩ (.int .i64 x.2.ev)).setCell ⟨bo, 2, none⟩ (.int .i64 x.2.wd)).setCell ⟨bf, 0, none⟩ (.bool true)) ∧
  BsI s nr most B w W0 bo bf (pre ++ [x]) ((((V.setCell ⟨bo, 0, none⟩ x.1).setCell ⟨bo, 1, none⟩ (.int .i64 x.2.ev)).setCell ⟨bo, 2, none⟩ (.int .i64 x.2.wd)).setCell ⟨bf, 0, none⟩ (.bool true)) := by
 have e := fun b (hb : b < W.heap.size) o => hV.cell (p := ⟨b, o, none⟩) hb
 have e' := fun b (hb : b < W.heap.size) o => hV.frozen (p := ⟨b, o, none⟩) hb
 have k1 := (e bo hoW 0).trans h1
 have k2 := (e bo hoW 1).trans h2
 have k3 := (e bo hoW 2).trans h3
 have k5 := (e bf hfW 0).trans h5
 have kV : KeepC bo bf W V := KeepC.of_below hV
 have kF := (((kV.set (p := ⟨bo, 0, none⟩) (.inl rfl) x.1).set (p := ⟨bo, 1, none⟩) (.inl rfl) (.int .i64 x.2.ev)).set (p := ⟨bo, 2, none⟩) (.inl rfl) (.int .i64 x.2.wd)).set (p := ⟨bf, 0, none⟩) (.inr rfl) (.bool true)
 refine ⟨?_, kF, ?_⟩
 ·exact (((((KeepsOthers.of_grownBy (grown_of_below hV) (fun r o h => by cases h)).trans (KeepsOthers.setCell _ _ _)).trans (KeepsOthers.setCell _ _ _)).trans (KeepsOthers.setCell _ _ _)).trans (KeepsOthers.setCell _ _ _)).from _
 ·refine ⟨x.1, some x.2, by rw [hst, hacc], ?_, ?_, ?_, ?_, ?_, ?_, isrow_keepC g1 (fun q hq => (g2 q hq).1) kF, g2, fun _ => g3, ?_, h11.trans kF⟩
  ·refine set_other _ (set_other _ (set_other _ (set_same _ k1) ?_) ?_) ?_ <;> (intro h; simp at h; try omega)
  ·refine set_other _ (set_other _ (set_same _ (set_other _ k2 ?_)) ?_) ?_ <;> (intro h; simp at h; try omega)
  ·refine set_other _ (set_same _ (set_other _ (set_other _ k3 ?_) ?_)) ?_ <;> (intro h; simp at h; try omega)
  ·simp only [World.frozen?_setCell, e' bo hoW]; exact h4
  ·refine set_same _ (set_other _ (set_other _ (set_other _ k5 ?_) ?_) ?_) <;> (intro h; simp at h; try omega)
  ·simp only [World.frozen?_setCell, e' bf hfW]; exact h6
  ·exact ((((h10.trans (hV.mono h10.size)).setCell (p := ⟨bo, 0, none⟩) hw _).setCell (p := ⟨bo, 1, none⟩) hw _).setCell (p := ⟨bo, 2, none⟩) hw _).setCell (p := ⟨bf, 0, none⟩) hw2 _
set_option maxRecDepth 100000 in
set_option maxHeartbeats 2000000 in
theorem plBest_any (nr : Bool) (r f lo tm : Int) (pv : Value) (ps : List Pr) (v : Value) (pl : List Int) (most : Int) (sb rb : Nat) (w : World) (hp : PrRow w pv ps) (hv : IsRow w v pl) (hl : ps.length ≤ 10) (hpl : pl.length ≤ 10) (hs : StAt w sb r f lo tm pv) (hsb : sb < w.heap.size) (hr : RlAt w rb nr sb) (hrb : rb < w.heap.size) :
  Calls Tryz.prog 73 #[.agg #[.int .i64 r, .int .i64 f, .int .i64 lo, .int .i64 tm, pv], v, .int .i64 most, .slice (some ⟨rb, 0, none⟩) 5 5] w fun e w' => ∃ uv, e = .returned (.tuple #[.agg #[uv, .int .i64 (accO (bstO nr ⟨r, f, lo, tm, ps⟩ pl most)).ev, .int .i64 (accO (bstO nr ⟨r, f, lo, tm, ps⟩ pl most)).wd], .bool (bstO nr ⟨r, f, lo, tm, ps⟩ pl most).isSome]) ∧
   IsRow w' uv (accO (bstO nr ⟨r, f, lo, tm, ps⟩ pl most)).use ∧ (∀ q, uv.ownBlock = some q → w.heap.size ≤ q) ∧ Below w.heap.size w w' := by
 obtain ⟨pa, pc, rfl, pq1, pq2⟩ := hp.len
 obtain ⟨va, vc, rfl, vq1, vq2, -⟩ := id hv
 obtain ⟨res, hres⟩ : ∃ res, res = bstO nr ⟨r, f, lo, tm, ps⟩ pl most := ⟨_, rfl⟩
 rw [← hres]
 have Hres := hide hres
 clear hres
 refine (callsIn_wide (n := 4)).1 ?_
 refine callsIn_of_wp_marks Tryz.func73 rfl trivial ?_ rfl
 simp only [Tryz.ntmps73, List.size_toArray, List.length_cons, List.length_nil, Nat.reduceAdd, Nat.reduceSub, Array.replicate_succ, Array.replicate_zero, List.push_toArray, List.append_toArray, List.nil_append, List.cons_append]
 gi_wp2_with fail
 obtain ⟨U0, hU0⟩ : ∃ U : World, U = ((((((w.alloc (.cells #[.int .i64 r, .int .i64 f, .int .i64 lo, .int .i64 tm, .slice pa ps.length pc] 24)).alloc (.cells #[.int .i64 most] 3)).alloc (.cells #[.slice (some ⟨rb, 0, none⟩) 5 5] 117)).alloc (.cells #[.slice none 0 0, .int .i64 0, .int .i64 0] 114)).alloc (.cells #[.func (.func 119) #[] #[.pointer (some ⟨w.heap.size + 1 + 1, 0, none⟩)]] 161)).alloc (.cells #[.slice none 0 0, .int .i64 0, .int .i64 0] 114)).alloc (.cells #[.bool false] 4) := ⟨_, rfl⟩
 rw [← hU0]
 have zU : U0.heap.size = w.heap.size + 7 := by rw [hU0]; simp
 have bU : Below w.heap.size w U0 := by rw [hU0]; ((with_reducible repeat' first | exact .refl _ _ | refine .alloc ?_ ?_ _ | refine .setCell ?_ ?_ _ | refine .drew ?_ | refine below_drewN ?_ _) <;> first | omega | simp <;> omega)
 have u1 : U0.cell? ⟨w.heap.size + 1, 0, none⟩ = some (.int .i64 most) := by rw [hU0]; simp [go_sem]
 have u2 : U0.cell? ⟨w.heap.size + 1 + 1, 0, none⟩ = some (.slice (some ⟨rb, 0, none⟩) 5 5) := by rw [hU0]; simp [go_sem]
 have u3 : (U0.cell? ⟨w.heap.size + 1 + 1 + 1, 0, none⟩ = some (.slice none 0 0) ∧ U0.cell? ⟨w.heap.size + 1 + 1 + 1, 1, none⟩ = some (.int .i64 0) ∧ U0.cell? ⟨w.heap.size + 1 + 1 + 1, 2, none⟩ = some (.int .i64 0)) ∧ U0.frozen? ⟨w.heap.size + 1 + 1 + 1, 0, none⟩ = false ∧ U0.frozen? ⟨w.heap.size + 1 + 1 + 1, 1, none⟩ = false ∧ U0.frozen? ⟨w.heap.size + 1 + 1 + 1, 2, none⟩ = false := by
  rw [hU0]; refine ⟨⟨?_, ?_, ?_⟩, ?_, ?_, ?_⟩ <;> simp [go_sem]
 have u4 : U0.cell? ⟨w.heap.size + 1 + 1 + 1 + 1, 0, none⟩ = some (.func (.func 119) #[] #[.pointer (some ⟨w.heap.size + 1 + 1, 0, none⟩)]) := by rw [hU0]; simp [go_sem]
 have u5 : (U0.cell? ⟨w.heap.size + 1 + 1 + 1 + 1 + 1, 0, none⟩ = some (.slice none 0 0) ∧ U0.cell? ⟨w.heap.size + 1 + 1 + 1 + 1 + 1, 1, none⟩ = some (.int .i64 0) ∧ U0.cell? ⟨w.heap.size + 1 + 1 + 1 + 1 + 1, 2, none⟩ = some (.int .i64 0)) ∧ U0.frozen? ⟨w.heap.size + 1 + 1 + 1 + 1 + 1, 0, none⟩ = false ∧ U0.frozen? ⟨w.heap.size + 1 + 1 + 1 + 1 + 1, 1, none⟩ = false ∧ U0.frozen? ⟨w.heap.size + 1 + 1 + 1 + 1 + 1, 2, none⟩ = false := by
  rw [hU0]; refine ⟨⟨?_, ?_, ?_⟩, ?_, ?_, ?_⟩ <;> simp [go_sem]
 have u6 : U0.cell? ⟨w.heap.size + 1 + 1 + 1 + 1 + 1 + 1, 0, none⟩ = some (.bool false) ∧ U0.frozen? ⟨w.heap.size + 1 + 1 + 1 + 1 + 1 + 1, 0, none⟩ = false := by
  rw [hU0]; constructor <;> simp [go_sem]
 clear hU0
 refine ⟨trivial, (callsIn_wide.2 (offers_any r f lo tm _ _ pl _ (hv.below (Nat.le_refl _) bU))).mono ?_⟩
 rintro e w1 ⟨rfl, hw1⟩
 have z1 : w1.heap.size = w.heap.size + 9 := by rw [hw1]; simp [zU]
 have hB1 : Below U0.heap.size U0 w1 := by rw [hw1]; ((with_reducible repeat' first | exact .refl _ _ | refine .alloc ?_ ?_ _ | refine .setCell ?_ ?_ _ | refine .drew ?_ | refine below_drewN ?_ _) <;> first | omega | simp <;> omega)
 have bW : Below w.heap.size w w1 := bU.trans (hB1.mono (by omega))
 have hS1 : w1.cell? ⟨U0.heap.size, 0, none⟩ = some (.int .i64 r) ∧ w1.cell? ⟨U0.heap.size, 1, none⟩ = some (.int .i64 f) ∧ w1.cell? ⟨U0.heap.size, 2, none⟩ = some (.int .i64 lo) ∧ w1.cell? ⟨U0.heap.size, 3, none⟩ = some (.int .i64 tm) ∧ w1.cell? ⟨U0.heap.size, 4, none⟩ = some (.slice pa ps.length pc) := by
  rw [hw1]; refine ⟨?_, ?_, ?_, ?_, ?_⟩ <;> simp
 have hP1 : w1.cell? ⟨U0.heap.size + 1, 0, none⟩ = some (.slice va pl.length vc) := by rw [hw1]; simp
 clear hw1
 obtain ⟨b5, hb5⟩ : ∃ b, b = w.heap.size + 1 + 1 + 1 + 1 + 1 := ⟨_, rfl⟩
 obtain ⟨b4, hb4⟩ : ∃ b, b = w.heap.size + 1 + 1 + 1 + 1 := ⟨_, rfl⟩
 obtain ⟨b3, hb3⟩ : ∃ b, b = w.heap.size + 1 + 1 + 1 := ⟨_, rfl⟩
 obtain ⟨b2, hb2⟩ : ∃ b, b = w.heap.size + 1 + 1 := ⟨_, rfl⟩
 obtain ⟨b1, hb1⟩ : ∃ b, b = w.heap.size + 1 := ⟨_, rfl⟩
 obtain ⟨b6, hb6⟩ : ∃ b, b = b5 + 1 := ⟨_, rfl⟩
 rw [← hb5] at u5 u6
 rw [← hb6] at u6
 rw [← hb4] at u4
 rw [← hb3] at u3
 rw [← hb2] at u2 u4
 rw [← hb1] at u1
 have hof := fun b (hb : b < w.heap.size + 7) o => hB1.cell (p := ⟨b, o, none⟩) (by show b < U0.heap.size; omega)
 have hff := fun b (hb : b < w.heap.size + 7) o => hB1.frozen (p := ⟨b, o, none⟩) (by show b < U0.heap.size; omega)
 have v1 := (hof b1 (by omega) 0).trans u1
 have v2 := (hof b2 (by omega) 0).trans u2
 have v4 := (hof b4 (by omega) 0).trans u4
 have v3 : (w1.cell? ⟨b3, 0, none⟩ = some (.slice none 0 0) ∧ w1.cell? ⟨b3, 1, none⟩ = some (.int .i64 0) ∧ w1.cell? ⟨b3, 2, none⟩ = some (.int .i64 0)) ∧ w1.frozen? ⟨b3, 0, none⟩ = false ∧ w1.frozen? ⟨b3, 1, none⟩ = false ∧ w1.frozen? ⟨b3, 2, none⟩ = false := by
  have g := hof b3 (by omega); have g' := hff b3 (by omega)
  exact ⟨⟨(g _).trans u3.1.1, (g _).trans u3.1.2.1, (g _).trans u3.1.2.2⟩, (g' _).trans u3.2.1, (g' _).trans u3.2.2.1, (g' _).trans u3.2.2.2⟩
 have x1 : BsI ⟨r, f, lo, tm, ps⟩ nr most w1.heap.size w w1 b5 b6 [] w1 := by
  have g := hof b5 (by omega); have g' := hff b5 (by omega)
  exact ⟨.slice none 0 0, none, rfl, (g _).trans u5.1.1, (g _).trans u5.1.2.1, (g _).trans u5.1.2.2, ⟨(g' _).trans u5.2.1, (g' _).trans u5.2.2.1, (g' _).trans u5.2.2.2⟩, (hof b6 (by omega) 0).trans u6.1, (hff b6 (by omega) 0).trans u6.2,
   IsRow.nil _, fun q hq => by simp [Value.ownBlock] at hq, fun h => by simp at h, bW, KeepC.refl _ _ _⟩
 clear u1 u2 u3 u4 u5 u6 hof hff
 have Hb := hide (And.intro hb1 (And.intro hb2 (And.intro hb3 (And.intro hb4 (And.intro hb5 hb6)))))
 gi_wp2_with fail
 rw [← hb5, ← hb6, ← hb4, ← hb3, ← hb2, ← hb1]
 rw [zU] at hS1 hP1
 have i1 : w.heap.size + 1 ≤ b1 ∧ b1 ≤ w.heap.size + 1 := by omega
 have i2 : w.heap.size + 2 ≤ b2 ∧ b2 ≤ w.heap.size + 2 := by omega
 have i3 : w.heap.size + 3 ≤ b3 ∧ b3 ≤ w.heap.size + 3 := by omega
 have i4 : w.heap.size + 4 ≤ b4 ∧ b4 ≤ w.heap.size + 4 := by omega
 have i5 : w.heap.size + 5 ≤ b5 ∧ b5 ≤ w.heap.size + 5 := by omega
 have i6 : w.heap.size + 6 ≤ b6 ∧ b6 ≤ w.heap.size + 6 := by omega
 have iz : w.heap.size + 9 ≤ w1.heap.size ∧ w1.heap.size ≤ w.heap.size + 9 := by omega
 clear hb1 hb2 hb3 hb4 hb5 hb6 Hb z1 zU hB1 bU
 refine wpIn_rangeFunc_guar rfl (by omega) (gf := 165) (lb := #[.pointer (some ⟨w.heap.size + 7, 0, none⟩), .pointer (some ⟨w.heap.size + 7 + 1, 0, none⟩)]) rfl trivial (enters_of Tryz.func165 (by kernel_rfl) rfl)
  (encs := ofEnc) (Kp := KeepC b5 b6) (G := OfG ⟨r, f, lo, tm, ps⟩ b5 b6 w1.heap.size) (S := fun xs => xs.map (·.2) = ofL ⟨r, f, lo, tm, ps⟩ pl) (w0 := w1) ?seq (fun h k => h.trans k) (fun W q o o' hq h1 h2 _ => KeepC.put o' h1 h2) (Below.refl _ _) (fun _ => rfl)
  (BsI ⟨r, f, lo, tm, ps⟩ nr most w1.heap.size w w1 b5 b6) (BsI.own (by omega)) x1
  (fun x a' W => OfG ⟨r, f, lo, tm, ps⟩ b5 b6 w1.heap.size x W ∧ ∃ Bx, w1.heap.size ≤ Bx ∧ (W.cell? ⟨Bx, 0, none⟩ = some x.1 ∧ W.cell? ⟨Bx, 1, none⟩ = some (.int .i64 x.2.ev) ∧ W.cell? ⟨Bx, 2, none⟩ = some (.int .i64 x.2.wd)) ∧ a' = { tmps := #[.agg #[.int .i64 r, .int .i64 f, .int .i64 lo, .int .i64 tm, .slice pa ps.length pc], .slice va pl.length vc, .int .i64 most, .slice (some ⟨rb, 0, none⟩) 5 5, .pointer (some ⟨w.heap.size, 0, none⟩), undef, .pointer (some ⟨b1, 0, none⟩), .pointer (some ⟨b2, 0, none⟩), .pointer (some ⟨b3, 0, none⟩), .bool false, .pointer (some ⟨b4, 0, none⟩), .pointer (some ⟨b5, 0, none⟩), .pointer (some ⟨b6, 0, none⟩), .pointer (some ⟨Bx, 0, none⟩), .func (.func 119) #[] #[.pointer (some ⟨b2, 0, none⟩)], .agg #[.int .i64 r, .int .i64 f, .int .i64 lo, .int .i64 tm, .slice pa ps.length pc], .slice va pl.length vc, .func (.func 165) #[] #[.pointer (some ⟨w.heap.size + 7, 0, none⟩), .pointer (some ⟨w.heap.size + 7 + 1, 0, none⟩)], .agg #[x.1, .int .i64 x.2.ev, .int .i64 x.2.wd], undef, undef, undef, undef, undef, undef, undef, undef, undef, undef, undef, undef, undef, undef, undef, undef, undef], defers := [] })
  (fun x a' _ X Y row hs hg hr => by
   obtain ⟨⟨g1, g2, g3, g4⟩, Bx, h1, ⟨h2, h3, h4⟩, h5⟩ := hs
   have hr' := fun r e => (hr r e).2
   exact ⟨⟨isrow_kept0 g1 hg hr', g2, g3, g4⟩, Bx, h1, ⟨cell_kept h2 hg hr', cell_kept h3 hg hr', cell_kept h4 hg hr'⟩, h5⟩)
  ?assign ?body ?done
 case seq =>
  intro l J W hW hJ hY h0
  have hg := fun b (hb : b < w1.heap.size) o => hW.cell (p := ⟨b, o, none⟩) hb
  have g7 := hg (w.heap.size + 7) (by omega)
  exact offers_in 3 (by omega) l (w.heap.size + 7) (w.heap.size + 7 + 1) b5 b6 w1.heap.size r f lo tm _ ps _ pl w W hp hv hl hpl (bW.trans (hW.mono (by omega))) (by omega) (by omega) hW.size (by have := hW.size; omega) (by have := hW.size; omega) (by omega) (by omega) (by omega) (by omega)
   ⟨(g7 0).trans hS1.1, (g7 1).trans hS1.2.1, (g7 2).trans hS1.2.2.1, (g7 3).trans hS1.2.2.2.1, (g7 4).trans hS1.2.2.2.2⟩ ((hg (w.heap.size + 7 + 1) (by omega) 0).trans hP1) J hJ hY h0
 case assign =>
  rintro q pre x W K hI hG hK
  have hIn := (BsI.own (by omega)) pre W (W.alloc (.cells #[x.1, .int .i64 x.2.ev, .int .i64 x.2.wd] 114)) none hI (World.grownBy_alloc _ _ _) (fun r h => by cases h)
  have hsz : w1.heap.size ≤ W.heap.size := by obtain ⟨_, _, _, _, _, _, _, _, _, _, _, _, _, hk⟩ := hI; exact hk.1
  obtain ⟨g1, g2, g3, g4⟩ := hG
  have G4 := hide g4
  clear g4
  have hk1 : KeepC b5 b6 W (W.alloc (.cells #[x.1, .int .i64 x.2.ev, .int .i64 x.2.wd] 114)) := KeepC.of_below (by ((with_reducible repeat' first | exact .refl _ _ | refine .alloc ?_ ?_ _ | refine .setCell ?_ ?_ _ | refine .drew ?_ | refine below_drewN ?_ _) <;> first | omega | simp <;> omega))
  have hr1 := isrow_keepC g1 (fun q hq => (g2 q hq).1) hk1
  obtain ⟨xa, xc, hxv, -⟩ := id g1
  obtain ⟨x1, x2⟩ := x
  simp only at hxv
  subst hxv
  simp only [ofEnc]
  gi_wp2
  exact hK _ _ ((KeepsOthers.alloc _ _).from _) hk1 hIn ⟨⟨hr1, g2, g3, G4.out⟩, W.heap.size, hsz, ⟨by simp, by simp, by simp⟩, rfl⟩
 case body =>
  rintro q pre x a' W hq hrec ⟨uv, acc, h0, h1, h2, h3, h4, h5, h6, h7, h8, h9, h10, h11⟩ ⟨⟨g1, g2, g3, g4⟩, Bx, hBx, ⟨y0, y1, y2⟩, rfl⟩
  have hzW := h11.1
  have c1' := h11.cell v1 (by omega) (by omega)
  have c2' := h11.cell v2 (by omega) (by omega)
  have c4' := h11.cell v4 (by omega) (by omega)
  have hst : bstL nr ps most ((pre ++ [x]).map (·.2)) = bstS nr ps most acc x.2 := by rw [h0, List.map_append]; exact bstL_snoc nr ps most _ _
  have Hst := hide hst
  have hR : ∀ V : World, Below W.heap.size W V → PrRow V (.slice pa ps.length pc) ps ∧ IsRow V x.1 x.2.use ∧ IsRow V uv (accO acc).use ∧ StAt V sb r f lo tm (.slice pa ps.length pc) ∧ RlAt V rb nr sb := fun V hV => by
   have hb : Below w.heap.size w V := h10.trans (hV.mono (by omega))
   exact ⟨hp.below (Nat.le_refl _) hb, g1.below (Nat.le_refl _) hV, h7.below (Nat.le_refl _) hV, hs.below hb hsb, fun k hk => ((bk hb rb hrb).1 k).trans (hr k hk)⟩
  have HR := hide hR
  have H0 := hide h0
  have G4 := hide g4
  have G3 := hide g3
  have H9 := hide h9
  obtain ⟨xa, xc, hxv, -⟩ := id g1
  obtain ⟨ua, uc, huv, -⟩ := id h7
  obtain ⟨x1, x2⟩ := x
  simp only at hxv y0 y1 y2 G3 G4
  subst hxv huv
  have hnext : ∀ V, KeepsFrom w1.heap.size W V → KeepC b5 b6 W V → BsI ⟨r, f, lo, tm, ps⟩ nr most w1.heap.size w w1 b5 b6 (pre ++ [(.slice xa x2.use.length xc, x2)]) V → guarPost w1.heap.size (KeepC b5 b6) (BsI ⟨r, f, lo, tm, ps⟩ nr most w1.heap.size w w1 b5 b6) (pre ++ [(.slice xa x2.use.length xc, x2)]) W .normal ⟨#[], []⟩ V := fun V a b c => ⟨a, b, c⟩
  clear hst hR h0 g4 g3 h9 v1 v2 v3 v4 hnext
  by_cases hle : x2.wd ≤ most
  ·cases hacc : acc with
   | none =>
    subst hacc
    simp only [accO, Option.getD_none, Option.isSome_none] at h2 h3 h5
    gi_wp2_with (refine wpListIn_skip rfl rfl ?_)
    exact BsI.put (W := W) (V := W) (x := (.slice xa x2.use.length xc, x2)) hzW (by omega) (by omega) (by omega) (by omega) (by omega) (Below.refl _ _) (by simp [bstS, hle]) Hst.out h1 h2 h3 h4 h5 h6 h10 h11 g1 g2 G3.out
   | some b =>
    subst hacc
    simp only [accO, Option.getD_some, Option.isSome_some] at h2 h3 h5
    have hca := CsOk.of G3.out
    have hcb := CsOk.of (H9.out rfl)
    simp only [accO, Option.getD_some] at hcb
    have hbt := fun V (hV : Below W.heap.size W V) => better_any nr sb rb b2 r f lo tm _ ps _ x2 _ b V (HR.out V hV).2.2.2.1 (by have := hV.size; omega) (HR.out V hV).2.2.2.2 (by have := hV.size; omega) (((bk hV b2 (by omega)).1 0).trans c2') (by have := hV.size; omega) (HR.out V hV).1 (HR.out V hV).2.1 (HR.out V hV).2.2.1 hca hcb
    obtain ⟨R, hRR⟩ : ∃ R, R = btr nr ps x2 b := ⟨_, rfl⟩
    rw [← hRR] at hbt
    have Hbt := hide hbt
    have HRR := hide hRR
    clear hbt hRR hca hcb
    cases R with
    | true =>
     gi_wp2_with (refine wpListIn_skip rfl rfl ?_)
     refine ⟨trivial, (CallsIn.inRound q (callsIn_wide.2 (Hbt.out W (Below.refl _ _)))).mono ?_⟩
     rintro e w3 ⟨rfl, b3'⟩
     have hBl := World.block_lt_of_cell? _ _ y0
     simp only at hBl
     have e := fun b (hb : b < W.heap.size) o => b3'.cell (p := ⟨b, o, none⟩) hb
     have e' := fun b (hb : b < W.heap.size) o => b3'.frozen (p := ⟨b, o, none⟩) hb
     have g5 := e b5 (by omega); have g5' := e' b5 (by omega)
     have p0 := (g5 _).trans h1
     have p1 := (g5 _).trans h2
     have p2 := (g5 _).trans h3
     have p3 := (g5' _).trans h4.1
     have p4 := (g5' _).trans h4.2.1
     have p5 := (g5' _).trans h4.2.2
     have p6 := (e b6 (by omega) 0).trans h5
     have p7 := (e' b6 (by omega) 0).trans h6
     have p8 := (e Bx hBl _).trans y0
     have p9 := (e Bx hBl _).trans y1
     have p10 := (e Bx hBl _).trans y2
     clear e e' g5 g5'
     gi_wp2_with (refine wpListIn_skip rfl rfl ?_)
     exact BsI.put (W := W) (V := w3) (x := (.slice xa x2.use.length xc, x2)) hzW (by omega) (by omega) (by omega) (by omega) (by omega) b3' (by simp [bstS, hle, ← HRR.out]) Hst.out h1 h2 h3 h4 h5 h6 h10 h11 g1 g2 G3.out
    | false =>
     gi_wp2_with (refine wpListIn_skip rfl rfl ?_)
     refine ⟨trivial, (CallsIn.inRound q (callsIn_wide.2 (Hbt.out W (Below.refl _ _)))).mono ?_⟩
     rintro e w3 ⟨rfl, b3'⟩
     gi_wp2_with (refine wpListIn_skip rfl rfl ?_)
     have e := fun b (hb : b < W.heap.size) o => b3'.cell (p := ⟨b, o, none⟩) hb
     have e' := fun b (hb : b < W.heap.size) o => b3'.frozen (p := ⟨b, o, none⟩) hb
     have g5 := e b5 (by omega); have g5' := e' b5 (by omega)
     exact ⟨(KeepsOthers.of_grownBy (grown_of_below b3') (fun r o h => by cases h)).from _, KeepC.of_below b3', _, some b, by rw [Hst.out]; simp [bstS, hle, ← HRR.out], (g5 _).trans h1, (g5 _).trans h2, (g5 _).trans h3, ⟨(g5' _).trans h4.1, (g5' _).trans h4.2.1, (g5' _).trans h4.2.2⟩,
      (e b6 (by omega) 0).trans h5, (e' b6 (by omega) 0).trans h6, (HR.out _ b3').2.2.1, h8, H9.out, h10.trans (b3'.mono h10.size), h11.trans (KeepC.of_below b3')⟩
  ·gi_wp2_with (refine wpListIn_skip rfl rfl ?_)
   have hn : bstS nr ps most acc x2 = acc := by cases acc <;> simp [bstS] <;> omega
   exact ⟨KeepsFrom.refl _ _, KeepC.refl _ _ _, _, acc, by rw [Hst.out]; exact hn.symm, h1, h2, h3, h4, h5, h6, h7, h8, H9.out, h10, h11⟩
 case done =>
  rintro D ys W hD hys ⟨uv, acc, h0, h1, h2, h3, h4, h5, h6, h7, h8, h9, h10, h11⟩ hK
  have hacc : res = acc := by rw [h0, hys]; exact Hres.out
  clear h0 hys h9
  subst hacc
  have v3' : (W.cell? ⟨b3, 0, none⟩ = some (.slice none 0 0) ∧ W.cell? ⟨b3, 1, none⟩ = some (.int .i64 0) ∧ W.cell? ⟨b3, 2, none⟩ = some (.int .i64 0)) := ⟨h11.cell v3.1.1 (by omega) (by omega), h11.cell v3.1.2.1 (by omega) (by omega), h11.cell v3.1.2.2 (by omega) (by omega)⟩
  obtain ⟨ua, uc, huv, -⟩ := id h7
  subst huv
  clear v1 v2 v4 Hres
  have v4 : W.frozen? ⟨b3, 0, none⟩ = false ∧ W.frozen? ⟨b3, 1, none⟩ = false ∧ W.frozen? ⟨b3, 2, none⟩ = false := ⟨(h11.frozen v3.1.1 (by omega) (by omega)).trans v3.2.1, (h11.frozen v3.1.1 (by omega) (by omega)).trans v3.2.2.1, (h11.frozen v3.1.1 (by omega) (by omega)).trans v3.2.2.2⟩
  obtain ⟨m0, m1, m2⟩ := v3'
  obtain ⟨n0, n1, n2⟩ := v4
  have hzW := h11.1
  clear v3
  gi_wp2
  refine wpIn_wide.2 ?_
  go_region
  gi_wp2
  have hKV := ((KeepsOthers.drew W).trans (((KeepsOthers.setCell W.drew ⟨b3, 0, none⟩ (.slice ua (accO res).use.length uc)).trans (KeepsOthers.setCell _ ⟨b3, 1, none⟩ (.int .i64 (accO res).ev))).trans (KeepsOthers.setCell _ ⟨b3, 2, none⟩ (.int .i64 (accO res).wd)))).same D _ hK rfl
  have d0 : (((W.setCell ⟨b3, 0, none⟩ (.slice ua (accO res).use.length uc)).setCell ⟨b3, 1, none⟩ (.int .i64 (accO res).ev)).setCell ⟨b3, 2, none⟩ (.int .i64 (accO res).wd)).drew.cell? ⟨b3, 0, none⟩ = some (.slice ua (accO res).use.length uc) := by
   refine set_other _ (set_other _ (set_same _ m0) ?_) ?_ <;> (intro h; simp at h)
  have d1 : (((W.setCell ⟨b3, 0, none⟩ (.slice ua (accO res).use.length uc)).setCell ⟨b3, 1, none⟩ (.int .i64 (accO res).ev)).setCell ⟨b3, 2, none⟩ (.int .i64 (accO res).wd)).drew.cell? ⟨b3, 1, none⟩ = some (.int .i64 (accO res).ev) := by
   refine set_other _ (set_same _ (set_other _ m1 ?_)) ?_ <;> (intro h; simp at h)
  have d2 : (((W.setCell ⟨b3, 0, none⟩ (.slice ua (accO res).use.length uc)).setCell ⟨b3, 1, none⟩ (.int .i64 (accO res).ev)).setCell ⟨b3, 2, none⟩ (.int .i64 (accO res).wd)).drew.cell? ⟨b3, 2, none⟩ = some (.int .i64 (accO res).wd) := by
   refine set_same _ (set_other _ (set_other _ m2 ?_) ?_) <;> (intro h; simp at h)
  have d3 : Below w.heap.size w (((W.setCell ⟨b3, 0, none⟩ (.slice ua (accO res).use.length uc)).setCell ⟨b3, 1, none⟩ (.int .i64 (accO res).ev)).setCell ⟨b3, 2, none⟩ (.int .i64 (accO res).wd)).drew :=
   (((h10.setCell (p := ⟨b3, 0, none⟩) (by show w.heap.size ≤ b3; omega) _).setCell (p := ⟨b3, 1, none⟩) (by show w.heap.size ≤ b3; omega) _).setCell (p := ⟨b3, 2, none⟩) (by show w.heap.size ≤ b3; omega) _).drew
  have k3 : KeepC b3 b3 W (((W.setCell ⟨b3, 0, none⟩ (.slice ua (accO res).use.length uc)).setCell ⟨b3, 1, none⟩ (.int .i64 (accO res).ev)).setCell ⟨b3, 2, none⟩ (.int .i64 (accO res).wd)).drew :=
   ((KeepC.refl b3 b3 W).set (p := ⟨b3, 0, none⟩) (.inl rfl) _ |>.set (p := ⟨b3, 1, none⟩) (.inl rfl) _).set (p := ⟨b3, 2, none⟩) (.inl rfl) _
  have d4 := isrow_keepC h7 (b1 := b3) (b2 := b3) (fun q hq => by have := (h8 q hq).2; constructor <;> omega) k3
  have hKV2 : (((W.setCell ⟨b3, 0, none⟩ (.slice ua (accO res).use.length uc)).setCell ⟨b3, 1, none⟩ (.int .i64 (accO res).ev)).setCell ⟨b3, 2, none⟩ (.int .i64 (accO res).wd)).drew.heap[D]? = some (.deferred (some [])) := hKV
  clear hKV k3
  generalize (((W.setCell ⟨b3, 0, none⟩ (.slice ua (accO res).use.length uc)).setCell ⟨b3, 1, none⟩ (.int .i64 (accO res).ev)).setCell ⟨b3, 2, none⟩ (.int .i64 (accO res).wd)).drew = V at *
  have hpu : ∀ r, some D = some r → ∃ o : Obj, V.heap[r]? = some o ∧ o.isCells = false := fun r e => by cases e; exact ⟨_, hKV2, rfl⟩
  have c0 := cell_kept d0 (grownBy_putObj' V D (.deferred none)) hpu
  have c1 := cell_kept d1 (grownBy_putObj' V D (.deferred none)) hpu
  have c2 := cell_kept d2 (grownBy_putObj' V D (.deferred none)) hpu
  have c4 := isrow_kept0 d4 (grownBy_putObj' V D (.deferred none)) hpu
  refine ⟨by simp, .inl ⟨_, _, rfl, run_takeDeferred hKV2, ?_⟩⟩
  have e3 : Below w.heap.size w (V.putObj D (.deferred none)) := d3.grown (grownBy_putObj' V D (.deferred none)) d3.size (fun q e => by cases e; omega)
  generalize V.putObj D (.deferred none) = U at *
  refine ⟨.tuple #[.agg #[.slice ua (accO res).use.length uc, .int .i64 (accO res).ev, .int .i64 (accO res).wd], .bool res.isSome], by simp [results, Tryz.results73, go_sem, c0, c1, c2], _, rfl, c4, fun q hq => by have := (h8 q hq).2; omega, e3⟩
end Go.Proofs.YtigjljmhpkeahaaGreat
