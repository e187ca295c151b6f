
/- Package scene: what both implementations return, with the rows' places; scenes stored into a box. -/
import Derived.Test.YtigjljmhpkeahaaGreatScYm
import Derived.Test.YtigjljmhpkeahaaGreatScL
import Derived.Test.YtigjljmhpkeahaaGreatScT
import Derived.Test.YtigjljmhpkeahaaGreatScU
import Derived.Test.YtigjljmhpkeahaaGreatGo
namespace Go.Proofs.YtigjljmhpkeahaaGreat
open Go.RowKit

def ScV (w w' : World) (x : Sc) (v : Value) : Prop :=
 ∃ ua uc aa ac, v = .agg #[.slice ua x.use.length uc, .int .i64 x.ev, .int .i64 x.at_, .slice aa x.an.length ac, .int .i64 x.ct] ∧ IsRow w' (.slice ua x.use.length uc) x.use ∧ AnRow w' (.slice aa x.an.length ac) x.an ∧
  (∀ q, (Value.slice ua x.use.length uc).ownBlock = some q → w.heap.size ≤ q ∧ q < w'.heap.size) ∧ (∀ q, (Value.slice aa x.an.length ac).ownBlock = some q → w.heap.size ≤ q ∧ q < w'.heap.size)
theorem ScRet.scv {w w' : World} {x : Sc} {uv av : Value} (h : ScRet w w' x uv av) : ScV w w' x (valSc x uv av) := by
 have o1 := World.ownsRow.lt h.1
 have o2 := World.ownsRow.lt h.2
 obtain ⟨h1, h2, ⟨a, c, rfl⟩, a', c', rfl⟩ := h.rows
 exact ⟨a, c, a', c', rfl, h1, h2, o1, o2⟩
theorem SnBox.store {W : World} {g : Nat} {y : Sc} {uv av : Value} (hc : ∀ j, j < 5 → ∃ u, W.cell? ⟨g, j, none⟩ = some u) (hg : g < W.heap.size) (hu : IsRow W uv y.use) (ha : AnRow W av y.an) (h1 : ∀ q, uv.ownBlock = some q → q ≠ g) (h2 : ∀ q, av.ownBlock = some q → q ≠ g) :
  SnBox (((((W.setCell ⟨g, 0, none⟩ uv).setCell ⟨g, 1, none⟩ (.int .i64 y.ev)).setCell ⟨g, 2, none⟩ (.int .i64 y.at_)).setCell ⟨g, 3, none⟩ av).setCell ⟨g, 4, none⟩ (.int .i64 y.ct)) g y uv av := by
 obtain ⟨u0, c0⟩ := hc 0 (by omega)
 obtain ⟨u1, c1⟩ := hc 1 (by omega)
 obtain ⟨u2, c2⟩ := hc 2 (by omega)
 obtain ⟨u3, c3⟩ := hc 3 (by omega)
 obtain ⟨u4, c4⟩ := hc 4 (by omega)
 have n : ∀ i j : Nat, i ≠ j → (⟨g, i, none⟩ : Addr) ≠ ⟨g, j, none⟩ := fun i j h e => h (by cases e; rfl)
 refine ⟨⟨?_, ?_, ?_, ?_, ?_⟩, ?_, ?_, ?_⟩
 ·exact set_other _ (set_other _ (set_other _ (set_other _ (set_same _ c0) (n _ _ (by omega))) (n _ _ (by omega))) (n _ _ (by omega))) (n _ _ (by omega))
 ·exact set_other _ (set_other _ (set_other _ (set_same _ (set_other _ c1 (n _ _ (by omega)))) (n _ _ (by omega))) (n _ _ (by omega))) (n _ _ (by omega))
 ·exact set_other _ (set_other _ (set_same _ (set_other _ (set_other _ c2 (n _ _ (by omega))) (n _ _ (by omega)))) (n _ _ (by omega))) (n _ _ (by omega))
 ·exact set_other _ (set_same _ (set_other _ (set_other _ (set_other _ c3 (n _ _ (by omega))) (n _ _ (by omega))) (n _ _ (by omega)))) (n _ _ (by omega))
 ·exact set_same _ (set_other _ (set_other _ (set_other _ (set_other _ c4 (n _ _ (by omega))) (n _ _ (by omega))) (n _ _ (by omega))) (n _ _ (by omega)))
 ·repeat refine isrow_set ?_ _ _ (fun _ => h1)
  exact hu
 ·exact rws_set (rws_set (rws_set (rws_set (rws_set ha _ _ h2) _ _ h2) _ _ h2) _ _ h2) _ _ h2
 ·simpa [World.setCell] using hg
theorem SnBox.past {W : World} {g b : Nat} {x : Sc} {uv av : Value} (h : SnBox W g x uv av) (hb : g ≠ b) (h1 : ∀ q, uv.ownBlock = some q → q ≠ b) (h2 : ∀ q, av.ownBlock = some q → q ≠ b) (u0 u1 u2 u3 u4 : Value) :
  SnBox (((((W.setCell ⟨b, 0, none⟩ u0).setCell ⟨b, 1, none⟩ u1).setCell ⟨b, 2, none⟩ u2).setCell ⟨b, 3, none⟩ u3).setCell ⟨b, 4, none⟩ u4) g x uv av :=
 ((((h.setNe u0 hb h1 h2).setNe u1 hb h1 h2).setNe u2 hb h1 h2).setNe u3 hb h1 h2).setNe u4 hb h1 h2
theorem FzBox.past {W : World} {g b : Nat} (h : FzBox W g) (u0 u1 u2 u3 u4 : Value) :
  FzBox (((((W.setCell ⟨b, 0, none⟩ u0).setCell ⟨b, 1, none⟩ u1).setCell ⟨b, 2, none⟩ u2).setCell ⟨b, 3, none⟩ u3).setCell ⟨b, 4, none⟩ u4) g := ((((h.set _ _).set _ _).set _ _).set _ _).set _ _
theorem sn_past {W : World} {B b : Nat} {V : World} (h : Below B V W) (hb : B ≤ b) (u0 u1 u2 u3 u4 : Value) :
  Below B V (((((W.setCell ⟨b, 0, none⟩ u0).setCell ⟨b, 1, none⟩ u1).setCell ⟨b, 2, none⟩ u2).setCell ⟨b, 3, none⟩ u3).setCell ⟨b, 4, none⟩ u4) :=
 ((((h.setCell (p := ⟨b, 0, none⟩) hb _).setCell (p := ⟨b, 1, none⟩) hb _).setCell (p := ⟨b, 2, none⟩) hb _).setCell (p := ⟨b, 3, none⟩) hb _).setCell (p := ⟨b, 4, none⟩) hb _
theorem SnBox.ex {W : World} {g : Nat} {x : Sc} {uv av : Value} (h : SnBox W g x uv av) : ∀ j, j < 5 → ∃ u, W.cell? ⟨g, j, none⟩ = some u := by
 obtain ⟨⟨c0, c1, c2, c3, c4⟩, -⟩ := h
 intro j hj
 match j, hj with
 | 0, _ => exact ⟨_, c0⟩
 | 1, _ => exact ⟨_, c1⟩
 | 2, _ => exact ⟨_, c2⟩
 | 3, _ => exact ⟨_, c3⟩
 | 4, _ => exact ⟨_, c4⟩
theorem scWorst_v {X : Sc} {E : Int} (r f lo tm : Int) (pv : Value) (ps : List Pr) (uv : Value) (use : List Int) (ev at_ : Int) (w : World) (hp : PrRow w pv ps) (hu : IsRow w uv use) (hX : wsS ⟨r, f, lo, tm, ps⟩ use ev at_ = X) (hE : wsEr ⟨r, f, lo, tm, ps⟩ use ev at_ = E) :
  Calls Tryz.prog 14 #[.agg #[.int .i64 r, .int .i64 f, .int .i64 lo, .int .i64 tm, pv], .agg #[uv, .int .i64 ev], .int .i64 at_] w fun e w' => ∃ ua uc aa ac, e = .returned (.tuple #[.agg #[.slice ua X.use.length uc, .int .i64 X.ev, .int .i64 X.at_, .slice aa X.an.length ac, .int .i64 X.ct], .int .i64 E]) ∧
   IsRow w' (.slice ua X.use.length uc) X.use ∧ AnRow w' (.slice aa X.an.length ac) X.an ∧ ((∀ q, (Value.slice ua X.use.length uc).ownBlock = some q → w.heap.size ≤ q ∧ q < w'.heap.size) ∧ (∀ q, (Value.slice aa X.an.length ac).ownBlock = some q → w.heap.size ≤ q ∧ q < w'.heap.size)) ∧ Below w.heap.size w w' := by
 refine (scWorst_any r f lo tm pv ps uv use ev at_ w hp hu).mono ?_
 unfold WorstPost
 rw [hX, hE]
 rintro e w' ⟨uv', av', rfl, hr, hb⟩
 obtain ⟨ua, uc, aa, ac, h1, h2, h3, h4, h5⟩ := hr.scv
 exact ⟨ua, uc, aa, ac, by rw [h1], h2, h3, ⟨h4, h5⟩, hb⟩
theorem R32Worst_v {X : Sc} {E : Int} (r f lo tm : Int) (pv : Value) (ps : List Pr) (uv : Value) (use : List Int) (ev at_ : Int) (w : World) (hp : PrRow w pv ps) (hu : IsRow w uv use) (hun : use.length ≤ 1000000) (hX : wsS ⟨r, f, lo, tm, ps⟩ use ev at_ = X) (hE : wsEr ⟨r, f, lo, tm, ps⟩ use ev at_ = E) :
  Calls Tryz.prog 15 #[.agg #[.int .i64 r, .int .i64 f, .int .i64 lo, .int .i64 tm, pv], .agg #[uv, .int .i64 ev], .int .i64 at_] w fun e w' => ∃ ua uc aa ac, e = .returned (.tuple #[.agg #[.slice ua X.use.length uc, .int .i64 X.ev, .int .i64 X.at_, .slice aa X.an.length ac, .int .i64 X.ct], .int .i64 E]) ∧
   IsRow w' (.slice ua X.use.length uc) X.use ∧ AnRow w' (.slice aa X.an.length ac) X.an ∧ ((∀ q, (Value.slice ua X.use.length uc).ownBlock = some q → w.heap.size ≤ q ∧ q < w'.heap.size) ∧ (∀ q, (Value.slice aa X.an.length ac).ownBlock = some q → w.heap.size ≤ q ∧ q < w'.heap.size)) ∧ Below w.heap.size w w' := by
 refine (R32Worst_any r f lo tm pv ps uv use ev at_ w hp hu hun).mono ?_
 unfold WorstPost
 rw [hX, hE]
 rintro e w' ⟨uv', av', rfl, hr, hb⟩
 obtain ⟨ua, uc, aa, ac, h1, h2, h3, h4, h5⟩ := hr.scv
 exact ⟨ua, uc, aa, ac, by rw [h1], h2, h3, ⟨h4, h5⟩, hb⟩
theorem scRefuse_v {X : Sc} {E : Int} {B : Bool} (r f lo tm : Int) (pv : Value) (ps : List Pr) (v : Value) (pl : List Int) (pm at_ : Int) (w : World) (hp : PrRow w pv ps) (hv : IsRow w v pl) (hX : rfS ⟨r, f, lo, tm, ps⟩ pl pm at_ = X) (hB : rfB ⟨r, f, lo, tm, ps⟩ pl pm at_ = B) (hE : rfEr ⟨r, f, lo, tm, ps⟩ pl pm at_ = E) :
  Calls Tryz.prog 22 #[.agg #[.int .i64 r, .int .i64 f, .int .i64 lo, .int .i64 tm, pv], v, .int .i64 pm, .int .i64 at_] w fun e w' => ∃ ua uc aa ac, e = .returned (.tuple #[.agg #[.slice ua X.use.length uc, .int .i64 X.ev, .int .i64 X.at_, .slice aa X.an.length ac, .int .i64 X.ct], .bool B, .int .i64 E]) ∧
   IsRow w' (.slice ua X.use.length uc) X.use ∧ AnRow w' (.slice aa X.an.length ac) X.an ∧ ((∀ q, (Value.slice ua X.use.length uc).ownBlock = some q → w.heap.size ≤ q ∧ q < w'.heap.size) ∧ (∀ q, (Value.slice aa X.an.length ac).ownBlock = some q → w.heap.size ≤ q ∧ q < w'.heap.size)) ∧ Below w.heap.size w w' := by
 refine (scRefuse_any r f lo tm pv ps v pl pm at_ w hp hv).mono ?_
 unfold RefPost
 rw [hX, hB, hE]
 rintro e w' ⟨uv', av', rfl, hr, hb⟩
 obtain ⟨ua, uc, aa, ac, h1, h2, h3, h4, h5⟩ := hr.scv
 exact ⟨ua, uc, aa, ac, by rw [h1], h2, h3, ⟨h4, h5⟩, hb⟩
theorem R32Refuse_v {X : Sc} {E : Int} {B : Bool} (r f lo tm : Int) (pv : Value) (ps : List Pr) (v : Value) (pl : List Int) (pm at_ : Int) (w : World) (hp : PrRow w pv ps) (hv : IsRow w v pl) (hX : rfS ⟨r, f, lo, tm, ps⟩ pl pm at_ = X) (hB : rfB ⟨r, f, lo, tm, ps⟩ pl pm at_ = B) (hE : rfEr ⟨r, f, lo, tm, ps⟩ pl pm at_ = E) :
  Calls Tryz.prog 23 #[.agg #[.int .i64 r, .int .i64 f, .int .i64 lo, .int .i64 tm, pv], v, .int .i64 pm, .int .i64 at_] w fun e w' => ∃ ua uc aa ac, e = .returned (.tuple #[.agg #[.slice ua X.use.length uc, .int .i64 X.ev, .int .i64 X.at_, .slice aa X.an.length ac, .int .i64 X.ct], .bool B, .int .i64 E]) ∧
   IsRow w' (.slice ua X.use.length uc) X.use ∧ AnRow w' (.slice aa X.an.length ac) X.an ∧ ((∀ q, (Value.slice ua X.use.length uc).ownBlock = some q → w.heap.size ≤ q ∧ q < w'.heap.size) ∧ (∀ q, (Value.slice aa X.an.length ac).ownBlock = some q → w.heap.size ≤ q ∧ q < w'.heap.size)) ∧ Below w.heap.size w w' := by
 refine (R32Refuse_any r f lo tm pv ps v pl pm at_ w hp hv).mono ?_
 unfold RefPost
 rw [hX, hB, hE]
 rintro e w' ⟨uv', av', rfl, hr, hb⟩
 obtain ⟨ua, uc, aa, ac, h1, h2, h3, h4, h5⟩ := hr.scv
 exact ⟨ua, uc, aa, ac, by rw [h1], h2, h3, ⟨h4, h5⟩, hb⟩
theorem scSame_v (x : Sc) (ua uc aa ac ub ud ab ad : _) (w : World) (h1 : IsRow w (.slice ua x.use.length uc) x.use) (h2 : AnRow w (.slice aa x.an.length ac) x.an) (h3 : IsRow w (.slice ub x.use.length ud) x.use) (h4 : AnRow w (.slice ab x.an.length ad) x.an) :
  Calls Tryz.prog 16 #[.agg #[.slice ua x.use.length uc, .int .i64 x.ev, .int .i64 x.at_, .slice aa x.an.length ac, .int .i64 x.ct], .agg #[.slice ub x.use.length ud, .int .i64 x.ev, .int .i64 x.at_, .slice ab x.an.length ad, .int .i64 x.ct]] w fun e w' => e = .returned (.bool true) ∧ Below w.heap.size w w' := by
 have := R32Same_any x x _ _ _ _ w h1 h2 h3 h4
 rwa [scSame_self] at this
end Go.Proofs.YtigjljmhpkeahaaGreat
