
/- Package scene: answers of a row that is turned in place; the source of an append. -/
import Derived.Test.YtigjljmhpkeahaaGreatScY
import Derived.Test.YtigjljmhpkeahaaGreatScA
import Derived.Test.YtigjljmhpkeahaaGreatScX
import Derived.Test.YtigjljmhpkeahaaGreatApp
import Derived.Test.YtigjljmhpkeahaaGreatGm
namespace Go.Proofs.YtigjljmhpkeahaaGreat
open Go.RowKit

theorem flat_set : ∀ (c : List An) (i j : Nat) (u : Value) (y : An), i < c.length → j < 6 → encA y = (encA (anAt c i)).set j u → (c.flatMap encA).set (i * 6 + j) u = (c.set i y).flatMap encA
 | [], i, j, u, y, h, _, _ => by simp at h
 | p :: c, i, j, u, y, h, hj, he => by
  cases i with
  | zero =>
   have e0 : anAt (p :: c) 0 = p := rfl
   rw [e0] at he
   rw [List.flatMap_cons, List.set_cons_zero, List.flatMap_cons, he, Nat.zero_mul, Nat.zero_add, List.set_append, if_pos (by rw [encA_length]; exact hj)]
  | succ i =>
   have e0 : anAt (p :: c) (i + 1) = anAt c i := rfl
   rw [e0] at he
   rw [List.flatMap_cons, List.set_cons_succ, List.flatMap_cons, List.set_append, if_neg (by rw [encA_length]; omega), encA_length, show (i + 1) * 6 + j - 6 = i * 6 + j by omega, flat_set c i j u y (by simpa using h) hj he]
theorem OwnAn.putLo {w : World} {base g n cap : Nat} {c : List An} (h : w.ownsRow base 59 6 (.slice (some ⟨g, 0, none⟩) n cap) n (c.flatMap encA)) {i : Nat} (hi : i < c.length) (z : Int) :
  (w.setCell ⟨g, i * 6 + 4, none⟩ (.int .i64 z)).ownsRow base 59 6 (.slice (some ⟨g, 0, none⟩) n cap) n ((c.set i ⟨(anAt c i).au, (anAt c i).ls, (anAt c i).ou, (anAt c i).bk, z, (anAt c i).hi⟩).flatMap encA) := by
 rw [← flat_set c i 4 (.int .i64 z) ⟨(anAt c i).au, (anAt c i).ls, (anAt c i).ou, (anAt c i).bk, z, (anAt c i).hi⟩ hi (by omega) rfl]
 exact (World.ownsRow.stored h _ _).1
theorem OwnAn.putHi {w : World} {base g n cap : Nat} {c : List An} (h : w.ownsRow base 59 6 (.slice (some ⟨g, 0, none⟩) n cap) n (c.flatMap encA)) {i : Nat} (hi : i < c.length) (z : Int) :
  (w.setCell ⟨g, i * 6 + 5, none⟩ (.int .i64 z)).ownsRow base 59 6 (.slice (some ⟨g, 0, none⟩) n cap) n ((c.set i ⟨(anAt c i).au, (anAt c i).ls, (anAt c i).ou, (anAt c i).bk, (anAt c i).lo, z⟩).flatMap encA) := by
 rw [← flat_set c i 5 (.int .i64 z) ⟨(anAt c i).au, (anAt c i).ls, (anAt c i).ou, (anAt c i).bk, (anAt c i).lo, z⟩ hi (by omega) rfl]
 exact (World.ownsRow.stored h _ _).1
theorem own_newA {w : World} {base q : Nat} (hh : w.heap[q]? = some (.cells #[] 59)) (h : base ≤ q) : w.ownsRow base 59 6 (.slice (some ⟨q, 0, none⟩) 0 0) 0 [] :=
 ⟨rfl, .inr ⟨q, 0, #[], rfl, h, hh, Nat.le_refl _, Nat.zero_le _, rfl, rfl⟩⟩
theorem src_an {w : World} {v : Value} {l : List An} (h : AnRow w v l) : SrcRow w v l.length 6 (l.flatMap encA) := by
 obtain ⟨a, cap, rfl, h1, h2, h3⟩ := h
 refine ⟨a, cap, rfl, flat_length encA_length l, fun ha => ?_, fun ad had j u hj => ?_⟩
 ·rcases Nat.eq_zero_or_pos l.length with h0 | h0
  ·exact h0
  ·obtain ⟨b, off, e, _⟩ := h3 0 h0
   rw [ha] at e; cases e
 ·have hjl : j < l.length * 6 := by rw [← flat_length encA_length l]; exact (List.getElem?_eq_some_iff.1 hj).1
  obtain ⟨b, off, e, _, h5⟩ := h3 (j / 6) (by omega)
  rw [had] at e
  cases e
  have e6 : j / 6 * 6 + j % 6 = j := by omega
  have hm : j % 6 < (encA (l.getD (j / 6) an0)).length := by rw [encA_length]; omega
  have h7 := flat_at encA_length an0 l (j / 6) (by omega) (j % 6) _ (List.getElem?_eq_getElem hm)
  rw [e6, hj] at h7
  cases h7
  have h8 := h5 (j % 6) _ (List.getElem?_eq_getElem hm)
  rw [Go.WideShapes.add_plain, show off + j = off + j / 6 * 6 + j % 6 by omega]
  exact h8
def FzBox (W : World) (g : Nat) : Prop := (∀ o, W.frozen? ⟨g, o, none⟩ = false) ∧ g < W.heap.size
theorem FzBox.below {w W : World} {g : Nat} (h : FzBox w g) (hb : Below w.heap.size w W) : FzBox W g := ⟨fun o => ((bk hb g h.2).2 o).trans (h.1 o), Nat.lt_of_lt_of_le h.2 hb.size⟩
theorem FzBox.made {w : World} {cs : Array Value} {t : TypeId} : FzBox (w.alloc (.cells cs t)) w.heap.size := ⟨fun o => by simp [go_sem], by simp⟩
theorem rws_set {α : Type} {en : α → List Value} {C : Nat} {d : α} {W : World} {v : Value} {l : List α} (h : Rws en C d W v l) (p : Addr) (u : Value) (hb : ∀ q, v.ownBlock = some q → q ≠ p.block) : Rws en C d (W.setCell p u) v l := by
 obtain ⟨a, cap, rfl, h1, h2, h3⟩ := h
 refine ⟨a, cap, rfl, h1, h2, fun i hi => ?_⟩
 obtain ⟨b, off, rfl, h4, h5⟩ := h3 i hi
 refine ⟨b, off, rfl, by simpa [World.setCell] using h4, h5.of fun k => ?_⟩
 exact World.cell?_setCell_other _ _ _ _ (fun e => hb b rfl (by rw [e]))
theorem SnBox.setNe {W : World} {g : Nat} {x : Sc} {uv av : Value} (h : SnBox W g x uv av) {p : Addr} (u : Value) (hg : g ≠ p.block) (hu : ∀ q, uv.ownBlock = some q → q ≠ p.block) (ha : ∀ q, av.ownBlock = some q → q ≠ p.block) : SnBox (W.setCell p u) g x uv av := by
 obtain ⟨⟨c0, c1, c2, c3, c4⟩, h1, h2, h3⟩ := h
 have k : ∀ o, (⟨g, o, none⟩ : Addr) ≠ p := fun o e => hg (by rw [← e])
 exact ⟨⟨set_other _ c0 (k 0), set_other _ c1 (k 1), set_other _ c2 (k 2), set_other _ c3 (k 3), set_other _ c4 (k 4)⟩, isrow_set h1 p u (fun _ => hu), rws_set h2 p u ha, by simpa [World.setCell] using h3⟩
theorem IvBox.setNe {W : World} {g : Nat} {a b : Int} (h : IvBox W g a b) {p : Addr} (u : Value) (hg : g ≠ p.block) : IvBox (W.setCell p u) g a b := by
 obtain ⟨c0, c1, h3⟩ := h
 have k : ∀ o, (⟨g, o, none⟩ : Addr) ≠ p := fun o e => hg (by rw [← e])
 exact ⟨set_other _ c0 (k 0), set_other _ c1 (k 1), by simpa [World.setCell] using h3⟩
theorem SnBox.move {W : World} {g : Nat} {x : Sc} {uv av : Value} (h : SnBox W g x uv av) {av2 : Value} {y : Sc} (hu : y.use = x.use) (he : y.ev = x.ev) (hc : y.ct = x.ct) (hb : ∀ q, uv.ownBlock = some q → q ≠ g)
  (ha : AnRow W av2 y.an) (hb2 : ∀ q, av2.ownBlock = some q → q ≠ g) : SnBox ((W.setCell ⟨g, 3, none⟩ av2).setCell ⟨g, 2, none⟩ (.int .i64 y.at_)) g y uv av2 := by
 obtain ⟨⟨c0, c1, c2, c3, c4⟩, h1, h2, h3⟩ := h
 refine ⟨⟨?_, ?_, ?_, ?_, ?_⟩, ?_, ?_, ?_⟩
 ·exact set_other _ (set_other _ c0 (by intro h; simp at h)) (by intro h; simp at h)
 ·rw [he]; exact set_other _ (set_other _ c1 (by intro h; simp at h)) (by intro h; simp at h)
 ·exact set_same _ (set_other _ c2 (by intro h; simp at h))
 ·exact set_other _ (set_same _ c3) (by intro h; simp at h)
 ·rw [hc]; exact set_other _ (set_other _ c4 (by intro h; simp at h)) (by intro h; simp at h)
 ·rw [hu]; exact isrow_set (isrow_set h1 _ _ (fun _ => hb)) _ _ (fun _ => hb)
 ·exact rws_set (rws_set ha _ _ hb2) _ _ hb2
 ·simpa [World.setCell] using h3
theorem scWorst_ok2 (r f lo tm : Int) (pv : Value) (ps : List Pr) (uv : Value) (use : List Int) (ev at_ : Int) (w : World) (hp : PrRow w pv ps) (hu : IsRow w uv use) (h : wsEr ⟨r, f, lo, tm, ps⟩ use ev at_ = 0) :
  Calls Tryz.prog 14 #[.agg #[.int .i64 r, .int .i64 f, .int .i64 lo, .int .i64 tm, pv], .agg #[uv, .int .i64 ev], .int .i64 at_] w fun e w' => ∃ ua uc aa ac, e = .returned (.tuple #[.agg #[.slice ua use.length uc, .int .i64 ev, .int .i64 at_, .slice aa use.length ac, .int .i64 (ev + tm)], .int .i64 0]) ∧
   IsRow w' (.slice ua use.length uc) use ∧ AnRow w' (.slice aa use.length ac) (wsL ⟨r, f, lo, tm, ps⟩ use at_) ∧ ((∀ q, (Value.slice ua use.length uc).ownBlock = some q → w.heap.size ≤ q ∧ q < w'.heap.size) ∧ (∀ q, (Value.slice aa use.length ac).ownBlock = some q → w.heap.size ≤ q ∧ q < w'.heap.size)) ∧ Below w.heap.size w w' := by
 refine (scWorst_any r f lo tm pv ps uv use ev at_ w hp hu).mono ?_
 unfold WorstPost
 rw [wsS_eq h, h]
 rintro e w' ⟨uv', av', rfl, hr, hb⟩
 have o1 := World.ownsRow.lt hr.1
 have o2 := World.ownsRow.lt hr.2
 obtain ⟨h1, h2, ⟨a, c, rfl⟩, a', c', rfl⟩ := hr.rows
 simp only [wsL_length] at h2 o1 o2
 exact ⟨a, c, a', c', by simp only [valSc, wsL_length], h1, h2, ⟨o1, o2⟩, hb⟩
theorem wsEr_range {s : Si} {use : List Int} {ev t : Int} (h : wsEr s use ev t ≠ 0) (hr : rgB s use ev = true) (h0 : 0 ≤ t) (h1 : t ≤ 3000000000000000) : wsEr s use ev t = 3 := by
 unfold wsEr at h ⊢
 rw [if_pos ⟨hr, by unfold timeB; exact decide_eq_true ⟨h0, h1⟩⟩] at h ⊢
 split at h
 ·exact absurd rfl h
 ·rename_i c
  rw [if_neg c]
end Go.Proofs.YtigjljmhpkeahaaGreat
