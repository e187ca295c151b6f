
/- Package scene: what Refuse returns for a promise that is refused, and for one that is not. -/
import Derived.Test.YtigjljmhpkeahaaGreatScYr
import Derived.Test.YtigjljmhpkeahaaGreatScX
namespace Go.Proofs.YtigjljmhpkeahaaGreat
open Go.RowKit

theorem scRefuse_yes (r f lo tm : Int) (pv : Value) (ps : List Pr) (v : Value) (pl : List Int) (pm at_ : Int) (use : List Int) (ev : Int) (w : World) (hp : PrRow w pv ps) (hv : IsRow w v pl) (h : rfB ⟨r, f, lo, tm, ps⟩ pl pm at_ = true)
  (hs : rfS ⟨r, f, lo, tm, ps⟩ pl pm at_ = ⟨use, ev, at_, wsL ⟨r, f, lo, tm, ps⟩ use at_, ev + tm⟩) (he : rfEr ⟨r, f, lo, tm, ps⟩ pl pm at_ = 0) :
  Calls Tryz.prog 22 #[.agg #[.int .i64 r, .int .i64 f, .int .i64 lo, .int .i64 tm, pv], v, .int .i64 pm, .int .i64 at_] w fun e w' => ∃ ua uc aa ac, e = .returned (.tuple #[.agg #[.slice ua use.length uc, .int .i64 ev, .int .i64 at_, .slice aa use.length ac, .int .i64 (ev + tm)], .bool true, .int .i64 0]) ∧
   IsRow w' (.slice ua use.length uc) use ∧ AnRow w' (.slice aa use.length ac) (wsL ⟨r, f, lo, tm, ps⟩ use at_) ∧ Below w.heap.size w w' := by
 refine (scRefuse_any r f lo tm pv ps v pl pm at_ w hp hv).mono ?_
 unfold RefPost
 rw [hs, he, h]
 rintro e w' ⟨uv', av', rfl, hr, hb⟩
 obtain ⟨h1, h2, ⟨a, c, rfl⟩, a', c', rfl⟩ := hr.rows
 simp only [wsL_length] at h2
 exact ⟨a, c, a', c', by simp only [valSc, wsL_length], h1, h2, hb⟩
theorem scRefuse_no (r f lo tm : Int) (pv : Value) (ps : List Pr) (v : Value) (pl : List Int) (pm at_ : Int) (w : World) (hp : PrRow w pv ps) (hv : IsRow w v pl) (h : rfB ⟨r, f, lo, tm, ps⟩ pl pm at_ = false) :
  Calls Tryz.prog 22 #[.agg #[.int .i64 r, .int .i64 f, .int .i64 lo, .int .i64 tm, pv], v, .int .i64 pm, .int .i64 at_] w fun e w' => ∃ ua uc aa ac, e = .returned (.tuple #[.agg #[.slice ua 0 uc, .int .i64 0, .int .i64 0, .slice aa 0 ac, .int .i64 0], .bool false, .int .i64 (rfEr ⟨r, f, lo, tm, ps⟩ pl pm at_)]) ∧
   IsRow w' (.slice ua 0 uc) [] ∧ AnRow w' (.slice aa 0 ac) [] ∧ Below w.heap.size w w' := by
 refine (scRefuse_any r f lo tm pv ps v pl pm at_ w hp hv).mono ?_
 unfold RefPost
 rw [rf_no h, h]
 rintro e w' ⟨uv', av', rfl, hr, hb⟩
 obtain ⟨h1, h2, ⟨a, c, rfl⟩, a', c', rfl⟩ := hr.rows
 exact ⟨a, c, a', c', rfl, h1, h2, hb⟩
def SdBox (W : World) (g : Nat) (uv : Value) (l : List Int) (ev : Int) : Prop := (W.cell? ⟨g, 0, none⟩ = some uv ∧ W.cell? ⟨g, 1, none⟩ = some (.int .i64 ev)) ∧ IsRow W uv l ∧ g < W.heap.size
theorem SdBox.below {w W : World} {g : Nat} {uv : Value} {l : List Int} {ev : Int} (h : SdBox w g uv l ev) (hb : Below w.heap.size w W) : SdBox W g uv l ev := by
 have h0 := (bk hb g h.2.2).1
 exact ⟨⟨(h0 _).trans h.1.1, (h0 _).trans h.1.2⟩, h.2.1.below (Nat.le_refl _) hb, Nat.lt_of_lt_of_le h.2.2 hb.size⟩
theorem SdBox.made {w : World} {uv : Value} {l : List Int} {ev : Int} {t : TypeId} (h : IsRow w uv l) : SdBox (w.alloc (.cells #[uv, .int .i64 ev] t)) w.heap.size uv l ev := by
 refine ⟨⟨?_, ?_⟩, h.below (Nat.le_refl _) (by ((with_reducible repeat' first | exact .refl _ _ | refine .alloc ?_ ?_ _ | refine .setCell ?_ ?_ _ | refine .drew ?_ | refine below_drewN ?_ _) <;> first | omega | simp <;> omega)), ?_⟩ <;> simp
def perIn (pl : List Int) (ev : Int) : Nat → Bool
 | 0 => false
 | k + 1 => perIn pl ev k || (iAt pl k == ev)
theorem perIn_at {pl : List Int} {ev : Int} : ∀ n j, j < n → iAt pl j = ev → perIn pl ev n = true
 | n + 1, j, hj, h => by
  rw [perIn, Bool.or_eq_true]
  by_cases c : j < n
  ·exact .inl (perIn_at n j c h)
  ·obtain rfl : j = n := by omega
   exact .inr (by rw [h]; simp)
theorem perIn_mem {pl : List Int} {ev : Int} (h : ev ∈ pl) : perIn pl ev pl.length = true := by
 obtain ⟨j, hj, rfl⟩ := List.mem_iff_getElem.1 h
 exact perIn_at _ j hj (by simp [iAt, List.getD_eq_getElem?_getD, List.getElem?_eq_getElem hj])
def SnC (W : World) (g : Nat) (u : Value) (ev at_ : Int) (av : Value) (ct : Int) : Prop :=
 (W.cell? ⟨g, 0, none⟩ = some u ∧ W.cell? ⟨g, 1, none⟩ = some (.int .i64 ev) ∧ W.cell? ⟨g, 2, none⟩ = some (.int .i64 at_) ∧ W.cell? ⟨g, 3, none⟩ = some av ∧ W.cell? ⟨g, 4, none⟩ = some (.int .i64 ct)) ∧ W.frozen? ⟨g, 3, none⟩ = false ∧ g < W.heap.size
theorem SnC.of {W V : World} {g : Nat} {u : Value} {ev at_ : Int} {av : Value} {ct : Int} (h : SnC W g u ev at_ av ct) (hb : V.heap[g]? = W.heap[g]?) : SnC V g u ev at_ av ct := by
 obtain ⟨⟨c0, c1, c2, c3, c4⟩, f3, z⟩ := h
 have k := fun o => World.cell?_of_block (w := W) (w' := V) (a := ⟨g, o, none⟩) hb
 exact ⟨⟨(k 0).trans c0, (k 1).trans c1, (k 2).trans c2, (k 3).trans c3, (k 4).trans c4⟩, (World.frozen?_of_block (a := ⟨g, 3, none⟩) hb).trans f3, by
  have h1 : W.heap[g]? = some W.heap[g] := by simp [z]
  rw [h1] at hb
  exact (Array.getElem?_eq_some_iff.1 hb).1⟩
theorem SnC.below {W V : World} {g : Nat} {u : Value} {ev at_ : Int} {av : Value} {ct : Int} (h : SnC W g u ev at_ av ct) (hb : Below W.heap.size W V) : SnC V g u ev at_ av ct := h.of (hb.block g h.2.2)
theorem SnC.put {W : World} {g : Nat} {u : Value} {ev at_ : Int} {av : Value} {ct : Int} (h : SnC W g u ev at_ av ct) (v : Value) : SnC (W.setCell ⟨g, 3, none⟩ v) g u ev at_ v ct := by
 obtain ⟨⟨c0, c1, c2, c3, c4⟩, f3, z⟩ := h
 refine ⟨⟨set_other _ c0 (by intro q; simp at q), set_other _ c1 (by intro q; simp at q), set_other _ c2 (by intro q; simp at q), set_same _ c3, set_other _ c4 (by intro q; simp at q)⟩, ?_, by simpa [World.setCell] using z⟩
 rw [World.frozen?_setCell]; exact f3
theorem SnC.made {w : World} {u : Value} {ev at_ : Int} {av : Value} {ct : Int} {t : TypeId} : SnC (w.alloc (.cells #[u, .int .i64 ev, .int .i64 at_, av, .int .i64 ct] t)) w.heap.size u ev at_ av ct := by
 refine ⟨⟨?_, ?_, ?_, ?_, ?_⟩, ?_, ?_⟩ <;> simp [go_sem]
end Go.Proofs.YtigjljmhpkeahaaGreat
