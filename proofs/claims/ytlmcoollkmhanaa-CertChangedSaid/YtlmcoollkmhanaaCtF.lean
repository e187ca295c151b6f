
/- Package cert: what stands while the cases are gathered. -/
import Derived.Test.YtlmcoollkmhanaaCtD
import Derived.Test.YtlmcoollkmhanaaCtC
import Derived.Test.YtlmcoollkmhanaaCtR
namespace Go.Proofs.Ytlmcoollkmhanaa
open Go.RowKit Go.Shelf

theorem cells_of_cell31 {W : World} {p : Addr} {v : Value} (h : W.cell? p = some v) : ∃ o, W.heap[p.block]? = some o ∧ o.isCells = true := by
 have hlt := World.block_lt_of_cell? _ _ h
 refine ⟨W.heap[p.block], by simp [hlt], ?_⟩
 have h2 := h
 unfold World.cell? at h2
 simp only [Array.getElem?_eq_getElem hlt] at h2
 generalize W.heap[p.block] = o at *
 cases o <;> first | rfl | (simp at h2)
def KeepN (N : Nat → Prop) (V W : World) : Prop := V.heap.size ≤ W.heap.size ∧ ∀ q o, V.heap[q]? = some o → o.isCells = true → ¬ N q → W.heap[q]? = some o
theorem KeepN.refl (N : Nat → Prop) (W : World) : KeepN N W W := ⟨Nat.le_refl _, fun _ _ h _ _ => h⟩
theorem KeepN.of_below {N : Nat → Prop} {V W : World} (h : Below V.heap.size V W) : KeepN N V W := ⟨h.size, fun q _ hq _ _ => (h.block q (Array.getElem?_eq_some_iff.1 hq).1).trans hq⟩
theorem KeepN.cell {N : Nat → Prop} {V W : World} (h : KeepN N V W) {b o : Nat} {v : Value} (hc : V.cell? ⟨b, o, none⟩ = some v) (hb : ¬ N b) : W.cell? ⟨b, o, none⟩ = some v := by
 obtain ⟨ob, h1, h2⟩ := cells_of_cell31 hc
 exact (World.cell?_of_block (a := ⟨b, o, none⟩) ((h.2 b ob h1 h2 hb).trans h1.symm)).trans hc
theorem KeepN.frozen {N : Nat → Prop} {V W : World} (h : KeepN N V W) {b o p : Nat} {v : Value} (hc : V.cell? ⟨b, p, none⟩ = some v) (hb : ¬ N b) : W.frozen? ⟨b, o, none⟩ = V.frozen? ⟨b, o, none⟩ := by
 obtain ⟨ob, h1, h2⟩ := cells_of_cell31 hc
 exact World.frozen?_of_block (a := ⟨b, o, none⟩) ((h.2 b ob h1 h2 hb).trans h1.symm)
def RwT (N : Nat → Prop) (W : World) (v : Value) (l : List Int) : Prop := IsRow W v l ∧ ∀ q, v.ownBlock = some q → ¬ N q ∧ ∃ c fz, W.heap[q]? = some (.cells c 3 fz)
theorem RwT.move {N M : Nat → Prop} {V W : World} {v : Value} {l : List Int} (h : RwT N V v l) (hk : KeepN N V W) (hm : ∀ q, q < V.heap.size → M q → N q) : RwT M W v l := by
 obtain ⟨⟨a, cap, rfl, h1, h2, h3⟩, h4⟩ := h
 refine ⟨⟨a, cap, rfl, h1, h2, fun i hi => ?_⟩, fun q hq => ?_⟩
 ·obtain ⟨b, off, rfl, h5, h6⟩ := h3 i hi
  exact ⟨b, off, rfl, Nat.lt_of_lt_of_le h5 hk.1, hk.cell h6 (h4 b rfl).1⟩
 ·obtain ⟨h5, c, fz, h6⟩ := h4 q hq
  exact ⟨fun hh => h5 (hm q (Array.getElem?_eq_some_iff.1 h6).1 hh), c, fz, hk.2 q _ h6 rfl h5⟩
def OwnCs (V : World) (base : Nat) (N : Nat → Prop) (v : Value) (cs : List Cs) : Prop :=
 ∃ xs : List Cv, xs.map (·.c) = cs ∧ Owns 44 encC 3 V base v xs ∧ (∀ q, v.ownBlock = some q → ¬ N q) ∧ ∀ x, x ∈ xs → (RwT N V x.lv x.c.li ∧ RwT N V x.gv x.c.lo) ∧ (∀ q, x.lv.ownBlock = some q → base ≤ q) ∧ ∀ q, x.gv.ownBlock = some q → base ≤ q
theorem OwnCs.move {N M : Nat → Prop} {V W : World} {base : Nat} {v : Value} {cs : List Cs} (h : OwnCs V base N v cs) (hk : KeepN N V W) (hm : ∀ q, q < V.heap.size → M q → N q) : OwnCs W base M v cs := by
 obtain ⟨xs, h1, h2, h3, h4⟩ := h
 have ho := World.ownsRow.lt h2
 refine ⟨xs, h1, ⟨h2.1, ?_⟩, fun q hq hh => h3 q hq (hm q (ho q hq).2 hh), fun x hx => ⟨⟨(h4 x hx).1.1.move hk hm, (h4 x hx).1.2.move hk hm⟩, (h4 x hx).2⟩⟩
 rcases h2.2 with h5 | ⟨g, cap, cur, hv, hg, hc, r⟩
 ·exact .inl h5
 ·exact .inr ⟨g, cap, cur, hv, hg, hk.2 g _ hc rfl (h3 g (by rw [hv]; rfl)), r⟩
theorem OwnCs.nil (V : World) (base : Nat) (N : Nat → Prop) : OwnCs V base N (.slice none 0 0) [] := ⟨[], rfl, Owns.nil V base, fun q hq => by simp [Value.ownBlock] at hq, fun x hx => by simp at hx⟩
theorem OwnCs.row {V : World} {base : Nat} {N : Nat → Prop} {v : Value} {cs : List Cs} (h : OwnCs V base N v cs) : CsRow V v cs := by
 obtain ⟨xs, h1, h2, -, h4⟩ := h
 exact ⟨xs, h1, Owns.row encC_length cv0 (by omega) h2, fun x hx => ⟨(h4 x hx).1.1.1, (h4 x hx).1.2.1⟩⟩
theorem OwnCs.len {V : World} {base : Nat} {N : Nat → Prop} {v : Value} {cs : List Cs} (h : OwnCs V base N v cs) : ∃ a cap, v = .slice a cs.length cap ∧ cs.length ≤ cap ∧ cap ≤ 9223372036854775807 := h.row.len
def CaSt (w : World) (r f lo tm : Int) (pv uv : Value) (ev : Int) (N : Nat → Prop) (cs : List Cs) (V : World) : Prop :=
 Below w.heap.size w V ∧ (V.cell? ⟨w.heap.size, 0, none⟩ = some (.int .i64 r) ∧ V.cell? ⟨w.heap.size, 1, none⟩ = some (.int .i64 f) ∧ V.cell? ⟨w.heap.size, 2, none⟩ = some (.int .i64 lo) ∧ V.cell? ⟨w.heap.size, 3, none⟩ = some (.int .i64 tm) ∧ V.cell? ⟨w.heap.size, 4, none⟩ = some pv) ∧
 (V.cell? ⟨w.heap.size + 1, 0, none⟩ = some uv ∧ V.cell? ⟨w.heap.size + 1, 1, none⟩ = some (.int .i64 ev)) ∧
 ((V.cell? ⟨w.heap.size + 2, 0, none⟩ = some (.slice none 0 0) ∧ V.frozen? ⟨w.heap.size + 2, 0, none⟩ = false) ∧ V.cell? ⟨w.heap.size + 3, 0, none⟩ = some (.int .i64 0) ∧ V.frozen? ⟨w.heap.size + 3, 0, none⟩ = false) ∧
 (∃ ov, V.cell? ⟨w.heap.size + 4, 0, none⟩ = some ov ∧ V.frozen? ⟨w.heap.size + 4, 0, none⟩ = false ∧ OwnCs V (w.heap.size + 5) N ov cs) ∧ ∀ q, q < w.heap.size + 5 → ¬ N q
theorem CaSt.move {w : World} {r f lo tm : Int} {pv uv : Value} {ev : Int} {N M : Nat → Prop} {cs : List Cs} {V W : World} (h : CaSt w r f lo tm pv uv ev N cs V) (hB : Below w.heap.size V W) (hk : KeepN N V W) (hm : ∀ q, q < V.heap.size → M q → N q) : CaSt w r f lo tm pv uv ev M cs W := by
 obtain ⟨h1, ⟨a0, a1, a2, a3, a4⟩, ⟨b0, b1⟩, ⟨⟨c0, c1⟩, d0, d1⟩, ⟨ov, e0, e1, e2⟩, h6⟩ := h
 have n := fun k (hk : k < 5) => h6 (w.heap.size + k) (by omega)
 have n0 := n 0 (by omega)
 rw [Nat.add_zero] at n0
 have hz := World.block_lt_of_cell? _ _ e0
 simp only at hz
 exact ⟨h1.trans hB, ⟨hk.cell a0 n0, hk.cell a1 n0, hk.cell a2 n0, hk.cell a3 n0, hk.cell a4 n0⟩, ⟨hk.cell b0 (n 1 (by omega)), hk.cell b1 (n 1 (by omega))⟩,
  ⟨⟨hk.cell c0 (n 2 (by omega)), (hk.frozen c0 (n 2 (by omega))).trans c1⟩, hk.cell d0 (n 3 (by omega)), (hk.frozen d0 (n 3 (by omega))).trans d1⟩,
  ⟨ov, hk.cell e0 (n 4 (by omega)), (hk.frozen e0 (n 4 (by omega))).trans e1, e2.move hk hm⟩, fun q hq hh => h6 q hq (hm q (by omega) hh)⟩
def Carry {α : Type} (b0 : Nat) (Fa : (Nat → Prop) → List α → World → Prop) (H : Nat → Prop) (xs : List α) (W : World) : Prop :=
 ∃ V HV, Fa HV xs V ∧ Below b0 V W ∧ b0 ≤ V.heap.size ∧ (∀ r, H r → b0 ≤ r ∧ (HV r ∨ V.heap.size ≤ r)) ∧ KeepN HV V W
theorem Carry.own {α : Type} {b0 B : Nat} {Fa : (Nat → Prop) → List α → World → Prop} (hB : b0 ≤ B) : OwnH B (Carry b0 Fa) := by
 rintro H H' s W W' row ⟨V, HV, h1, h2, h3, h4, h5⟩ hg hr hH'
 have hVW := h2.size
 refine ⟨V, HV, h1, h2.grown hg (by omega) (fun r e => ?_), h3, fun r h => ?_, Nat.le_trans h5.1 hg.size, fun q o hq hc hn => ?_⟩
 ·rcases hr r e with h | ⟨h, _⟩
  ·exact (h4 r h).1
  ·omega
 ·rcases hH' r h with h | h
  ·exact h4 r h
  ·exact ⟨by omega, .inr (by omega)⟩
 ·have hW := h5.2 q o hq hc hn
  refine (hg.block q (Array.getElem?_eq_some_iff.1 hW).1 fun e => ?_).trans hW
  rcases hr q e.symm with h | ⟨_, o', ho, hno⟩
  ·rcases (h4 q h).2 with h | h
   ·exact hn h
   ·have := (Array.getElem?_eq_some_iff.1 hq).1; omega
  ·rw [hW] at ho; cases ho; rw [hno] at hc; cases hc
theorem Carry.start {α : Type} {b0 : Nat} {Fa : (Nat → Prop) → List α → World → Prop} {H : Nat → Prop} {xs : List α} {W : World} (h : Fa H xs W) (hb : b0 ≤ W.heap.size) (hH : ∀ r, H r → b0 ≤ r) : Carry b0 Fa H xs W :=
 ⟨W, H, h, Below.refl _ _, hb, fun r hr => ⟨hH r hr, .inl hr⟩, KeepN.refl _ _⟩
theorem encC_one {x : Cv} {N : Nat → Prop} {W : World} (h1 : RwT N W x.lv x.c.li) (h2 : RwT N W x.gv x.c.lo) : ∀ u ∈ encC x, u.oneCell' = true := by
 obtain ⟨⟨a, c, e1, -⟩, -⟩ := h1
 obtain ⟨⟨a', c', e2, -⟩, -⟩ := h2
 intro u hu
 simp only [encC, List.mem_cons, List.not_mem_nil, or_false] at hu
 rcases hu with rfl | rfl | rfl
 ·rw [e1]; rfl
 ·rw [e2]; rfl
 ·rfl
theorem cs_step {w W3 w5 w6 : World} {r f lo tm : Int} {pv uv : Value} {ev : Int} {N : Nat → Prop} {cs : List Cs} {ov v6 : Value} {tmp : Obj} {x6 : Cv} {xs : List Cv} (h : CaSt w r f lo tm pv uv ev N cs W3) (ho : W3.cell? ⟨w.heap.size + 4, 0, none⟩ = some ov)
  (hx1 : xs.map (·.c) = cs) (hx2 : Owns 44 encC 3 W3 (w.heap.size + 5) ov xs) (hx3 : ∀ q, ov.ownBlock = some q → ¬ N q) (hx4 : ∀ x, x ∈ xs → (RwT N W3 x.lv x.c.li ∧ RwT N W3 x.gv x.c.lo) ∧ (∀ q, x.lv.ownBlock = some q → w.heap.size + 5 ≤ q) ∧ ∀ q, x.gv.ownBlock = some q → w.heap.size + 5 ≤ q)
  (hN : ∀ q, N q → q < W3.heap.size) (b : Below W3.heap.size W3 w5) (hg : (w5.alloc tmp).grownBy w6 ov.ownBlock) (hown : w6.ownsRow (w.heap.size + 5) 44 3 v6 (xs.length + 1) (xs.flatMap encC ++ encC x6))
  (hv6 : ∀ q, v6.ownBlock = some q → ov.ownBlock = some q ∨ (w5.alloc tmp).heap.size ≤ q) (h61 : RwT N w5 x6.lv x6.c.li) (h62 : RwT N w5 x6.gv x6.c.lo) (h63 : (∀ q, x6.lv.ownBlock = some q → w.heap.size + 5 ≤ q) ∧ ∀ q, x6.gv.ownBlock = some q → w.heap.size + 5 ≤ q) :
  CaSt w r f lo tm pv uv ev N (cs ++ [x6.c]) (w6.setCell ⟨w.heap.size + 4, 0, none⟩ v6) ∧ W3.heap.size ≤ (w6.setCell ⟨w.heap.size + 4, 0, none⟩ v6).heap.size ∧
   ∀ q, q < W3.heap.size → (∀ k, ov.ownBlock = some k → q ≠ k) → q ≠ w.heap.size + 4 → (w6.setCell ⟨w.heap.size + 4, 0, none⟩ v6).heap[q]? = W3.heap[q]? := by
 obtain ⟨h1, ⟨a0, a1, a2, a3, a4⟩, ⟨b0, b1⟩, ⟨⟨c0, c1⟩, d0, d1⟩, ⟨ov', e0, e1, -⟩, h6⟩ := h
 rw [ho] at e0
 cases e0
 have hz1 := b.size
 have hz2 := hg.size
 simp only [World.size_alloc] at hz2
 have hz3 : (w6.setCell ⟨w.heap.size + 4, 0, none⟩ v6).heap.size = w6.heap.size := by simp [World.setCell]
 have hlt := World.block_lt_of_cell? _ _ ho
 simp only at hlt
 have hob := World.ownsRow.lt hx2
 have s5 : ∀ q, q < w5.heap.size → (∀ k, ov.ownBlock = some k → q ≠ k) → q ≠ w.heap.size + 4 → (w6.setCell ⟨w.heap.size + 4, 0, none⟩ v6).heap[q]? = w5.heap[q]? := by
  intro q hq hk h4
  rw [Below.heap_setCell _ _ _ q h4]
  exact (hg.block q (by simp; omega) (fun e => hk q e.symm rfl)).trans (Below.heap_alloc _ _ _ hq)
 have s3 : ∀ q, q < W3.heap.size → (∀ k, ov.ownBlock = some k → q ≠ k) → q ≠ w.heap.size + 4 → (w6.setCell ⟨w.heap.size + 4, 0, none⟩ v6).heap[q]? = W3.heap[q]? := fun q hq hk h4 => (s5 q (by omega) hk h4).trans (b.block q hq)
 have low : ∀ q, q < w.heap.size + 4 → (w6.setCell ⟨w.heap.size + 4, 0, none⟩ v6).heap[q]? = W3.heap[q]? := fun q hq => s3 q (by omega) (fun k hk e => by have := (hob k hk).1; omega) (by omega)
 have lc := fun q (hq : q < w.heap.size + 4) o => World.cell?_of_block (a := ⟨q, o, none⟩) (low q hq)
 have lf := fun q (hq : q < w.heap.size + 4) o => World.frozen?_of_block (a := ⟨q, o, none⟩) (low q hq)
 have h4b : w6.heap[w.heap.size + 4]? = W3.heap[w.heap.size + 4]? := ((hg.block _ (by simp; omega) (fun e => by have := (hob _ e.symm).1; omega)).trans (Below.heap_alloc _ _ _ (by omega))).trans (b.block _ hlt)
 have rw5 : ∀ {v : Value} {l : List Int}, RwT N w5 v l → (∀ q, v.ownBlock = some q → w.heap.size + 5 ≤ q) → (∀ q, v.ownBlock = some q → ∀ k, ov.ownBlock = some k → q ≠ k) → RwT N (w6.setCell ⟨w.heap.size + 4, 0, none⟩ v6) v l := by
  intro v l hr hb5 hk5
  have hsame : ∀ q, v.ownBlock = some q → (w6.setCell ⟨w.heap.size + 4, 0, none⟩ v6).heap[q]? = w5.heap[q]? := fun q hq => by
   obtain ⟨_, c, fz, h7⟩ := hr.2 q hq
   exact s5 q (Array.getElem?_eq_some_iff.1 h7).1 (hk5 q hq) (by have := hb5 q hq; omega)
  refine ⟨isrow_same31 hr.1 (by omega) hsame, fun q hq => ?_⟩
  obtain ⟨h8, c, fz, h7⟩ := hr.2 q hq
  exact ⟨h8, c, fz, (hsame q hq).trans h7⟩
 have ty : ∀ {V : World} {v : Value} {l : List Int}, RwT N V v l → (∀ k, ov.ownBlock = some k → V.heap[k]? = W3.heap[k]?) → ∀ q, v.ownBlock = some q → ∀ k, ov.ownBlock = some k → q ≠ k := by
  intro V v l hr hV q hq k hk e
  subst e
  obtain ⟨_, c, fz, h7⟩ := hr.2 q hq
  obtain ⟨c', fz', h9⟩ := Lib.ownsRow_kind hx2 q hk
  rw [hV q hk, h9] at h7
  simp only [Option.some.injEq, Obj.cells.injEq] at h7
  exact absurd h7.2.1 (by decide)
 have k35 : ∀ k, ov.ownBlock = some k → w5.heap[k]? = W3.heap[k]? := fun k hk => b.block k (hob k hk).2
 refine ⟨⟨?_, ⟨(lc _ (by omega) _).trans a0, (lc _ (by omega) _).trans a1, (lc _ (by omega) _).trans a2, (lc _ (by omega) _).trans a3, (lc _ (by omega) _).trans a4⟩, ⟨(lc _ (by omega) _).trans b0, (lc _ (by omega) _).trans b1⟩,
  ⟨⟨(lc _ (by omega) _).trans c0, (lf _ (by omega) _).trans c1⟩, (lc _ (by omega) _).trans d0, (lf _ (by omega) _).trans d1⟩, ⟨v6, World.cell?_setCell_same' _ _ _ (by rw [World.cell?_of_block (a := ⟨w.heap.size + 4, 0, none⟩) h4b, ho]; rfl), by rw [World.frozen?_setCell, World.frozen?_of_block (a := ⟨w.heap.size + 4, 0, none⟩) h4b]; exact e1, ?_⟩, h6⟩, by omega, s3⟩
 ·refine Below.setCell ((((h1.trans (b.mono (by omega))).alloc (by omega) tmp).grown hg (by simp; omega) (fun q e => by have := (hob q e).1; omega))) (p := ⟨w.heap.size + 4, 0, none⟩) (by show w.heap.size ≤ w.heap.size + 4; omega) v6
 ·refine ⟨xs ++ [x6], by rw [List.map_append, hx1]; rfl, Owns.app (ownsRow_setCell_below hown (by show w.heap.size + 4 < w.heap.size + 5; omega) _), fun q hq hh => ?_, fun x hx => ?_⟩
  ·rcases hv6 q hq with h7 | h7
   ·exact hx3 q h7 hh
   ·have := hN q hh
    simp only [World.size_alloc] at h7
    omega
  ·rw [List.mem_append, List.mem_singleton] at hx
   rcases hx with hx | rfl
   ·obtain ⟨⟨g1, g2⟩, g3, g4⟩ := hx4 x hx
    exact ⟨⟨rw5 (g1.move (KeepN.of_below b) fun _ _ hh => hh) g3 (ty g1 fun _ _ => rfl), rw5 (g2.move (KeepN.of_below b) fun _ _ hh => hh) g4 (ty g2 fun _ _ => rfl)⟩, g3, g4⟩
   ·exact ⟨⟨rw5 h61 h63.1 (ty h61 k35), rw5 h62 h63.2 (ty h62 k35)⟩, h63⟩
end Go.Proofs.Ytlmcoollkmhanaa
