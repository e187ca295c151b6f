
/- Package cert: choose, the iterator over all lists of places, walked. -/
import Derived.Test.YtlmcoollkmhanaaCtA
import Derived.Test.YtlmcoollkmhanaaRh
import Derived.Lib.OwnKind
import Derived.BigRegionIn
import Derived.Stop.RegionWithIn
namespace Go.Proofs.Ytlmcoollkmhanaa
open Go.RowKit Go.Shelf
attribute [local go_sem] Oper.semAt_some

theorem grown_below {A B : World} (h : Below A.heap.size A B) : A.grownBy B none := ⟨h.os, h.tape, h.output, h.size, fun k hk _ => h.block k hk⟩
theorem isrow_same31 {W V : World} {v : Value} {l : List Int} (h : IsRow W v l) (hz : W.heap.size ≤ V.heap.size) (hb : ∀ q, v.ownBlock = some q → V.heap[q]? = W.heap[q]?) : IsRow V v l := by
  obtain ⟨a, cap, rfl, h1, h2, h3⟩ := h
  refine ⟨a, cap, rfl, h1, h2, fun i hi => ?_⟩
  obtain ⟨b, off, rfl, h4, h5⟩ := h3 i hi
  exact ⟨b, off, rfl, Nat.lt_of_lt_of_le h4 hz, (World.cell?_of_block (a := ⟨b, off + i, none⟩) (hb b rfl)).trans h5⟩
theorem owns_same {w w' : World} {base e size n : Nat} {v : Value} {xs : List Value} (h : w.ownsRow base e size v n xs) (hb : ∀ k, v.ownBlock = some k → w'.heap[k]? = w.heap[k]?) : w'.ownsRow base e size v n xs := by
  refine ⟨h.1, ?_⟩
  rcases h.2 with h1 | ⟨g, cap, cur, hv, hg, hc, r⟩
  · exact .inl h1
  · exact .inr ⟨g, cap, cur, hv, hg, (hb g (by rw [hv]; rfl)).trans hc, r⟩
theorem fuT_len_le (wo : List Int) (n r a : Nat) : ∀ t t', t ≤ t' → (fuT wo n r a t).length ≤ (fuT wo n r a t').length := by
  intro t t' h
  induction t' with
  | zero => obtain rfl : t = 0 := by omega
            exact Nat.le_refl _
  | succ t' ih =>
    rcases Nat.lt_or_ge t (t' + 1) with h1 | h1
    · have := ih (by omega)
      rw [fuT, List.length_append]
      omega
    · obtain rfl : t = t' + 1 := by omega
      exact Nat.le_refl _
theorem fuT_mem (wo : List Int) (n r a t : Nat) : ∀ t', t < t' → ((a + t : Nat) : Int) ∉ wo → ∀ x, x ∈ chR (plFrom wo n (a + t + 1)) r → ((a + t : Nat) : Int) :: x ∈ fuT wo n r a t'
  | t' + 1, h, hw, x, hx => by
    rw [fuT, List.mem_append]
    rcases Nat.lt_or_ge t t' with h1 | h1
    · exact .inl (fuT_mem wo n r a t t' h1 hw x hx)
    · obtain rfl : t = t' := by omega
      rw [if_neg hw]
      exact .inr (List.mem_map.2 ⟨x, hx, rfl⟩)
def chEnc (x : Value × List Int) : Array Value := #[x.1]
def ChG (B0 : Nat) (M : List Int → Prop) (H : Nat → Prop) (x : Value × List Int) (W : World) : Prop := IsRow W x.1 x.2 ∧ (∀ q, x.1.ownBlock = some q → (¬ H q ∧ B0 ≤ q) ∧ ∃ c fz, W.heap[q]? = some (.cells c 3 fz)) ∧ M x.2
def ChS (bk bY bn bw bf bl k n : Nat) (wov : Value) (wo : List Int) (yl : Nat) (W : World) : Prop :=
  (W.cell? ⟨bk, 0, none⟩ = some (.int .i64 k) ∧ W.cell? ⟨bY, 0, none⟩ = some (.func (.yield yl) #[] #[]) ∧ W.cell? ⟨bn, 0, none⟩ = some (.int .i64 n) ∧ W.cell? ⟨bw, 0, none⟩ = some wov ∧
    W.cell? ⟨bf, 0, none⟩ = some (.func (.func 63) #[] #[.pointer (some ⟨bl, 0, none⟩), .pointer (some ⟨bk, 0, none⟩), .pointer (some ⟨bY, 0, none⟩), .pointer (some ⟨bn, 0, none⟩), .pointer (some ⟨bw, 0, none⟩), .pointer (some ⟨bf, 0, none⟩)])) ∧ IsRow W wov wo
theorem ChS.of {bk bY bn bw bf bl k n : Nat} {wov : Value} {wo : List Int} {yl : Nat} {W V : World} (h : ChS bk bY bn bw bf bl k n wov wo yl W) (hz : W.heap.size ≤ V.heap.size)
    (hb : ∀ q, (q = bk ∨ q = bY ∨ q = bn ∨ q = bw ∨ q = bf ∨ wov.ownBlock = some q) → V.heap[q]? = W.heap[q]?) : ChS bk bY bn bw bf bl k n wov wo yl V := by
  obtain ⟨⟨h1, h2, h3, h4, h5⟩, h6⟩ := h
  have k0 := fun q hq => World.cell?_of_block (w := W) (w' := V) (a := ⟨q, 0, none⟩) (hb q hq)
  exact ⟨⟨(k0 bk (by simp)).trans h1, (k0 bY (by simp)).trans h2, (k0 bn (by simp)).trans h3, (k0 bw (by simp)).trans h4, (k0 bf (by simp)).trans h5⟩, isrow_same31 h6 hz fun q hq => hb q (.inr (.inr (.inr (.inr (.inr hq)))))⟩
def ChH (bk bY bn bw bf bl : Nat) (lv : Value) (r : Nat) : Prop := (r = bk ∨ r = bY ∨ r = bn ∨ r = bw ∨ r = bf ∨ r = bl) ∨ lv.ownBlock = some r
structure ChD (bk bY bn bw bf bl B : Nat) (wov : Value) : Prop where
  k : bk < B ∧ bk ≠ bl
  y : bY < B ∧ bY ≠ bl
  n : bn < B ∧ bn ≠ bl
  w : bw < B ∧ bw ≠ bl
  f : bf < B ∧ bf ≠ bl
  l : bl < B
  o : ∀ q, wov.ownBlock = some q → q < B ∧ q ≠ bl
theorem ChD.at_ {bk bY bn bw bf bl B : Nat} {wov : Value} (h : ChD bk bY bn bw bf bl B wov) (q : Nat) (hq : q = bk ∨ q = bY ∨ q = bn ∨ q = bw ∨ q = bf ∨ wov.ownBlock = some q) : q < B ∧ q ≠ bl := by
  rcases hq with rfl | rfl | rfl | rfl | rfl | hq
  · exact h.k
  · exact h.y
  · exact h.n
  · exact h.w
  · exact h.f
  · exact h.o q hq
def ChT (bk bY bn bw bf bl B k n : Nat) (wov : Value) (wo : List Int) (yl : Nat) (W : World) (lv : Value) (l0 : List Int) : Prop :=
  ChS bk bY bn bw bf bl k n wov wo yl W ∧ (W.cell? ⟨bl, 0, none⟩ = some lv ∧ W.frozen? ⟨bl, 0, none⟩ = false) ∧ OwnIs W B lv l0 ∧ B ≤ W.heap.size
section
variable {bk bY bn bw bf bl B k n : Nat} {wov : Value} {wo : List Int} {yl : Nat}
theorem ChT.keep {W V : World} {lv : Value} {l0 : List Int} (h : ChT bk bY bn bw bf bl B k n wov wo yl W lv l0) (hk : KeepH (fun r => ChH bk bY bn bw bf bl lv r ∨ wov.ownBlock = some r) W V) : ChT bk bY bn bw bf bl B k n wov wo yl V lv l0 := by
  obtain ⟨h1, ⟨h2, h3⟩, h4, h5⟩ := h
  have hb : ∀ q, (q = bk ∨ q = bY ∨ q = bn ∨ q = bw ∨ q = bf ∨ wov.ownBlock = some q) → (ChH bk bY bn bw bf bl lv q ∨ wov.ownBlock = some q) := by
    rintro q (rfl | rfl | rfl | rfl | rfl | hq)
    · exact .inl (.inl (by simp))
    · exact .inl (.inl (by simp))
    · exact .inl (.inl (by simp))
    · exact .inl (.inl (by simp))
    · exact .inl (.inl (by simp))
    · exact .inr hq
  have hl : ChH bk bY bn bw bf bl lv bl ∨ wov.ownBlock = some bl := .inl (.inl (by simp))
  exact ⟨h1.of hk.1 fun q hq => hk.2 q (hb q hq), ⟨(hk.cell hl 0).trans h2, (hk.frozen hl 0).trans h3⟩, owns_same h4 fun q hq => hk.2 q (.inl (.inr hq)), Nat.le_trans h5 hk.1⟩
theorem ChT.below {W V : World} {lv : Value} {l0 : List Int} (h : ChT bk bY bn bw bf bl B k n wov wo yl W lv l0) (D : ChD bk bY bn bw bf bl B wov) (hb : Below W.heap.size W V) : ChT bk bY bn bw bf bl B k n wov wo yl V lv l0 := by
  have h5 := h.2.2.2
  have ho := World.ownsRow.lt h.2.2.1
  refine h.keep ⟨hb.size, fun q hq => hb.block q ?_⟩
  rcases hq with (hq | hq) | hq
  · rcases hq with rfl | rfl | rfl | rfl | rfl | rfl
    · exact Nat.lt_of_lt_of_le D.k.1 h5
    · exact Nat.lt_of_lt_of_le D.y.1 h5
    · exact Nat.lt_of_lt_of_le D.n.1 h5
    · exact Nat.lt_of_lt_of_le D.w.1 h5
    · exact Nat.lt_of_lt_of_le D.f.1 h5
    · exact Nat.lt_of_lt_of_le D.l h5
  · exact (ho q hq).2
  · exact Nat.lt_of_lt_of_le (D.o q hq).1 h5
theorem ChT.hid {W : World} {lv : Value} {l0 : List Int} (h : ChT bk bY bn bw bf bl B k n wov wo yl W lv l0) (D : ChD bk bY bn bw bf bl B wov) (r : Nat) (hr : ChH bk bY bn bw bf bl lv r) : r < W.heap.size := by
  have h5 := h.2.2.2
  have ho := World.ownsRow.lt h.2.2.1
  rcases hr with hq | hq
  · rcases hq with rfl | rfl | rfl | rfl | rfl | rfl
    · exact Nat.lt_of_lt_of_le D.k.1 h5
    · exact Nat.lt_of_lt_of_le D.y.1 h5
    · exact Nat.lt_of_lt_of_le D.n.1 h5
    · exact Nat.lt_of_lt_of_le D.w.1 h5
    · exact Nat.lt_of_lt_of_le D.f.1 h5
    · exact Nat.lt_of_lt_of_le D.l h5
  · exact (ho r hq).2
theorem ChT.push {W w4 : World} {o : Obj} {lv v4 : Value} {l0 : List Int} {i : Int} (h : ChT bk bY bn bw bf bl B k n wov wo yl W lv l0) (D : ChD bk bY bn bw bf bl B wov) (hg : (W.alloc o).grownBy w4 lv.ownBlock)
    (hown : w4.ownsRow B 3 1 v4 (l0.length + 1) (encI l0 ++ [.int .i64 i])) : ChT bk bY bn bw bf bl B k n wov wo yl (w4.setCell ⟨bl, 0, none⟩ v4) v4 (l0 ++ [i]) := by
  obtain ⟨h1, ⟨h2, h3⟩, h4, h5⟩ := h
  have ho := World.ownsRow.lt h4
  have ho4 := World.ownsRow.lt hown
  have hz := hg.size
  simp only [World.size_alloc] at hz
  have hz4 : (w4.setCell ⟨bl, 0, none⟩ v4).heap.size = w4.heap.size := by simp [World.setCell]
  have hbl : w4.heap[bl]? = W.heap[bl]? := (hg.block bl (by simp; have := D.l; omega) (fun e => by have := (ho bl e.symm).1; have := D.l; omega)).trans (Below.heap_alloc _ _ _ (by have := D.l; omega))
  refine ⟨h1.of (by omega) fun q hq => ?_, ⟨World.cell?_setCell_same' _ _ _ (by rw [World.cell?_of_block (a := ⟨bl, 0, none⟩) hbl, h2]; rfl), by rw [World.frozen?_setCell, World.frozen?_of_block (a := ⟨bl, 0, none⟩) hbl]; exact h3⟩, ?_, by omega⟩
  · have hq2 := D.at_ q hq
    rw [Below.heap_setCell _ _ _ q hq2.2]
    exact (hg.block q (by simp; omega) (fun e => by have := (ho q e.symm).1; omega)).trans (Below.heap_alloc _ _ _ (by omega))
  · refine OwnIs.app (ownsRow_setCell_below hown (by exact D.l) _)
theorem ChT.pop {W : World} {g cap : Nat} {l0 : List Int} {i : Int} (h : ChT bk bY bn bw bf bl B k n wov wo yl W (.slice (some ⟨g, 0, none⟩) (l0.length + 1) cap) (l0 ++ [i])) (D : ChD bk bY bn bw bf bl B wov) :
    ChT bk bY bn bw bf bl B k n wov wo yl ((W.setCell ⟨g, l0.length, none⟩ (.int .i64 0)).setCell ⟨bl, 0, none⟩ (.slice (some ⟨g, 0, none⟩) l0.length cap)) (.slice (some ⟨g, 0, none⟩) l0.length cap) l0 := by
  obtain ⟨h1, ⟨h2, h3⟩, h4, h5⟩ := h
  have hg := World.ownsRow.lt h4 g rfl
  have hz : ((W.setCell ⟨g, l0.length, none⟩ (.int .i64 0)).setCell ⟨bl, 0, none⟩ (.slice (some ⟨g, 0, none⟩) l0.length cap)).heap.size = W.heap.size := by simp [World.setCell]
  have hl := D.l
  refine ⟨h1.of (by omega) fun q hq => ?_, ⟨World.cell?_setCell_same' _ _ _ (by rw [World.cell?_setCell_other _ _ _ _ (fun e => by simp only [Addr.mk.injEq] at e; omega), h2]; rfl), by rw [World.frozen?_setCell, World.frozen?_setCell]; exact h3⟩, ?_, by omega⟩
  · have hq2 := D.at_ q hq
    rw [Below.heap_setCell _ _ _ q hq2.2, Below.heap_setCell _ _ _ q (by show q ≠ g; omega)]
  · have h6 : W.ownsRow B 3 1 (.slice (some ⟨g, 0, none⟩) (l0.length + 1) cap) (l0.length + 1) (encI l0 ++ [.int .i64 i]) := by
      have h7 := h4
      unfold OwnIs at h7
      rwa [List.length_append, List.length_singleton, encI_append] at h7
    have h7 := (World.ownsRow.stored h6 l0.length (.int .i64 0)).1
    have e : (encI l0 ++ [Value.int .i64 i]).set l0.length (.int .i64 0) = encI l0 ++ [.int .i64 0] := by
      rw [List.set_append, if_neg (by rw [encI_length]; omega), encI_length, Nat.sub_self]; rfl
    rw [e] at h7
    exact ownsRow_setCell_below (ownsRow_pop (by rw [encI_length, Nat.mul_one]) h7) (by exact hl) _
variable {J : (Nat → Prop) → List (Value × List Int) → World → Prop} {Bi : Nat}
theorem chJ_below (hJ : AbidesH Bi J) {H : Nat → Prop} {pre : List (Value × List Int)} {W V : World} (h : J H pre W) (hb : Below W.heap.size W V) : J H pre V :=
  hJ H H pre W V none h (grown_below hb) (fun r e => by cases e) (fun r hr => .inl hr)
theorem chJ_set (hJ : AbidesH Bi J) {H : Nat → Prop} {pre : List (Value × List Int)} {W : World} (h : J H pre W) {b : Nat} (hb : H b) (o : Nat) (u : Value) : J H pre (W.setCell ⟨b, o, none⟩ u) :=
  hJ H H pre W _ (some b) h ⟨rfl, rfl, rfl, by simp [World.setCell], fun q _ hq => Below.heap_setCell _ _ _ q (fun e => hq (by rw [e]))⟩ (fun r e => by cases e; exact .inl hb) (fun r hr => .inl hr)
theorem chJ_push (hJ : AbidesH Bi J) {lv v4 : Value} {pre : List (Value × List Int)} {W w4 : World} {o : Obj} (h : J (ChH bk bY bn bw bf bl lv) pre W) (hg : (W.alloc o).grownBy w4 lv.ownBlock)
    (hv : ∀ r, v4.ownBlock = some r → lv.ownBlock = some r ∨ (W.alloc o).heap.size ≤ r) (hv2 : ∀ r, v4.ownBlock = some r → r < w4.heap.size) : J (ChH bk bY bn bw bf bl v4) pre (w4.setCell ⟨bl, 0, none⟩ v4) := by
  have h1 : J (ChH bk bY bn bw bf bl lv) pre (W.alloc o) := hJ _ _ pre W _ none h (World.grownBy_alloc W o none) (fun r e => by cases e) (fun r hr => .inl hr)
  have h2 : J (ChH bk bY bn bw bf bl v4) pre w4 := hJ _ _ pre _ w4 lv.ownBlock h1 hg (fun r e => .inl (.inr e)) (fun r hr => by
    rcases hr with hr | hr
    · exact .inl (.inl hr)
    · rcases hv r hr with h3 | h3
      · exact .inl (.inr h3)
      · exact .inr ⟨h3, hv2 r hr⟩)
  exact chJ_set hJ h2 (.inl (by simp)) 0 v4
theorem chJ_pop (hJ : AbidesH Bi J) {g cap m : Nat} {pre : List (Value × List Int)} {W : World} (h : J (ChH bk bY bn bw bf bl (.slice (some ⟨g, 0, none⟩) (m + 1) cap)) pre W) :
    J (ChH bk bY bn bw bf bl (.slice (some ⟨g, 0, none⟩) m cap)) pre ((W.setCell ⟨g, m, none⟩ (.int .i64 0)).setCell ⟨bl, 0, none⟩ (.slice (some ⟨g, 0, none⟩) m cap)) :=
  chJ_set hJ (chJ_set hJ (H := ChH bk bY bn bw bf bl (.slice (some ⟨g, 0, none⟩) m cap)) h (.inr rfl) m _) (.inl (by simp)) 0 _
end
def FuSpec (nn N : Nat) (M : List Int → Prop) (J : (Nat → Prop) → List (Value × List Int) → World → Prop) (bk bY bn bw bf bl B k n : Nat) (wov : Value) (wo : List Int) (yl fr : Nat) : Prop :=
  ∀ (l0 : List Int) (lv : Value) (pre : List (Value × List Int)) (W : World), l0.length ≤ k → ChT bk bY bn bw bf bl B k n wov wo yl W lv l0 → J (ChH bk bY bn bw bf bl lv) pre W → pre.length + (chR (plFrom wo n fr) (k - l0.length)).length ≤ N → (∀ x, x ∈ chR (plFrom wo n fr) (k - l0.length) → M (l0 ++ x)) →
    CallsIn Fence.wide nn Try.prog 63 #[.int .i64 fr, .pointer (some ⟨bl, 0, none⟩), .pointer (some ⟨bk, 0, none⟩), .pointer (some ⟨bY, 0, none⟩), .pointer (some ⟨bn, 0, none⟩), .pointer (some ⟨bw, 0, none⟩), .pointer (some ⟨bf, 0, none⟩)] W
      fun e W' => e = .returned (.bool true) ∧ ∃ (lv' : Value) (ys : List (Value × List Int)), ys.map (·.2) = (chR (plFrom wo n fr) (k - l0.length)).map (fun x => l0 ++ x) ∧ J (ChH bk bY bn bw bf bl lv') (pre ++ ys) W' ∧ ChT bk bY bn bw bf bl B k n wov wo yl W' lv' l0
set_option maxRecDepth 100000 in
set_option maxHeartbeats 2000000 in
theorem further_step (nn N : Nat) (M : List Int → Prop) (hnn : 2 ≤ nn) (J : (Nat → Prop) → List (Value × List Int) → World → Prop) (Bi B0 : Nat) (hJ : AbidesH Bi J) (bk bY bn bw bf bl B k n : Nat) (wov : Value) (wo : List Int) (yl : Nat) (D : ChD bk bY bn bw bf bl B wov) (hB0 : B0 ≤ B) (hn : n ≤ 16) (hk : k ≤ 16)
    (hY : ∀ H pre x W1, J H pre W1 → ChG B0 M H x W1 → pre.length < N → YieldAt Fence.wide (nn - 1) Try.prog yl (chEnc x) W1 fun e W' => e = .returned (.bool true) ∧ J H (pre ++ [x]) W' ∧ KeepH (fun r => H r ∨ wov.ownBlock = some r) W1 W')
    (fr : Nat) (hfr : fr ≤ n) (IH : ∀ fr', fr < fr' → fr' ≤ n → FuSpec nn N M J bk bY bn bw bf bl B k n wov wo yl fr') : FuSpec nn N M J bk bY bn bw bf bl B k n wov wo yl fr := by
  intro l0 lv pre W hl0 hT hJ0 hN hM
  have hn1 : 1 ≤ nn := by omega
  obtain ⟨⟨⟨c1, c2, c3, c4, c5⟩, hrow⟩, ⟨c6, f6⟩, hown, hBW⟩ := id hT
  obtain ⟨la, lc, rfl, q1, q2⟩ := hown.val
  obtain ⟨va, vc, rfl, -, -⟩ := id hrow
  by_cases hlk : l0.length = k
  · have hrowl := hown.row
    have hC := fun V (hV : Below W.heap.size W V) => CloneW_any _ l0 V (hrowl.below (Nat.le_refl _) hV) (by omega)
    have HC := hide hC
    have HT := hide hT
    have HJ0 := hide hJ0
    have hlen : (chR (plFrom wo n fr) (k - l0.length)) = [[]] := by rw [hlk, Nat.sub_self, chR_zero]
    rw [hlen] at hN hM ⊢
    have hM0 : M l0 := by
      have h := hM [] (by simp)
      rwa [List.append_nil] at h
    clear hM
    have hN2 : pre.length < N := by simp at hN; omega
    have d1 : ((l0.length : Int) == (k : Int)) = true := by rw [hlk]; simp
    clear hC hT hJ0 hrowl hown hrow hlen hN IH hlk
    refine callsIn_of_wp Try.func63 rfl trivial ?_ rfl
    simp only [Try.ntmps63, List.size_toArray, List.length_cons, List.length_nil, Nat.reduceAdd, Nat.reduceSub, Array.replicate_succ, Array.replicate_zero, List.push_toArray, List.append_toArray, List.nil_append, List.cons_append]
    gi_wp2
    have zd : W.drew.heap.size = W.heap.size := rfl
    have hYY : ∀ (v1 : Value) (w1 : World) (b : Nat), W.heap.size ≤ b → OwnIs w1 b v1 l0 → Below W.heap.size W w1 → YieldAt Fence.wide (nn - 1) Try.prog yl #[v1] w1 fun e W' => e = .returned (.bool true) ∧ J (ChH bk bY bn bw bf bl (.slice la l0.length lc)) (pre ++ [(v1, l0)]) W' ∧ ChT bk bY bn bw bf bl B k n (.slice va wo.length vc) wo yl W' (.slice la l0.length lc) l0 := by
      intro v1 w1 b hb ho1 kw
      have hJ1 := chJ_below hJ HJ0.out kw
      have hG : ChG B0 M (ChH bk bY bn bw bf bl (.slice la l0.length lc)) (v1, l0) w1 := ⟨ho1.row, fun q hq => by
        have h1 := (World.ownsRow.lt ho1 q hq).1
        have h := HT.out.hid D q
        refine ⟨⟨fun hh => ?_, by omega⟩, Lib.ownsRow_kind ho1 q hq⟩
        have := h hh
        omega, hM0⟩
      obtain ⟨fn, tmps, assign, body, hy, hR⟩ := hY _ pre (v1, l0) w1 hJ1 hG hN2
      refine ⟨fn, tmps, assign, body, hy, hR.mono ?_⟩
      rintro e W' ⟨rfl, hJ3, hk3⟩
      exact ⟨rfl, hJ3, (HT.out.below D kw).keep hk3⟩
    have HYY := hide hYY
    have zY : bY < W.heap.size := Nat.lt_of_lt_of_le D.y.1 hBW
    clear hYY hY
    gi_region_with (first
      | (refine ⟨trivial, (callsIn_wide.2 (HC.out _ (by ((with_reducible repeat' first | exact .refl _ _ | refine .alloc ?_ ?_ _ | refine .setCell ?_ ?_ _ | refine .drew ?_ | refine below_drewN ?_ _) <;> first | omega | simp <;> omega)))).mono ?_⟩; rintro e w1 ⟨v1, rfl, ho1, k1⟩; obtain ⟨fn, tmps, assign, body, hy, hRR⟩ := HYY.out v1 w1 _ (Nat.le_of_eq zd.symm) ho1 (by ((with_reducible repeat' first | exact .refl _ _ | exact k1 | refine .alloc ?_ ?_ _ | refine .setCell ?_ ?_ _ | refine .drew ?_ | refine below_drewN ?_ _ | refine Below.trans ?_ (k1.mono ?_)) <;> first | omega | simp <;> omega)); have c2w : w1.cell? ⟨bY, 0, none⟩ = some (.func (.yield yl) #[] #[]) := (Below.cell (p := ⟨bY, 0, none⟩) ((by ((with_reducible repeat' first | exact .refl _ _ | exact k1 | refine .alloc ?_ ?_ _ | refine .setCell ?_ ?_ _ | refine .drew ?_ | refine below_drewN ?_ _ | refine Below.trans ?_ (k1.mono ?_)) <;> first | omega | simp <;> omega)) : Below W.heap.size W w1) zY).trans c2)
      | (refine hRR.mono ?_; rintro e w3 ⟨rfl, hJ3, hT3⟩))
    all_goals (gi_wp2; go_ret; exact ⟨rfl, .slice la l0.length lc, [(v1, l0)], by simp, hJ3, hT3⟩)
  · have d1 : ((l0.length : Int) == (k : Int)) = false := by rw [beq_eq_false_iff_ne]; omega
    obtain ⟨r, hr⟩ : ∃ r, k - l0.length = r + 1 := ⟨k - l0.length - 1, by omega⟩
    rw [hr] at hN hM ⊢
    rw [← fuT_all wo n r (n - fr) fr rfl hfr] at hN hM ⊢
    have HM := hide hM
    have HT := hide hT
    have HJ0 := hide hJ0
    have HN := hide hN
    have Hr := hide hr
    have HIH := hide IH
    have HY := hide hY
    obtain ⟨i0, hi0, hz0, hz1, hz2⟩ := info_parts infoInt
    clear hT hJ0 hN hM hr IH hY hown hrow hlk
    refine callsIn_of_wp Try.func63 rfl trivial ?_ rfl
    simp only [Try.ntmps63, List.size_toArray, List.length_cons, List.length_nil, Nat.reduceAdd, Nat.reduceSub, Array.replicate_succ, Array.replicate_zero, List.push_toArray, List.append_toArray, List.nil_append, List.cons_append]
    gi_wp2
    clear c1 c2 c3 c4 c5 c6 f6 q1 q2
    gi_loopw [9] (fun s9 wr => ∃ (t : Nat) (lv' : Value) (ys : List (Value × List Int)), fr + t ≤ n ∧ s9 = .int .i64 ((fr + t : Nat) : Int) ∧ Hid (ys.map (·.2) = (fuT wo n r fr t).map (fun x => l0 ++ x)) ∧ J (ChH bk bY bn bw bf bl lv') (pre ++ ys) wr ∧ ChT bk bY bn bw bf bl B k n (.slice va wo.length vc) wo yl wr lv' l0) (fun s9 _ => n - (intOf s9).toNat)
    case atStart => exact ⟨0, _, [], by omega, rfl, hide rfl, by rw [List.append_nil]; exact HJ0.out, HT.out⟩
    case round =>
      obtain ⟨t, lv', ys, ht, rfl, Hys, hJr, hTr⟩ := hrel
      obtain ⟨⟨⟨c1, c2, c3, c4, c5⟩, hrow⟩, ⟨c6, f6⟩, hown, hBr⟩ := id hTr
      obtain ⟨la', lc', rfl, q1, q2⟩ := hown.val
      have hst : fuT wo n r fr (t + 1) = fuT wo n r fr t ++ (if ((fr + t : Nat) : Int) ∈ wo then [] else (chR (plFrom wo n (fr + t + 1)) r).map (fun x => ((fr + t : Nat) : Int) :: x)) := rfl
      have Hst := hide hst
      clear hst
      obtain ⟨i, hi⟩ : ∃ i, i = fr + t := ⟨_, rfl⟩
      rw [← hi] at Hst ⊢
      by_cases hlt : i < n
      · have wi : IntKind.i64.wrap ((i : Int) + 1) = ((i + 1 : Nat) : Int) := by rw [show (i : Int) + 1 = ((i + 1 : Nat) : Int) by omega]; exact IntWalk.i64_in _ (by omega)
        have HTr := hide hTr
        have HJr := hide hJr
        have Hrow := hide hrow
        have Hi := hide hi
        clear hTr hJr hrow hi
        by_cases hw : (i : Int) ∈ wo
        · have d2 : decide ((i : Int) ∈ wo) = true := decide_eq_true hw
          have Hw := hide hw
          clear hw
          gi_wp2_with fail
          refine ⟨trivial, (callsIn_wide.2 (ContainsN_any _ wo _ _ Hrow.out)).mono ?_⟩
          rintro e w1 ⟨rfl, rfl⟩
          rw [d2]
          gi_wp2_with fail
          go_roundw
          case rel => exact ⟨t + 1, _, ys, by have := Hi.out; omega, by rw [show fr + (t + 1) = i + 1 by have := Hi.out; omega]; first | rfl | go_num, hide (by rw [Hst.out, if_pos Hw.out, List.append_nil]; exact Hys.out), HJr.out, HTr.out⟩
          case measure => simp [intOf]; omega
        · have d2 : decide ((i : Int) ∈ wo) = false := decide_eq_false hw
          have Hw := hide hw
          clear hw
          gi_wp2_with fail
          refine ⟨trivial, (callsIn_wide.2 (ContainsN_any _ wo _ _ Hrow.out)).mono ?_⟩
          rintro e w1 ⟨rfl, rfl⟩
          rw [d2]
          have hown' := hown
          unfold OwnIs at hown'
          have hlow := World.ownsRow.lt hown
          have zl : bl < wr.heap.size := Nat.lt_of_lt_of_le D.l hBr
          have Hlow := hide hlow
          have Hown := hide hown'
          clear hown hown' hlow
          gi_wp2_with (gi_at_builtin; refine wpListIn_append_new _ rfl _ _ 25 rfl B 3 i0 (.int .i64 0) 1 8 Try.underlying25 hi0 hz0 hz1 hz2 rfl (by decide) _ l0.length (encI l0) rfl (World.ownsRow.alloc Hown.out _) ⟨wr.heap.size, 0, none⟩ 1 1 [.int .i64 (i : Int)] rfl rfl (cells_new wr [.int .i64 (i : Int)] _) (by simp [Value.oneCell']) (by unfold maxLen; omega) (by omega) (by simp; omega) ?_; intro v4 w4 hown4 hg4 hv4; obtain ⟨a4, cap4, rfl⟩ := ownsRow_val hown4; have hbl4 : w4.heap[bl]? = wr.heap[bl]? := (hg4.block bl (by simp; omega) (fun e => by have := (Hlow.out bl e.symm).1; have := D.l; omega)).trans (Below.heap_alloc _ _ _ zl); have c64 := (World.cell?_of_block (a := ⟨bl, 0, none⟩) hbl4).trans c6; have f64 := (World.frozen?_of_block (a := ⟨bl, 0, none⟩) hbl4).trans f6; have hT4 := HTr.out.push D hg4 hown4; have hJ4 := chJ_push hJ HJr.out hg4 hv4 (fun r h => (World.ownsRow.lt hown4 r h).2); have HT4 := hide hT4; have HJ4 := hide hJ4; obtain ⟨⟨-, -, -, -, c54⟩, -⟩ := hT4.1; clear hT4 hJ4 hown4 hg4 hv4 hbl4 c1 c2 c3 c4 c5 c6 f6)
          have hml : (l0 ++ [(i : Int)]).length = l0.length + 1 := by rw [List.length_append, List.length_singleton]
          have hkr : k - (l0 ++ [(i : Int)]).length = r := by rw [hml]; have := Hr.out; omega
          have hysl : ys.length = (fuT wo n r fr t).length := by have h := congrArg List.length Hys.out; rwa [List.length_map, List.length_map] at h
          have hN2 : (pre ++ ys).length + (chR (plFrom wo n (i + 1)) r).length ≤ N := by
            have h1 := fuT_len_le wo n r fr (t + 1) (n - fr) (by have := Hi.out; omega)
            have h2 := HN.out
            rw [Hst.out, if_neg Hw.out, List.length_append, List.length_map] at h1
            rw [List.length_append]
            omega
          have hF := HIH.out (i + 1) (by have := Hi.out; omega) (by omega) (l0 ++ [(i : Int)]) (.slice a4 (l0.length + 1) cap4) (pre ++ ys) _ (by rw [hml]; have := Hr.out; omega) HT4.out HJ4.out (by rw [hkr]; exact hN2) (by
            rw [hkr]
            intro x hx
            have h1 := HM.out ((i : Int) :: x) (fuT_mem wo n r fr t (n - fr) (by have := Hi.out; omega) (by rw [← Hi.out]; exact Hw.out) x (by rw [← Hi.out]; exact hx) |> fun h => by rwa [← Hi.out] at h)
            rwa [List.append_assoc, List.singleton_append])
          rw [hkr, show ((i + 1 : Nat) : Int) = (i : Int) + 1 from rfl] at hF
          clear hml hkr hysl hN2
          refine ⟨trivial, (callsIn_wide.2 (callsIn_wide.1 hF)).mono ?_⟩
          rintro e w5 ⟨rfl, lv5, ys5, h5, hJ5, hT5⟩
          obtain ⟨⟨⟨c1, c2, c3, c4, c5⟩, hrow⟩, ⟨c6, f6⟩, hown, hB5⟩ := id hT5
          obtain ⟨g, cap, rfl⟩ : ∃ g cap, lv5 = .slice (some ⟨g, 0, none⟩) (l0.length + 1) cap := by
            have h := hown
            unfold OwnIs at h
            rw [List.length_append, List.length_singleton] at h
            exact ownsRow_succ h
          have hown' := hown
          unfold OwnIs at hown'
          rw [List.length_append, List.length_singleton, encI_append] at hown'
          have hgB := (World.ownsRow.lt hown' g rfl).1
          have hDl := D.l
          have hcap : l0.length + 1 ≤ cap ∧ cap ≤ 9223372036854775807 := by
            rcases hown'.2 with ⟨h, _⟩ | ⟨g', cap', cur, h, _, _, h1, h2, _⟩
            · simp at h
            · simp only [Value.slice.injEq] at h; obtain ⟨-, -, rfl⟩ := h; exact ⟨h1, h2⟩
          have hcell : w5.cell? ⟨g, l0.length, none⟩ = some (.int .i64 (i : Int)) := by
            rw [World.ownsRow.cellAt hown' l0.length (by omega), List.getElem?_append_right (by rw [encI_length]; omega), encI_length, Nat.sub_self]; rfl
          have hfro := World.ownsRow.frozenAt hown' l0.length
          have hT6 := hT5.pop D
          have hJ6 := chJ_pop hJ (bk := bk) (bY := bY) (bn := bn) (bw := bw) (bf := bf) (bl := bl) hJ5
          have HT6 := hide hT6
          have HJ6 := hide hJ6
          have H5 := hide h5
          obtain ⟨m1, hm1⟩ : ∃ m1, m1 = l0.length + 1 := ⟨_, rfl⟩
          rw [← hm1] at c6
          have hclr : ∀ ty, (Builtin.clear_ #[25] ty #[.slice (some ⟨g, l0.length, none⟩) (m1 - l0.length) (cap - l0.length)]).run Try.prog w5 = .ok (.tuple #[]) (w5.setCell ⟨g, l0.length, none⟩ (.int .i64 0)) := by
            intro ty
            have h := Lib.run_clear_slice (P := Try.prog) w5 25 3 ty (.int .i64 0) Try.underlying25 (fun w => by simp [zeroValue, typeInfo, hi0, hz0]) rfl rfl g l0.length (m1 - l0.length) (cap - l0.length) (by omega)
              (fun j hj => by obtain rfl : j = 0 := by omega
                              rw [Nat.add_zero, hcell]; rfl)
              (fun j hj => by obtain rfl : j = 0 := by omega
                              exact hfro)
            rw [show m1 - l0.length = 1 by omega] at h ⊢
            exact h
          have wl : IntKind.i64.wrap ((m1 : Int) - 1) = (l0.length : Int) := by rw [show (m1 : Int) - 1 = (l0.length : Int) by omega]; exact IntWalk.i64_in _ (by omega)
          have I1 : (0 : Int) ≤ (l0.length : Int) := by omega
          have I2 : (l0.length : Int) ≤ (m1 : Int) := by omega
          have I3 : (l0.length : Int) ≤ (cap : Int) := by omega
          have I4 : l0.length < cap := by omega
          have I5 : m1 ≤ cap := by omega
          have c66 : (w5.setCell ⟨g, l0.length, none⟩ (.int .i64 0)).cell? ⟨bl, 0, none⟩ = some (.slice (some ⟨g, 0, none⟩) m1 cap) := (World.cell?_setCell_other _ _ _ _ (by intro h; simp only [Addr.mk.injEq] at h; omega)).trans c6
          have f66 : (w5.setCell ⟨g, l0.length, none⟩ (.int .i64 0)).frozen? ⟨bl, 0, none⟩ = false := by rw [World.frozen?_setCell]; exact f6
          clear hT5 hJ5 hown hown' hrow hT6 hJ6 h5 hm1 c1 c2 c3 c4 c5 c64 f64 c54 hF hcell hfro
          gi_wp2_with fail
          go_roundw
          case rel =>
            refine ⟨t + 1, _, ys ++ ys5, by have := Hi.out; omega, by rw [show fr + (t + 1) = i + 1 by have := Hi.out; omega]; first | rfl | go_num, hide ?_, by rw [← List.append_assoc]; exact HJ6.out, HT6.out⟩
            rw [List.map_append, Hys.out, H5.out, Hst.out, if_neg Hw.out, List.map_append, List.map_map]
            congr 1
            refine List.map_congr_left fun x _ => ?_
            simp
          case measure => simp [intOf]; omega
      · obtain rfl : i = n := by omega
        have ht2 : t = i - fr := by omega
        have Hfin := hide (And.intro Hys.out (And.intro hJr hTr))
        have Ht := hide ht2
        clear Hst hrow hown hJr hTr Hys hi ht2
        gi_wp2
        go_ret
        exact ⟨rfl, _, ys, by rw [← Ht.out]; exact Hfin.out.1, Hfin.out.2.1, Hfin.out.2.2⟩
theorem further_in (nn N : Nat) (M : List Int → Prop) (hnn : 2 ≤ nn) (J : (Nat → Prop) → List (Value × List Int) → World → Prop) (Bi B0 : Nat) (hJ : AbidesH Bi J) (bk bY bn bw bf bl B k n : Nat) (wov : Value) (wo : List Int) (yl : Nat) (D : ChD bk bY bn bw bf bl B wov) (hB0 : B0 ≤ B) (hn : n ≤ 16) (hk : k ≤ 16)
    (hY : ∀ H pre x W1, J H pre W1 → ChG B0 M H x W1 → pre.length < N → YieldAt Fence.wide (nn - 1) Try.prog yl (chEnc x) W1 fun e W' => e = .returned (.bool true) ∧ J H (pre ++ [x]) W' ∧ KeepH (fun r => H r ∨ wov.ownBlock = some r) W1 W') :
    ∀ (d fr : Nat), n - fr ≤ d → fr ≤ n → FuSpec nn N M J bk bY bn bw bf bl B k n wov wo yl fr
  | 0, fr, hd, hfr => further_step nn N M hnn J Bi B0 hJ bk bY bn bw bf bl B k n wov wo yl D hB0 hn hk hY fr hfr fun fr' h1 h2 => by omega
  | d + 1, fr, hd, hfr => further_step nn N M hnn J Bi B0 hJ bk bY bn bw bf bl B k n wov wo yl D hB0 hn hk hY fr hfr fun fr' h1 h2 => further_in nn N M hnn J Bi B0 hJ bk bY bn bw bf bl B k n wov wo yl D hB0 hn hk hY d fr' (by omega) h2
end Go.Proofs.Ytlmcoollkmhanaa
