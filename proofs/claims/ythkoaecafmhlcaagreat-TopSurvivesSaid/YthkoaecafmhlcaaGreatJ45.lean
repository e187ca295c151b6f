/- Parts TuNl Tn0 of the proof, joined. -/
import Derived.Test.YthkoaecafmhlcaaGreatJ44
/- The ends of a region that makes two boxes and fills them. -/
namespace Go.Proofs.YthkoaecafmhlcaaGreat
open Go.RowKit
theorem st_ok {D : List Tx} (h : GoodD D) (hl : D.length ≤ 100) : StOk (stV (evs D)) := by
 obtain ⟨s1, s2, s3⟩ := stV_ok (evs_pair h)
 refine ⟨s1, fun x hx => evs_wf h x ((s2 x).1 hx), ?_⟩
 have := nwr_le (D := D) fun t ht => (h.2 t ht).1.2.2.2.2.2
 unfold nwr at this
 omega
theorem show_all {D : List Tx} (h : GoodD D) {m n : Nat} {lo : Int} (hlo : topTs D < lo) (hd : ∀ t, t ∈ (ldOf D m).opn.drop n → lo ≤ t.ts) : stF (ldOf D m).st (evs ((ldOf D m).opn.take n)) = stV (evs D) := by
 obtain ⟨e1, e2⟩ := ld_show D m n
 rw [e1]
 rw [e2] at hd
 have hl : D.length ≤ m + n := by
  refine Nat.le_of_not_lt fun hlt => ?_
  have hm : txAt D (m + n) ∈ (ldOf D (m + n)).opn := by
   show txAt D (m + n) ∈ D.drop (m + n)
   rw [txAt_lt hlt, List.drop_eq_getElem_cons hlt]
   exact List.mem_cons_self ..
  have h1 := hd _ hm
  have h2 := topTs_ge h _ (txAt_mem hlt)
  omega
 show stV (evs (D.take (m + n))) = _
 rw [List.take_of_length_le hl]
theorem read_three {D : List Tx} (h : GoodD D) (j : Nat) {i : Nat} (hi : i < (D.take j).length) (k : Int) : lastV (stV (evs D)) k (txAt (D.take j) i).ts = rlast (evs (D.take j)) k (txAt (D.take j) i).ts ∧ lastV (stV (evs (D.take j))) k (txAt (D.take j) i).ts = rlast (evs (D.take j)) k (txAt (D.take j) i).ts := by
 have h1 := h.1
 rw [← List.take_append_drop j D] at h1
 have h2 := read_same h j k (txAt (D.take j) i).ts fun u hu => (List.pairwise_append.1 h1).2.2 _ (txAt_mem hi) u hu
 exact ⟨h2.1.trans h2.2, h2.2⟩
theorem ld_full {O : List Tx} (h : GoodD O) (hl : O.length ≤ 100) : VL ⟨topTs O, stV (evs O), []⟩ ∧ (stV (evs O)).length ≤ 800 := by
 have h_ := ldOf_vl h hl O.length
 unfold ldOf at h_
 rw [List.take_length, List.drop_length] at h_
 refine ⟨h_, ?_⟩
 rw [(stV_ok (evs_pair h)).2.2]
 have := nwr_le (D := O) fun t ht => (h.2 t ht).1.2.2.2.2.2
 unfold nwr at this
 omega
theorem ne_bx {V : World} {b c : Nat} {l l' : List Value} (_ : BxC V b l) (_ : BxC V c l') (h : b ≠ c) : b ≠ c ∧ c ≠ b := ⟨h, fun e => h e.symm⟩
theorem mkL {X wq : World} {u0 u1 u2 : Value} {T : TypeId} (k : Below (X.alloc (.cells #[u0, u1, u2] T)).heap.size (X.alloc (.cells #[u0, u1, u2] T)) wq) : BxC wq (X.heap.size) [u0, u1, u2] := by
 have k2 : Below (X.alloc (.cells #[u0, u1, u2] T)).heap.size (X.alloc (.cells #[u0, u1, u2] T)) wq := k
 have h0 := BxC.made (X) [u0, u1, u2] T
 exact h0.below h0.2.2 k2
theorem mkT {X wq : World} {x0 x1 x2 x3 : Value} {S : TypeId} (k : Below (X.alloc (.cells #[x0, x1, x2, x3] S)).heap.size (X.alloc (.cells #[x0, x1, x2, x3] S)) wq) : BxC wq (X.heap.size) [x0, x1, x2, x3] := by
 have k2 : Below (X.alloc (.cells #[x0, x1, x2, x3] S)).heap.size (X.alloc (.cells #[x0, x1, x2, x3] S)) wq := k
 have h0 := BxC.made (X) [x0, x1, x2, x3] S
 exact h0.below h0.2.2 k2
theorem mkLT {X wq : World} {u0 u1 u2 : Value} {T : TypeId} {x0 x1 x2 x3 : Value} {S : TypeId} (k : Below ((X.alloc (.cells #[u0, u1, u2] T)).alloc (.cells #[x0, x1, x2, x3] S)).heap.size ((X.alloc (.cells #[u0, u1, u2] T)).alloc (.cells #[x0, x1, x2, x3] S)) wq) : BxC wq (X.heap.size) [u0, u1, u2] ∧ BxC wq (X.heap.size + 1) [x0, x1, x2, x3] := by
 have k2 : Below ((X.alloc (.cells #[u0, u1, u2] T)).alloc (.cells #[x0, x1, x2, x3] S)).heap.size ((X.alloc (.cells #[u0, u1, u2] T)).alloc (.cells #[x0, x1, x2, x3] S)) wq := k
 have h0 := BxC.made (X) [u0, u1, u2] T
 have h0 := h0.alloc (.cells #[x0, x1, x2, x3] S)
 have h1 := BxC.made ((X.alloc (.cells #[u0, u1, u2] T))) [x0, x1, x2, x3] S
 simp only [World.size_alloc] at h1
 exact ⟨h0.below h0.2.2 k2, h1.below h1.2.2 k2⟩
theorem mkTL {X wq : World} {u0 u1 u2 : Value} {T : TypeId} {x0 x1 x2 x3 : Value} {S : TypeId} (k : Below ((X.alloc (.cells #[x0, x1, x2, x3] S)).alloc (.cells #[u0, u1, u2] T)).heap.size ((X.alloc (.cells #[x0, x1, x2, x3] S)).alloc (.cells #[u0, u1, u2] T)) wq) : BxC wq (X.heap.size + 1) [u0, u1, u2] ∧ BxC wq (X.heap.size) [x0, x1, x2, x3] := by
 have k2 : Below ((X.alloc (.cells #[x0, x1, x2, x3] S)).alloc (.cells #[u0, u1, u2] T)).heap.size ((X.alloc (.cells #[x0, x1, x2, x3] S)).alloc (.cells #[u0, u1, u2] T)) wq := k
 have h0 := BxC.made (X) [x0, x1, x2, x3] S
 have h0 := h0.alloc (.cells #[u0, u1, u2] T)
 have h1 := BxC.made ((X.alloc (.cells #[x0, x1, x2, x3] S))) [u0, u1, u2] T
 simp only [World.size_alloc] at h1
 exact ⟨h1.below h1.2.2 k2, h0.below h0.2.2 k2⟩
theorem mkLD {X wq : World} {u0 u1 u2 : Value} {T : TypeId} (k : Below (X.alloc (.cells #[u0, u1, u2] T)).drew.heap.size (X.alloc (.cells #[u0, u1, u2] T)).drew wq) : BxC wq (X.heap.size) [u0, u1, u2] := by
 have k2 : Below (X.alloc (.cells #[u0, u1, u2] T)).heap.size (X.alloc (.cells #[u0, u1, u2] T)) wq := ⟨k.os, k.tape, k.output, k.size, k.block⟩
 have h0 := BxC.made (X) [u0, u1, u2] T
 exact h0.below h0.2.2 k2
theorem mkTD {X wq : World} {x0 x1 x2 x3 : Value} {S : TypeId} (k : Below (X.alloc (.cells #[x0, x1, x2, x3] S)).drew.heap.size (X.alloc (.cells #[x0, x1, x2, x3] S)).drew wq) : BxC wq (X.heap.size) [x0, x1, x2, x3] := by
 have k2 : Below (X.alloc (.cells #[x0, x1, x2, x3] S)).heap.size (X.alloc (.cells #[x0, x1, x2, x3] S)) wq := ⟨k.os, k.tape, k.output, k.size, k.block⟩
 have h0 := BxC.made (X) [x0, x1, x2, x3] S
 exact h0.below h0.2.2 k2
theorem mkLTD {X wq : World} {u0 u1 u2 : Value} {T : TypeId} {x0 x1 x2 x3 : Value} {S : TypeId} (k : Below ((X.alloc (.cells #[u0, u1, u2] T)).alloc (.cells #[x0, x1, x2, x3] S)).drew.heap.size ((X.alloc (.cells #[u0, u1, u2] T)).alloc (.cells #[x0, x1, x2, x3] S)).drew wq) : BxC wq (X.heap.size) [u0, u1, u2] ∧ BxC wq (X.heap.size + 1) [x0, x1, x2, x3] := by
 have k2 : Below ((X.alloc (.cells #[u0, u1, u2] T)).alloc (.cells #[x0, x1, x2, x3] S)).heap.size ((X.alloc (.cells #[u0, u1, u2] T)).alloc (.cells #[x0, x1, x2, x3] S)) wq := ⟨k.os, k.tape, k.output, k.size, k.block⟩
 have h0 := BxC.made (X) [u0, u1, u2] T
 have h0 := h0.alloc (.cells #[x0, x1, x2, x3] S)
 have h1 := BxC.made ((X.alloc (.cells #[u0, u1, u2] T))) [x0, x1, x2, x3] S
 simp only [World.size_alloc] at h1
 exact ⟨h0.below h0.2.2 k2, h1.below h1.2.2 k2⟩
theorem mkTLD {X wq : World} {u0 u1 u2 : Value} {T : TypeId} {x0 x1 x2 x3 : Value} {S : TypeId} (k : Below ((X.alloc (.cells #[x0, x1, x2, x3] S)).alloc (.cells #[u0, u1, u2] T)).drew.heap.size ((X.alloc (.cells #[x0, x1, x2, x3] S)).alloc (.cells #[u0, u1, u2] T)).drew wq) : BxC wq (X.heap.size + 1) [u0, u1, u2] ∧ BxC wq (X.heap.size) [x0, x1, x2, x3] := by
 have k2 : Below ((X.alloc (.cells #[x0, x1, x2, x3] S)).alloc (.cells #[u0, u1, u2] T)).heap.size ((X.alloc (.cells #[x0, x1, x2, x3] S)).alloc (.cells #[u0, u1, u2] T)) wq := ⟨k.os, k.tape, k.output, k.size, k.block⟩
 have h0 := BxC.made (X) [x0, x1, x2, x3] S
 have h0 := h0.alloc (.cells #[u0, u1, u2] T)
 have h1 := BxC.made ((X.alloc (.cells #[x0, x1, x2, x3] S))) [u0, u1, u2] T
 simp only [World.size_alloc] at h1
 exact ⟨h1.below h1.2.2 k2, h0.below h0.2.2 k2⟩
def StampEnd (LO : Int) (e : Ending) : Prop := ∃ (a0 : Int) (a1 : Option Addr) (n1 c1 : Nat) (a2 : Option Addr) (n2 c2 : Nat) (b0 b1 : Int) (a3 : Option Addr) (n3 c3 : Nat) (a4 : Option Addr) (n4 c4 : Nat) (x : Int),
 e = .returned (.tuple #[.agg #[.int .i64 a0, .slice a1 n1 c1, .slice a2 n2 c2], .agg #[.int .i64 b0, .int .i64 b1, .slice a3 n3 c3, .slice a4 n4 c4], .int .i64 x]) ∧ (x = 0 → LO < b1)
theorem StampPost.end_ {w : World} {L : Ld} {t : Tx} {hi : Int} {e : Ending} {w' : World} (h : StampPost w L t hi e w') : StampEnd L.last e ∧ Below w.heap.size w w' := by
 obtain ⟨h, hb⟩ := h
 refine ⟨?_, hb⟩
 rcases h with ⟨x, hx, rfl⟩ | ⟨sv, ov, rv, wv, rfl, -, h1, h2, h3, -⟩
 ·exact ⟨_, _, _, _, _, _, _, _, _, _, _, _, _, _, _, _, rfl, fun h => absurd h hx⟩
 ·obtain ⟨a1, c1, rfl, -, -⟩ := h1.val
  obtain ⟨a2, c2, rfl, -, -⟩ := h2.ty.row.len
  obtain ⟨a3, c3, e3, -⟩ := id h3.1.1
  obtain ⟨a4, c4, e4, -⟩ := id h3.2.1
  subst e3 e4
  have := mx_spec (L.last + 1) hi
  exact ⟨_, _, _, _, _, _, _, _, _, _, _, _, _, _, _, _, rfl, fun _ => by show L.last < mx (L.last + 1) hi; omega⟩
theorem ge_bx {V : World} {b n : Nat} {l : List Value} (_ : BxC V b l) (h : n ≤ b) : n ≤ b := h
theorem end_LT {W V : World} {n bL bT : Nat} {u0 u1 u2 x0 x1 x2 x3 v0 v1 v2 y0 y1 y2 y3 : Value} {P : Prop} (mL : BxC V bL [u0, u1, u2]) (mT : BxC V bT [x0, x1, x2, x3]) (hne : bL ≠ bT) (hB : Below n W V) (hL : n ≤ bL) (hT : n ≤ bT) (hx : P) :
  bT < (((((((V.setCell ⟨bL, 0, none⟩ v0).setCell ⟨bL, 1, none⟩ v1).setCell ⟨bL, 2, none⟩ v2).setCell ⟨bT, 0, none⟩ y0).setCell ⟨bT, 1, none⟩ y1).setCell ⟨bT, 2, none⟩ y2).setCell ⟨bT, 3, none⟩ y3).heap.size ∧
  (((((((V.setCell ⟨bL, 0, none⟩ v0).setCell ⟨bL, 1, none⟩ v1).setCell ⟨bL, 2, none⟩ v2).setCell ⟨bT, 0, none⟩ y0).setCell ⟨bT, 1, none⟩ y1).setCell ⟨bT, 2, none⟩ y2).setCell ⟨bT, 3, none⟩ y3).cell? ⟨bT, 1, none⟩ = some y1 ∧ P ∧
  Below n W (((((((V.setCell ⟨bL, 0, none⟩ v0).setCell ⟨bL, 1, none⟩ v1).setCell ⟨bL, 2, none⟩ v2).setCell ⟨bT, 0, none⟩ y0).setCell ⟨bT, 1, none⟩ y1).setCell ⟨bT, 2, none⟩ y2).setCell ⟨bT, 3, none⟩ y3) := by
 have h := (stamp_end mL mT hne v0 v1 v2 y0 y1 y2 y3).2
 exact ⟨h.2.2, h.1 1 _ rfl, hx, ((((((hB.setCell (p := ⟨bL, 0, none⟩) hL _).setCell (p := ⟨bL, 1, none⟩) hL _).setCell (p := ⟨bL, 2, none⟩) hL _).setCell (p := ⟨bT, 0, none⟩) hT _).setCell (p := ⟨bT, 1, none⟩) hT _).setCell (p := ⟨bT, 2, none⟩) hT _).setCell (p := ⟨bT, 3, none⟩) hT _⟩
theorem end_TA {W V : World} {n bT : Nat} {x0 x1 x2 x3 y0 y1 y2 y3 : Value} {o : Obj} {P : Prop} (mT : BxC V bT [x0, x1, x2, x3]) (hB : Below n W V) (hT : n ≤ bT) (hx : P) :
  bT < (((((V.setCell ⟨bT, 0, none⟩ y0).setCell ⟨bT, 1, none⟩ y1).setCell ⟨bT, 2, none⟩ y2).setCell ⟨bT, 3, none⟩ y3).alloc o).heap.size ∧
  (((((V.setCell ⟨bT, 0, none⟩ y0).setCell ⟨bT, 1, none⟩ y1).setCell ⟨bT, 2, none⟩ y2).setCell ⟨bT, 3, none⟩ y3).alloc o).cell? ⟨bT, 1, none⟩ = some y1 ∧ P ∧
  Below n W (((((V.setCell ⟨bT, 0, none⟩ y0).setCell ⟨bT, 1, none⟩ y1).setCell ⟨bT, 2, none⟩ y2).setCell ⟨bT, 3, none⟩ y3).alloc o) := by
 have h0 := (((mT.set 0 y0 (by simp)).set 1 y1 (by simp)).set 2 y2 (by simp)).set 3 y3 (by simp)
 have h := h0.alloc o
 have hb := (((hB.setCell (p := ⟨bT, 0, none⟩) hT y0).setCell (p := ⟨bT, 1, none⟩) hT y1).setCell (p := ⟨bT, 2, none⟩) hT y2).setCell (p := ⟨bT, 3, none⟩) hT y3
 exact ⟨h.2.2, h.1 1 _ rfl, hx, hb.alloc (Nat.le_of_lt (Nat.lt_of_le_of_lt hT h0.2.2)) _⟩
theorem end_LA {W V : World} {n bL : Nat} {u0 u1 u2 v0 v1 v2 y0 y1 y2 y3 : Value} {T : TypeId} {P : Prop} (mL : BxC V bL [u0, u1, u2]) (hB : Below n W V) (hL : n ≤ bL) (hx : P) :
  V.heap.size < ((((V.setCell ⟨bL, 0, none⟩ v0).setCell ⟨bL, 1, none⟩ v1).setCell ⟨bL, 2, none⟩ v2).alloc (.cells #[y0, y1, y2, y3] T)).heap.size ∧
  ((((V.setCell ⟨bL, 0, none⟩ v0).setCell ⟨bL, 1, none⟩ v1).setCell ⟨bL, 2, none⟩ v2).alloc (.cells #[y0, y1, y2, y3] T)).cell? ⟨V.heap.size, 1, none⟩ = some y1 ∧ P ∧
  Below n W ((((V.setCell ⟨bL, 0, none⟩ v0).setCell ⟨bL, 1, none⟩ v1).setCell ⟨bL, 2, none⟩ v2).alloc (.cells #[y0, y1, y2, y3] T)) := by
 have h0 := ((mL.set 0 v0 (by simp)).set 1 v1 (by simp)).set 2 v2 (by simp)
 have hb := ((hB.setCell (p := ⟨bL, 0, none⟩) hL v0).setCell (p := ⟨bL, 1, none⟩) hL v1).setCell (p := ⟨bL, 2, none⟩) hL v2
 have h := BxC.made (((V.setCell ⟨bL, 0, none⟩ v0).setCell ⟨bL, 1, none⟩ v1).setCell ⟨bL, 2, none⟩ v2) [y0, y1, y2, y3] T
 have e : (((V.setCell ⟨bL, 0, none⟩ v0).setCell ⟨bL, 1, none⟩ v1).setCell ⟨bL, 2, none⟩ v2).heap.size = V.heap.size := by simp [World.setCell]
 rw [e] at h
 exact ⟨h.2.2, h.1 1 _ rfl, hx, hb.alloc (Nat.le_of_lt (Nat.lt_of_le_of_lt hL h0.2.2)) _⟩
theorem end_AL {W V : World} {n : Nat} {o : Obj} {y0 y1 y2 y3 : Value} {T : TypeId} {P : Prop} (hB : Below n W V) (hn : n ≤ V.heap.size) (hx : P) :
  V.heap.size + 1 < ((V.alloc o).alloc (.cells #[y0, y1, y2, y3] T)).heap.size ∧ ((V.alloc o).alloc (.cells #[y0, y1, y2, y3] T)).cell? ⟨V.heap.size + 1, 1, none⟩ = some y1 ∧ P ∧ Below n W ((V.alloc o).alloc (.cells #[y0, y1, y2, y3] T)) := by
 have h := BxC.made (V.alloc o) [y0, y1, y2, y3] T
 simp only [World.size_alloc] at h
 exact ⟨h.2.2, h.1 1 _ rfl, hx, (hB.alloc hn _).alloc (by rw [World.size_alloc]; omega) _⟩
theorem end_TL {W V : World} {n : Nat} {o : Obj} {y0 y1 y2 y3 : Value} {T : TypeId} {P : Prop} (hB : Below n W V) (hn : n ≤ V.heap.size) (hx : P) :
  V.heap.size < ((V.alloc (.cells #[y0, y1, y2, y3] T)).alloc o).heap.size ∧ ((V.alloc (.cells #[y0, y1, y2, y3] T)).alloc o).cell? ⟨V.heap.size, 1, none⟩ = some y1 ∧ P ∧ Below n W ((V.alloc (.cells #[y0, y1, y2, y3] T)).alloc o) := by
 have h := (BxC.made V [y0, y1, y2, y3] T).alloc o
 exact ⟨h.2.2, h.1 1 _ rfl, hx, (hB.alloc hn _).alloc (by rw [World.size_alloc]; omega) _⟩
end Go.Proofs.YthkoaecafmhlcaaGreat
/- The code of TopSurvives in tails: what a walk in pieces speaks of. -/
namespace Go.Proofs.YthkoaecafmhlcaaGreat
open Go.RowKit
def seqTail : Nat → Code → Code
 | 0, c => c
 | n + 1, .seq _ b => seqTail n b
 | _ + 1, _ => .skip
def seqHead : Code → Code
 | .seq a _ => a
 | c => c
noncomputable def bodyTop : Code := (Tryz.f3.body).getD .skip
def postTop (w : World) : Exit → Act → World → Prop := bodyPost Tryz.prog Tryz.f3 fun e w' => e = .returned (.bool true) ∧ Below w.heap.size w w'
end Go.Proofs.YthkoaecafmhlcaaGreat
