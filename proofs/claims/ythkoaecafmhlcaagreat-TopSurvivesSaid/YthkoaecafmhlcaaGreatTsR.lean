/- Rows of reads, writes, versions and transactions in memory, each in a block of its type. -/
import Derived.Test.YthkoaecafmhlcaaGreatTsQ
import Derived.Test.YthkoaecafmhlcaaGreatJ04
import Derived.Test.YthkoaecafmhlcaaGreatJ00
namespace Go.Proofs.YthkoaecafmhlcaaGreat
open Go.RowKit

def KT (T : TypeId) (w w' : World) : Prop := w.heap.size ≤ w'.heap.size ∧ ∀ (q : Nat) (o : Obj), w.heap[q]? = some o → (∀ c fz, o ≠ Obj.cells c T fz) → w'.heap[q]? = some o
theorem KT.trans {T : TypeId} {u v w : World} (h : KT T u v) (k : KT T v w) : KT T u w := ⟨Nat.le_trans h.1 k.1, fun q o ho hn => k.2 q o (h.2 q o ho hn) hn⟩
theorem KT.below {T : TypeId} {w w' : World} {B : Nat} (hb : Below B w w') (hB : w.heap.size ≤ B) : KT T w w' :=
 ⟨hb.size, fun q _o ho _ => (hb.block q (Nat.lt_of_lt_of_le (Array.getElem?_eq_some_iff.1 ho).1 hB)).trans ho⟩
theorem KT.grown {T : TypeId} {w w' : World} {row : Option Nat} (hg : w.grownBy w' row) (hr : ∀ q, row = some q → ∃ c fz, w.heap[q]? = some (.cells c T fz)) : KT T w w' := by
 refine ⟨hg.size, fun q o ho hn => (hg.block q (Array.getElem?_eq_some_iff.1 ho).1 fun e => ?_).trans ho⟩
 obtain ⟨c, fz, h⟩ := hr q e.symm
 rw [h] at ho
 cases ho
 exact hn c fz rfl
theorem owns_block {T : TypeId} {w : World} {base size n : Nat} {v : Value} {xs : List Value} (h : w.ownsRow base T size v n xs) : ∀ q, v.ownBlock = some q → ∃ c fz, w.heap[q]? = some (.cells c T fz) := by
 intro q hq
 rcases h.2 with ⟨hv, _⟩ | ⟨g, cap, cur, hv, hg, hc, r⟩
 ·rw [hv] at hq; simp [Value.ownBlock] at hq
 ·rw [hv] at hq
  have e : g = q := by simpa [Value.ownBlock] using hq
  subst e
  exact ⟨_, _, hc⟩
theorem owns_kt {T T' : TypeId} {w w' : World} {base size n : Nat} {v : Value} {xs : List Value} (h : w.ownsRow base T size v n xs) (k : KT T' w w') (hT : T ≠ T') : w'.ownsRow base T size v n xs := by
 refine ⟨h.1, ?_⟩
 rcases h.2 with h1 | ⟨g, cap, cur, hv, hg, hc, r⟩
 ·exact .inl h1
 ·exact .inr ⟨g, cap, cur, hv, hg, k.2 g _ hc (fun c fz e => hT (by cases e; rfl)), r⟩
section
variable {α : Type} {en : α → List Value} {C : Nat} {d : α} {T : TypeId}
theorem Rws.same {w w' : World} {v : Value} {l : List α} (h : Rws en C d w v l) (hz : w.heap.size ≤ w'.heap.size) (hb : l ≠ [] → ∀ q, v.ownBlock = some q → w'.heap[q]? = w.heap[q]?) : Rws en C d w' v l := by
 obtain ⟨a, cap, rfl, h1, h2, h3⟩ := h
 refine ⟨a, cap, rfl, h1, h2, fun i hi => ?_⟩
 obtain ⟨b, off, rfl, h4, h5⟩ := h3 i hi
 have e := hb (by intro e; subst e; simp at hi) b rfl
 exact ⟨b, off, rfl, Nat.lt_of_lt_of_le h4 hz, h5.of fun i => World.cell?_of_block (a := ⟨b, i, none⟩) e⟩
theorem Rws.take {w : World} {a : Option Addr} {n cap : Nat} {l : List α} (h : Rws en C d w (.slice a n cap) l) (m : Nat) (hm : m ≤ l.length) : Rws en C d w (.slice a m cap) (l.take m) := by
 obtain ⟨a', cap', e, h1, h2, h3⟩ := h
 cases e
 refine ⟨a, cap, by simp [Nat.min_eq_left hm], by simp; omega, h2, fun i hi => ?_⟩
 rw [List.length_take] at hi
 obtain ⟨b, off, e, h4, h5⟩ := h3 i (by omega)
 refine ⟨b, off, e, h4, ?_⟩
 have e2 : (l.take m).getD i d = l.getD i d := by simp [List.getD_eq_getElem?_getD, show i < m by omega]
 rw [e2]
 exact h5
theorem Rws.drop {w : World} {b off n cap : Nat} {l : List α} (h : Rws en C d w (.slice (some ⟨b, off, none⟩) n cap) l) (m k : Nat) (hm : m ≤ l.length) (hk : k = off + m * C) : Rws en C d w (.slice (some ⟨b, k, none⟩) (l.length - m) (cap - m)) (l.drop m) := by
 obtain ⟨a', cap', e, h1, h2, h3⟩ := h
 cases e
 subst hk
 refine ⟨_, _, by rw [List.length_drop], by rw [List.length_drop]; omega, by omega, fun i hi => ?_⟩
 rw [List.length_drop] at hi
 obtain ⟨b', off', e, h4, h5⟩ := h3 (m + i) (by omega)
 cases e
 refine ⟨_, _, rfl, h4, ?_⟩
 have e2 : (l.drop m).getD i d = l.getD (m + i) d := by simp [List.getD_eq_getElem?_getD]
 have e3 : off + m * C + i * C = off + (m + i) * C := by rw [Nat.add_mul]; omega
 rw [e2, e3]
 exact h5
theorem rws_empty (w : World) (a : Option Addr) (cap : Nat) (hc : cap ≤ 9223372036854775807) : Rws en C d w (.slice a 0 cap) [] := ⟨a, cap, rfl, Nat.zero_le _, hc, fun i hi => by simp at hi⟩
def TRw (T : TypeId) (en : α → List Value) (C : Nat) (d : α) (w : World) (v : Value) (l : List α) : Prop := Rws en C d w v l ∧ (l ≠ [] → ∀ q, v.ownBlock = some q → ∃ c fz, w.heap[q]? = some (.cells c T fz))
theorem TRw.kt {T' : TypeId} {w w' : World} {v : Value} {l : List α} (h : TRw T en C d w v l) (k : KT T' w w') (hT : T ≠ T') : TRw T en C d w' v l := by
 have key : l ≠ [] → ∀ q, v.ownBlock = some q → ∃ c fz, w.heap[q]? = some (.cells c T fz) ∧ w'.heap[q]? = w.heap[q]? := fun hl q hq => by
  obtain ⟨c, fz, hc⟩ := h.2 hl q hq
  exact ⟨c, fz, hc, (k.2 q _ hc fun c fz e => hT (by cases e; rfl)).trans hc.symm⟩
 refine ⟨h.1.same k.1 fun hl q hq => ?_, fun hl q hq => ?_⟩
 ·obtain ⟨c, fz, _, h2⟩ := key hl q hq; exact h2
 ·obtain ⟨c, fz, h1, h2⟩ := key hl q hq; exact ⟨c, fz, h2.trans h1⟩
theorem TRw.below {w w' : World} {v : Value} {l : List α} (h : TRw T en C d w v l) {B : Nat} (hB : w.heap.size ≤ B) (hb : Below B w w') : TRw T en C d w' v l := by
 refine ⟨h.1.below hB hb, fun hl q hq => ?_⟩
 obtain ⟨c, fz, hc⟩ := h.2 hl q hq
 exact ⟨c, fz, (hb.block q (Nat.lt_of_lt_of_le (Array.getElem?_eq_some_iff.1 hc).1 hB)).trans hc⟩
theorem TRw.nil (w : World) : TRw T en C d w (.slice none 0 0) [] := ⟨Rws.nil w, fun h => absurd rfl h⟩
theorem Owns.trw {w : World} {base : Nat} {v : Value} {c : List α} (hen : ∀ x, (en x).length = C) (d : α) (hC : 0 < C) (h : Owns T en C w base v c) : TRw T en C d w v c := ⟨h.row hen d hC, fun _ => owns_block h⟩
theorem src_rows {w : World} {v : Value} {l : List α} (hen : ∀ x, (en x).length = C) (hC : 0 < C) (h : Rws en C d w v l) : SrcRow w v l.length C (l.flatMap en) := by
 obtain ⟨a, cap, rfl, h1, h2, h3⟩ := h
 refine ⟨a, cap, rfl, flat_length hen l, fun ha => ?_, fun ad had j u hj => ?_⟩
 ·rcases Nat.eq_zero_or_pos l.length with h0 | h0
  ·exact h0
  ·obtain ⟨b, off, e, _⟩ := h3 0 h0
   rw [ha] at e; cases e
 ·have hjl : j < l.length * C := by rw [← flat_length hen l]; exact (List.getElem?_eq_some_iff.1 hj).1
  have hdl : j / C < l.length := (Nat.div_lt_iff_lt_mul hC).2 hjl
  have hml : j % C < C := Nat.mod_lt _ hC
  have hje : j / C * C + j % C = j := by rw [Nat.mul_comm]; exact Nat.div_add_mod j C
  obtain ⟨b, off, e, _, h5⟩ := h3 (j / C) hdl
  rw [had] at e
  cases e
  have hlen := hen (l.getD (j / C) d)
  have h6 := h5 (j % C) _ (List.getElem?_eq_getElem (show j % C < (en (l.getD (j / C) d)).length by omega))
  have h7 := flat_at hen d l (j / C) hdl (j % C) _ (List.getElem?_eq_getElem (show j % C < (en (l.getD (j / C) d)).length by omega))
  rw [hje, hj] at h7
  cases h7
  rw [Go.WideShapes.add_plain]
  rw [Nat.add_assoc, hje] at h6
  exact h6
end
def encS (p : Int × Int) : List Value := [.int .i64 p.1, .int .i64 p.2]
def encW (x : Wr) : List Value := [.int .i64 x.key, .int .i64 x.val, .bool x.gone]
def encVr (x : Ver) : List Value := [.int .i64 x.key, .int .i64 x.ts, .int .i64 x.val, .bool x.gone]
structure Tv where
 rv : Value
 wv : Value
 t : Tx
def tv0 : Tv := ⟨.slice none 0 0, .slice none 0 0, tx0⟩
def encT (x : Tv) : List Value := [.int .i64 x.t.id, .int .i64 x.t.ts, x.rv, x.wv]
abbrev valT (rv wv : Value) (t : Tx) : Value := .agg #[.int .i64 t.id, .int .i64 t.ts, rv, wv]
theorem encS_length (x : Int × Int) : (encS x).length = 2 := rfl
theorem encW_length (x : Wr) : (encW x).length = 3 := rfl
theorem encVr_length (x : Ver) : (encVr x).length = 4 := rfl
theorem encT_length (x : Tv) : (encT x).length = 4 := rfl
theorem encS_one (l : List (Int × Int)) : ∀ u ∈ l.flatMap encS, u.oneCell' = true := flat_one (fun x u hu => by simp [encS] at hu; rcases hu with rfl | rfl <;> rfl) l
theorem encW_one (l : List Wr) : ∀ u ∈ l.flatMap encW, u.oneCell' = true := flat_one (fun x u hu => by simp [encW] at hu; rcases hu with rfl | rfl | rfl <;> rfl) l
theorem encVr_one (l : List Ver) : ∀ u ∈ l.flatMap encVr, u.oneCell' = true := flat_one (fun x u hu => by simp [encVr] at hu; rcases hu with rfl | rfl | rfl | rfl <;> rfl) l
abbrev SRow (w : World) (v : Value) (l : List (Int × Int)) : Prop := Rws encS 2 (0, 0) w v l
abbrev WRow (w : World) (v : Value) (l : List Wr) : Prop := Rws encW 3 wr0 w v l
abbrev VRow (w : World) (v : Value) (l : List Ver) : Prop := Rws encVr 4 ver0 w v l
abbrev STy (w : World) (v : Value) (l : List (Int × Int)) : Prop := TRw 113 encS 2 (0, 0) w v l
abbrev WTy (w : World) (v : Value) (l : List Wr) : Prop := TRw 74 encW 3 wr0 w v l
theorem SRow.at_ {w : World} {v : Value} {l : List (Int × Int)} (h : SRow w v l) {i : Nat} (hi : i < l.length) : ∃ b off cap, v = .slice (some ⟨b, off, none⟩) l.length cap ∧ b < w.heap.size ∧ w.cell? ⟨b, off + i * 2, none⟩ = some (.int .i64 (l.getD i (0, 0)).1) ∧ w.cell? ⟨b, off + i * 2 + 1, none⟩ = some (.int .i64 (l.getD i (0, 0)).2) := by
 obtain ⟨b, off, cap, rfl, _, _, h4, h5⟩ := h.at0 (by omega)
 exact ⟨b, off, cap, rfl, h4, h5 i hi 0 _ rfl, h5 i hi 1 _ rfl⟩
theorem WRow.at_ {w : World} {v : Value} {l : List Wr} (h : WRow w v l) {i : Nat} (hi : i < l.length) : ∃ b off cap, v = .slice (some ⟨b, off, none⟩) l.length cap ∧ b < w.heap.size ∧ w.cell? ⟨b, off + i * 3, none⟩ = some (.int .i64 (wAt l i).key) ∧ w.cell? ⟨b, off + i * 3 + 1, none⟩ = some (.int .i64 (wAt l i).val) ∧ w.cell? ⟨b, off + i * 3 + 2, none⟩ = some (.bool (wAt l i).gone) := by
 obtain ⟨b, off, cap, rfl, _, _, h4, h5⟩ := h.at0 (by omega)
 exact ⟨b, off, cap, rfl, h4, h5 i hi 0 _ rfl, h5 i hi 1 _ rfl, h5 i hi 2 _ rfl⟩
theorem VRow.at_ {w : World} {v : Value} {l : List Ver} (h : VRow w v l) {i : Nat} (hi : i < l.length) : ∃ b off cap, v = .slice (some ⟨b, off, none⟩) l.length cap ∧ b < w.heap.size ∧ w.cell? ⟨b, off + i * 4, none⟩ = some (.int .i64 (vAt l i).key) ∧ w.cell? ⟨b, off + i * 4 + 1, none⟩ = some (.int .i64 (vAt l i).ts) ∧ w.cell? ⟨b, off + i * 4 + 2, none⟩ = some (.int .i64 (vAt l i).val) ∧ w.cell? ⟨b, off + i * 4 + 3, none⟩ = some (.bool (vAt l i).gone) := by
 obtain ⟨b, off, cap, rfl, _, _, h4, h5⟩ := h.at0 (by omega)
 exact ⟨b, off, cap, rfl, h4, h5 i hi 0 _ rfl, h5 i hi 1 _ rfl, h5 i hi 2 _ rfl, h5 i hi 3 _ rfl⟩
def TvRd (w : World) (rv wv : Value) (t : Tx) : Prop := SRow w rv t.rd ∧ WRow w wv t.wr
def TvTy (w : World) (rv wv : Value) (t : Tx) : Prop := STy w rv t.rd ∧ WTy w wv t.wr
theorem TvTy.rd {w : World} {rv wv : Value} {t : Tx} (h : TvTy w rv wv t) : TvRd w rv wv t := ⟨h.1.1, h.2.1⟩
theorem TvRd.below {w w' : World} {rv wv : Value} {t : Tx} (h : TvRd w rv wv t) {B : Nat} (hB : w.heap.size ≤ B) (hb : Below B w w') : TvRd w' rv wv t := ⟨h.1.below hB hb, h.2.below hB hb⟩
theorem TvTy.below {w w' : World} {rv wv : Value} {t : Tx} (h : TvTy w rv wv t) {B : Nat} (hB : w.heap.size ≤ B) (hb : Below B w w') : TvTy w' rv wv t := ⟨h.1.below hB hb, h.2.below hB hb⟩
theorem TvTy.kt {T : TypeId} {w w' : World} {rv wv : Value} {t : Tx} (h : TvTy w rv wv t) (k : KT T w w') (h1 : 113 ≠ T) (h2 : 74 ≠ T) : TvTy w' rv wv t := ⟨h.1.kt k h1, h.2.kt k h2⟩
def LocT (base : Nat) (rv wv : Value) : Prop := (∀ q, rv.ownBlock = some q → base ≤ q) ∧ ∀ q, wv.ownBlock = some q → base ≤ q
theorem LocT.mono {base b2 : Nat} {rv wv : Value} (h : LocT base rv wv) (hb : b2 ≤ base) : LocT b2 rv wv := ⟨fun q hq => Nat.le_trans hb (h.1 q hq), fun q hq => Nat.le_trans hb (h.2 q hq)⟩
def TxR (w : World) (v : Value) (l : List Tx) : Prop := ∃ xs : List Tv, xs.map (·.t) = l ∧ Rws encT 4 tv0 w v xs ∧ ∀ x, x ∈ xs → TvRd w x.rv x.wv x.t
def TxTy (w : World) (v : Value) (l : List Tx) : Prop := ∃ xs : List Tv, xs.map (·.t) = l ∧ TRw 28 encT 4 tv0 w v xs ∧ ∀ x, x ∈ xs → TvTy w x.rv x.wv x.t
def OwnTx (w : World) (base : Nat) (v : Value) (l : List Tx) : Prop := ∃ xs : List Tv, xs.map (·.t) = l ∧ Owns 28 encT 4 w base v xs ∧ ∀ x, x ∈ xs → TvTy w x.rv x.wv x.t ∧ LocT base x.rv x.wv
theorem TxTy.row {w : World} {v : Value} {l : List Tx} (h : TxTy w v l) : TxR w v l := by
 obtain ⟨xs, h1, h2, h3⟩ := h
 exact ⟨xs, h1, h2.1, fun x hx => (h3 x hx).rd⟩
theorem OwnTx.ty {w : World} {base : Nat} {v : Value} {l : List Tx} (h : OwnTx w base v l) : TxTy w v l := by
 obtain ⟨xs, h1, h2, h3⟩ := h
 exact ⟨xs, h1, h2.trw encT_length tv0 (by omega), fun x hx => (h3 x hx).1⟩
theorem TxR.below {w w' : World} {v : Value} {l : List Tx} (h : TxR w v l) {B : Nat} (hB : w.heap.size ≤ B) (hb : Below B w w') : TxR w' v l := by
 obtain ⟨xs, h1, h2, h3⟩ := h
 exact ⟨xs, h1, h2.below hB hb, fun x hx => (h3 x hx).below hB hb⟩
theorem OwnTx.below {w w' : World} {base : Nat} {v : Value} {l : List Tx} (h : OwnTx w base v l) {B : Nat} (hB : w.heap.size ≤ B) (hb : Below B w w') : OwnTx w' base v l := by
 obtain ⟨xs, h1, h2, h3⟩ := h
 exact ⟨xs, h1, h2.below hB hb, fun x hx => ⟨(h3 x hx).1.below hB hb, (h3 x hx).2⟩⟩
theorem OwnTx.kt {T : TypeId} {w w' : World} {base : Nat} {v : Value} {l : List Tx} (h : OwnTx w base v l) (k : KT T w w') (h0 : 28 ≠ T) (h1 : 113 ≠ T) (h2 : 74 ≠ T) : OwnTx w' base v l := by
 obtain ⟨xs, e, h3, h4⟩ := h
 exact ⟨xs, e, owns_kt h3 k h0, fun x hx => ⟨(h4 x hx).1.kt k h1 h2, (h4 x hx).2⟩⟩
theorem OwnTx.mono {w : World} {base b2 : Nat} {v : Value} {l : List Tx} (h : OwnTx w base v l) (hb : b2 ≤ base) : OwnTx w b2 v l := by
 obtain ⟨xs, h1, h2, h3⟩ := h
 exact ⟨xs, h1, h2.mono hb, fun x hx => ⟨(h3 x hx).1, (h3 x hx).2.mono hb⟩⟩
theorem OwnTx.nil (w : World) (base : Nat) : OwnTx w base (.slice none 0 0) [] := ⟨[], rfl, Owns.nil w base, fun x hx => by simp at hx⟩
theorem TxTy.nil (w : World) : TxTy w (.slice none 0 0) [] := ⟨[], rfl, TRw.nil w, fun x hx => by simp at hx⟩
theorem TxR.len {w : World} {v : Value} {l : List Tx} (h : TxR w v l) : ∃ a cap, v = .slice a l.length cap ∧ l.length ≤ cap ∧ cap ≤ 9223372036854775807 := by
 obtain ⟨xs, rfl, h2, _⟩ := h
 rw [List.length_map]
 exact h2.len
theorem TxR.at_ {w : World} {v : Value} {l : List Tx} (h : TxR w v l) {i : Nat} (hi : i < l.length) : ∃ b off cap rv wv, v = .slice (some ⟨b, off, none⟩) l.length cap ∧ b < w.heap.size ∧ w.cell? ⟨b, off + i * 4, none⟩ = some (.int .i64 (txAt l i).id) ∧ w.cell? ⟨b, off + i * 4 + 1, none⟩ = some (.int .i64 (txAt l i).ts) ∧ w.cell? ⟨b, off + i * 4 + 2, none⟩ = some rv ∧ w.cell? ⟨b, off + i * 4 + 3, none⟩ = some wv ∧ TvRd w rv wv (txAt l i) := by
 obtain ⟨xs, rfl, h2, h3⟩ := h
 rw [List.length_map] at hi ⊢
 obtain ⟨b, off, cap, rfl, _, _, h4, h5⟩ := h2.at0 (by omega)
 have e : txAt (xs.map (·.t)) i = (xs.getD i tv0).t := by simp [txAt, List.getD_eq_getElem?_getD, List.getElem?_eq_getElem hi]
 have hm : xs.getD i tv0 ∈ xs := by simp [List.getD_eq_getElem?_getD, List.getElem?_eq_getElem hi]
 rw [e]
 exact ⟨b, off, cap, _, _, rfl, h4, h5 i hi 0 _ rfl, h5 i hi 1 _ rfl, h5 i hi 2 _ rfl, h5 i hi 3 _ rfl, h3 _ hm⟩
theorem OwnTx.push {w5 w6 : World} {base : Nat} {ov v6 : Value} {xs : List Tv} {x : Tv} {tmp : Obj} (h2 : Owns 28 encT 4 w5 base ov xs) (h3 : ∀ y, y ∈ xs → TvTy w5 y.rv y.wv y.t ∧ LocT base y.rv y.wv) (hx : TvTy w5 x.rv x.wv x.t) (hxl : LocT base x.rv x.wv)
  (hg : (w5.alloc tmp).grownBy w6 ov.ownBlock) (hown : w6.ownsRow base 28 4 v6 (xs.length + 1) (xs.flatMap encT ++ encT x)) : OwnTx w6 base v6 (xs.map (·.t) ++ [x.t]) ∧ KT 28 w5 w6 := by
 have k1 : KT 28 w5 (w5.alloc tmp) := KT.below (Below.alloc (Below.refl _ _) (Nat.le_refl _) _) (Nat.le_refl _)
 have k2 : KT 28 (w5.alloc tmp) w6 := KT.grown hg fun q hq => by
  obtain ⟨c, fz, hc⟩ := owns_block h2 q hq
  exact ⟨c, fz, (Below.heap_alloc _ _ _ (Array.getElem?_eq_some_iff.1 hc).1).trans hc⟩
 have k := k1.trans k2
 refine ⟨⟨xs ++ [x], by simp, Owns.app hown, fun y hy => ?_⟩, k⟩
 rw [List.mem_append, List.mem_singleton] at hy
 rcases hy with hy | rfl
 ·exact ⟨(h3 y hy).1.kt k (by decide) (by decide), (h3 y hy).2⟩
 ·exact ⟨hx.kt k (by decide) (by decide), hxl⟩
theorem infoSeen : (Tryz.prog.info? 113).map (fun i => (i.zero, i.size, i.bytes)) = some (some (.agg #[.int .i64 0, .int .i64 0]), 2, 16) := by kernel_rfl
theorem infoWrite : (Tryz.prog.info? 74).map (fun i => (i.zero, i.size, i.bytes)) = some (some (.agg #[.int .i64 0, .int .i64 0, .bool false]), 3, 24) := by kernel_rfl
theorem infoVer : (Tryz.prog.info? 64).map (fun i => (i.zero, i.size, i.bytes)) = some (some (.agg #[.int .i64 0, .int .i64 0, .int .i64 0, .bool false]), 4, 32) := by kernel_rfl
theorem infoTx : (Tryz.prog.info? 28).map (fun i => (i.zero, i.size, i.bytes)) = some (some (.agg #[.int .i64 0, .int .i64 0, .slice none 0 0, .slice none 0 0]), 4, 64) := by kernel_rfl
def encB (x : Int) : List Value := [.int .u8 x]
theorem encB_length (x : Int) : (encB x).length = 1 := rfl
theorem encB_one (l : List Int) : ∀ u ∈ l.flatMap encB, u.oneCell' = true := flat_one (fun x u hu => by simp [encB] at hu; subst hu; rfl) l
abbrev BRow (w : World) (v : Value) (l : List Int) : Prop := Rws encB 1 0 w v l
abbrev OwnBy (w : World) (base : Nat) (v : Value) (l : List Int) : Prop := Owns 5 encB 1 w base v l
theorem BRow.at_ {w : World} {v : Value} {l : List Int} (h : BRow w v l) {i : Nat} (hi : i < l.length) : ∃ b off cap, v = .slice (some ⟨b, off, none⟩) l.length cap ∧ b < w.heap.size ∧ w.cell? ⟨b, off + i, none⟩ = some (.int .u8 (l.getD i 0)) := by
 obtain ⟨b, off, cap, rfl, _, _, h4, h5⟩ := h.at0 (by omega)
 have := h5 i hi 0 _ rfl
 rw [Nat.mul_one] at this
 exact ⟨b, off, cap, rfl, h4, this⟩
end Go.Proofs.YthkoaecafmhlcaaGreat
