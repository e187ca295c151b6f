/- Plain mathematics of lists of intervals: no program in sight. -/
import Derived.Below
import Derived.Calls
import Derived.Laws.World
import Derived.Deep.Draws
namespace Go.Proofs.Ytiaahfccebmkdaa
open Go.RowKit

abbrev Iv := Int × Int
def iLo (l : List Iv) (i : Nat) : Int := (l.getD i (0, 0)).1
def iHi (l : List Iv) (i : Nat) : Int := (l.getD i (0, 0)).2
def validB (lo hi : Int) : Bool := decide (0 ≤ lo ∧ lo ≤ hi ∧ hi ≤ 3000000000000000)
def hasB (lo hi x : Int) : Bool := decide (lo ≤ x ∧ x ≤ hi)
def mx (a b : Int) : Int := if b > a then b else a
def mn (a b : Int) : Int := if b < a then b else a
theorem mx_spec (a b : Int) : a ≤ mx a b ∧ b ≤ mx a b ∧ (mx a b = a ∨ mx a b = b) := by unfold mx; split <;> omega
theorem mn_spec (a b : Int) : mn a b ≤ a ∧ mn a b ≤ b ∧ (mn a b = a ∨ mn a b = b) := by unfold mn; split <;> omega
def allV (l : List Iv) : Nat → Bool
  | 0 => true
  | k + 1 => allV l k && validB (iLo l k) (iHi l k)
def listB (l : List Iv) : Bool := decide (l.length ≤ 64) && allV l l.length
theorem allV_false (l : List Iv) (k : Nat) (hv : validB (iLo l k) (iHi l k) = false) : ∀ n, k < n → allV l n = false := by
  intro n
  induction n with
  | zero => intro h; omega
  | succ n ih =>
    intro h
    rcases Nat.lt_or_ge k n with h1 | h1
    · simp [allV, ih h1]
    · have : n = k := by omega
      subst this; simp [allV, hv]
theorem allV_at (l : List Iv) (n : Nat) (h : allV l n = true) : ∀ k, k < n → validB (iLo l k) (iHi l k) = true := by
  intro k hk
  cases hv : validB (iLo l k) (iHi l k) with
  | true => rfl
  | false => rw [allV_false l k hv n hk] at h; cases h
theorem validB_iff (lo hi : Int) : validB lo hi = true ↔ 0 ≤ lo ∧ lo ≤ hi ∧ hi ≤ 3000000000000000 := by simp [validB]
theorem listB_iff (l : List Iv) : listB l = true ↔ l.length ≤ 64 ∧ ∀ k, k < l.length → 0 ≤ iLo l k ∧ iLo l k ≤ iHi l k ∧ iHi l k ≤ 3000000000000000 := by
  unfold listB
  simp only [Bool.and_eq_true, decide_eq_true_eq]
  constructor
  · rintro ⟨h1, h2⟩; exact ⟨h1, fun k hk => (validB_iff _ _).1 (allV_at l _ h2 k hk)⟩
  · rintro ⟨h1, h2⟩
    refine ⟨h1, ?_⟩
    cases h : allV l l.length with
    | true => rfl
    | false =>
      exfalso
      have : ∀ n, n ≤ l.length → allV l n = true := by
        intro n
        induction n with
        | zero => intro _; rfl
        | succ n ih => intro hn; simp only [allV, Bool.and_eq_true]; exact ⟨ih (by omega), (validB_iff _ _).2 (h2 n (by omega))⟩
      rw [this _ (Nat.le_refl _)] at h; cases h
def dep (l : List Iv) (x : Int) : Nat → Int
  | 0 => 0
  | k + 1 => dep l x k + if hasB (iLo l k) (iHi l k) x = true then 1 else 0
theorem dep_bd (l : List Iv) (x : Int) (k : Nat) : 0 ≤ dep l x k ∧ dep l x k ≤ k := by
  induction k with
  | zero => simp [dep]
  | succ k ih => simp only [dep]; split <;> omega
def hLo (l : List Iv) : Nat → Int
  | 0 => iLo l 0
  | k + 1 => mn (hLo l k) (iLo l (k + 1))
def hHi (l : List Iv) : Nat → Int
  | 0 => iHi l 0
  | k + 1 => mx (hHi l k) (iHi l (k + 1))
def ivEq (a b c d : Int) : Bool := decide (a = c ∧ b = d)
def meetOk (a1 a2 b1 b2 : Int) : Bool := validB a1 a2 && validB b1 b2 && validB (mx a1 b1) (mn a2 b2)
def meetLo (a1 a2 b1 b2 : Int) : Int := if meetOk a1 a2 b1 b2 = true then mx a1 b1 else 0
def meetHi (a1 a2 b1 b2 : Int) : Int := if meetOk a1 a2 b1 b2 = true then mn a2 b2 else 0
def meetEr (a1 a2 b1 b2 : Int) : Int := if validB a1 a2 = true ∧ validB b1 b2 = true then 0 else 1
def timeB (n : Int) : Bool := decide (0 ≤ n ∧ n ≤ 3000000000000000)
def growOk (a1 a2 l r : Int) : Bool := validB a1 a2 && timeB l && timeB r
def growLo (a1 a2 l r : Int) : Int := if growOk a1 a2 l r = true then mx 0 (a1 - l) else 0
def growHi (a1 a2 l r : Int) : Int := if growOk a1 a2 l r = true then mn 3000000000000000 (a2 + r) else 0
def growEr (a1 a2 l r : Int) : Int := if growOk a1 a2 l r = true then 0 else 1
def hullOk (l : List Iv) : Bool := listB l && decide (l.length ≠ 0)
def hullLo (l : List Iv) : Int := if hullOk l = true then hLo l (l.length - 1) else 0
def hullHi (l : List Iv) : Int := if hullOk l = true then hHi l (l.length - 1) else 0
def hullEr (l : List Iv) : Int := if hullOk l = true then 0 else 1
def depthV (l : List Iv) (x : Int) : Int := if listB l = true then dep l x l.length else 0
def listEr (l : List Iv) : Int := if listB l = true then 0 else 1

theorem hide {p : Prop} (h : p) : Hid p := h
theorem bcell {W w1 : World} (hb : Below W.heap.size W w1) : (∀ b o, b < W.heap.size → w1.cell? ⟨b, o, none⟩ = W.cell? ⟨b, o, none⟩) ∧ (∀ b o, b < W.heap.size → w1.frozen? ⟨b, o, none⟩ = W.frozen? ⟨b, o, none⟩) :=
  ⟨fun b o h => hb.cell (p := ⟨b, o, none⟩) h, fun b o h => hb.frozen (p := ⟨b, o, none⟩) h⟩
theorem below_drewN {B : Nat} {a w : World} (h : Below B a w) (n : Nat) : Below B a (w.drewN n) := ⟨h.os, h.tape, h.output, h.size, h.block⟩
theorem old1 (w : World) (o1 : Obj) {b : Nat} (h : b < w.heap.size) (off : Nat) : (w.alloc o1).cell? ⟨b, off, none⟩ = w.cell? ⟨b, off, none⟩ ∧ (w.alloc o1).frozen? ⟨b, off, none⟩ = w.frozen? ⟨b, off, none⟩ :=
  ⟨((Below.refl w.heap.size w).alloc (Nat.le_refl _) o1).cell (p := ⟨b, off, none⟩) h, ((Below.refl w.heap.size w).alloc (Nat.le_refl _) o1).frozen (p := ⟨b, off, none⟩) h⟩
theorem old2 (w : World) (o1 o2 : Obj) {b : Nat} (h : b < w.heap.size) (off : Nat) : ((w.alloc o1).alloc o2).cell? ⟨b, off, none⟩ = w.cell? ⟨b, off, none⟩ ∧ ((w.alloc o1).alloc o2).frozen? ⟨b, off, none⟩ = w.frozen? ⟨b, off, none⟩ := by
  have hz : (w.alloc o1).heap.size = w.heap.size + 1 := World.size_alloc _ _
  have h1 := old1 (w.alloc o1) o2 (b := b) (by omega) off
  have h2 := old1 w o1 h off
  exact ⟨h1.1.trans h2.1, h1.2.trans h2.2⟩
theorem bk {W w1 : World} {B : Nat} (hb : Below B W w1) (q : Nat) (hq : q < B) : (∀ o, w1.cell? ⟨q, o, none⟩ = W.cell? ⟨q, o, none⟩) ∧ (∀ o, w1.frozen? ⟨q, o, none⟩ = W.frozen? ⟨q, o, none⟩) :=
  ⟨fun o => hb.cell (p := ⟨q, o, none⟩) hq, fun o => hb.frozen (p := ⟨q, o, none⟩) hq⟩
theorem bk3 {W w1 : World} (hb : Below W.heap.size W w1) (q : Nat) (hq : q < W.heap.size) : (∀ o, w1.cell? ⟨q, o, none⟩ = W.cell? ⟨q, o, none⟩) ∧ (∀ o, w1.frozen? ⟨q, o, none⟩ = W.frozen? ⟨q, o, none⟩) ∧ q < w1.heap.size ∧ q < w1.heap.size + 1 ∧ q < w1.heap.size + 1 + 1 ∧ q < w1.heap.size + 1 + 1 + 1 ∧ q < w1.heap.size + 1 + 1 + 1 + 1 ∧ q < w1.heap.size + 1 + 1 + 1 + 1 + 1 := by
  have h := Nat.lt_of_lt_of_le hq hb.size
  exact ⟨(bk hb q hq).1, (bk hb q hq).2, h, by omega, by omega, by omega, by omega, by omega⟩
theorem ret_bool {a b : Bool} (h : a = b) : Ending.returned (.bool a) = Ending.returned (.bool b) := by rw [h]
theorem ret_int {k : IntKind} {a b : Int} (h : a = b) : Ending.returned (.int k a) = Ending.returned (.int k b) := by rw [h]
/-- The slice value v reads as the list l of intervals. -/
def IvRow (w : World) (v : Value) (l : List Iv) : Prop :=
  ∃ a cap, v = .slice a l.length cap ∧ l.length ≤ cap ∧ cap ≤ 9223372036854775807 ∧ ∀ i, i < l.length → ∃ b off, a = some ⟨b, off, none⟩ ∧ b < w.heap.size ∧
    w.cell? ⟨b, off + i * 2, none⟩ = some (.int .i64 (iLo l i)) ∧ w.cell? ⟨b, off + i * 2 + 1, none⟩ = some (.int .i64 (iHi l i))
theorem IvRow.below {w w' : World} {v : Value} {l : List Iv} (h : IvRow w v l) {B : Nat} (hB : w.heap.size ≤ B) (hb : Below B w w') : IvRow w' v l := by
  obtain ⟨a, cap, rfl, h1, h2, h3⟩ := h
  refine ⟨a, cap, rfl, h1, h2, fun i hi => ?_⟩
  obtain ⟨b, off, rfl, h4, h5, h6⟩ := h3 i hi
  exact ⟨b, off, rfl, Nat.lt_of_lt_of_le h4 hb.size, (hb.cell (p := ⟨b, off + i * 2, none⟩) (Nat.lt_of_lt_of_le h4 hB)).trans h5, (hb.cell (p := ⟨b, off + i * 2 + 1, none⟩) (Nat.lt_of_lt_of_le h4 hB)).trans h6⟩
theorem IvRow.at0 {w : World} {v : Value} {l : List Iv} (h : IvRow w v l) (hl : 0 < l.length) : ∃ b off cap, v = .slice (some ⟨b, off, none⟩) l.length cap ∧ l.length ≤ cap ∧ cap ≤ 9223372036854775807 ∧ b < w.heap.size ∧
    w.cell? ⟨b, off, none⟩ = some (.int .i64 (iLo l 0)) ∧ w.cell? ⟨b, off + 1, none⟩ = some (.int .i64 (iHi l 0)) ∧
    ∀ i, i < l.length → w.cell? ⟨b, off + i * 2, none⟩ = some (.int .i64 (iLo l i)) ∧ w.cell? ⟨b, off + i * 2 + 1, none⟩ = some (.int .i64 (iHi l i)) := by
  obtain ⟨a, cap, rfl, h1, h2, h3⟩ := h
  obtain ⟨b, off, rfl, h4, h5, h6⟩ := h3 0 hl
  refine ⟨b, off, cap, rfl, h1, h2, h4, by simpa using h5, by simpa using h6, fun i hi => ?_⟩
  obtain ⟨b', off', h7, h8, h9, h10⟩ := h3 i hi
  simp only [Option.some.injEq, Addr.mk.injEq, and_true] at h7
  obtain ⟨rfl, rfl⟩ := h7
  exact ⟨h9, h10⟩
end Go.Proofs.Ytiaahfccebmkdaa
