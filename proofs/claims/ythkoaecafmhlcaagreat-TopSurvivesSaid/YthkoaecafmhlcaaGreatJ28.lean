/- Parts TtL TtM TtN TtO TtQ TtS of the proof, joined. -/
import Derived.Test.YthkoaecafmhlcaaGreatTtK
/- Package journal: records' start; what the integers of a transaction are. -/
namespace Go.Proofs.YthkoaecafmhlcaaGreat
open Go.RowKit
set_option maxRecDepth 100000 in
set_option maxHeartbeats 400000 in
theorem records_any (a : Option Addr) (n c : Nat) (w : World) : Calls Tryz.prog 24 #[.slice a n c] w fun e w' =>
  e = .returned (.func (.func 58) #[] #[.pointer (some ⟨w.heap.size, 0, none⟩)]) ∧ w' = w.alloc (.cells #[.slice a n c] 79) := by
 go_enter Tryz.func24, Tryz.ntmps24
 go_wp2_with fail
 go_ret
 exact ⟨rfl, rfl⟩
theorem sml_app {a b : List Int} (h : Sml a) (k : Sml b) : Sml (a ++ b) := fun x hx => (List.mem_append.1 hx).elim (h x) (k x)
theorem sml_itx {t : Tx} (h : Fm t) : Sml (itx t) := by
 obtain ⟨h1, h2, h3, h4, h5, h6⟩ := h
 refine sml_app (sml_app ?_ ?_) (sml_app ?_ ?_)
 ·intro x hx
  simp only [List.mem_cons, List.not_mem_nil, or_false] at hx
  omega
 ·intro x hx
  obtain ⟨s, hs, hx⟩ := List.mem_flatMap.1 hx
  obtain ⟨i, hi, rfl⟩ := List.mem_iff_getElem.1 hs
  have hr := h1 i hi
  unfold RdI at hr
  rw [show t.rd.getD i (0, 0) = t.rd[i] by simp [List.getD_eq_getElem?_getD, List.getElem?_eq_getElem hi]] at hr
  simp only [sI, List.mem_cons, List.not_mem_nil, or_false] at hx
  omega
 ·intro x hx
  simp only [List.mem_cons, List.not_mem_nil, or_false] at hx
  omega
 ·intro x hx
  obtain ⟨s, hs, hx⟩ := List.mem_flatMap.1 hx
  obtain ⟨i, hi, rfl⟩ := List.mem_iff_getElem.1 hs
  have hr := h2 i hi
  unfold WrI at hr
  rw [show wAt t.wr i = t.wr[i] from wAt_lt hi] at hr
  simp only [wI, List.mem_cons, List.not_mem_nil, or_false] at hx
  unfold gI at hx
  rcases hx with hx | hx | hx
  ·omega
  ·omega
  ·split at hx <;> omega
theorem okL_itx {t : Tx} (h : Fm t) : OkL (itx t) := ⟨by have := itx_len t h.2.2.2.2.1 h.2.2.2.2.2; omega, sml_itx h⟩
end Go.Proofs.YthkoaecafmhlcaaGreat
/- Package copies: the small functions. -/
namespace Go.Proofs.YthkoaecafmhlcaaGreat
open Go.RowKit
set_option maxRecDepth 100000 in
set_option maxHeartbeats 400000 in
theorem csize_any (i : Int) (a : Option Addr) (n c : Nat) (w : World) : Calls Tryz.prog 27 #[.agg #[.int .i64 i, .slice a n c]] w fun e w' => e = .returned (.int .i64 n) ∧ Below w.heap.size w w' := by
 go_enter Tryz.func27, Tryz.ntmps27
 go_wp2_with fail
 go_ret
 exact ⟨rfl, (by ((with_reducible repeat' first | exact .refl _ _ | refine .alloc ?_ ?_ _ | refine .setCell ?_ ?_ _ | refine .drew ?_ | refine below_drewN ?_ _) <;> first | omega | simp <;> omega))⟩
set_option maxRecDepth 100000 in
set_option maxHeartbeats 400000 in
theorem cid_any (i : Int) (a : Option Addr) (n c : Nat) (w : World) : Calls Tryz.prog 61 #[.agg #[.int .i64 i, .slice a n c]] w fun e w' => e = .returned (.int .i64 i) ∧ Below w.heap.size w w' := by
 go_enter Tryz.func61, Tryz.ntmps61
 go_wp2_with fail
 go_ret
 exact ⟨rfl, (by ((with_reducible repeat' first | exact .refl _ _ | refine .alloc ?_ ?_ _ | refine .setCell ?_ ?_ _ | refine .drew ?_ | refine below_drewN ?_ _) <;> first | omega | simp <;> omega))⟩
set_option maxRecDepth 100000 in
set_option maxHeartbeats 400000 in
theorem cValid3_any (i t : Int) (a b : Option Addr) (n c m d : Nat) (w : World) : Calls Tryz.prog 71 #[.agg #[.int .i64 i, .int .i64 t, .slice a n c, .slice b m d]] w fun e w' => e = .returned (.int .i64 t) ∧ Below w.heap.size w w' := by
 go_enter Tryz.func71, Tryz.ntmps71
 go_wp2_with fail
 go_ret
 exact ⟨rfl, (by ((with_reducible repeat' first | exact .refl _ _ | refine .alloc ?_ ?_ _ | refine .setCell ?_ ?_ _ | refine .drew ?_ | refine below_drewN ?_ _) <;> first | omega | simp <;> omega))⟩
set_option maxRecDepth 100000 in
set_option maxHeartbeats 400000 in
theorem wrong3_any (k t : Int) (w : World) : Calls Tryz.prog 108 #[.agg #[.int .i64 k, .int .i64 t]] w fun e w' => e = .returned (.int .i64 k) ∧ Below w.heap.size w w' := by
 go_enter Tryz.func108, Tryz.ntmps108
 go_wp2_with fail
 go_ret
 exact ⟨rfl, (by ((with_reducible repeat' first | exact .refl _ _ | refine .alloc ?_ ?_ _ | refine .setCell ?_ ?_ _ | refine .drew ?_ | refine below_drewN ?_ _) <;> first | omega | simp <;> omega))⟩
set_option maxRecDepth 100000 in
set_option maxHeartbeats 400000 in
theorem wrong4_any (k x : Int) (g : Bool) (w : World) : Calls Tryz.prog 110 #[.agg #[.int .i64 k, .int .i64 x, .bool g]] w fun e w' => e = .returned (.int .i64 k) ∧ Below w.heap.size w w' := by
 go_enter Tryz.func110, Tryz.ntmps110
 go_wp2_with fail
 go_ret
 exact ⟨rfl, (by ((with_reducible repeat' first | exact .refl _ _ | refine .alloc ?_ ?_ _ | refine .setCell ?_ ?_ _ | refine .drew ?_ | refine below_drewN ?_ _) <;> first | omega | simp <;> omega))⟩
end Go.Proofs.YthkoaecafmhlcaaGreat
/- Package copies: rising, of what a transaction has seen. -/
namespace Go.Proofs.YthkoaecafmhlcaaGreat
open Go.RowKit
attribute [local simp] size_drewT
set_option maxHeartbeats 1000000 in
theorem risingSn_any (v : Value) (l : List (Int × Int)) (w : World) (h : SRow w v l) (hr : ∀ i, i < l.length → RdI l i) (hl : l.length ≤ 8) :
  Calls Tryz.prog 107 #[v, .func (.func 108) #[] #[]] w fun e w' => e = .returned (.bool true) ∧ Below w.heap.size w w' := by
 obtain ⟨a1, cap1, rfl, -⟩ := h.len
 have HI := hide (fun (V : World) (hV : Below w.heap.size w V) => h.below (Nat.le_refl _) hV)
 have HR := hide hr
 clear h hr
 go_enter Tryz.func107, Tryz.ntmps107
 go_wp2_with fail
 go_loopw [10, 5] (fun s10 s5 wx => ∃ (k : Nat) (last : Int), k ≤ l.length ∧ s10 = .int .i64 k ∧ s5 = .int .i64 last ∧ Hid (∀ i, i < l.length → i = k → last < (l.getD i (0, 0)).1) ∧ Below w.heap.size w wx) (fun s10 _ _ => l.length - (intOf s10).toNat)
 case atStart => exact ⟨0, 0, Nat.zero_le _, rfl, rfl, hide (fun i hi e => by have := (HR.out i hi).1; omega), Below.refl _ _⟩
 case round =>
  obtain ⟨k, last, hk, rfl, rfl, HL, hB⟩ := hrel
  by_cases hlt : k < l.length
  ·obtain ⟨b, off, cap', hb, hlt0, x0, x1⟩ := SRow.at_ (HI.out wr hB) hlt
   cases hb
   have hgt := HL.out k hlt rfl
   have hnx : ∀ i, i < l.length → i = k + 1 → (l.getD k (0, 0)).1 < (l.getD i (0, 0)).1 := fun i hi e => by
    subst e
    exact (HR.out (k + 1) hi).2.2 (Nat.succ_pos _)
   obtain ⟨sk, hsk⟩ : ∃ x, x = (l.getD k (0, 0)).1 := ⟨_, rfl⟩
   obtain ⟨st, hst⟩ : ∃ x, x = (l.getD k (0, 0)).2 := ⟨_, rfl⟩
   rw [← hsk] at x0 hgt hnx
   rw [← hst] at x1
   have HN := hide hnx
   have I1 : (0 : Int) ≤ (k : Int) := by omega
   have I2 : (k : Int) < (l.length : Int) := by omega
   have g1 : decide (sk ≤ last) = false := decide_eq_false (by omega)
   have hzB := hB.size
   clear hsk hst hnx
   go_wp2_with (first
    | (go_at_call 108; (with_reducible refine (wrong3_any _ _ (wr.alloc (.cells #[.int .i64 sk, .int .i64 st] 113))).mono ?_); rintro e w5 ⟨rfl, b5⟩; have z5 := b5.size; have bx5 := (BxC.made wr [.int .i64 sk, .int .i64 st] 113).below (by simp) b5; have k0 := bx5.1 0 _ rfl; have k1 := bx5.1 1 _ rfl; have bw5 : Below w.heap.size w w5 := (by ((with_reducible repeat' first | exact .refl _ _ | exact b5 | exact hB | refine .alloc ?_ ?_ _ | refine .setCell ?_ ?_ _ | refine .drew ?_ | refine below_drewN ?_ _ | refine Below.trans ?_ (b5.mono ?_) | refine Below.trans ?_ (hB.mono ?_)) <;> first | omega | simp <;> omega)); clear bx5)
    | (go_at_call 108; (with_reducible refine (wrong3_any _ _ _).mono ?_); rintro e w6 ⟨rfl, b6⟩; have bw6 : Below w.heap.size w w6 := bw5.trans (b6.mono bw5.size)))
   go_roundw
   case rel => exact ⟨k + 1, sk, by omega, by go_num, rfl, HN, bw6⟩
   case measure => simp [intOf]; omega
  ·obtain rfl : k = l.length := by omega
   go_wp2_with fail
   go_ret
   exact ⟨rfl, hB⟩
end Go.Proofs.YthkoaecafmhlcaaGreat
/- Package copies: rising, of what a transaction has written. -/
namespace Go.Proofs.YthkoaecafmhlcaaGreat
open Go.RowKit
attribute [local simp] size_drewT
set_option maxHeartbeats 1000000 in
theorem risingWr_any (v : Value) (l : List Wr) (w : World) (h : WRow w v l) (hr : ∀ i, i < l.length → WrI l i) (hl : l.length ≤ 8) :
  Calls Tryz.prog 109 #[v, .func (.func 110) #[] #[]] w fun e w' => e = .returned (.bool true) ∧ Below w.heap.size w w' := by
 obtain ⟨a1, cap1, rfl, -⟩ := h.len
 have HI := hide (fun (V : World) (hV : Below w.heap.size w V) => h.below (Nat.le_refl _) hV)
 have HR := hide hr
 clear h hr
 go_enter Tryz.func109, Tryz.ntmps109
 go_wp2_with fail
 go_loopw [10, 5] (fun s10 s5 wx => ∃ (k : Nat) (last : Int), k ≤ l.length ∧ s10 = .int .i64 k ∧ s5 = .int .i64 last ∧ Hid (∀ i, i < l.length → i = k → last < (wAt l i).key) ∧ Below w.heap.size w wx) (fun s10 _ _ => l.length - (intOf s10).toNat)
 case atStart => exact ⟨0, 0, Nat.zero_le _, rfl, rfl, hide (fun i hi e => by have := (HR.out i hi).1; omega), Below.refl _ _⟩
 case round =>
  obtain ⟨k, last, hk, rfl, rfl, HL, hB⟩ := hrel
  by_cases hlt : k < l.length
  ·obtain ⟨b, off, cap', hb, hlt0, x0, x1, x2⟩ := WRow.at_ (HI.out wr hB) hlt
   cases hb
   have hgt := HL.out k hlt rfl
   have hnx : ∀ i, i < l.length → i = k + 1 → (wAt l k).key < (wAt l i).key := fun i hi e => by
    subst e
    exact (HR.out (k + 1) hi).2.2.2 (Nat.succ_pos _)
   obtain ⟨sk, hsk⟩ : ∃ x, x = (wAt l k).key := ⟨_, rfl⟩
   obtain ⟨st, hst⟩ : ∃ x, x = (wAt l k).val := ⟨_, rfl⟩
   obtain ⟨sg, hsg⟩ : ∃ x, x = (wAt l k).gone := ⟨_, rfl⟩
   rw [← hsk] at x0 hgt hnx
   rw [← hst] at x1
   rw [← hsg] at x2
   have HN := hide hnx
   have I1 : (0 : Int) ≤ (k : Int) := by omega
   have I2 : (k : Int) < (l.length : Int) := by omega
   have g1 : decide (sk ≤ last) = false := decide_eq_false (by omega)
   have hzB := hB.size
   clear hsk hst hsg hnx
   go_wp2_with (first
    | (go_at_call 110; (with_reducible refine (wrong4_any _ _ _ (wr.alloc (.cells #[.int .i64 sk, .int .i64 st, .bool sg] 74))).mono ?_); rintro e w5 ⟨rfl, b5⟩; have z5 := b5.size; have bx5 := (BxC.made wr [.int .i64 sk, .int .i64 st, .bool sg] 74).below (by simp) b5; have k0 := bx5.1 0 _ rfl; have k1 := bx5.1 1 _ rfl; have k2 := bx5.1 2 _ rfl; have bw5 : Below w.heap.size w w5 := (by ((with_reducible repeat' first | exact .refl _ _ | exact b5 | exact hB | refine .alloc ?_ ?_ _ | refine .setCell ?_ ?_ _ | refine .drew ?_ | refine below_drewN ?_ _ | refine Below.trans ?_ (b5.mono ?_) | refine Below.trans ?_ (hB.mono ?_)) <;> first | omega | simp <;> omega)); clear bx5)
    | (go_at_call 110; (with_reducible refine (wrong4_any _ _ _ _).mono ?_); rintro e w6 ⟨rfl, b6⟩; have bw6 : Below w.heap.size w w6 := bw5.trans (b6.mono bw5.size)))
   go_roundw
   case rel => exact ⟨k + 1, sk, by omega, by go_num, rfl, HN, bw6⟩
   case measure => simp [intOf]; omega
  ·obtain rfl : k = l.length := by omega
   go_wp2_with fail
   go_ret
   exact ⟨rfl, hB⟩
end Go.Proofs.YthkoaecafmhlcaaGreat
/- Package copies: rising, of transactions. -/
namespace Go.Proofs.YthkoaecafmhlcaaGreat
open Go.RowKit
attribute [local simp] size_drewT
set_option maxHeartbeats 1000000 in
theorem risingTx_any (v : Value) (l : List Tx) (w : World) (h : TxR w v l) (hr : ∀ i, i < l.length → 1 ≤ (txAt l i).ts ∧ (0 < i → (txAt l (i - 1)).ts < (txAt l i).ts)) (hl : l.length ≤ 4000) :
  Calls Tryz.prog 70 #[v, .func (.func 71) #[] #[]] w fun e w' => e = .returned (.bool true) ∧ Below w.heap.size w w' := by
 obtain ⟨a1, cap1, rfl, -⟩ := id h.len
 have HI := hide (fun (V : World) (hV : Below w.heap.size w V) => h.below (Nat.le_refl _) hV)
 have HR := hide hr
 clear h hr
 go_enter Tryz.func70, Tryz.ntmps70
 go_wp2_with fail
 go_loopw [10, 5] (fun s10 s5 wx => ∃ (k : Nat) (last : Int), k ≤ l.length ∧ s10 = .int .i64 k ∧ s5 = .int .i64 last ∧ Hid (∀ i, i < l.length → i = k → last < (txAt l i).ts) ∧ Below w.heap.size w wx) (fun s10 _ _ => l.length - (intOf s10).toNat)
 case atStart => exact ⟨0, 0, Nat.zero_le _, rfl, rfl, hide (fun i hi e => by have := (HR.out i hi).1; omega), Below.refl _ _⟩
 case round =>
  obtain ⟨k, last, hk, rfl, rfl, HL, hB⟩ := hrel
  by_cases hlt : k < l.length
  ·obtain ⟨b, off, cap', rv, wv, hb, hlt0, x0, x1, x2, x3, hrd⟩ := TxR.at_ (HI.out wr hB) (i := k) hlt
   cases hb
   obtain ⟨ar, cr, rfl, -⟩ := id hrd.1
   obtain ⟨aw, cw, rfl, -⟩ := id hrd.2
   have hgt := HL.out k hlt rfl
   have hnx : ∀ i, i < l.length → i = k + 1 → (txAt l k).ts < (txAt l i).ts := fun i hi e => by
    subst e
    exact (HR.out (k + 1) hi).2 (Nat.succ_pos _)
   generalize txAt l k = T at hgt hnx x0 x1 x2 x3 hrd
   obtain ⟨ti, sk, rl, wl⟩ := T
   dsimp only at hgt hnx x0 x1 x2 x3
   clear hrd
   have HN := hide hnx
   have I1 : (0 : Int) ≤ (k : Int) := by omega
   have I2 : (k : Int) < (l.length : Int) := by omega
   have g1 : decide (sk ≤ last) = false := decide_eq_false (by omega)
   have hzB := hB.size
   clear hnx
   go_wp2_with (first
    | (go_at_call 71; (with_reducible refine (cValid3_any _ _ _ _ _ _ _ _ (wr.alloc (.cells #[.int .i64 ti, .int .i64 sk, .slice ar rl.length cr, .slice aw wl.length cw] 28))).mono ?_); rintro e w5 ⟨rfl, b5⟩; have z5 := b5.size; have bx5 := (BxC.made wr [.int .i64 ti, .int .i64 sk, .slice ar rl.length cr, .slice aw wl.length cw] 28).below (by simp) b5; have k0 := bx5.1 0 _ rfl; have k1 := bx5.1 1 _ rfl; have k2 := bx5.1 2 _ rfl; have k3 := bx5.1 3 _ rfl; have bw5 : Below w.heap.size w w5 := (by ((with_reducible repeat' first | exact .refl _ _ | exact b5 | exact hB | refine .alloc ?_ ?_ _ | refine .setCell ?_ ?_ _ | refine .drew ?_ | refine below_drewN ?_ _ | refine Below.trans ?_ (b5.mono ?_) | refine Below.trans ?_ (hB.mono ?_)) <;> first | omega | simp <;> omega)); clear bx5)
    | (go_at_call 71; (with_reducible refine (cValid3_any _ _ _ _ _ _ _ _ _).mono ?_); rintro e w6 ⟨rfl, b6⟩; have bw6 : Below w.heap.size w w6 := bw5.trans (b6.mono bw5.size)))
   go_roundw
   case rel => exact ⟨k + 1, sk, by omega, by go_num, rfl, HN, bw6⟩
   case measure => simp [intOf]; omega
  ·obtain rfl : k = l.length := by omega
   go_wp2_with fail
   go_ret
   exact ⟨rfl, hB⟩
end Go.Proofs.YthkoaecafmhlcaaGreat
/- Package copies: rows of copies; rising, find. -/
namespace Go.Proofs.YthkoaecafmhlcaaGreat
open Go.RowKit
attribute [local simp] size_drewT
structure Cp where
 id : Int
 log : List Tx
structure Cv where
 lv : Value
 c : Cp
def cp0 : Cp := ⟨0, []⟩
def cv0 : Cv := ⟨.slice none 0 0, cp0⟩
def encC (x : Cv) : List Value := [.int .i64 x.c.id, x.lv]
theorem encC_length (x : Cv) : (encC x).length = 2 := rfl
def cpAt (l : List Cp) (i : Nat) : Cp := l.getD i cp0
theorem cpAt_lt {l : List Cp} {i : Nat} (h : i < l.length) : cpAt l i = l[i] := by simp [cpAt, List.getD_eq_getElem?_getD, List.getElem?_eq_getElem h]
def CpR (w : World) (v : Value) (l : List Cp) : Prop := ∃ xs : List Cv, xs.map (·.c) = l ∧ Rws encC 2 cv0 w v xs ∧ ∀ x, x ∈ xs → TxR w x.lv x.c.log
theorem CpR.below {w w' : World} {v : Value} {l : List Cp} (h : CpR w v l) {B : Nat} (hB : w.heap.size ≤ B) (hb : Below B w w') : CpR w' v l := by
 obtain ⟨xs, h1, h2, h3⟩ := h
 exact ⟨xs, h1, h2.below hB hb, fun x hx => (h3 x hx).below hB hb⟩
theorem CpR.len {w : World} {v : Value} {l : List Cp} (h : CpR w v l) : ∃ a cap, v = .slice a l.length cap ∧ l.length ≤ cap ∧ cap ≤ 9223372036854775807 := by
 obtain ⟨xs, rfl, h2, _⟩ := h
 rw [List.length_map]
 exact h2.len
theorem CpR.at_ {w : World} {v : Value} {l : List Cp} (h : CpR w v l) {i : Nat} (hi : i < l.length) : ∃ b off cap lv, v = .slice (some ⟨b, off, none⟩) l.length cap ∧ b < w.heap.size ∧ w.cell? ⟨b, off + i * 2, none⟩ = some (.int .i64 (cpAt l i).id) ∧ w.cell? ⟨b, off + i * 2 + 1, none⟩ = some lv ∧ TxR w lv (cpAt l i).log := by
 obtain ⟨xs, rfl, h2, h3⟩ := h
 rw [List.length_map] at hi ⊢
 obtain ⟨b, off, cap, rfl, _, _, h4, h5⟩ := h2.at0 (by omega)
 have e : cpAt (xs.map (·.c)) i = (xs.getD i cv0).c := by simp [cpAt, List.getD_eq_getElem?_getD, List.getElem?_eq_getElem hi]
 have hm : xs.getD i cv0 ∈ xs := by simp [List.getD_eq_getElem?_getD, List.getElem?_eq_getElem hi]
 rw [e]
 exact ⟨b, off, cap, _, rfl, h4, h5 i hi 0 _ rfl, h5 i hi 1 _ rfl, h3 _ hm⟩
set_option maxHeartbeats 1000000 in
theorem risingCp_any (v : Value) (l : List Cp) (w : World) (h : CpR w v l) (hr : ∀ i, i < l.length → 1 ≤ (cpAt l i).id ∧ (0 < i → (cpAt l (i - 1)).id < (cpAt l i).id)) (hl : l.length ≤ 100) :
  Calls Tryz.prog 60 #[v, .func (.func 61) #[] #[]] w fun e w' => e = .returned (.bool true) ∧ Below w.heap.size w w' := by
 obtain ⟨a1, cap1, rfl, -⟩ := id h.len
 have HI := hide (fun (V : World) (hV : Below w.heap.size w V) => h.below (Nat.le_refl _) hV)
 have HR := hide hr
 clear h hr
 go_enter Tryz.func60, Tryz.ntmps60
 go_wp2_with fail
 go_loopw [10, 5] (fun s10 s5 wx => ∃ (k : Nat) (last : Int), k ≤ l.length ∧ s10 = .int .i64 k ∧ s5 = .int .i64 last ∧ Hid (∀ i, i < l.length → i = k → last < (cpAt l i).id) ∧ Below w.heap.size w wx) (fun s10 _ _ => l.length - (intOf s10).toNat)
 case atStart => exact ⟨0, 0, Nat.zero_le _, rfl, rfl, hide (fun i hi e => by have := (HR.out i hi).1; omega), Below.refl _ _⟩
 case round =>
  obtain ⟨k, last, hk, rfl, rfl, HL, hB⟩ := hrel
  by_cases hlt : k < l.length
  ·obtain ⟨b, off, cap', lv, hb, hlt0, x0, x1, hrd⟩ := CpR.at_ (HI.out wr hB) (i := k) hlt
   cases hb
   obtain ⟨ar, cr, rfl, -⟩ := id hrd.len
   have hgt := HL.out k hlt rfl
   have hnx : ∀ i, i < l.length → i = k + 1 → (cpAt l k).id < (cpAt l i).id := fun i hi e => by
    subst e
    exact (HR.out (k + 1) hi).2 (Nat.succ_pos _)
   generalize cpAt l k = T at hgt hnx x0 x1 hrd
   obtain ⟨sk, lg⟩ := T
   dsimp only at hgt hnx x0 x1
   clear hrd
   have HN := hide hnx
   have I1 : (0 : Int) ≤ (k : Int) := by omega
   have I2 : (k : Int) < (l.length : Int) := by omega
   have g1 : decide (sk ≤ last) = false := decide_eq_false (by omega)
   have hzB := hB.size
   clear hnx
   go_wp2_with (first
    | (go_at_call 61; (with_reducible refine (cid_any _ _ _ _ (wr.alloc (.cells #[.int .i64 sk, .slice ar lg.length cr] 52))).mono ?_); rintro e w5 ⟨rfl, b5⟩; have z5 := b5.size; have bx5 := (BxC.made wr [.int .i64 sk, .slice ar lg.length cr] 52).below (by simp) b5; have k0 := bx5.1 0 _ rfl; have k1 := bx5.1 1 _ rfl; have bw5 : Below w.heap.size w w5 := (by ((with_reducible repeat' first | exact .refl _ _ | exact b5 | exact hB | refine .alloc ?_ ?_ _ | refine .setCell ?_ ?_ _ | refine .drew ?_ | refine below_drewN ?_ _ | refine Below.trans ?_ (b5.mono ?_) | refine Below.trans ?_ (hB.mono ?_)) <;> first | omega | simp <;> omega)); clear bx5)
    | (go_at_call 61; (with_reducible refine (cid_any _ _ _ _ _).mono ?_); rintro e w6 ⟨rfl, b6⟩; have bw6 : Below w.heap.size w w6 := bw5.trans (b6.mono bw5.size)))
   go_roundw
   case rel => exact ⟨k + 1, sk, by omega, by go_num, rfl, HN, bw6⟩
   case measure => simp [intOf]; omega
  ·obtain rfl : k = l.length := by omega
   go_wp2_with fail
   go_ret
   exact ⟨rfl, hB⟩
end Go.Proofs.YthkoaecafmhlcaaGreat
