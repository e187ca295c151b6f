/- Package copies: Equal of reads and of writes; nothing is wrong with them. -/
import Derived.Test.YthkoaecafmhlcaaGreatJ28
namespace Go.Proofs.YthkoaecafmhlcaaGreat
open Go.RowKit
attribute [local simp] size_drewT
set_option maxHeartbeats 1000000 in
set_option maxRecDepth 100000 in
set_option maxHeartbeats 400000 in
theorem EqualSn_any (v v2 : Value) (l : List (Int × Int)) (w : World) (h : SRow w v l) (h2 : SRow w v2 l) (hl : l.length ≤ 8) :
  Calls Tryz.prog 100 #[v, v2] w fun e w' => e = .returned (.bool true) ∧ Below w.heap.size w w' := by
 obtain ⟨a1, cap1, rfl, -⟩ := h.len
 obtain ⟨a2, cap2, rfl, -⟩ := h2.len
 have HI := hide (fun (V : World) (hV : Below w.heap.size w V) => And.intro (h.below (Nat.le_refl _) hV) (h2.below (Nat.le_refl _) hV))
 clear h h2
 go_enter Tryz.func100, Tryz.ntmps100
 go_wp2_with fail
 go_loopw [13] (fun s13 wx => ∃ (k : Nat), k ≤ l.length ∧ s13 = .int .i64 k ∧ Below w.heap.size w wx) (fun s13 _ => l.length - (intOf s13).toNat)
 case atStart => exact ⟨0, Nat.zero_le _, rfl, Below.refl _ _⟩
 case round =>
  obtain ⟨k, hk, rfl, hB⟩ := hrel
  by_cases hlt : k < l.length
  ·obtain ⟨b, off, cap', hb, hlt0, x0, x1⟩ := SRow.at_ (HI.out wr hB).1 (i := k) hlt
   obtain ⟨b', off', cap'', hb', hlt1, y0, y1⟩ := SRow.at_ (HI.out wr hB).2 (i := k) hlt
   cases hb
   cases hb'
   generalize l.getD k (0, 0) = E at *
   obtain ⟨ea, eb⟩ := E
   dsimp only at x0 x1 y0 y1
   have I1 : (0 : Int) ≤ (k : Int) := by omega
   have I2 : (k : Int) < (l.length : Int) := by omega
   have mixed : Tryz.prog.follows Departure.mixedOrders = true := by kernel_rfl
   go_upto_region 6 with fail
   go_quiet (fail)
   go_wp2_with fail
   go_roundw
   case rel => exact ⟨k + 1, by omega, by go_num, (by ((with_reducible repeat' first | exact .refl _ _ | exact hB | refine .alloc ?_ ?_ _ | refine .setCell ?_ ?_ _ | refine .drew ?_ | refine below_drewN ?_ _ | refine Below.trans ?_ (hB.mono ?_)) <;> first | omega | simp <;> omega))⟩
   case measure => simp [intOf]; omega
  ·obtain rfl : k = l.length := by omega
   go_wp2_with fail
   go_ret
   exact ⟨rfl, hB⟩
set_option maxHeartbeats 1000000 in
set_option maxRecDepth 100000 in
set_option maxHeartbeats 400000 in
theorem EqualWr_any (v v2 : Value) (l : List Wr) (w : World) (h : WRow w v l) (h2 : WRow w v2 l) (hl : l.length ≤ 8) :
  Calls Tryz.prog 101 #[v, v2] w fun e w' => e = .returned (.bool true) ∧ Below w.heap.size w w' := by
 obtain ⟨a1, cap1, rfl, -⟩ := h.len
 obtain ⟨a2, cap2, rfl, -⟩ := h2.len
 have HI := hide (fun (V : World) (hV : Below w.heap.size w V) => And.intro (h.below (Nat.le_refl _) hV) (h2.below (Nat.le_refl _) hV))
 clear h h2
 go_enter Tryz.func101, Tryz.ntmps101
 go_wp2_with fail
 go_loopw [13] (fun s13 wx => ∃ (k : Nat), k ≤ l.length ∧ s13 = .int .i64 k ∧ Below w.heap.size w wx) (fun s13 _ => l.length - (intOf s13).toNat)
 case atStart => exact ⟨0, Nat.zero_le _, rfl, Below.refl _ _⟩
 case round =>
  obtain ⟨k, hk, rfl, hB⟩ := hrel
  by_cases hlt : k < l.length
  ·obtain ⟨b, off, cap', hb, hlt0, x0, x1, x2⟩ := WRow.at_ (HI.out wr hB).1 (i := k) hlt
   obtain ⟨b', off', cap'', hb', hlt1, y0, y1, y2⟩ := WRow.at_ (HI.out wr hB).2 (i := k) hlt
   cases hb
   cases hb'
   generalize wAt l k = E at *
   obtain ⟨ea, eb, ec⟩ := E
   dsimp only at x0 x1 x2 y0 y1 y2
   have I1 : (0 : Int) ≤ (k : Int) := by omega
   have I2 : (k : Int) < (l.length : Int) := by omega
   have mixed : Tryz.prog.follows Departure.mixedOrders = true := by kernel_rfl
   go_upto_region 6 with fail
   go_quiet (fail)
   go_wp2_with fail
   go_roundw
   case rel => exact ⟨k + 1, by omega, by go_num, (by ((with_reducible repeat' first | exact .refl _ _ | exact hB | refine .alloc ?_ ?_ _ | refine .setCell ?_ ?_ _ | refine .drew ?_ | refine below_drewN ?_ _ | refine Below.trans ?_ (hB.mono ?_)) <;> first | omega | simp <;> omega))⟩
   case measure => simp [intOf]; omega
  ·obtain rfl : k = l.length := by omega
   go_wp2_with fail
   go_ret
   exact ⟨rfl, hB⟩
set_option maxRecDepth 100000 in
set_option maxHeartbeats 400000 in
theorem cisTime_any (n : Int) (w : World) (h : 0 ≤ n ∧ n ≤ 3000000000000000) : Calls Tryz.prog 103 #[.int .i64 n] w fun e w' => e = .returned (.bool true) ∧ w = w' := by
 have d1 : decide (0 ≤ n) = true := decide_eq_true h.1
 have d2 : decide (n ≤ 3000000000000000) = true := decide_eq_true h.2
 have d3 := h.1
 have d4 := h.2
 go_enter Tryz.func103, Tryz.ntmps103
 go_wp2_with fail
 go_ret
 exact ⟨rfl, rfl⟩
set_option maxRecDepth 100000 in
set_option maxHeartbeats 400000 in
theorem wrong1_any (k t : Int) (w : World) (hk : k ≤ 1000) (ht : 0 ≤ t ∧ t ≤ 3000000000000000) : Calls Tryz.prog 104 #[.agg #[.int .i64 k, .int .i64 t]] w fun e w' => e = .returned (.bool false) ∧ Below w.heap.size w w' := by
 have d1 : decide (1000 < k) = false := decide_eq_false (by omega)
 have HT := hide (fun (V : World) => cisTime_any t V ht)
 clear ht
 go_enter Tryz.func104, Tryz.ntmps104
 go_wp2_with (go_at_call 103; (with_reducible refine (HT.out _).mono ?_); rintro e w2 ⟨rfl, rfl⟩)
 go_ret
 exact ⟨rfl, (by ((with_reducible repeat' first | exact .refl _ _ | refine .alloc ?_ ?_ _ | refine .setCell ?_ ?_ _ | refine .drew ?_ | refine below_drewN ?_ _) <;> first | omega | simp <;> omega))⟩
set_option maxRecDepth 100000 in
set_option maxHeartbeats 400000 in
theorem wrong2_any (k x : Int) (g : Bool) (w : World) (hk : k ≤ 1000) (hx : 0 ≤ x ∧ x ≤ 1000000) (hg : g = true → x = 0) : Calls Tryz.prog 105 #[.agg #[.int .i64 k, .int .i64 x, .bool g]] w fun e w' => e = .returned (.bool false) ∧ Below w.heap.size w w' := by
 have d1 : decide (1000 < k) = false := decide_eq_false (by omega)
 have d2 : decide (x < 0) = false := decide_eq_false (by omega)
 have d3 : decide (1000000 < x) = false := decide_eq_false (by omega)
 cases g with
 | false =>
  clear hg
  go_enter Tryz.func105, Tryz.ntmps105
  go_wp2_with fail
  go_ret
  exact ⟨rfl, (by ((with_reducible repeat' first | exact .refl _ _ | refine .alloc ?_ ?_ _ | refine .setCell ?_ ?_ _ | refine .drew ?_ | refine below_drewN ?_ _) <;> first | omega | simp <;> omega))⟩
 | true =>
  obtain rfl := hg rfl
  clear hg
  go_enter Tryz.func105, Tryz.ntmps105
  go_wp2_with fail
  go_ret
  exact ⟨rfl, (by ((with_reducible repeat' first | exact .refl _ _ | refine .alloc ?_ ?_ _ | refine .setCell ?_ ?_ _ | refine .drew ?_ | refine below_drewN ?_ _) <;> first | omega | simp <;> omega))⟩
set_option maxHeartbeats 1000000 in
set_option maxRecDepth 100000 in
set_option maxHeartbeats 400000 in
theorem IndexSn104_any (v : Value) (l : List (Int × Int)) (w : World) (h : SRow w v l) (hr : ∀ i, i < l.length → RdI l i) (hl : l.length ≤ 8) :
  Calls Tryz.prog 88 #[v, .func (.func 104) #[] #[]] w fun e w' => e = .returned (.int .i64 (-1)) ∧ Below w.heap.size w w' := by
 obtain ⟨a1, cap1, rfl, -⟩ := h.len
 have HI := hide (fun (V : World) (hV : Below w.heap.size w V) => h.below (Nat.le_refl _) hV)
 have HR := hide hr
 clear h hr
 go_enter Tryz.func88, Tryz.ntmps88
 go_wp2_with fail
 go_loopw [8] (fun s8 wx => ∃ (k : Nat), k ≤ l.length ∧ s8 = .int .i64 k ∧ Below w.heap.size w wx) (fun s8 _ => l.length - (intOf s8).toNat)
 case atStart => exact ⟨0, Nat.zero_le _, rfl, Below.refl _ _⟩
 case round =>
  obtain ⟨k, hk, rfl, hB⟩ := hrel
  by_cases hlt : k < l.length
  ·obtain ⟨b, off, cap', hb, hlt0, x0, x1⟩ := SRow.at_ (HI.out wr hB) (i := k) hlt
   cases hb
   have I1 : (0 : Int) ≤ (k : Int) := by omega
   have I2 : (k : Int) < (l.length : Int) := by omega
   have hz := hB.size
   have hi := HR.out k hlt
   unfold RdI at hi
   generalize l.getD k (0, 0) = E at *
   obtain ⟨ea, eb⟩ := E
   dsimp only at x0 x1 hi
   have HC := hide (fun (V : World) => wrong1_any ea eb V hi.1.2 hi.2.1)
   clear hi
   go_wp2_with (go_at_call 104; (with_reducible refine (HC.out _).mono ?_); rintro e w1 ⟨rfl, b1⟩; have B1 : Below w.heap.size w w1 := (by ((with_reducible repeat' first | exact .refl _ _ | exact b1 | exact hB | refine .alloc ?_ ?_ _ | refine .setCell ?_ ?_ _ | refine .drew ?_ | refine below_drewN ?_ _ | refine Below.trans ?_ (b1.mono ?_) | refine Below.trans ?_ (hB.mono ?_)) <;> first | omega | simp <;> omega)))
   go_roundw
   case rel => exact ⟨k + 1, by omega, by go_num, B1⟩
   case measure => simp [intOf]; omega
  ·obtain rfl : k = l.length := by omega
   go_wp2_with fail
   go_ret
   exact ⟨rfl, hB⟩
set_option maxRecDepth 100000 in
set_option maxHeartbeats 400000 in
theorem ContainsSn104_any (v : Value) (l : List (Int × Int)) (w : World) (h : SRow w v l) (hr : ∀ i, i < l.length → RdI l i) (hl : l.length ≤ 8) :
  Calls Tryz.prog 50 #[v, .func (.func 104) #[] #[]] w fun e w' => e = .returned (.bool false) ∧ Below w.heap.size w w' := by
 have HI := hide (IndexSn104_any v l w h hr hl)
 obtain ⟨a, cap, rfl, -⟩ := h.len
 clear h hr
 go_enter Tryz.func50, Tryz.ntmps50
 go_wp2_with (go_at_call 88; (with_reducible refine HI.out.mono ?_); rintro e w1 ⟨rfl, b1⟩)
 go_ret
 exact ⟨rfl, b1⟩
set_option maxHeartbeats 1000000 in
set_option maxRecDepth 100000 in
set_option maxHeartbeats 400000 in
theorem IndexWr105_any (v : Value) (l : List Wr) (w : World) (h : WRow w v l) (hr : ∀ i, i < l.length → WrI l i) (hl : l.length ≤ 8) :
  Calls Tryz.prog 132 #[v, .func (.func 105) #[] #[]] w fun e w' => e = .returned (.int .i64 (-1)) ∧ Below w.heap.size w w' := by
 obtain ⟨a1, cap1, rfl, -⟩ := h.len
 have HI := hide (fun (V : World) (hV : Below w.heap.size w V) => h.below (Nat.le_refl _) hV)
 have HR := hide hr
 clear h hr
 go_enter Tryz.func132, Tryz.ntmps132
 go_wp2_with fail
 go_loopw [8] (fun s8 wx => ∃ (k : Nat), k ≤ l.length ∧ s8 = .int .i64 k ∧ Below w.heap.size w wx) (fun s8 _ => l.length - (intOf s8).toNat)
 case atStart => exact ⟨0, Nat.zero_le _, rfl, Below.refl _ _⟩
 case round =>
  obtain ⟨k, hk, rfl, hB⟩ := hrel
  by_cases hlt : k < l.length
  ·obtain ⟨b, off, cap', hb, hlt0, x0, x1, x2⟩ := WRow.at_ (HI.out wr hB) (i := k) hlt
   cases hb
   have I1 : (0 : Int) ≤ (k : Int) := by omega
   have I2 : (k : Int) < (l.length : Int) := by omega
   have hz := hB.size
   have hi := HR.out k hlt
   unfold WrI at hi
   generalize wAt l k = E at *
   obtain ⟨ea, eb, ec⟩ := E
   dsimp only at x0 x1 x2 hi
   have HC := hide (fun (V : World) => wrong2_any ea eb ec V hi.1.2 hi.2.1 hi.2.2.1)
   clear hi
   go_wp2_with (go_at_call 105; (with_reducible refine (HC.out _).mono ?_); rintro e w1 ⟨rfl, b1⟩; have B1 : Below w.heap.size w w1 := (by ((with_reducible repeat' first | exact .refl _ _ | exact b1 | exact hB | refine .alloc ?_ ?_ _ | refine .setCell ?_ ?_ _ | refine .drew ?_ | refine below_drewN ?_ _ | refine Below.trans ?_ (b1.mono ?_) | refine Below.trans ?_ (hB.mono ?_)) <;> first | omega | simp <;> omega)))
   go_roundw
   case rel => exact ⟨k + 1, by omega, by go_num, B1⟩
   case measure => simp [intOf]; omega
  ·obtain rfl : k = l.length := by omega
   go_wp2_with fail
   go_ret
   exact ⟨rfl, hB⟩
set_option maxRecDepth 100000 in
set_option maxHeartbeats 400000 in
theorem ContainsWr105_any (v : Value) (l : List Wr) (w : World) (h : WRow w v l) (hr : ∀ i, i < l.length → WrI l i) (hl : l.length ≤ 8) :
  Calls Tryz.prog 106 #[v, .func (.func 105) #[] #[]] w fun e w' => e = .returned (.bool false) ∧ Below w.heap.size w w' := by
 have HI := hide (IndexWr105_any v l w h hr hl)
 obtain ⟨a, cap, rfl, -⟩ := h.len
 clear h hr
 go_enter Tryz.func106, Tryz.ntmps106
 go_wp2_with (go_at_call 132; (with_reducible refine HI.out.mono ?_); rintro e w1 ⟨rfl, b1⟩)
 go_ret
 exact ⟨rfl, b1⟩
end Go.Proofs.YthkoaecafmhlcaaGreat
