/- Package commit: copied, copies; what a transaction writes; journal.formed. -/
import Derived.Test.YthkoaecafmhlcaaGreatTsI
namespace Go.Proofs.YthkoaecafmhlcaaGreat
open Go.RowKit
attribute [local go_sem ↓] run_max_mx run_min_mn
attribute [local simp] size_drewT

theorem TRw.setNe {α : Type} {en : α → List Value} {C : Nat} {d : α} {T : TypeId} {w : World} {v : Value} {l : List α} (h : TRw T en C d w v l) {p : Addr} (hp : ∀ q, v.ownBlock = some q → q ≠ p.block) (u : Value) : TRw T en C d (w.setCell p u) v l := by
 refine ⟨h.1.same (by simp [World.setCell]) fun _ q hq => Below.heap_setCell w p u q (hp q hq), fun hl q hq => ?_⟩
 obtain ⟨c, fz, hc⟩ := h.2 hl q hq
 exact ⟨c, fz, (Below.heap_setCell w p u q (hp q hq)).trans hc⟩
theorem TvTy.setNe {w : World} {rv wv : Value} {t : Tx} (h : TvTy w rv wv t) {p : Addr} (h1 : ∀ q, rv.ownBlock = some q → q ≠ p.block) (h2 : ∀ q, wv.ownBlock = some q → q ≠ p.block) (u : Value) : TvTy (w.setCell p u) rv wv t := ⟨h.1.setNe h1 u, h.2.setNe h2 u⟩
theorem OwnTx.setNe {w : World} {base : Nat} {v : Value} {l : List Tx} (h : OwnTx w base v l) {p : Addr} (hp : p.block < base) (u : Value) : OwnTx (w.setCell p u) base v l := by
 obtain ⟨xs, h1, h2, h3⟩ := h
 exact ⟨xs, h1, ownsRow_setCell_below h2 hp u, fun x hx => ⟨(h3 x hx).1.setNe (fun q hq => by have := (h3 x hx).2.1 q hq; omega) (fun q hq => by have := (h3 x hx).2.2 q hq; omega) u, (h3 x hx).2⟩⟩
set_option maxRecDepth 100000 in
set_option maxHeartbeats 1000000 in
theorem copied_any (rv wv : Value) (t : Tx) (w : World) (h : TvRd w rv wv t) (h1 : t.rd.length ≤ 100) (h2 : t.wr.length ≤ 100) :
  Calls Tryz.prog 53 #[valT rv wv t] w fun e w' => ∃ rv' wv', e = .returned (valT rv' wv' t) ∧ TvTy w' rv' wv' t ∧ LocT w.heap.size rv' wv' ∧ Below w.heap.size w w' := by
 have HS := hide (fun (V : World) (hV : Below w.heap.size w V) => CloneS_any rv t.rd V (h.1.below (Nat.le_refl _) hV) (by omega))
 have HW := hide (fun (V : World) (hV : Below w.heap.size w V) => CloneWr_any wv t.wr V (h.2.below (Nat.le_refl _) hV) (by omega))
 obtain ⟨ar, cr, rfl, -⟩ := id h.1
 obtain ⟨aw, cw, rfl, -⟩ := id h.2
 obtain ⟨ti, tt, rl, wl⟩ := t
 dsimp only [valT] at *
 clear h
 go_enter Tryz.func53, Tryz.ntmps53
 go_wp2_with fail
 obtain ⟨W, hW⟩ : ∃ V, V = (w.alloc (.cells #[.int .i64 ti, .int .i64 tt, .slice ar rl.length cr, .slice aw wl.length cw] 28)).alloc (.cells #[.int .i64 0, .int .i64 0, .slice none 0 0, .slice none 0 0] 28) := ⟨_, rfl⟩
 rw [← hW]
 have bb1 : BxC W w.heap.size [.int .i64 ti, .int .i64 tt, .slice ar rl.length cr, .slice aw wl.length cw] := by rw [hW]; exact (BxC.made w _ _).alloc _
 have bb2 : BxC W (w.heap.size + 1) [.int .i64 0, .int .i64 0, .slice none 0 0, .slice none 0 0] := by
  rw [hW]
  have h_ := BxC.made (w.alloc (.cells #[.int .i64 ti, .int .i64 tt, .slice ar rl.length cr, .slice aw wl.length cw] 28)) [.int .i64 0, .int .i64 0, .slice none 0 0, .slice none 0 0] 28
  simp only [World.size_alloc] at h_
  exact h_
 have b0 : Below w.heap.size w W := by rw [hW]; ((with_reducible repeat' first | exact .refl _ _ | refine .alloc ?_ ?_ _ | refine .setCell ?_ ?_ _ | refine .drew ?_ | refine below_drewN ?_ _) <;> first | omega | simp <;> omega)
 have zb0 := b0.size
 clear hW
 have cbb1_0 := bb1.1 0 _ rfl; have cbb1_1 := bb1.1 1 _ rfl; have cbb1_2 := bb1.1 2 _ rfl; have cbb1_3 := bb1.1 3 _ rfl; have fbb1 := bb1.2.1; have zbb1 := bb1.2.2
 have mixed : Tryz.prog.follows Departure.mixedOrders = true := by kernel_rfl
 go_region_with (first | (go_at_call 89; (with_reducible refine (HS.out _ (by ((with_reducible repeat' first | exact .refl _ _ | exact b0 | refine .alloc ?_ ?_ _ | refine .setCell ?_ ?_ _ | refine .drew ?_ | refine below_drewN ?_ _ | refine Below.trans ?_ (b0.mono ?_)) <;> first | omega | simp <;> omega))).mono ?_); rintro e w3 ⟨v3, rfl, ho3, k3⟩; obtain ⟨sa3, sc3, rfl, -, -⟩ := ho3.val; have z3 := k3.size; have z3w := Below.size (show Below W.heap.size W w3 from (by ((with_reducible repeat' first | exact .refl _ _ | exact k3 | refine .alloc ?_ ?_ _ | refine .setCell ?_ ?_ _ | refine .drew ?_ | refine below_drewN ?_ _ | refine Below.trans ?_ (k3.mono ?_)) <;> first | omega | simp <;> omega))); have n1 := bb1.below bb1.2.2 (show Below W.heap.size W w3 from (by ((with_reducible repeat' first | exact .refl _ _ | exact k3 | refine .alloc ?_ ?_ _ | refine .setCell ?_ ?_ _ | refine .drew ?_ | refine below_drewN ?_ _ | refine Below.trans ?_ (k3.mono ?_)) <;> first | omega | simp <;> omega))); have m0 := n1.1 0 _ rfl; have m1 := n1.1 1 _ rfl; have m2 := n1.1 2 _ rfl; have m3 := n1.1 3 _ rfl; have mf := n1.2.1; have mz := n1.2.2) | (go_at_call 90; (with_reducible refine (HW.out _ (by ((with_reducible repeat' first | exact .refl _ _ | exact k3 | exact b0 | refine .alloc ?_ ?_ _ | refine .setCell ?_ ?_ _ | refine .drew ?_ | refine below_drewN ?_ _ | refine Below.trans ?_ (k3.mono ?_) | refine Below.trans ?_ (b0.mono ?_)) <;> first | omega | simp <;> omega))).mono ?_); rintro e w4 ⟨v4, rfl, ho4, k4⟩; obtain ⟨sa4, sc4, rfl, -, -⟩ := ho4.val; have z4 := k4.size; have n2 := bb1.below bb1.2.2 (show Below W.heap.size W w4 from (by ((with_reducible repeat' first | exact .refl _ _ | exact k4 | exact k3 | refine .alloc ?_ ?_ _ | refine .setCell ?_ ?_ _ | refine .drew ?_ | refine below_drewN ?_ _ | refine Below.trans ?_ (k4.mono ?_) | refine Below.trans ?_ (k3.mono ?_)) <;> first | omega | simp <;> omega))); have y0 := n2.1 0 _ rfl; have y1 := n2.1 1 _ rfl; have y2 := n2.1 2 _ rfl; have y3 := n2.1 3 _ rfl; have yf := n2.2.1; have yz := n2.2.2))
 all_goals
  have B3 : Below W.heap.size W w3 := (by ((with_reducible repeat' first | exact .refl _ _ | exact k3 | refine .alloc ?_ ?_ _ | refine .setCell ?_ ?_ _ | refine .drew ?_ | refine below_drewN ?_ _ | refine Below.trans ?_ (k3.mono ?_)) <;> first | omega | simp <;> omega))
  have z3W := B3.size
  have B4 : Below W.heap.size W w4 := (by ((with_reducible repeat' first | exact .refl _ _ | exact k4 | exact k3 | refine .alloc ?_ ?_ _ | refine .setCell ?_ ?_ _ | refine .drew ?_ | refine below_drewN ?_ _ | refine Below.trans ?_ (k4.mono ?_) | refine Below.trans ?_ (k3.mono ?_)) <;> first | omega | simp <;> omega))
  have B34 : Below w3.heap.size w3 w4 := (by ((with_reducible repeat' first | exact .refl _ _ | exact k4 | refine .alloc ?_ ?_ _ | refine .setCell ?_ ?_ _ | refine .drew ?_ | refine below_drewN ?_ _ | refine Below.trans ?_ (k4.mono ?_)) <;> first | omega | simp <;> omega))
  have zB4 := B4.size
  have hp3 : Owns 113 encS 2 w3 w.heap.size (.slice sa3 rl.length sc3) rl := ho3.mono (Below.size (show Below w.heap.size w _ from (by ((with_reducible repeat' first | exact .refl _ _ | exact b0 | refine .alloc ?_ ?_ _ | refine .setCell ?_ ?_ _ | refine .drew ?_ | refine below_drewN ?_ _ | refine Below.trans ?_ (b0.mono ?_)) <;> first | omega | simp <;> omega))))
  have hp4 : Owns 74 encW 3 w4 w.heap.size (.slice sa4 wl.length sc4) wl := ho4.mono (Below.size (show Below w.heap.size w _ from (by ((with_reducible repeat' first | exact .refl _ _ | exact k3 | exact b0 | refine .alloc ?_ ?_ _ | refine .setCell ?_ ?_ _ | refine .drew ?_ | refine below_drewN ?_ _ | refine Below.trans ?_ (k3.mono ?_) | refine Below.trans ?_ (b0.mono ?_)) <;> first | omega | simp <;> omega))))
  have hty : TvTy w4 (.slice sa3 rl.length sc3) (.slice sa4 wl.length sc4) ⟨ti, tt, rl, wl⟩ := ⟨(hp3.trw encS_length (0, 0) (by omega)).below (Nat.le_refl _) B34, hp4.trw encW_length wr0 (by omega)⟩
  have l3 : ∀ q, (Value.slice sa3 rl.length sc3).ownBlock = some q → W.heap.size ≤ q := fun q hq => Nat.le_trans (Below.size (show Below W.heap.size W _ from (by ((with_reducible repeat' first | exact .refl _ _ | refine .alloc ?_ ?_ _ | refine .setCell ?_ ?_ _ | refine .drew ?_ | refine below_drewN ?_ _) <;> first | omega | simp <;> omega)))) (World.ownsRow.lt ho3 q hq).1
  have l4 : ∀ q, (Value.slice sa4 wl.length sc4).ownBlock = some q → W.heap.size ≤ q := fun q hq => Nat.le_trans (Below.size (show Below W.heap.size W _ from (by ((with_reducible repeat' first | exact .refl _ _ | exact k3 | refine .alloc ?_ ?_ _ | refine .setCell ?_ ?_ _ | refine .drew ?_ | refine below_drewN ?_ _ | refine Below.trans ?_ (k3.mono ?_)) <;> first | omega | simp <;> omega)))) (World.ownsRow.lt ho4 q hq).1
  obtain ⟨V, hV⟩ : ∃ V, V = (w4.setCell ⟨w.heap.size, 2, none⟩ (.slice sa3 rl.length sc3)).setCell ⟨w.heap.size, 3, none⟩ (.slice sa4 wl.length sc4) := ⟨_, rfl⟩
  rw [← hV]
  have n4 : BxC w4 w.heap.size [.int .i64 ti, .int .i64 tt, .slice ar rl.length cr, .slice aw wl.length cw] := bb1.below bb1.2.2 B4
  have e1 : BxC V w.heap.size [.int .i64 ti, .int .i64 tt, .slice sa3 rl.length sc3, .slice sa4 wl.length sc4] := by rw [hV]; exact (n4.set 2 _ (by simp)).set 3 _ (by simp)
  have e2 : BxC V (w.heap.size + 1) [.int .i64 0, .int .i64 0, .slice none 0 0, .slice none 0 0] := by rw [hV]; exact ((bb2.below bb2.2.2 B4).setNe (by simp) _).setNe (by simp) _
  have bV : Below w.heap.size w V := by rw [hV]; ((with_reducible repeat' first | exact .refl _ _ | exact B4 | exact b0 | refine .alloc ?_ ?_ _ | refine .setCell ?_ ?_ _ | refine .drew ?_ | refine below_drewN ?_ _ | refine Below.trans ?_ (B4.mono ?_) | refine Below.trans ?_ (b0.mono ?_)) <;> first | omega | simp <;> omega)
  have zW1 := bb1.2.2
  have zW2 := bb2.2.2
  have htV : TvTy V (.slice sa3 rl.length sc3) (.slice sa4 wl.length sc4) ⟨ti, tt, rl, wl⟩ := by
   rw [hV]
   exact (hty.setNe (fun q hq => by have := l3 q hq; dsimp only; omega) (fun q hq => by have := l4 q hq; dsimp only; omega) _).setNe (fun q hq => by have := l3 q hq; dsimp only; omega) (fun q hq => by have := l4 q hq; dsimp only; omega) _
  have HG3 := hide (fun q hq => Nat.le_trans (Nat.le_of_lt zW1) (l3 q hq) : ∀ q, (Value.slice sa3 rl.length sc3).ownBlock = some q → w.heap.size ≤ q)
  have HG4 := hide (fun q hq => Nat.le_trans (Nat.le_of_lt zW1) (l4 q hq) : ∀ q, (Value.slice sa4 wl.length sc4).ownBlock = some q → w.heap.size ≤ q)
  have HL3 := hide (fun q hq => (by have := l3 q hq; omega : q ≠ w.heap.size + 1))
  have HL4 := hide (fun q hq => (by have := l4 q hq; omega : q ≠ w.heap.size + 1))
  have HT := hide htV
  have HbV := hide bV
  clear hV B3 B4 B34 hp3 hp4 hty l3 l4 n4 htV bV b0 bb1 bb2 n1 n2 k3 k4 ho3 ho4 m0 m1 m2 m3 mf mz y0 y1 y2 y3 yf yz cbb1_0 cbb1_1 cbb1_2 cbb1_3 fbb1 zbb1
  have ce1_0 := e1.1 0 _ rfl; have ce1_1 := e1.1 1 _ rfl; have ce1_2 := e1.1 2 _ rfl; have ce1_3 := e1.1 3 _ rfl; have fe1 := e1.2.1; have ze1 := e1.2.2
  have ce2_0 := e2.1 0 _ rfl; have ce2_1 := e2.1 1 _ rfl; have ce2_2 := e2.1 2 _ rfl; have ce2_3 := e2.1 3 _ rfl; have fe2 := e2.2.1; have ze2 := e2.2.2
  go_wp2_with fail
  obtain ⟨s0, s1, s2, s3⟩ := set4 ce2_0 ce2_1 ce2_2 ce2_3 (.int .i64 ti) (.int .i64 tt) (.slice sa3 rl.length sc3) (.slice sa4 wl.length sc4)
  refine bodyPost_ret (v := .agg #[.int .i64 ti, .int .i64 tt, .slice sa3 rl.length sc3, .slice sa4 wl.length sc4]) (by simp [results, Tryz.results53, go_sem, s0, s1, s2, s3]) rfl ⟨_, _, rfl, ?_, ⟨HG3.out, HG4.out⟩, (by ((with_reducible repeat' first | exact .refl _ _ | exact HbV.out | refine .alloc ?_ ?_ _ | refine .setCell ?_ ?_ _ | refine .drew ?_ | refine below_drewN ?_ _ | refine Below.trans ?_ (HbV.out.mono ?_)) <;> first | omega | simp <;> omega))⟩
  exact (((HT.out.setNe HL3.out HL4.out _).setNe HL3.out HL4.out _).setNe HL3.out HL4.out _).setNe HL3.out HL4.out _
end Go.Proofs.YthkoaecafmhlcaaGreat
