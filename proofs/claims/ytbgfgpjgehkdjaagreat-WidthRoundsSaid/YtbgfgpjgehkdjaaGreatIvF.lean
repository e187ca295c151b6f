/- Package interval's edges: the sorted list, in a box that the iterator captures. -/
import Derived.Test.YtbgfgpjgehkdjaaGreatIvE
namespace Go.Proofs.YtbgfgpjgehkdjaaGreat
open Go.RowKit
theorem infoEd : (Tryz.prog.info? 119).map (fun i => (i.zero, i.size, i.bytes)) = some (some (.agg #[.int .i64 0, .int .i64 0]), 2, 16) := by kernel_rfl
def EdgesPost (l : List Iv) (w : World) (e : Ending) (w' : World) : Prop :=
  e = .returned (.func (.func 92) #[] #[.pointer (some ⟨w.heap.size, 0, none⟩)]) ∧ Below w.heap.size w w' ∧
    ∃ sv E, w.heap.size < w'.heap.size ∧ w'.cell? ⟨w.heap.size, 0, none⟩ = some sv ∧ IvRow w' sv E ∧ E.Perm (edg l) ∧ E.Pairwise (fun a b => a.1 ≤ b.1) ∧ ∀ k, sv.ownBlock = some k → w.heap.size ≤ k
set_option maxRecDepth 100000 in
set_option maxHeartbeats 1000000 in
theorem edges_any (v : Value) (l : List Iv) (w : World) (hv : IvRow w v l) (hl : listB l = true) : Calls Tryz.prog 78 #[v] w (EdgesPost l w) := by
  obtain ⟨a, cap, rfl, h1, h2, h3⟩ := hv
  obtain ⟨i0, hi, hz0, hz1, hz2⟩ := info_parts infoEd
  have hl64 := ((listB_iff l).1 hl).1
  have Hb := hide ((listB_iff l).1 hl).2
  clear hl
  go_enter Tryz.func78, Tryz.ntmps78
  go_wp2
  go_loopw [8] (fun i wr => ∃ (k : Nat) (sv : Value), k ≤ l.length ∧ i = .int .i64 k ∧ wr.cell? ⟨w.heap.size, 0, none⟩ = some sv ∧ wr.frozen? ⟨w.heap.size, 0, none⟩ = false ∧
      OwnP 119 wr (w.heap.size + 1) sv (edg (l.take k)) ∧ Below w.heap.size w wr ∧ w.heap.size < wr.heap.size) (fun i _ => l.length - (intOf i).toNat)
  case atStart => exact ⟨0, _, Nat.zero_le _, rfl, by simp, by simp, OwnP.nil _ _, (by ((repeat' (first | exact Below.refl _ _ | refine Below.alloc ?_ ?_ _ | refine Below.setCell ?_ ?_ _ | refine Below.drew ?_ | refine below_drewN ?_ _)) <;> (first | omega | (simp; done) | (simp; omega)))), by simp⟩
  case round =>
    obtain ⟨k, sv, hk, rfl, hc, hf, hown, hB, hz⟩ := hrel
    have hel : (edg (l.take k)).length = 2 * k := by rw [edg_length, List.length_take, Nat.min_eq_left hk]
    by_cases hlt : k < l.length
    · obtain ⟨b, off, rfl, h4, h5, h6⟩ := h3 k hlt
      have h5' := (hB.cell (p := ⟨b, off + k * 2, none⟩) h4).trans h5
      have h6' := (hB.cell (p := ⟨b, off + k * 2 + 1, none⟩) h4).trans h6
      obtain ⟨b1, b2, b3⟩ := Hb.out k hlt
      obtain ⟨a1, cap1, hsv, hc1, hc2⟩ := hown.val
      have hlow := hown.lt
      unfold OwnP at hown
      rw [hel] at hown hsv hc1
      subst hsv
      have Hel := hide hel
      have hnw : ∀ o, ∀ j u, [Value.int .i64 (iLo l k), .int .i64 1, .int .i64 (iHi l k + 1), .int .i64 (-1)][j]? = some u → ((wr.alloc o).alloc (.cells #[.int .i64 (iLo l k), .int .i64 1, .int .i64 (iHi l k + 1), .int .i64 (-1)] 119)).cell? ((⟨wr.heap.size + 1, 0, none⟩ : Addr).add j) = some u := fun o j u hj => by
        have := cells_new (wr.alloc o) [.int .i64 (iLo l k), .int .i64 1, .int .i64 (iHi l k + 1), .int .i64 (-1)] 119 j u hj
        rwa [World.size_alloc] at this
      have Hnw := hide hnw
      clear h5 h6 h3 hel hnw
      go_wp2_with (at_builtin; (refine wpList_append_own _ rfl _ _ 130 rfl (w.heap.size + 1) 119 i0 (.agg #[.int .i64 0, .int .i64 0]) 2 16 Tryz.underlying130 hi hz0 hz1 hz2 rfl (by decide) _ (2 * k) (encL (edg (l.take k))) rfl (World.ownsRow.alloc (World.ownsRow.alloc hown _) _) ⟨wr.heap.size + 1, 0, none⟩ 2 2 [.int .i64 (iLo l k), .int .i64 1, .int .i64 (iHi l k + 1), .int .i64 (-1)] rfl rfl (Hnw.out _) (by simp [Value.oneCell']) (by unfold maxLen; omega) (by omega) (by simp; omega) ?_); intro v3 w3 hown3 hg3 _; obtain ⟨c3, f3⟩ := grown_keeps hg3 (b := w.heap.size) (by simp; omega) (fun h => (by have := hlow _ h.symm; omega)); obtain ⟨a3, cap3, rfl⟩ := ownsRow_val hown3)
      have hz3 := hg3.size
      simp only [World.size_alloc] at hz3
      go_roundw
      case rel =>
        have hE : OwnP 119 w3 (w.heap.size + 1) (.slice a3 (2 * k + 2) cap3) (edg (l.take (k + 1))) := by
          rw [edg_snoc l k hlt]
          unfold OwnP
          rw [List.length_append, Hel.out, encL_append]
          exact hown3
        have k1 : w3.cell? ⟨w.heap.size, 0, none⟩ = some (.slice a1 (2 * k) cap1) := (c3 0).trans ((old2 wr _ _ hz 0).1.trans hc)
        have k2 : w3.frozen? ⟨w.heap.size, 0, none⟩ = false := (f3 0).trans ((old2 wr _ _ hz 0).2.trans hf)
        exact ⟨k + 1, .slice a3 (2 * k + 2) cap3, by omega, congrArg (Value.int .i64) (by omega), World.cell?_setCell_same' _ _ _ (by rw [k1]; rfl), by rw [World.frozen?_setCell]; exact k2, ownsRow_setCell_below hE (by first | omega | simp) _, (((hB.alloc hB.size _).alloc (by first | omega | (simp; omega)) _).grown hg3 (by first | omega | (simp; omega)) (fun j h => (by have := hlow _ h; omega))).setCell (Nat.le_refl _) _, by first | omega | (simp; omega)⟩
      case measure => simp [intOf]; omega
    · obtain rfl : k = l.length := by omega
      rw [List.take_length] at hown hel
      clear h3
      go_wp2_with fail
      refine (sort_any _ _ (w.heap.size + 1) _ hown (by omega) (by omega)).mono ?_
      rintro e w1 ⟨rfl, ⟨E, hp, hs, hr⟩, hb1⟩
      have c1 := (hb1.cell (p := ⟨w.heap.size, 0, none⟩) (Nat.lt_succ_self _)).trans hc
      have hz1' := hb1.size
      go_wp2
      go_ret
      exact ⟨rfl, hB.trans (hb1.mono (by omega)), sv, E, by omega, c1, hr, hp, hs, fun k h => by have := hown.lt k h; omega⟩
end Go.Proofs.YtbgfgpjgehkdjaaGreat
