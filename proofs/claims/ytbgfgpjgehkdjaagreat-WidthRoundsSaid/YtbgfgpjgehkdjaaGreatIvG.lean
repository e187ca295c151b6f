/- Package interval's iterator over the sorted edges: one value a time. -/
import Derived.Test.YtbgfgpjgehkdjaaGreatIvF
import Derived.RangeFuncNested
import Derived.RangeFuncBound
import Derived.RangeFuncCalls
import Derived.RangeFuncLeaves
import Derived.RangeFuncBox
import Derived.Shelf.Abstract
import Derived.Shelf.AbstractIn
import Derived.Shelf.RegionOpen
import Derived.OwnWalkIn
import Derived.TacticsInMore
import Derived.LoopNIn
import Derived.LoopIn
import Derived.Sort.QuietIn
import Derived.Sort.BigQuietIn
import Derived.BigRegionIn
namespace Go.Proofs.YtbgfgpjgehkdjaaGreat
open Go.RowKit Go.Shelf
attribute [local go_sem] Oper.semAt_some

/-- The blocks from lo up to hi lie as they lay. -/
def KeepB (lo hi : Nat) (A B : World) : Prop := A.heap.size ≤ B.heap.size ∧ ∀ q, lo ≤ q → q < hi → B.heap[q]? = A.heap[q]?
theorem KeepB.refl (lo hi : Nat) (A : World) : KeepB lo hi A A := ⟨Nat.le_refl _, fun _ _ _ => rfl⟩
theorem KeepB.trans {lo hi : Nat} {A B C : World} (h : KeepB lo hi A B) (k : KeepB lo hi B C) : KeepB lo hi A C := ⟨Nat.le_trans h.1 k.1, fun q h1 h2 => (k.2 q h1 h2).trans (h.2 q h1 h2)⟩
theorem KeepB.grown {lo hi : Nat} {A B : World} {row : Option Nat} (hg : A.grownBy B row) (hh : hi ≤ A.heap.size) (hr : ∀ k, row = some k → k < lo ∨ hi ≤ k) : KeepB lo hi A B :=
  ⟨hg.size, fun q h1 h2 => hg.block q (by omega) fun h => by have := hr q h.symm; omega⟩
theorem KeepB.cell {lo hi : Nat} {A B : World} (h : KeepB lo hi A B) {b : Nat} (h1 : lo ≤ b) (h2 : b < hi) (o : Nat) : B.cell? ⟨b, o, none⟩ = A.cell? ⟨b, o, none⟩ := World.cell?_of_block (a := ⟨b, o, none⟩) (h.2 b h1 h2)

theorem grown_drewNI {a w : World} {row : Option Nat} (h : a.grownBy w row) (n : Nat) : a.grownBy (w.drewN n) row := ⟨h.os, h.tape, h.output, h.size, h.block⟩
theorem grown_set {a w : World} {row : Option Nat} (h : a.grownBy w row) {p : Addr} (hp : a.heap.size ≤ p.block) (u : Value) : a.grownBy (w.setCell p u) row :=
  ⟨h.os, h.tape, h.output, by simpa [World.setCell] using h.size, fun i hi hne => (Below.heap_setCell w p u i (by omega)).trans (h.block i hi hne)⟩
theorem grp_next {E pre : List Ed} {a y : Int} {j : Nat} (h : grp E = pre ++ grp ((a, y) :: E.drop j)) (hn : j < E.length → iLo E j ≠ a) : grp E = (pre ++ [(a, y)]) ++ grp (E.drop j) := by
  rcases Nat.lt_or_ge j E.length with hj | hj
  · rw [drop_at E j hj] at h ⊢
    rw [h, grp_apart _ _ _ (by simpa using hn hj)]; simp
  · rw [List.drop_eq_nil_of_le hj] at h ⊢
    rw [h]; simp [grp]
theorem grp_lt {E pre : List Ed} {a y : Int} {r : List Ed} (h : grp E = pre ++ grp ((a, y) :: r)) : pre.length < (grp E).length := by
  obtain ⟨b, s, hs⟩ := grp_head (a, y) r
  rw [h, hs]; simp

set_option maxRecDepth 100000 in
set_option maxHeartbeats 2000000 in
theorem edges2_in (n : Nat) (hn : 1 ≤ n) (l Bs lo hi : Nat) (sv : Value) (E : List Ed) (hE : E.length ≤ 200) (hEb : ∀ e, e ∈ E → -1 ≤ e.2 ∧ e.2 ≤ 1) (hB1 : lo ≤ Bs) (hB2 : Bs < hi) (J Jx : List Ed → World → Prop)
    (W : World) (hhi : hi ≤ W.heap.size) (hJ : AbidesFrom W.heap.size J)
    (hY : ∀ pre x W, J pre W → pre.length < (grp E).length → x ∈ grp E → YieldAt Fence.wide (n - 1) Tryz.prog l #[.agg #[.int .i64 x.1, .int .i64 x.2]] W fun e W' =>
      (e = .returned (.bool true) ∧ J (pre ++ [x]) W' ∧ KeepB lo hi W W') ∨ (e = .returned (.bool false) ∧ Jx (pre ++ [x]) W'))
    (hc : W.cell? ⟨Bs, 0, none⟩ = some sv) (hr : IvRow W sv E) (hrb : 0 < E.length → ∀ k, sv.ownBlock = some k → lo ≤ k ∧ k < hi) (h0 : J [] W) :
    CallsIn Fence.wide n Tryz.prog 92 #[.func (.yield l) #[] #[], .pointer (some ⟨Bs, 0, none⟩)] W fun e W' => (∃ v, e = .returned v) ∧
      ((∃ ys, ys = grp E ∧ J ys W') ∨ (∃ pre, pre <+: grp E ∧ Jx pre W')) := by
  obtain ⟨a, cap, rfl, h1, h2, h3⟩ := hr
  have Heb := hide hEb; clear hEb
  refine callsIn_of_wp Tryz.func92 rfl trivial ?_ rfl
  simp only [Tryz.ntmps92, List.size_toArray, List.length_cons, List.length_nil, Nat.reduceAdd, Nat.reduceSub, Array.replicate_succ, Array.replicate_zero, List.push_toArray, List.append_toArray, List.nil_append, List.cons_append]
  gi_wp2
  gi_loopw [3] (fun i wr => ∃ (k : Nat) (pre : List Ed), k ≤ E.length ∧ i = .int .i64 k ∧ Hid (grp E = pre ++ grp (E.drop k)) ∧ J pre wr ∧ KeepB lo hi W wr) (fun i _ => E.length - (intOf i).toNat)
  case atStart => exact ⟨0, [], Nat.zero_le _, rfl, hide rfl, h0, KeepB.refl _ _ _⟩
  case round =>
    obtain ⟨k, pre, hk, rfl, Hg, hJs, hKB⟩ := hrel
    have hcb := (hKB.cell hB1 hB2 0).trans hc
    by_cases hlt : k < E.length
    · obtain ⟨b, off, rfl, h4, h5, h6⟩ := h3 k hlt
      obtain ⟨hb1, hb2⟩ := hrb (by omega) b rfl
      have h5' := (hKB.cell hb1 hb2 (off + k * 2)).trans h5
      have h6' := (hKB.cell hb1 hb2 (off + k * 2 + 1)).trans h6
      clear h5 h6
      have hz := hKB.1
      have hbk := Heb.out _ (at_mem E k hlt)
      simp only at hbk
      have Hg' : Hid (grp E = pre ++ grp ((iLo E k, iHi E k) :: E.drop (k + 1))) := by
        have := Hg.out; rw [drop_at E k hlt] at this; exact this
      clear Hg
      gi_wp2
      obtain ⟨wo, hwo⟩ : ∃ wo : World, wo = wr := ⟨_, rfl⟩
      subst hwo
      gi_loopw [3] (fun i wi => ∃ (j : Nat) (by_ : Int), k < j ∧ j ≤ E.length ∧ i = .int .i64 j ∧ wi.cell? ⟨wo.heap.size, 0, none⟩ = some (.int .i64 (iLo E k)) ∧ wi.cell? ⟨wo.heap.size, 1, none⟩ = some (.int .i64 by_) ∧
          (∀ o, wi.frozen? ⟨wo.heap.size, o, none⟩ = false) ∧ wo.grownBy wi none ∧ wo.heap.size < wi.heap.size ∧ Hid (grp E = pre ++ grp ((iLo E k, by_) :: E.drop j)) ∧ -(j : Int) ≤ by_ ∧ by_ ≤ j) (fun i _ => E.length - (intOf i).toNat)
      case atStart => exact ⟨k + 1, iHi E k, by omega, by omega, by go_num, by simp, by simp, by simp, World.grownBy_alloc _ _ _, by simp, Hg', by omega, by omega⟩
      case round =>
        obtain ⟨j, y, hj1, hj2, rfl, g1, g2, g3, hgw, hzw, Hgj, hy1, hy2⟩ := hrel
        have hKB2 : KeepB lo hi W wr := hKB.trans (KeepB.grown hgw (by omega) (fun k h => by cases h))
        have hcb2 := (hKB2.cell hB1 hB2 0).trans hc
        clear hcb h5' h6'
        by_cases hjl : j < E.length
        · obtain ⟨b', off', hbo, _, h8, h9⟩ := h3 j hjl
          simp only [Option.some.injEq, Addr.mk.injEq, and_true] at hbo
          obtain ⟨rfl, rfl⟩ := hbo
          have h8' := (hKB2.cell hb1 hb2 (off + j * 2)).trans h8
          have h9' := (hKB2.cell hb1 hb2 (off + j * 2 + 1)).trans h9
          have hbj := Heb.out _ (at_mem E j hjl)
          simp only at hbj
          clear h8 h9
          by_cases hat : iLo E j = iLo E k
          · have hat' : (iLo E j == iLo E k) = true := by rw [beq_iff_eq]; exact hat
            have Hat := hide hat; clear hat
            gi_wp2
            gi_quiet (fail)
            gi_wp2
            gi_region
            gi_wp2
            go_roundw
            case rel =>
              have Hn : grp E = pre ++ grp ((iLo E k, y + iHi E j) :: E.drop (j + 1)) := by
                have := Hgj.out
                rw [drop_at E j hjl, Hat.out, grp_join] at this
                exact this
              exact ⟨j + 1, y + iHi E j, by omega, by omega, by go_num, by simp [go_sem, g1], by simp [go_sem, g2], fun o => by simpa [go_sem] using g3 o, grown_set (grown_drewNI hgw _) (Nat.le_refl _) _, by simp; omega, Hn, by omega, by omega⟩
            case measure => simp [intOf]; omega
          · have hat' : (iLo E j == iLo E k) = false := by rw [beq_eq_false_iff_ne]; exact hat
            have Hnx := hide (grp_next Hgj.out (fun _ => hat))
            have Hat := hide hat; clear hat
            gi_wp2
            gi_quiet (fail)
            rename_i nq
            have hJ2 := hJ pre wo (wr.drewN nq) none hJs (grown_drewNI hgw nq) (fun r h => by cases h)
            obtain ⟨fn, tmps, assign, body, hy, hR⟩ := hY pre (iLo E k, y) (wr.drewN nq) hJ2 (grp_lt Hgj.out) (by rw [Hnx.out]; simp)
            dsimp only at hy
            gi_wp2
            refine hR.mono ?_
            rintro e W3 (⟨rfl, hJ3, hk3⟩ | ⟨rfl, hJx3⟩)
            · gi_wp2
              go_roundw
              case rel => exact ⟨j, pre ++ [(iLo E k, y)], hj2, rfl, Hnx, hJ3, hKB2.trans hk3⟩
              case measure => simp [intOf]; omega
            · gi_wp2
              refine bodyPost_ret (results_none rfl _ _ _) rfl ?_
              exact ⟨⟨_, rfl⟩, .inr ⟨pre ++ [(iLo E k, y)], ⟨_, Hnx.out.symm⟩, hJx3⟩⟩
        · have Hnx := hide (grp_next Hgj.out (fun h => absurd h hjl))
          gi_wp2
          gi_quiet (fail)
          rename_i nq
          have hJ2 := hJ pre wo (wr.drewN nq) none hJs (grown_drewNI hgw nq) (fun r h => by cases h)
          obtain ⟨fn, tmps, assign, body, hy, hR⟩ := hY pre (iLo E k, y) (wr.drewN nq) hJ2 (grp_lt Hgj.out) (by rw [Hnx.out]; simp)
          dsimp only at hy
          gi_wp2
          refine hR.mono ?_
          rintro e W3 (⟨rfl, hJ3, hk3⟩ | ⟨rfl, hJx3⟩)
          · gi_wp2
            go_roundw
            case rel => exact ⟨j, pre ++ [(iLo E k, y)], hj2, rfl, Hnx, hJ3, hKB2.trans hk3⟩
            case measure => simp [intOf]; omega
          · gi_wp2
            refine bodyPost_ret (results_none rfl _ _ _) rfl ?_
            exact ⟨⟨_, rfl⟩, .inr ⟨pre ++ [(iLo E k, y)], ⟨_, Hnx.out.symm⟩, hJx3⟩⟩
    · have hg := Hg.out
      rw [List.drop_eq_nil_of_le (by omega)] at hg
      gi_wp2
      go_end0
      exact ⟨⟨_, rfl⟩, .inl ⟨pre, by rw [hg]; simp [grp], hJs⟩⟩

/-- An edge whose numbers are small. -/
abbrev BEd := { x : Ed // 0 ≤ x.1 ∧ x.1 ≤ 3000000000000001 ∧ -200 ≤ x.2 ∧ x.2 ≤ 200 }
theorem edges2_stops (n : Nat) (hn : 1 ≤ n) (Bs lo hi : Nat) (sv : Value) (E : List Ed) (hE : E.length ≤ 200) (hEb : ∀ e, e ∈ E → 0 ≤ e.1 ∧ e.1 ≤ 3000000000000001 ∧ -1 ≤ e.2 ∧ e.2 ≤ 1) (hB1 : lo ≤ Bs) (hB2 : Bs < hi) (w : World) (hhi : hi ≤ w.heap.size)
    (hc : w.cell? ⟨Bs, 0, none⟩ = some sv) (hr : IvRow w sv E) (hrb : 0 < E.length → ∀ k, sv.ownBlock = some k → lo ≤ k ∧ k < hi) :
    SeqStopsK Fence.wide n Tryz.prog 92 #[.pointer (some ⟨Bs, 0, none⟩)] (fun x : BEd => #[Value.agg #[.int .i64 x.1.1, .int .i64 x.1.2]]) (KeepB lo hi) (fun ys => ys.map (·.1) = grp E) (fun pre => pre.map (·.1) <+: grp E) (grp E).length w := by
  intro l J Jx W hW hJ hJx hY h0
  refine (edges2_in n hn l Bs lo hi sv E hE (fun e he => (hEb e he).2.2) hB1 hB2 (fun pre W => ∃ pre' : List BEd, pre'.map (·.1) = pre ∧ J pre' W) (fun pre W => ∃ pre' : List BEd, pre'.map (·.1) = pre ∧ Jx pre' W) W (Nat.le_trans hhi hW.size)
    (fun s A B row hs hg hr => by obtain ⟨p, h1, h2⟩ := hs; exact ⟨p, h1, hJ p A B row h2 hg hr⟩) ?_ ((hW.cell (p := ⟨Bs, 0, none⟩) (show Bs < w.heap.size by omega)).trans hc) (hr.below (Nat.le_refl _) hW) hrb ⟨[], rfl, h0⟩).mono ?_
  · rintro pre x W1 ⟨pre', rfl, h1⟩ hlen hx
    have hg := grp_mem E hEb x hx
    obtain ⟨fn, tmps, assign, body, hy, hR⟩ := hY pre' ⟨x, by omega⟩ W1 h1 (by simpa using hlen)
    refine ⟨fn, tmps, assign, body, hy, hR.mono ?_⟩
    rintro e W' (⟨he, hJ', hk⟩ | ⟨he, hJ'⟩)
    · exact .inl ⟨he, ⟨_, by simp, hJ'⟩, hk⟩
    · exact .inr ⟨he, ⟨_, by simp, hJ'⟩⟩
  · rintro e W' ⟨he, ⟨ys, rfl, ys', h1, h2⟩ | ⟨pre, h3, pre', rfl, h4⟩⟩
    · exact ⟨he, .inl ⟨ys', h1, h2⟩⟩
    · exact ⟨he, .inr ⟨pre', h3, h4⟩⟩
end Go.Proofs.YtbgfgpjgehkdjaaGreat
