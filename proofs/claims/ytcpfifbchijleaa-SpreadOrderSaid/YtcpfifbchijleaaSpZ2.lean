/- SpreadOrder: for every list of widths and numbers the statement answers true and leaves its arguments as they were. No condition. -/
import Derived.Test.YtcpfifbchijleaaSpZ1
namespace Go.Proofs.Ytcpfifbchijleaa
open Go.RowKit
attribute [local go_sem ↓] run_max_mx run_min_mn run_eql_iv run_neq_iv
theorem rev_at (l : List Int) (k : Nat) (hk : k < l.length) : iAt l.reverse k = iAt l (l.length - 1 - k) := by
  rw [iAt_lt _ _ (by simpa using hk), iAt_lt _ _ (by omega)]
  exact List.getElem_reverse (by simpa using hk)
theorem rev_take (l : List Int) (k : Nat) (hk : k < l.length) : l.reverse.take (k + 1) = l.reverse.take k ++ [iAt l (l.length - 1 - k)] := by
  rw [take_snoc_is _ _ (by simpa using hk), rev_at l k hk]
def swp (l : List Int) (i j : Nat) : List Int := (l.set i (iAt l j)).set j (iAt l i)
theorem swp_length (l : List Int) (i j : Nat) : (swp l i j).length = l.length := by simp [swp]
theorem swp_perm (l : List Int) (i j : Nat) (hi : i < l.length) (hj : j < l.length) : (swp l i j).Perm l := by
  unfold swp; rw [iAt_lt l i hi, iAt_lt l j hj]; exact List.set_set_perm hi hj
theorem mod_nat (k8 : Int) (n : Nat) (hn : 0 < n) : ∃ q : Nat, k8 % (n : Int) = q ∧ q < n := by
  have h1 := Int.emod_nonneg k8 (show (n : Int) ≠ 0 by omega)
  have h2 := Int.emod_lt_of_pos k8 (show (0 : Int) < (n : Int) by omega)
  exact ⟨(k8 % (n : Int)).toNat, by omega, by omega⟩
set_option maxRecDepth 100000 in
set_option maxHeartbeats 2000000 in
theorem SpOrder_any (w : World) (v : Value) (l : List Int) (hv : IsRow w v l) (_wl : WfI l) (f : Int) (lost : Int) (x1 : Int) (h1 : 0 ≤ x1 ∧ x1 ≤ 255) (x2 : Int) (h2 : 0 ≤ x2 ∧ x2 ≤ 255) :
    Calls Try.prog 5 #[v, .int .i64 f, .int .i64 lost, .int .u8 x1, .int .u8 x2] w fun e w' => e = .returned (.bool true) ∧ Below w.heap.size w w' := by
  by_cases h0 : l.length = 0
  · obtain ⟨a, cap, rfl, g1, g2, g3⟩ := hv
    have e0 : ((l.length : Int) == 0) = true := by rw [beq_iff_eq]; omega
    rw [h0]
    clear g3 e0 h0
    go_enter Try.func5, Try.ntmps5
    go_wp2_with fail
    refine (head_any _).mono ?_
    rintro e w1 ⟨rfl, b1⟩
    go_wp2_with fail
    go_ret
    exact ⟨rfl, b1⟩
  have e0 : ((l.length : Int) == 0) = false := by rw [beq_eq_false_iff_ne]; omega
  by_cases h40 : 40 < l.length
  · obtain ⟨a, cap, rfl, g1, g2, g3⟩ := hv
    clear g3 h0
    go_enter Try.func5, Try.ntmps5
    go_wp2_with fail
    refine (head_any _).mono ?_
    rintro e w1 ⟨rfl, b1⟩
    go_wp2_with fail
    go_ret
    exact ⟨rfl, b1⟩
  obtain ⟨b, off, cap, rfl, g1, g2, g4, g5, g7⟩ := hv.at0 (by omega)
  obtain ⟨i0, hi0, hz0, hz1, hz2⟩ := info_parts infoIs
  obtain ⟨q1, hq1, hq1l⟩ := mod_nat x1 l.length (by omega)
  obtain ⟨q2, hq2, hq2l⟩ := mod_nat x2 l.length (by omega)
  have P1 := hide (l.reverse_perm)
  have P2 := hide (swp_perm l q1 q2 hq1l hq2l)
  have Hq1 := hide hq1
  have Hq2 := hide hq2
  clear g5 hq1 hq2 h0
  go_enter Try.func5, Try.ntmps5
  go_wp2_with fail
  refine (head_any _).mono ?_
  rintro e w1 ⟨rfl, b1⟩
  have hv1 := hv.below (Nat.le_refl _) b1
  have k7 : ∀ i, i < l.length → w1.cell? ⟨b, off + i, none⟩ = some (.int .i64 (iAt l i)) := fun i hi => (b1.cell (p := ⟨b, off + i, none⟩) g4).trans (g7 i hi)
  have K7 := hide k7
  have z1 := b1.size
  clear g7 k7
  go_wp2_with fail
  go_loopw [12, 35] (fun s12 s35 wx => ∃ k : Nat, k ≤ l.length ∧ s35 = .int .i64 k ∧ OwnIs wx w1.heap.size s12 (l.reverse.take k) ∧ Below w1.heap.size w1 wx) (fun _ s35 _ => l.length - (intOf s35).toNat)
  case atStart => exact ⟨0, Nat.zero_le _, rfl, by rw [List.take_zero]; exact OwnIs.nil _ _, Below.refl _ _⟩
  case round =>
    obtain ⟨k, hk, rfl, hown, hB⟩ := hrel
    have hlk : (l.reverse.take k).length = k := by rw [List.length_take, List.length_reverse]; omega
    by_cases hlt : k < l.length
    · obtain ⟨j, hj⟩ : ∃ j, l.length - 1 - k = j := ⟨_, rfl⟩
      have j5' := (hB.cell (p := ⟨b, off + j, none⟩) (by show b < w1.heap.size; omega)).trans (K7.out j (by omega))
      have hjl : j < l.length := by omega
      have ww : IntKind.i64.wrap ((l.length : Int) - 1 - k) = j := by rw [IntWalk.i64_in _ (by omega)]; omega
      have ww2 : (l.length : Int) - 1 - k = j := by omega
      have Hmt := hide (rev_take l k hlt)
      obtain ⟨oa, ocap, hov, ho1, ho2⟩ := hown.val
      have hlow := World.ownsRow.lt hown
      have hown' := hown
      unfold OwnIs at hown'
      rw [hlk] at hown' hov
      subst hov
      have Hlk := hide hlk
      have Hj := hide hj
      have hz := hB.size
      clear hlk hj hown
      go_wp2_with (at_builtin; refine wpList_append_own _ rfl _ _ 22 rfl w1.heap.size 3 i0 (.int .i64 0) 1 8 Try.underlying22 hi0 hz0 hz1 hz2 rfl (by decide) _ k (encI (l.reverse.take k)) rfl (World.ownsRow.alloc hown' _) ⟨wr.heap.size, 0, none⟩ 1 1 [.int .i64 (iAt l j)] rfl rfl (cells_new wr [.int .i64 (iAt l j)] _) (by simp [Value.oneCell']) (by unfold maxLen; omega) (by omega) (by simp; omega) ?_; intro v3 w3 hown3 hg3 _)
      go_roundw
      case rel =>
        refine ⟨k + 1, by omega, by go_num, by rw [Hmt.out, Hj.out]; exact OwnIs.app (by rw [Hlk.out]; exact hown3), ?_⟩
        exact (hB.alloc (by omega) _).grown hg3 (by simp; omega) (fun r h => (hlow r h).1)
      case measure => simp [intOf]; omega
    · obtain rfl : k = l.length := by omega
      rw [show l.reverse.take l.length = l.reverse by rw [List.take_of_length_le (by simp)]] at hown
      have hv2 := hv1.below (Nat.le_refl _) hB
      have zr := hB.size
      clear hlk
      go_wp2_with (at_builtin; refine wpList_append_own _ rfl _ _ 22 rfl wr.heap.size 3 i0 (.int .i64 0) 1 8 Try.underlying22 hi0 hz0 hz1 hz2 rfl (by decide) _ 0 [] rfl (own_newI (base := wr.heap.size) (World.alloc_heap_new wr _) (Nat.le_refl _)) ⟨b, off, none⟩ l.length cap (encI l) rfl (by rw [encI_length, Nat.mul_one]) (isrow_cells (hv2.below (Nat.le_refl _) ((Below.refl _ _).alloc (Nat.le_refl _) _))) (encI_one l) (by unfold maxLen; omega) (by omega) (by simp) ?_; intro v3 w3 hown3 hg3 _)
      rw [Nat.zero_add, List.nil_append] at hown3
      obtain ⟨gB, cap3, rfl, hgb, hglt⟩ := World.ownsRow.form hown3 (by omega)
      obtain ⟨hcap1, hcap2⟩ := own_cap hown3
      have B3 : Below wr.heap.size wr w3 := ((Below.refl _ _).alloc (Nat.le_refl _) _).grown hg3 (by simp) (fun r h => by cases h; exact Nat.le_refl _)
      have RB := hown.row
      have hq1 := Hq1.out
      have hq2 := Hq2.out
      clear hg3 hown
      go_quiet (fail)
      rename_i nq
      have hown4 : OwnIs (w3.drewN nq) wr.heap.size (.slice (some ⟨gB, 0, none⟩) l.length cap3) l := hown3
      have B4 : Below wr.heap.size wr (w3.drewN nq) := below_drewN B3 nq
      clear hown3 B3 hq1 hq2
      generalize w3.drewN nq = w4 at *
      go_upto_region 12 with fail
      go_cut [70] (fun _ wx => OwnIs wx wr.heap.size (.slice (some ⟨gB, 0, none⟩) l.length cap3) (swp l q1 q2) ∧ Below wr.heap.size wr wx)
      case first =>
        have k1 := (World.ownsRow.cellAt hown4 q1 (by omega)).trans (encI_at l q1 hq1l)
        have k2 := (World.ownsRow.cellAt hown4 q2 (by omega)).trans (encI_at l q2 hq2l)
        have f1 := World.ownsRow.frozenAt hown4 q1
        have f2 := World.ownsRow.frozenAt hown4 q2
        have hq1 := Hq1.out
        have hq2 := Hq2.out
        have ho5 := OwnIs.set (OwnIs.set (c := l) hown4 q1 (iAt l q2)) q2 (iAt l q1)
        have e5 : ((l.set q1 (iAt l q2)).set q2 (iAt l q1)).length = l.length := by simp
        rw [e5] at ho5
        have B5 : Below wr.heap.size wr ((w4.setCell ⟨gB, q1, none⟩ (.int .i64 (iAt l q2))).setCell ⟨gB, q2, none⟩ (.int .i64 (iAt l q1))) := (B4.setCell (p := ⟨gB, q1, none⟩) hgb _).setCell (p := ⟨gB, q2, none⟩) hgb _
        have HO := hide ho5
        clear ho5 e5 hown4 B4
        by_cases hqq : q1 = q2
        · subst hqq
          go_region
          all_goals go_wp2_with fail
          all_goals go_meet
          all_goals exact ⟨HO.out.below (Nat.le_refl _) (below_drewN (Below.refl _ _) 1), below_drewN B5 1⟩
        · have hqq' : ¬ q2 = q1 := fun e => hqq e.symm
          go_region
          all_goals go_wp2_with fail
          all_goals go_meet
          all_goals exact ⟨HO.out.below (Nat.le_refl _) (below_drewN (Below.refl _ _) 1), below_drewN B5 1⟩
      case rest =>
        obtain ⟨ho5, B5⟩ := hcut
        have r5 : IsRow wc (.slice (some ⟨gB, 0, none⟩) l.length cap3) (swp l q1 q2) := ho5.row
        have hv5 := hv2.below (Nat.le_refl _) B5
        have rb5 := RB.below (Nat.le_refl _) B5
        have z5 := B5.size
        have B6 : Below w.heap.size w wc := (by ((repeat' (first | exact Below.refl _ _ | exact b1 | exact hB | exact B5 | refine Below.alloc ?_ ?_ _ | refine Below.setCell ?_ ?_ _ | refine Below.drew ?_ | refine below_drewN ?_ _ | refine Below.trans ?_ (b1.mono ?_) | refine Below.trans ?_ (hB.mono ?_) | refine Below.trans ?_ (B5.mono ?_))) <;> (first | omega | (simp; done) | (simp; omega))))
        clear ho5 B5 hv2 RB B4 hB b1 hown4
        go_wp2_with fail
        refine (Worst_any _ l _ _ _ hv5).mono ?_
        rintro e w6 ⟨rfl, b6⟩
        have rb6 := rb5.below (Nat.le_refl _) b6
        have r6 := r5.below (Nat.le_refl _) b6
        go_wp2_with fail
        refine (Worst_any _ l.reverse _ _ _ rb6).mono ?_
        rintro e w7 ⟨rfl, b7⟩
        rw [worst_perm P1.out, spEr_perm P1.out]
        have r7 := r6.below (Nat.le_refl _) b7
        go_wp2_with fail
        refine (Worst_any _ (swp l q1 q2) _ _ _ r7).mono ?_
        rintro e w8 ⟨rfl, b8⟩
        rw [worst_perm P2.out, spEr_perm P2.out]
        have z6 := b6.size
        have z7 := b7.size
        have z8 := b8.size
        have B8 : Below w.heap.size w w8 := (by ((repeat' (first | exact Below.refl _ _ | exact B6 | exact b6 | exact b7 | exact b8 | refine Below.alloc ?_ ?_ _ | refine Below.setCell ?_ ?_ _ | refine Below.drew ?_ | refine below_drewN ?_ _ | refine Below.trans ?_ (B6.mono ?_) | refine Below.trans ?_ (b6.mono ?_) | refine Below.trans ?_ (b7.mono ?_) | refine Below.trans ?_ (b8.mono ?_))) <;> (first | omega | (simp; done) | (simp; omega))))
        have t1 : (worst l f lost == worst l f lost) = true := by simp
        have t2 : (spEr l f lost == spEr l f lost) = true := by simp
        go_wp2_with fail
        go_ret
        exact ⟨ret_bool (by simp), B8⟩
set_option maxRecDepth 100000 in
theorem spreadOrder_holds : Rows.SpreadOrderSaid :=
  OpenClaim.holds_of_wide 5 Try.f5 rfl rfl rfl rfl rfl rfl rfl ⟨rfl, rfl, rfl, rfl, rfl⟩ rfl rfl rfl rfl rfl (by kernel_rfl) Try.func5 (by kernel_rfl)
    (of_decide_eq_true (by kernel_rfl)) (by unfold Func.isWrapper; rw [if_neg (of_decide_eq_false (by kernel_rfl))]; exact ⟨rfl, rfl⟩)
    (fun os started H enc _ => law_lifted started 5 Try.f5 Try.func5 (by kernel_rfl) Rows.spreadOrderSpec rfl rfl
      (fun ds h => by match ds, h with | [_, _, _, _, _], _ => exact ⟨rfl, rfl, rfl⟩)
      (fun t h => by
        rw [Try.params5] at h
        simp only [List.mem_cons, List.not_mem_nil, or_false] at h
        rcases h with rfl | rfl | rfl | rfl | rfl <;> exact ⟨by kernel_rfl, of_decide_eq_true (by kernel_rfl)⟩)
      (ChangeSpec.witness6 (enc := enc) (C := Try.checked) false ⟨#[], #[.slice none 0 0, .int .i64 0, .int .i64 0, .int .u8 0, .int .u8 0], []⟩ 8 (by kernel_rfl) (by kernel_rfl) (by kernel_rfl) (by kernel_rfl))
      (fun W base args ds p hA hok => by
        rw [Try.params5] at hA hok
        obtain ⟨v0, vs0, d0, ds0, p0, q0, hargs, rfl, rfl, h0, r0⟩ := ChangeShapes.trodAll_cons hA
        obtain ⟨v1, vs1, d1, ds1, p1, q1, rfl, rfl, rfl, h1, r1⟩ := ChangeShapes.trodAll_cons r0
        obtain ⟨v2, vs2, d2, ds2, p2, q2, rfl, rfl, rfl, h2, r2⟩ := ChangeShapes.trodAll_cons r1
        obtain ⟨v3, vs3, d3, ds3, p3, q3, rfl, rfl, rfl, h3, r3⟩ := ChangeShapes.trodAll_cons r2
        obtain ⟨v4, vs4, d4, ds4, p4, q4, rfl, rfl, rfl, h4, r4⟩ := ChangeShapes.trodAll_cons r3
        obtain ⟨rfl, rfl, rfl⟩ := ChangeShapes.trodAll_nil r4
        obtain rfl : args = #[v0, v1, v2, v3, v4] := by rw [← Array.toArray_toList (xs := args), hargs]
        obtain ⟨l0, hl0, wl0⟩ := open_is (hok 0 _ v0 rfl rfl) h0
        obtain ⟨x1, rfl, hx1⟩ := open_i64 Try.underlying3 (hok 1 _ v1 rfl rfl) h1
        obtain ⟨x2, rfl, hx2⟩ := open_i64 Try.underlying3 (hok 2 _ v2 rfl rfl) h2
        obtain ⟨x3, rfl, hx3⟩ := open_u8 Try.underlying5 (hok 3 _ v3 rfl rfl) h3
        obtain ⟨x4, rfl, hx4⟩ := open_u8 Try.underlying5 (hok 4 _ v4 rfl rfl) h4
        exact SpOrder_any W v0 l0 hl0 wl0 x1 x2 x3 hx3 x4 hx4))
end Go.Proofs.Ytcpfifbchijleaa
