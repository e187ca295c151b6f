/- OutlierTruth: for every list of intervals and every time the statement answers true and leaves its arguments as they were. Its card ties the table of math/bits to the program's text. No other condition. -/
import Derived.Test.YtodkmbjhdckjiaaDoorOuQ
import Derived.Test.YtodkmbjhdckjiaaDoorFrT
namespace Go.Proofs.YtodkmbjhdckjiaaDoor
open Go.RowKit Go.Shelf
open Go.ChangeShapes Go.WideShapes
attribute [local go_sem ↓] run_max_mx run_min_mn run_eql_iv run_neq_iv
set_option maxRecDepth 100000 in
set_option maxHeartbeats 2000000 in
theorem truth_walk (w : World) (hT : TabAt 0 Lib.deBruijn32tab w) (v : Value) (l : List Iv) (hv : IvRow w v l) (t : Int) : Calls Tryd.prog 7 #[v, .int .i64 t] w fun e w' => e = .returned (.bool true) ∧ Below w.heap.size w w' := by
  have hv0 := hv
  obtain ⟨a, cap, rfl, h1, h2, h3⟩ := hv
  cases hok : ouOk l with
  | false =>
    clear h3
    go_enter Tryd.func7, Tryd.ntmps7
    go_wp2_with fail
    refine (head_any _ hT).mono ?_
    rintro e w1 ⟨rfl, b1⟩
    have hri := right16_any _ l _ (hv0.below (Nat.le_refl _) b1)
    rw [hok] at hri
    go_wp2_with (go_at_call 18; refine hri.mono ?_; rintro e w2 ⟨rfl, b2⟩)
    go_ret
    exact ⟨rfl, b1.trans (b2.mono b1.size)⟩
  | true =>
    have hpos := ((ouOk_iff l).1 hok).1
    have he : ouEr l = 0 := by simp [ouEr, hok]; omega
    have hlv := lstV_ok hok
    have Hok := hide hok
    have hsl := setsL_length l
    have htr := truth_law hok t
    have hsub := hide (fun h => sure_sub hok (x := woL l t) (htr.2 h))
    have hmem := hide htr.2
    have hge := htr.1
    clear h3 htr
    go_enter Tryd.func7, Tryd.ntmps7
    go_wp2_with fail
    refine (head_any _ hT).mono ?_
    rintro e w1 ⟨rfl, b1⟩
    have hri := right16_any _ l _ (hv0.below (Nat.le_refl _) b1)
    rw [hok] at hri
    clear hok
    go_wp2_with (go_at_call 18; refine hri.mono ?_; rintro e w2 ⟨rfl, b2⟩)
    have B2 : Below w.heap.size w w2 := b1.trans (b2.mono b1.size)
    refine (Least_any _ l _ (hv0.below (Nat.le_refl _) B2)).mono ?_
    rintro e w3 ⟨rfl, b3⟩
    rw [he, hlv]
    have B3 : Below w.heap.size w w3 := B2.trans (b3.mono B2.size)
    clear b1 b2 b3 B2 hri
    go_wp2_with fail
    refine (Sets_any _ l _ (hv0.below (Nat.le_refl _) B3) (tab_below hT (Nat.le_refl _) B3)).mono ?_
    rintro e w4 ⟨x, rfl, hx, b4⟩
    rw [he]
    have B4 : Below w.heap.size w w4 := B3.trans (b4.mono B3.size)
    clear b4 B3 hlv
    obtain ⟨sa, scap, rfl, q1, q2, q3⟩ := hx
    go_wp2_with fail
    refine (Sure_any _ l _ (hv0.below (Nat.le_refl _) B4) (tab_below hT (Nat.le_refl _) B4)).mono ?_
    rintro e w5 ⟨su, rfl, hsu, b5⟩
    rw [he]
    have B5 : Below w.heap.size w w5 := B4.trans (b5.mono B4.size)
    have hsu0 := hsu
    obtain ⟨ua, ucap, rfl, r1, r2, r3⟩ := hsu
    have hz5 := b5.size
    clear B4
    go_wp2_with fail
    refine (RWithout_any _ l t _ (hv0.below (Nat.le_refl _) B5) (by omega)).mono ?_
    rintro e w6 ⟨ov, rfl, ho, b6⟩
    have hz6 := b6.size
    have B6 : Below w.heap.size w w6 := B5.trans (b6.mono B5.size)
    have hor := ho.row
    have g3 : ∀ i, i < (setsL l).length → ∃ b off u, sa = some ⟨b, off, none⟩ ∧ b < w6.heap.size ∧ w6.cell? ⟨b, off + i, none⟩ = some u ∧ IsRow w6 u (rAt (setsL l) i) := fun i hi => by
      obtain ⟨b, off, u, e1, e2, e3, e4⟩ := q3 i hi
      exact ⟨b, off, u, e1, by omega, (b6.cell (p := ⟨b, off + i, none⟩) (by show b < _; omega)).trans ((b5.cell (p := ⟨b, off + i, none⟩) e2).trans e3), (e4.below (Nat.le_refl _) b5).below (Nat.le_refl _) b6⟩
    have t3 : ∀ i, i < (sureL l).length → ∃ b off, ua = some ⟨b, off, none⟩ ∧ b < w6.heap.size ∧ w6.cell? ⟨b, off + i, none⟩ = some (.int .i64 (iAt (sureL l) i)) := fun i hi => by
      obtain ⟨b, off, e1, e2, e3⟩ := r3 i hi
      exact ⟨b, off, e1, by omega, (b6.cell (p := ⟨b, off + i, none⟩) e2).trans e3⟩
    obtain ⟨oa, ocap, rfl, _, _⟩ := ho.val
    clear q3 r3 b5 b6 B5 ho hsu0 he
    have hge' : ¬ ((woL l t).length : Int) < lst l := by omega
    by_cases hlen : ((woL l t).length : Int) > lst l
    · clear g3 t3
      go_wp2_with fail
      go_ret
      exact ⟨rfl, B6⟩
    · have hle : ((woL l t).length : Int) ≤ lst l := by omega
      have hfin : foB (setsL l) (woL l t) (setsL l).length = true := by rw [foB_all, decide_eq_true_iff]; exact hmem.out hle
      have hsu := hsub.out hle
      have Hfin := hide hfin
      have Hsu := hide hsu
      clear hfin hsu
      generalize woL l t = x at *
      go_wp2_with fail
      go_loopw [13, 64] (fun f i wr => ∃ k : Nat, k ≤ (setsL l).length ∧ i = .int .i64 k ∧ f = .bool (foB (setsL l) x k) ∧ Below w6.heap.size w6 wr) (fun _ i _ => (setsL l).length - (intOf i).toNat)
      case atStart => exact ⟨0, Nat.zero_le _, rfl, rfl, Below.refl _ _⟩
      case round =>
        obtain ⟨k, hk, rfl, rfl, hB⟩ := hrel
        have hz5 := hB.size
        by_cases hlt : k < (setsL l).length
        · obtain ⟨b, off, u, rfl, e2, e3, e4⟩ := g3 k hlt
          have e3' := (hB.cell (p := ⟨b, off + k, none⟩) e2).trans e3
          have e4' := e4.below (Nat.le_refl _) hB
          have hin := RInts_any _ _ _ _ _ (hor.below (Nat.le_refl _) hB) e4'
          have Hn := hide (show foB (setsL l) x (k + 1) = (foB (setsL l) x k || decide (x = rAt (setsL l) k)) from rfl)
          rw [← cmpI_beq] at Hn
          obtain ⟨ua, ucap, rfl, _, _, _⟩ := e4
          clear g3 t3 e3 e4'
          generalize cmpI x (rAt (setsL l) k) = q at *
          cases hf : foB (setsL l) x k with
          | true =>
            rw [hf] at Hn
            go_wp2_with fail
            go_roundw
            case rel => exact ⟨k + 1, by omega, by go_num, by rw [Hn.out]; simp, hB⟩
            case measure => simp [intOf]; omega
          | false =>
            rw [hf] at Hn
            go_wp2_with (go_at_call 17; refine hin.mono ?_; rintro e w6 ⟨rfl, n6, h6⟩)
            go_roundw
            case rel => exact ⟨k + 1, by omega, by go_num, by rw [Hn.out]; simp, by first | exact below_drewN hB _ | (rw [h6]; exact below_drewN hB _)⟩
            case measure => simp [intOf]; omega
        · obtain rfl : k = (setsL l).length := by omega
          rw [Hfin.out]
          clear g3
          go_wp2_with fail
          have B7 : Below w.heap.size w wr := B6.trans (hB.mono B6.size)
          have hor2 := hor.below (Nat.le_refl _) hB
          have t4 : ∀ i, i < (sureL l).length → ∃ b off, ua = some ⟨b, off, none⟩ ∧ b < wr.heap.size ∧ wr.cell? ⟨b, off + i, none⟩ = some (.int .i64 (iAt (sureL l) i)) := fun i hi => by
            obtain ⟨b, off, e1, e2, e3⟩ := t3 i hi
            exact ⟨b, off, e1, by omega, (hB.cell (p := ⟨b, off + i, none⟩) e2).trans e3⟩
          clear t3 hB hor
          go_loop [5, 78] (fun up i => ∃ k : Nat, k ≤ (sureL l).length ∧ i = .int .i64 k ∧ up = .bool true) (fun _ i => (sureL l).length - (intOf i).toNat)
          case atStart => exact ⟨0, Nat.zero_le _, rfl, rfl⟩
          case round =>
            obtain ⟨k, hk, rfl, rfl⟩ := hrel
            by_cases hlt : k < (sureL l).length
            · obtain ⟨b, off, rfl, e2, e3⟩ := t4 k hlt
              have hin := RHas16_any _ _ (iAt (sureL l) k) _ hor2
              rw [decide_eq_true (Hsu.out _ (iAt_mem hlt))] at hin
              clear t4
              go_wp2_with (go_at_call 23; refine hin.mono ?_; rintro e w6 ⟨rfl, rfl⟩)
              go_round
              case rel => exact ⟨k + 1, by omega, by go_num, rfl⟩
              case measure => simp [intOf]; omega
            · clear t4
              go_wp2_with fail
              go_ret
              exact ⟨rfl, B7⟩
set_option maxRecDepth 100000 in
theorem outlierTruth_row : Rows.OutlierTruthSaid :=
  OpenClaim.holds_of_wide 7 Tryd.f7 rfl rfl rfl rfl rfl rfl rfl ⟨rfl, rfl, rfl, rfl, rfl⟩ rfl rfl rfl rfl rfl (by kernel_rfl) Tryd.func7 (by kernel_rfl)
    (of_decide_eq_true (by kernel_rfl)) (by unfold Func.isWrapper; rw [if_neg (of_decide_eq_false (by kernel_rfl))]; exact ⟨rfl, rfl⟩)
    (fun os started H enc _ => law_liftedT started 7 Tryd.f7 Tryd.func7 (by kernel_rfl) Rows.outlierTruthSpec rfl rfl
      (fun ds h => by match ds, h with | [_, _], _ => exact ⟨rfl, rfl, rfl⟩)
      (fun t h => by
        rw [Tryd.params7] at h
        simp only [List.mem_cons, List.not_mem_nil, or_false] at h
        rcases h with rfl | rfl <;> exact ⟨by kernel_rfl, of_decide_eq_true (by kernel_rfl)⟩)
      (ChangeSpec.witness_shaped (enc := enc) (C := Tryd.checked) (os := os) (X := fun w _ => laidMetH Tryd.prog laidT w) false (World.doorLaid Tryd.prog 400 os) #[.slice none 0 0, .int .i64 0] 8 rfl (World.shaped_of_RefB (by kernel_rfl) (by kernel_rfl)) (by kernel_rfl) (by kernel_rfl) (by kernel_rfl) (door_met os _))
      (fun W base args ds p hT hA hok => by
        rw [Tryd.params7] at hA hok
        obtain ⟨v0, vs0, d0, ds0, p0, q0, hargs, rfl, rfl, h0, r0⟩ := ChangeShapes.trodAll_cons hA
        obtain ⟨v1, vs1, d1, ds1, p1, q1, rfl, rfl, rfl, h1, r1⟩ := ChangeShapes.trodAll_cons r0
        obtain ⟨rfl, rfl, rfl⟩ := ChangeShapes.trodAll_nil r1
        obtain rfl : args = #[v0, v1] := by rw [← Array.toArray_toList (xs := args), hargs]
        obtain ⟨l0, hl0, wl0⟩ := open_ivs (hok 0 _ v0 rfl rfl) h0
        obtain ⟨x1, rfl, hx1⟩ := open_i64 Tryd.underlying3 (hok 1 _ v1 rfl rfl) h1
        exact truth_walk W hT v0 l0 hl0 x1))
set_option maxRecDepth 100000 in
theorem outlierTruth_holds : Rows.OutlierTruthCardSaid :=
  Claim7.holds_tied_plain_at .later [] [.data] true _ false outlierTruth_row (fun _ h => by cases h) (by kernel_rfl) (fun _ h => by cases h) outlierTruth_row_tie rfl ⟨rfl, rfl⟩ (by kernel_rfl) rfl
    (fun f fn hf hfn => by
      obtain rfl : f = 7 := Option.some.inj ((show Tryd.prog.funcNamed Rows.outlierTruthRow.func = some 7 by kernel_rfl).symm.trans hf) |>.symm
      obtain rfl : fn = Tryd.f7 := (Option.some.inj (Tryd.func7.symm.trans hfn)).symm
      refine ⟨by kernel_rfl, fun j t ht => ?_⟩
      have hm := Array.mem_of_getElem? ht
      have key : (Tryd.f7).params.all (fun t => !Tryd.prog.wantsStandIn t) = true := by kernel_rfl
      have := Array.all_eq_true_iff_forall_mem.1 key t hm
      exact (by simpa using this : Tryd.prog.wantsStandIn t = false))
    (by kernel_rfl)
end Go.Proofs.YtodkmbjhdckjiaaDoor
