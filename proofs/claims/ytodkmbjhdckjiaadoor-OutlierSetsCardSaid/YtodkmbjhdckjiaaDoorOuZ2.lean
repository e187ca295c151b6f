/- OutlierSets: for every list of intervals the statement answers true and leaves its argument as it was. Its card ties the table of math/bits to the program's text. No other condition. -/
import Derived.Test.YtodkmbjhdckjiaaDoorOuQ
import Derived.Test.YtodkmbjhdckjiaaDoorFrT
namespace Go.Proofs.YtodkmbjhdckjiaaDoor
open Go.RowKit Go.Shelf
open Go.ChangeShapes Go.WideShapes
attribute [local go_sem ↓] run_max_mx run_min_mn run_eql_iv run_neq_iv
set_option maxRecDepth 100000 in
set_option maxHeartbeats 2000000 in
theorem sets_walk (w : World) (hT : TabAt 0 Lib.deBruijn32tab w) (v : Value) (l : List Iv) (hv : IvRow w v l) : Calls Tryd.prog 4 #[v] w fun e w' => e = .returned (.bool true) ∧ Below w.heap.size w w' := by
  have hv0 := hv
  obtain ⟨a, cap, rfl, h1, h2, h3⟩ := hv
  clear h3
  cases hok : ouOk l with
  | false =>
    go_enter Tryd.func4, Tryd.ntmps4
    go_wp2_with fail
    refine (head_any _ hT).mono ?_
    rintro e w1 ⟨rfl, b1⟩
    have hri := right16_any _ l _ (hv0.below (Nat.le_refl _) b1)
    rw [hok] at hri
    go_wp2_with (go_at_call 18; refine hri.mono ?_; rintro e w2 ⟨rfl, b2⟩)
    go_ret
    exact ⟨rfl, b1.trans (b2.mono b1.size)⟩
  | true =>
    have hpos := ((ouOk_iff l).1 hok).1
    have he : ouEr l = 0 := by simp [ouEr, hok]; omega
    have hlv := lstV_ok hok
    have Hok := hide hok
    have hsp := setsL_pos hok
    have hsl := setsL_length l
    have hza := hide (zero_agree hok)
    have hzo := hide (zero_one hok)
    go_enter Tryd.func4, Tryd.ntmps4
    go_wp2_with fail
    refine (head_any _ hT).mono ?_
    rintro e w1 ⟨rfl, b1⟩
    have hri := right16_any _ l _ (hv0.below (Nat.le_refl _) b1)
    rw [hok] at hri
    clear hok
    go_wp2_with (go_at_call 18; refine hri.mono ?_; rintro e w2 ⟨rfl, b2⟩)
    have B2 : Below w.heap.size w w2 := b1.trans (b2.mono b1.size)
    refine (Least_any _ l _ (hv0.below (Nat.le_refl _) B2)).mono ?_
    rintro e w3 ⟨rfl, b3⟩
    rw [he, hlv]
    have B3 : Below w.heap.size w w3 := B2.trans (b3.mono B2.size)
    clear b1 b2 b3 B2 hri
    go_wp2_with fail
    refine (Sets_any _ l _ (hv0.below (Nat.le_refl _) B3) (tab_below hT (Nat.le_refl _) B3)).mono ?_
    rintro e w4 ⟨x, rfl, hx, b4⟩
    rw [he]
    have B4 : Below w.heap.size w w4 := B3.trans (b4.mono B3.size)
    clear b4 B3 hlv he
    obtain ⟨sa, scap, rfl, q1, q2, q3⟩ := hx
    have n1 : decide (((setsL l).length : Int) < 1) = false := by rw [decide_eq_false_iff_not]; omega
    have n2 : decide (l.length < (setsL l).length) = false := by rw [decide_eq_false_iff_not]; omega
    have n3 : decide (((setsL l).length : Int) > l.length) = false := by rw [decide_eq_false_iff_not]; omega
    have hag := agree_any _ (.slice none 0 0) l [] _ (hv0.below (Nat.le_refl _) B4) (IsRow.nil _) (by omega)
    rw [← hza.out] at hag
    by_cases hz : lst l = 0
    · have hz1 : (lst l == 0) = true := by rw [beq_iff_eq]; exact hz
      have hone : (((setsL l).length : Int) != 1) = false := by rw [hzo.out hz]; rfl
      rw [hz1] at hag
      have Hz := hide hz
      clear hz
      go_wp2_with (go_at_call 19; refine hag.mono ?_; rintro e w5 ⟨rfl, b5⟩)
      have B5 : Below w.heap.size w w5 := B4.trans (b5.mono B4.size)
      have g3 : ∀ i, i < (setsL l).length → ∃ b off u, sa = some ⟨b, off, none⟩ ∧ b < w5.heap.size ∧ w5.cell? ⟨b, off + i, none⟩ = some u ∧ IsRow w5 u (rAt (setsL l) i) := fun i hi => by
        obtain ⟨b, off, u, e1, e2, e3, e4⟩ := q3 i hi
        exact ⟨b, off, u, e1, Nat.lt_of_lt_of_le e2 b5.size, (b5.cell (p := ⟨b, off + i, none⟩) e2).trans e3, e4.below (Nat.le_refl _) b5⟩
      clear q3 hag b5 B4
      go_loopw [61] (fun i wr => ∃ k : Nat, k ≤ (setsL l).length ∧ i = .int .i64 k ∧ Below w5.heap.size w5 wr) (fun i _ => (setsL l).length - (intOf i).toNat)
      case atStart => exact ⟨0, Nat.zero_le _, rfl, Below.refl _ _⟩
      case round =>
        obtain ⟨k, hk, rfl, hB⟩ := hrel
        have hz5 := hB.size
        by_cases hlt : k < (setsL l).length
        · obtain ⟨b, off, u, rfl, e2, e3, e4⟩ := g3 k hlt
          have hm := rAt_mem hlt
          have r1 : (((rAt (setsL l) k).length : Int) != lst l) = false := by
            obtain ⟨_, _, _, h⟩ := sets_at Hok.out hm
            rw [h]; simp
          have r2 := sets_rise Hok.out hm
          have r3 := sets_agree Hok.out hm
          have e3' := (hB.cell (p := ⟨b, off + k, none⟩) e2).trans e3
          have e4' := e4.below (Nat.le_refl _) hB
          have hri := rising_any _ _ (l.length : Int) _ e4'
          have hag := agree_any _ _ l _ _ ((hv0.below (Nat.le_refl _) B5).below (Nat.le_refl _) hB) e4' (by omega)
          rw [r2] at hri
          rw [r3] at hag
          rcases Nat.eq_zero_or_pos k with hk0 | hk0
          · have hk0' : decide ((k : Int) > 0) = false := by rw [decide_eq_false_iff_not]; omega
            have hk0n : decide (0 < k) = false := by rw [decide_eq_false_iff_not]; omega
            obtain ⟨ua, ucap, rfl, _, _, _⟩ := e4
            clear g3 e3 e4' r2 r3 hm hk0
            go_wp2_with (first | (go_at_call 20; refine hri.mono ?_; rintro e w6 ⟨rfl, rfl⟩) | (go_at_call 19; refine hag.mono ?_; rintro e w6 ⟨rfl, b6⟩))
            go_roundw
            case rel => exact ⟨k + 1, by omega, by go_num, (by ((repeat' (first | exact Below.refl _ _ | exact hB | exact b6 | refine Below.alloc ?_ ?_ _ | refine Below.setCell ?_ ?_ _ | refine Below.drew ?_ | refine below_drewN ?_ _ | refine Below.trans ?_ (hB.mono ?_) | refine Below.trans ?_ (b6.mono ?_))) <;> (first | omega | (simp; done) | (simp; omega))))⟩
            case measure => simp [intOf]; omega
          · have hk0' : decide ((k : Int) > 0) = true := by rw [decide_eq_true_iff]; omega
            have hlt2 := sets_lt Hok.out hk0 hlt
            obtain ⟨b', off', u', hbb, e2', e3'', e4''⟩ := g3 (k - 1) (by omega)
            cases hbb
            have f4 := e4''.below (Nat.le_refl _) hB
            have f3 := (hB.cell (p := ⟨b, off + (k - 1), none⟩) e2).trans e3''
            have hw : IntKind.i64.wrap ((k : Int) - 1) = ((k - 1 : Nat) : Int) := by rw [IntWalk.i64_in _ (by omega)]; omega
            have hkl : k - 1 < (setsL l).length := by omega
            have hin : ∀ W, Below wr.heap.size wr W → Calls Tryd.prog 17 #[u', u] W fun e w' => e = .returned (.int .i64 (cmpI (rAt (setsL l) (k - 1)) (rAt (setsL l) k))) ∧ ∃ n, w' = W.drewN n := fun W hW => RInts_any _ _ _ _ _ (f4.below (Nat.le_refl _) hW) (e4'.below (Nat.le_refl _) hW)
            have hcl : decide (cmpI (rAt (setsL l) (k - 1)) (rAt (setsL l) k) ≥ 0) = false := by rw [decide_eq_false_iff_not]; omega
            have f3' : ∀ W, Below wr.heap.size wr W → W.cell? ⟨b, off + (k - 1), none⟩ = some u' := fun W hW => (hW.cell (p := ⟨b, off + (k - 1), none⟩) (by show b < _; omega)).trans f3
            generalize cmpI (rAt (setsL l) (k - 1)) (rAt (setsL l) k) = cq at *
            obtain ⟨km, hkm⟩ : ∃ km, km = k - 1 := ⟨_, rfl⟩
            rw [← hkm] at hw hkl f3'
            obtain ⟨ua, ucap, rfl, _, _, _⟩ := e4
            obtain ⟨ua', ucap', rfl, _, _, _⟩ := e4''
            have HIN := hide hin
            have F3 := hide f3'
            clear g3 e3 e4' r2 r3 hm hkm hlt2 hin f3' f3 f4 e3''
            go_wp2_with (first | (go_at_call 20; refine hri.mono ?_; rintro e w6 ⟨rfl, rfl⟩) | (go_at_call 19; refine hag.mono ?_; rintro e w6 ⟨rfl, b6⟩; have f3 := F3.out _ b6) | (go_at_call 17; refine (HIN.out _ b6).mono ?_; rintro e w7 ⟨rfl, n7, h7⟩))
            go_roundw
            case rel =>
              refine ⟨k + 1, by omega, by go_num, ?_⟩
              first | exact below_drewN (hB.trans (b6.mono hz5)) _ | (rw [h7]; exact below_drewN (hB.trans (b6.mono hz5)) _)
            case measure => simp [intOf]; omega
        · clear g3
          go_wp2_with fail
          go_ret
          exact ⟨rfl, B5.trans (hB.mono B5.size)⟩
    · have hz1 : (lst l == 0) = false := by rw [beq_eq_false_iff_ne]; exact hz
      rw [hz1] at hag
      have Hz := hide hz
      clear hz
      go_wp2_with (go_at_call 19; refine hag.mono ?_; rintro e w5 ⟨rfl, b5⟩)
      have B5 : Below w.heap.size w w5 := B4.trans (b5.mono B4.size)
      have g3 : ∀ i, i < (setsL l).length → ∃ b off u, sa = some ⟨b, off, none⟩ ∧ b < w5.heap.size ∧ w5.cell? ⟨b, off + i, none⟩ = some u ∧ IsRow w5 u (rAt (setsL l) i) := fun i hi => by
        obtain ⟨b, off, u, e1, e2, e3, e4⟩ := q3 i hi
        exact ⟨b, off, u, e1, Nat.lt_of_lt_of_le e2 b5.size, (b5.cell (p := ⟨b, off + i, none⟩) e2).trans e3, e4.below (Nat.le_refl _) b5⟩
      clear q3 hag b5 B4
      go_loopw [61] (fun i wr => ∃ k : Nat, k ≤ (setsL l).length ∧ i = .int .i64 k ∧ Below w5.heap.size w5 wr) (fun i _ => (setsL l).length - (intOf i).toNat)
      case atStart => exact ⟨0, Nat.zero_le _, rfl, Below.refl _ _⟩
      case round =>
        obtain ⟨k, hk, rfl, hB⟩ := hrel
        have hz5 := hB.size
        by_cases hlt : k < (setsL l).length
        · obtain ⟨b, off, u, rfl, e2, e3, e4⟩ := g3 k hlt
          have hm := rAt_mem hlt
          have r1 : (((rAt (setsL l) k).length : Int) != lst l) = false := by
            obtain ⟨_, _, _, h⟩ := sets_at Hok.out hm
            rw [h]; simp
          have r2 := sets_rise Hok.out hm
          have r3 := sets_agree Hok.out hm
          have e3' := (hB.cell (p := ⟨b, off + k, none⟩) e2).trans e3
          have e4' := e4.below (Nat.le_refl _) hB
          have hri := rising_any _ _ (l.length : Int) _ e4'
          have hag := agree_any _ _ l _ _ ((hv0.below (Nat.le_refl _) B5).below (Nat.le_refl _) hB) e4' (by omega)
          rw [r2] at hri
          rw [r3] at hag
          rcases Nat.eq_zero_or_pos k with hk0 | hk0
          · have hk0' : decide ((k : Int) > 0) = false := by rw [decide_eq_false_iff_not]; omega
            have hk0n : decide (0 < k) = false := by rw [decide_eq_false_iff_not]; omega
            obtain ⟨ua, ucap, rfl, _, _, _⟩ := e4
            clear g3 e3 e4' r2 r3 hm hk0
            go_wp2_with (first | (go_at_call 20; refine hri.mono ?_; rintro e w6 ⟨rfl, rfl⟩) | (go_at_call 19; refine hag.mono ?_; rintro e w6 ⟨rfl, b6⟩))
            go_roundw
            case rel => exact ⟨k + 1, by omega, by go_num, (by ((repeat' (first | exact Below.refl _ _ | exact hB | exact b6 | refine Below.alloc ?_ ?_ _ | refine Below.setCell ?_ ?_ _ | refine Below.drew ?_ | refine below_drewN ?_ _ | refine Below.trans ?_ (hB.mono ?_) | refine Below.trans ?_ (b6.mono ?_))) <;> (first | omega | (simp; done) | (simp; omega))))⟩
            case measure => simp [intOf]; omega
          · have hk0' : decide ((k : Int) > 0) = true := by rw [decide_eq_true_iff]; omega
            have hlt2 := sets_lt Hok.out hk0 hlt
            obtain ⟨b', off', u', hbb, e2', e3'', e4''⟩ := g3 (k - 1) (by omega)
            cases hbb
            have f4 := e4''.below (Nat.le_refl _) hB
            have f3 := (hB.cell (p := ⟨b, off + (k - 1), none⟩) e2).trans e3''
            have hw : IntKind.i64.wrap ((k : Int) - 1) = ((k - 1 : Nat) : Int) := by rw [IntWalk.i64_in _ (by omega)]; omega
            have hkl : k - 1 < (setsL l).length := by omega
            have hin : ∀ W, Below wr.heap.size wr W → Calls Tryd.prog 17 #[u', u] W fun e w' => e = .returned (.int .i64 (cmpI (rAt (setsL l) (k - 1)) (rAt (setsL l) k))) ∧ ∃ n, w' = W.drewN n := fun W hW => RInts_any _ _ _ _ _ (f4.below (Nat.le_refl _) hW) (e4'.below (Nat.le_refl _) hW)
            have hcl : decide (cmpI (rAt (setsL l) (k - 1)) (rAt (setsL l) k) ≥ 0) = false := by rw [decide_eq_false_iff_not]; omega
            have f3' : ∀ W, Below wr.heap.size wr W → W.cell? ⟨b, off + (k - 1), none⟩ = some u' := fun W hW => (hW.cell (p := ⟨b, off + (k - 1), none⟩) (by show b < _; omega)).trans f3
            generalize cmpI (rAt (setsL l) (k - 1)) (rAt (setsL l) k) = cq at *
            obtain ⟨km, hkm⟩ : ∃ km, km = k - 1 := ⟨_, rfl⟩
            rw [← hkm] at hw hkl f3'
            obtain ⟨ua, ucap, rfl, _, _, _⟩ := e4
            obtain ⟨ua', ucap', rfl, _, _, _⟩ := e4''
            have HIN := hide hin
            have F3 := hide f3'
            clear g3 e3 e4' r2 r3 hm hkm hlt2 hin f3' f3 f4 e3''
            go_wp2_with (first | (go_at_call 20; refine hri.mono ?_; rintro e w6 ⟨rfl, rfl⟩) | (go_at_call 19; refine hag.mono ?_; rintro e w6 ⟨rfl, b6⟩; have f3 := F3.out _ b6) | (go_at_call 17; refine (HIN.out _ b6).mono ?_; rintro e w7 ⟨rfl, n7, h7⟩))
            go_roundw
            case rel =>
              refine ⟨k + 1, by omega, by go_num, ?_⟩
              first | exact below_drewN (hB.trans (b6.mono hz5)) _ | (rw [h7]; exact below_drewN (hB.trans (b6.mono hz5)) _)
            case measure => simp [intOf]; omega
        · clear g3
          go_wp2_with fail
          go_ret
          exact ⟨rfl, B5.trans (hB.mono B5.size)⟩
set_option maxRecDepth 100000 in
theorem outlierSets_row : Rows.OutlierSetsSaid :=
  OpenClaim.holds_of_wide 4 Tryd.f4 rfl rfl rfl rfl rfl rfl rfl ⟨rfl, rfl, rfl, rfl, rfl⟩ rfl rfl rfl rfl rfl (by kernel_rfl) Tryd.func4 (by kernel_rfl)
    (of_decide_eq_true (by kernel_rfl)) (by unfold Func.isWrapper; rw [if_neg (of_decide_eq_false (by kernel_rfl))]; exact ⟨rfl, rfl⟩)
    (fun os started H enc _ => law_liftedT started 4 Tryd.f4 Tryd.func4 (by kernel_rfl) Rows.outlierSetsSpec rfl rfl
      (fun ds h => by match ds, h with | [_], _ => exact ⟨rfl, rfl, rfl⟩)
      (fun t h => by
        rw [Tryd.params4] at h
        simp only [List.mem_cons, List.not_mem_nil, or_false] at h
        subst h; exact ⟨by kernel_rfl, of_decide_eq_true (by kernel_rfl)⟩)
      (ChangeSpec.witness_shaped (enc := enc) (C := Tryd.checked) (os := os) (X := fun w _ => laidMetH Tryd.prog laidT w) false (World.doorLaid Tryd.prog 400 os) #[.slice none 0 0] 8 rfl (World.shaped_of_RefB (by kernel_rfl) (by kernel_rfl)) (by kernel_rfl) (by kernel_rfl) (by kernel_rfl) (door_met os _))
      (fun W base args ds p hT hA hok => by
        rw [Tryd.params4] at hA hok
        obtain ⟨v0, vs0, d0, ds0, p0, q0, hargs, rfl, rfl, h0, r0⟩ := ChangeShapes.trodAll_cons hA
        obtain ⟨rfl, rfl, rfl⟩ := ChangeShapes.trodAll_nil r0
        obtain rfl : args = #[v0] := by rw [← Array.toArray_toList (xs := args), hargs]
        obtain ⟨l0, hl0, wl0⟩ := open_ivs (hok 0 _ v0 rfl rfl) h0
        exact sets_walk W hT v0 l0 hl0))
set_option maxRecDepth 100000 in
theorem outlierSets_holds : Rows.OutlierSetsCardSaid :=
  Claim7.holds_tied_plain_at .later [] [.data] true _ false outlierSets_row (fun _ h => by cases h) (by kernel_rfl) (fun _ h => by cases h) outlierSets_row_tie rfl ⟨rfl, rfl⟩ (by kernel_rfl) rfl
    (fun f fn hf hfn => by
      obtain rfl : f = 4 := Option.some.inj ((show Tryd.prog.funcNamed Rows.outlierSetsRow.func = some 4 by kernel_rfl).symm.trans hf) |>.symm
      obtain rfl : fn = Tryd.f4 := (Option.some.inj (Tryd.func4.symm.trans hfn)).symm
      refine ⟨by kernel_rfl, fun j t ht => ?_⟩
      have hm := Array.mem_of_getElem? ht
      have key : (Tryd.f4).params.all (fun t => !Tryd.prog.wantsStandIn t) = true := by kernel_rfl
      have := Array.all_eq_true_iff_forall_mem.1 key t hm
      exact (by simpa using this : Tryd.prog.wantsStandIn t = false))
    (by kernel_rfl)
end Go.Proofs.YtodkmbjhdckjiaaDoor
