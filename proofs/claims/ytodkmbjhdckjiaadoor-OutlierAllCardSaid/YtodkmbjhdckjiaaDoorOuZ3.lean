/- OutlierAll: for every list of intervals and every number the statement answers true and leaves its arguments as they were. Its card ties the table of math/bits to the program's text. No other condition. -/
import Derived.Test.YtodkmbjhdckjiaaDoorOuQ
import Derived.Test.YtodkmbjhdckjiaaDoorFrT
namespace Go.Proofs.YtodkmbjhdckjiaaDoor
open Go.RowKit Go.Shelf
open Go.ChangeShapes Go.WideShapes
attribute [local go_sem ↓] run_max_mx run_min_mn run_eql_iv run_neq_iv
set_option maxRecDepth 100000 in
set_option maxHeartbeats 2000000 in
theorem all_walk (w : World) (hT : TabAt 0 Lib.deBruijn32tab w) (v : Value) (l : List Iv) (hv : IvRow w v l) (m : Nat) (hm : m < 65536) : Calls Tryd.prog 5 #[v, .int .u16 (m : Int)] w fun e w' => e = .returned (.bool true) ∧ Below w.heap.size w w' := by
  have hv0 := hv
  obtain ⟨a, cap, rfl, h1, h2, h3⟩ := hv
  cases hok : ouOk l with
  | false =>
    clear h3
    go_enter Tryd.func5, Tryd.ntmps5
    go_wp2_with fail
    refine (head_any _ hT).mono ?_
    rintro e w1 ⟨rfl, b1⟩
    have hri := right16_any _ l _ (hv0.below (Nat.le_refl _) b1)
    rw [hok] at hri
    go_wp2_with (go_at_call 18; refine hri.mono ?_; rintro e w2 ⟨rfl, b2⟩)
    go_ret
    exact ⟨rfl, b1.trans (b2.mono b1.size)⟩
  | true =>
    have hpos := ((ouOk_iff l).1 hok).1
    have he : ouEr l = 0 := by simp [ouEr, hok]; omega
    have hlv := lstV_ok hok
    have Hok := hide hok
    have hsl := setsL_length l
    have hbs : (bitsTo m l.length).Pairwise (· < ·) := bitsTo_sorted m l.length
    have hbb : ∀ z ∈ bitsTo m l.length, 0 ≤ z ∧ z < l.length := fun z hz => by
      obtain ⟨i, q1, q2, _⟩ := (bitsTo_mem m l.length z).1 hz
      omega
    have hall := hide (fun h => all_law hok hbs hbb h)
    clear h3 hbs hbb
    go_enter Tryd.func5, Tryd.ntmps5
    go_wp2_with fail
    refine (head_any _ hT).mono ?_
    rintro e w1 ⟨rfl, b1⟩
    have hri := right16_any _ l _ (hv0.below (Nat.le_refl _) b1)
    rw [hok] at hri
    clear hok
    go_wp2_with (go_at_call 18; refine hri.mono ?_; rintro e w2 ⟨rfl, b2⟩)
    have B2 : Below w.heap.size w w2 := b1.trans (b2.mono b1.size)
    refine (Least_any _ l _ (hv0.below (Nat.le_refl _) B2)).mono ?_
    rintro e w3 ⟨rfl, b3⟩
    rw [he, hlv]
    have B3 : Below w.heap.size w w3 := B2.trans (b3.mono B2.size)
    clear b1 b2 b3 B2 hri
    go_wp2_with fail
    refine (Sets_any _ l _ (hv0.below (Nat.le_refl _) B3) (tab_below hT (Nat.le_refl _) B3)).mono ?_
    rintro e w4 ⟨x, rfl, hx, b4⟩
    rw [he]
    have B4 : Below w.heap.size w w4 := B3.trans (b4.mono B3.size)
    clear b4 B3 hlv he
    obtain ⟨sa, scap, rfl, q1, q2, q3⟩ := hx
    go_wp2_with fail
    refine (chosen_any m l.length hm hpos.2 _).mono ?_
    rintro e w5 ⟨ov, rfl, ho, b5⟩
    have B5 : Below w.heap.size w w5 := B4.trans (b5.mono B4.size)
    have hor := ho.row
    have g3 : ∀ i, i < (setsL l).length → ∃ b off u, sa = some ⟨b, off, none⟩ ∧ b < w5.heap.size ∧ w5.cell? ⟨b, off + i, none⟩ = some u ∧ IsRow w5 u (rAt (setsL l) i) := fun i hi => by
      obtain ⟨b, off, u, e1, e2, e3, e4⟩ := q3 i hi
      exact ⟨b, off, u, e1, Nat.lt_of_lt_of_le e2 b5.size, (b5.cell (p := ⟨b, off + i, none⟩) e2).trans e3, e4.below (Nat.le_refl _) b5⟩
    obtain ⟨oa, ocap, rfl, _, _⟩ := ho.val
    clear q3 b5 B4 ho
    have hag := agree_any _ _ l _ _ (hv0.below (Nat.le_refl _) B5) hor (by omega)
    generalize bitsTo m l.length = x at *
    by_cases hlen : (x.length : Int) > lst l
    · clear g3
      go_wp2_with fail
      go_ret
      exact ⟨rfl, B5⟩
    · have hfin := hall.out (by omega)
      rw [← foB_all] at hfin
      have Hfin := hide hfin
      clear hfin hag
      go_wp2_with fail
      go_loopw [11, 46] (fun f i wr => ∃ k : Nat, k ≤ (setsL l).length ∧ i = .int .i64 k ∧ f = .bool (foB (setsL l) x k) ∧ Below w5.heap.size w5 wr) (fun _ i _ => (setsL l).length - (intOf i).toNat)
      case atStart => exact ⟨0, Nat.zero_le _, rfl, rfl, Below.refl _ _⟩
      case round =>
        obtain ⟨k, hk, rfl, rfl, hB⟩ := hrel
        have hz5 := hB.size
        by_cases hlt : k < (setsL l).length
        · obtain ⟨b, off, u, rfl, e2, e3, e4⟩ := g3 k hlt
          have e3' := (hB.cell (p := ⟨b, off + k, none⟩) e2).trans e3
          have e4' := e4.below (Nat.le_refl _) hB
          have hin := RInts_any _ _ _ _ _ (hor.below (Nat.le_refl _) hB) e4'
          have Hn := hide (show foB (setsL l) x (k + 1) = (foB (setsL l) x k || decide (x = rAt (setsL l) k)) from rfl)
          rw [← cmpI_beq] at Hn
          obtain ⟨ua, ucap, rfl, _, _, _⟩ := e4
          clear g3 e3 e4'
          generalize cmpI x (rAt (setsL l) k) = q at *
          cases hf : foB (setsL l) x k with
          | true =>
            rw [hf] at Hn
            go_wp2_with fail
            go_roundw
            case rel => exact ⟨k + 1, by omega, by go_num, by rw [Hn.out]; simp, hB⟩
            case measure => simp [intOf]; omega
          | false =>
            rw [hf] at Hn
            go_wp2_with (go_at_call 17; refine hin.mono ?_; rintro e w6 ⟨rfl, n6, h6⟩)
            go_roundw
            case rel => exact ⟨k + 1, by omega, by go_num, by rw [Hn.out]; simp, by first | exact below_drewN hB _ | (rw [h6]; exact below_drewN hB _)⟩
            case measure => simp [intOf]; omega
        · obtain rfl : k = (setsL l).length := by omega
          have hag := agree_any _ _ l _ _ ((hv0.below (Nat.le_refl _) B5).below (Nat.le_refl _) hB) (hor.below (Nat.le_refl _) hB) (by omega)
          rw [← Hfin.out] at hag
          have heq : (foB (setsL l) x (setsL l).length == foB (setsL l) x (setsL l).length) = true := by simp
          generalize foB (setsL l) x (setsL l).length = q at *
          clear g3
          go_wp2_with (go_at_call 19; refine hag.mono ?_; rintro e w6 ⟨rfl, b6⟩)
          go_ret
          exact ⟨by first | rfl | simp, B5.trans ((hB.trans (b6.mono hz5)).mono B5.size)⟩
theorem all_walk2 (w : World) (hT : TabAt 0 Lib.deBruijn32tab w) (v : Value) (l : List Iv) (hv : IvRow w v l) (m : Int) (hm : 0 ≤ m ∧ m ≤ 65535) : Calls Tryd.prog 5 #[v, .int .u16 m] w fun e w' => e = .returned (.bool true) ∧ Below w.heap.size w w' := by
  obtain ⟨n, rfl⟩ := Int.eq_ofNat_of_zero_le hm.1
  exact all_walk w hT v l hv n (by omega)
set_option maxRecDepth 100000 in
theorem outlierAll_row : Rows.OutlierAllSaid :=
  OpenClaim.holds_of_wide 5 Tryd.f5 rfl rfl rfl rfl rfl rfl rfl ⟨rfl, rfl, rfl, rfl, rfl⟩ rfl rfl rfl rfl rfl (by kernel_rfl) Tryd.func5 (by kernel_rfl)
    (of_decide_eq_true (by kernel_rfl)) (by unfold Func.isWrapper; rw [if_neg (of_decide_eq_false (by kernel_rfl))]; exact ⟨rfl, rfl⟩)
    (fun os started H enc _ => law_liftedT started 5 Tryd.f5 Tryd.func5 (by kernel_rfl) Rows.outlierAllSpec rfl rfl
      (fun ds h => by match ds, h with | [_, _], _ => exact ⟨rfl, rfl, rfl⟩)
      (fun t h => by
        rw [Tryd.params5] at h
        simp only [List.mem_cons, List.not_mem_nil, or_false] at h
        rcases h with rfl | rfl <;> exact ⟨by kernel_rfl, of_decide_eq_true (by kernel_rfl)⟩)
      (ChangeSpec.witness_shaped (enc := enc) (C := Tryd.checked) (os := os) (X := fun w _ => laidMetH Tryd.prog laidT w) false (World.doorLaid Tryd.prog 400 os) #[.slice none 0 0, .int .u16 0] 8 rfl (World.shaped_of_RefB (by kernel_rfl) (by kernel_rfl)) (by kernel_rfl) (by kernel_rfl) (by kernel_rfl) (door_met os _))
      (fun W base args ds p hT hA hok => by
        rw [Tryd.params5] at hA hok
        obtain ⟨v0, vs0, d0, ds0, p0, q0, hargs, rfl, rfl, h0, r0⟩ := ChangeShapes.trodAll_cons hA
        obtain ⟨v1, vs1, d1, ds1, p1, q1, rfl, rfl, rfl, h1, r1⟩ := ChangeShapes.trodAll_cons r0
        obtain ⟨rfl, rfl, rfl⟩ := ChangeShapes.trodAll_nil r1
        obtain rfl : args = #[v0, v1] := by rw [← Array.toArray_toList (xs := args), hargs]
        obtain ⟨l0, hl0, wl0⟩ := open_ivs (hok 0 _ v0 rfl rfl) h0
        obtain ⟨x1, rfl, hx1⟩ := open_u16 Tryd.underlying38 (hok 1 _ v1 rfl rfl) h1
        exact all_walk2 W hT v0 l0 hl0 x1 hx1))
set_option maxRecDepth 100000 in
theorem outlierAll_holds : Rows.OutlierAllCardSaid :=
  Claim7.holds_tied_plain_at .later [] [.data] true _ false outlierAll_row (fun _ h => by cases h) (by kernel_rfl) (fun _ h => by cases h) outlierAll_row_tie rfl ⟨rfl, rfl⟩ (by kernel_rfl) rfl
    (fun f fn hf hfn => by
      obtain rfl : f = 5 := Option.some.inj ((show Tryd.prog.funcNamed Rows.outlierAllRow.func = some 5 by kernel_rfl).symm.trans hf) |>.symm
      obtain rfl : fn = Tryd.f5 := (Option.some.inj (Tryd.func5.symm.trans hfn)).symm
      refine ⟨by kernel_rfl, fun j t ht => ?_⟩
      have hm := Array.mem_of_getElem? ht
      have key : (Tryd.f5).params.all (fun t => !Tryd.prog.wantsStandIn t) = true := by kernel_rfl
      have := Array.all_eq_true_iff_forall_mem.1 key t hm
      exact (by simpa using this : Tryd.prog.wantsStandIn t = false))
    (by kernel_rfl)
end Go.Proofs.YtodkmbjhdckjiaaDoor
