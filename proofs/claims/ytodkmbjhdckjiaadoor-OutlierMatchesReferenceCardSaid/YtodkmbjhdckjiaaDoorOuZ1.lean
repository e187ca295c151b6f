/- OutlierMatchesReference: for every list of intervals the statement answers true and leaves its argument as it was. Its card ties the table of math/bits to the program's text. No other condition. -/
import Derived.Test.YtodkmbjhdckjiaaDoorOuN
import Derived.Test.YtodkmbjhdckjiaaDoorFrT
namespace Go.Proofs.YtodkmbjhdckjiaaDoor
open Go.RowKit Go.Shelf
open Go.ChangeShapes Go.WideShapes
set_option maxRecDepth 100000 in
set_option maxHeartbeats 2000000 in
theorem matches_walk (w : World) (hT : TabAt 0 Lib.deBruijn32tab w) (v : Value) (l : List Iv) (hv : IvRow w v l) : Calls Tryd.prog 3 #[v] w fun e w' => e = .returned (.bool true) ∧ Below w.heap.size w w' := by
  have hv0 := hv
  obtain ⟨a, cap, rfl, h1, h2, h3⟩ := hv
  clear h3
  by_cases hl : l.length > 20
  · go_enter Tryd.func3, Tryd.ntmps3
    go_wp2_with (go_at_call 9; refine (head_any _ hT).mono ?_; rintro e w1 ⟨rfl, b1⟩)
    go_ret
    exact ⟨rfl, b1⟩
  · go_enter Tryd.func3, Tryd.ntmps3
    go_wp2_with fail
    refine (head_any _ hT).mono ?_
    rintro e w1 ⟨rfl, b1⟩
    go_wp2_with fail
    refine (Least_any _ l _ (hv0.below (Nat.le_refl _) b1)).mono ?_
    rintro e w2 ⟨rfl, b2⟩
    have B2 : Below w.heap.size w w2 := b1.trans (b2.mono b1.size)
    go_wp2_with fail
    refine (RLeast16_any _ l _ (hv0.below (Nat.le_refl _) B2)).mono ?_
    rintro e w3 ⟨rfl, b3⟩
    have B3 : Below w.heap.size w w3 := B2.trans (b3.mono B2.size)
    clear b1 b2 b3 B2
    generalize lstV l = le
    go_wp2_with fail
    refine (Sets_any _ l _ (hv0.below (Nat.le_refl _) B3) (tab_below hT (Nat.le_refl _) B3)).mono ?_
    rintro e w4 ⟨x, rfl, hx, b4⟩
    have B4 : Below w.heap.size w w4 := B3.trans (b4.mono B3.size)
    go_wp2_with fail
    refine (RSets_any _ l _ (hv0.below (Nat.le_refl _) B4)).mono ?_
    rintro e w5 ⟨y, rfl, hy, b5⟩
    have B5 : Below w.heap.size w w5 := B4.trans (b5.mono B4.size)
    have hx5 := hx.below (Nat.le_refl _) b5
    clear b4 b5 B3 B4 hx
    go_wp2_with fail
    refine (RSame16_any _ _ _ _ _ hx5 hy).mono ?_
    rintro e w6 ⟨rfl, n6, h6⟩
    rw [decide_eq_true (rfl : setsL l = setsL l)]
    have B6 : Below w.heap.size w w6 := by rw [h6]; exact below_drewN B5 _
    clear h6 hx5 hy B5
    go_wp2_with fail
    refine (Sure_any _ l _ (hv0.below (Nat.le_refl _) B6) (tab_below hT (Nat.le_refl _) B6)).mono ?_
    rintro e w7 ⟨s, rfl, hs, b7⟩
    have B7 : Below w.heap.size w w7 := B6.trans (b7.mono B6.size)
    go_wp2_with fail
    refine (RSure_any _ l _ (hv0.below (Nat.le_refl _) B7)).mono ?_
    rintro e w8 ⟨t, rfl, ht, b8⟩
    have B8 : Below w.heap.size w w8 := B7.trans (b8.mono B7.size)
    have hs8 := hs.below (Nat.le_refl _) b8
    clear b7 b8 B6 B7 hs
    go_wp2_with fail
    refine (RInts_any _ _ _ _ _ hs8 ht).mono ?_
    rintro e w9 ⟨rfl, n9, h9⟩
    rw [cmpI_self]
    have B9 : Below w.heap.size w w9 := by rw [h9]; exact below_drewN B8 _
    clear h9 hs8 ht B8
    go_wp2_with fail
    go_ret
    exact ⟨rfl, B9⟩
set_option maxRecDepth 100000 in
theorem outlierMatchesReference_row : Rows.OutlierMatchesReferenceSaid :=
  OpenClaim.holds_of_wide 3 Tryd.f3 rfl rfl rfl rfl rfl rfl rfl ⟨rfl, rfl, rfl, rfl, rfl⟩ rfl rfl rfl rfl rfl (by kernel_rfl) Tryd.func3 (by kernel_rfl)
    (of_decide_eq_true (by kernel_rfl)) (by unfold Func.isWrapper; rw [if_neg (of_decide_eq_false (by kernel_rfl))]; exact ⟨rfl, rfl⟩)
    (fun os started H enc _ => law_liftedT started 3 Tryd.f3 Tryd.func3 (by kernel_rfl) Rows.outlierMatchesReferenceSpec rfl rfl
      (fun ds h => by match ds, h with | [_], _ => exact ⟨rfl, rfl, rfl⟩)
      (fun t h => by
        rw [Tryd.params3] at h
        simp only [List.mem_cons, List.not_mem_nil, or_false] at h
        subst h; exact ⟨by kernel_rfl, of_decide_eq_true (by kernel_rfl)⟩)
      (ChangeSpec.witness_shaped (enc := enc) (C := Tryd.checked) (os := os) (X := fun w _ => laidMetH Tryd.prog laidT w) false (World.doorLaid Tryd.prog 400 os) #[.slice none 0 0] 8 rfl (World.shaped_of_RefB (by kernel_rfl) (by kernel_rfl)) (by kernel_rfl) (by kernel_rfl) (by kernel_rfl) (door_met os _))
      (fun W base args ds p hT hA hok => by
        rw [Tryd.params3] at hA hok
        obtain ⟨v0, vs0, d0, ds0, p0, q0, hargs, rfl, rfl, h0, r0⟩ := ChangeShapes.trodAll_cons hA
        obtain ⟨rfl, rfl, rfl⟩ := ChangeShapes.trodAll_nil r0
        obtain rfl : args = #[v0] := by rw [← Array.toArray_toList (xs := args), hargs]
        obtain ⟨l0, hl0, wl0⟩ := open_ivs (hok 0 _ v0 rfl rfl) h0
        exact matches_walk W hT v0 l0 hl0))
set_option maxRecDepth 100000 in
theorem outlierMatchesReference_holds : Rows.OutlierMatchesReferenceCardSaid :=
  Claim7.holds_tied_plain_at .later [] [.data] true _ false outlierMatchesReference_row (fun _ h => by cases h) (by kernel_rfl) (fun _ h => by cases h) outlierMatchesReference_row_tie rfl ⟨rfl, rfl⟩ (by kernel_rfl) rfl
    (fun f fn hf hfn => by
      obtain rfl : f = 3 := Option.some.inj ((show Tryd.prog.funcNamed Rows.outlierMatchesReferenceRow.func = some 3 by kernel_rfl).symm.trans hf) |>.symm
      obtain rfl : fn = Tryd.f3 := (Option.some.inj (Tryd.func3.symm.trans hfn)).symm
      refine ⟨by kernel_rfl, fun j t ht => ?_⟩
      have hm := Array.mem_of_getElem? ht
      have key : (Tryd.f3).params.all (fun t => !Tryd.prog.wantsStandIn t) = true := by kernel_rfl
      have := Array.all_eq_true_iff_forall_mem.1 key t hm
      exact (by simpa using this : Tryd.prog.wantsStandIn t = false))
    (by kernel_rfl)
end Go.Proofs.YtodkmbjhdckjiaaDoor
