/- The reference of package outlier: with, Sets, Sure. -/
import Derived.Test.YtodkmbjhdckjiaaDoorOuJ
namespace Go.Proofs.YtodkmbjhdckjiaaDoor
open Go.RowKit Go.Shelf
attribute [local go_sem ↓] run_max_mx run_min_mn
/-- A list that lay in w0, one more behind an append to a row that lies beyond. -/
theorem OwnRr.app_old {w0 W w3 : World} {v v3 u : Value} {c : List (List Int)} {x : List Int} {us : List Value} {o : Obj} (hl : us.length = c.length) (_hz : w0.heap.size ≤ W.heap.size) (hous : W.ownsRow w0.heap.size 31 1 v c.length us)
    (h3 : w3.ownsRow w0.heap.size 31 1 v3 (c.length + 1) (us ++ [u])) (hg : (W.alloc o).grownBy w3 v.ownBlock) (hn : ∀ r, v3.ownBlock = some r → v.ownBlock = some r ∨ (W.alloc o).heap.size ≤ r)
    (hus : ∀ i, i < c.length → IsRow W (us.getD i undef) (rAt c i) ∧ (0 < (rAt c i).length → ∀ r, (us.getD i undef).ownBlock = some r → v.ownBlock ≠ some r)) (hu0 : IsRow w0 u x) (hb : Below w0.heap.size w0 W) : OwnRr w3 w0.heap.size v3 (c ++ [x]) := by
  have bA : Below W.heap.size W (W.alloc o) := (Below.refl _ _).alloc (Nat.le_refl _) _
  refine OwnRr.app (W := W.alloc o) hl h3 hg hn (fun i hi => ⟨(hus i hi).1.below (Nat.le_refl _) bA, (hus i hi).2⟩) ((hu0.below (Nat.le_refl _) hb).below (Nat.le_refl _) bA) (fun h0 r hr e => ?_)
  have h1 := isrow_blk hu0 h0 r hr
  have h2 := (World.ownsRow.lt hous r e).1
  omega
theorem own_unique {w : World} {base e n : Nat} {v : Value} {xs ys : List Value} (h : w.ownsRow base e 1 v n xs) (k : w.ownsRow base e 1 v n ys) : xs = ys := by
  rcases h.2 with ⟨hv, h0⟩ | ⟨g, cap, cur, hv, _, hc, _, _, _, ht⟩
  · have h1 := h.1
    have h2 := k.1
    rw [h0] at h1 h2
    have e1 : xs = [] := List.eq_nil_of_length_eq_zero (by simpa using h1)
    have e2 : ys = [] := List.eq_nil_of_length_eq_zero (by simpa using h2)
    rw [e1, e2]
  · rcases k.2 with ⟨hv', _⟩ | ⟨g', cap', cur', hv', _, hc', _, _, _, ht'⟩
    · rw [hv] at hv'; simp at hv'
    · rw [hv] at hv'
      simp only [Value.slice.injEq, Option.some.injEq, Addr.mk.injEq, and_true] at hv'
      obtain ⟨rfl, _⟩ := hv'
      rw [hc] at hc'
      simp only [Option.some.injEq, Obj.cells.injEq] at hc'
      rw [← ht, ← ht', hc'.1]
set_option maxRecDepth 100000 in
set_option maxHeartbeats 2000000 in
theorem with_any (v vx : Value) (l : List (List Int)) (x : List Int) (w : World) (hv : RrRow w v l) (hx : IsRow w vx x) (hs : l.Pairwise LtI) (hlen : l.length ≤ 1000) :
    Calls Tryd.prog 33 #[v, vx] w fun e w' => ∃ rv, e = .returned rv ∧ RrRow w' rv (insD x l) ∧ Below w.heap.size w w' := by
  obtain ⟨i0, hi, hz0, hz1, hz2⟩ := info_parts infoRr
  have hv0 := hv
  have hx0 := hx
  obtain ⟨a, cap, rfl, h1, h2, h3⟩ := hv
  obtain ⟨xa, xcap, rfl, _, _, _⟩ := hx
  have Hs := hide hs
  clear hs
  go_enter Tryd.func33, Tryd.ntmps33
  go_wp2
  go_loopw [5, 6, 7] (fun out d i wr => ∃ (k : Nat) (c : List (List Int)) (done : Bool), k ≤ l.length ∧ i = .int .i64 k ∧ d = .bool done ∧ OwnRr wr w.heap.size out c ∧ Hid (WithAt x l k c done) ∧ Below w.heap.size w wr) (fun _ _ i _ => l.length - (intOf i).toNat)
  case atStart => exact ⟨0, [], false, Nat.zero_le _, rfl, rfl, OwnRr.nil _ _, hide (WithAt.start x l), Below.refl _ _⟩
  case round =>
    obtain ⟨k, c, done, hk, rfl, rfl, hown, HW, hB⟩ := hrel
    have hcl := HW.out.len
    have hz := hB.size
    obtain ⟨oa, ocap, rfl, hc1, hc2⟩ := hown.val
    obtain ⟨us, hul, hous, hur⟩ := hown
    have Hul := hide hul
    have Hur := hide hur
    have hlow := World.ownsRow.lt hous
    clear hul hur
    by_cases hlt : k < l.length
    · obtain ⟨b, off, u, rfl, h4, h5, h6⟩ := h3 k hlt
      have g5 := (hB.cell (p := ⟨b, off + k, none⟩) h4).trans h5
      have g6 := h6.below (Nat.le_refl _) hB
      have gx := hx0.below (Nat.le_refl _) hB
      have h60 := h6
      obtain ⟨ua, ucap, rfl, _, _, _⟩ := h6
      have Hst := hide (HW.out.step hlt)
      have Hin := hide (fun e : cmpI (rAt l k) x = 0 => insD_in x l Hs.out (cmpI_eq e ▸ rAt_mem hlt))
      have H60 := hide h60
      have H5 := hide h5
      have hci := RInts_any _ _ _ _ _ g6 gx
      clear h3 h5 h60 g6 gx
      generalize cmpI (rAt l k) x = q at *
      by_cases hq0 : q = 0
      · subst hq0
        go_wp2_with fail
        refine hci.mono ?_
        rintro e w1 ⟨rfl, m, rfl⟩
        go_wp2_with fail
        go_ret
        refine ⟨_, rfl, ?_, (by ((repeat' (first | exact Below.refl _ _ | exact hB | refine Below.alloc ?_ ?_ _ | refine Below.setCell ?_ ?_ _ | refine Below.drew ?_ | refine below_drewN ?_ _ | refine Below.trans ?_ (hB.mono ?_))) <;> (first | omega | (simp; done) | (simp; omega))))⟩
        rw [Hin.out (by first | rfl | trivial)]
        exact hv0.below (Nat.le_refl _) (below_drewN hB _)
      · have hq1 : (q == 0) = false := by rw [beq_eq_false_iff_ne]; exact hq0
        have Hq0 := hide hq0
        clear hq0
        cases done with
        | true =>
          go_wp2_with fail
          refine hci.mono ?_
          rintro e w1 ⟨rfl, m, hw1⟩
          have b1 : Below wr.heap.size wr w1 := by rw [hw1]; exact below_drewN (Below.refl _ _) _
          have B1 : Below w.heap.size w w1 := by rw [hw1]; exact below_drewN hB _
          have hous1 : w1.ownsRow w.heap.size 31 1 (.slice oa c.length ocap) c.length us := ownsRow_below hous b1
          have hz1' := b1.size
          have g7 := (B1.cell (p := ⟨b, off + k, none⟩) h4).trans H5.out
          clear hw1 hci g5
          go_wp2_with (at_builtin; refine wpList_append_new rfl _ _ 27 rfl w.heap.size 31 i0 (.slice none 0 0) 1 24 Tryd.underlying27 hi hz0 hz1 hz2 rfl (by decide) _ c.length us rfl (World.ownsRow.alloc hous1 _) ⟨w1.heap.size, 0, none⟩ 1 1 [.slice ua (rAt l k).length ucap] rfl rfl (cells_new w1 [.slice ua (rAt l k).length ucap] _) (by simp [Value.oneCell']) (by unfold maxLen; omega) (by omega) (by simp; omega) ?_; intro v4 w4 hown4 hg4 hn4)
          go_roundw
          case rel =>
            refine ⟨k + 1, _, true, by omega, by go_num, rfl, OwnRr.app_old Hul.out (by omega) hous1 hown4 hg4 hn4 (fun i hi => ⟨(Hur.out i hi).1.below (Nat.le_refl _) b1, (Hur.out i hi).2⟩) H60.out B1, hide ((Hst.out Hq0.out).1 (by first | rfl | trivial)), ((B1.alloc (by omega) _).grown hg4 (by simp; omega) (fun r h => (hlow r h).1))⟩
          case measure => simp [intOf]; omega
        | false =>
          by_cases hq2 : 0 < q
          · have hq3 : decide (q > 0) = true := by simpa using hq2
            go_wp2_with fail
            refine hci.mono ?_
            rintro e w1 ⟨rfl, m, hw1⟩
            have b1 : Below wr.heap.size wr w1 := by rw [hw1]; exact below_drewN (Below.refl _ _) _
            have B1 : Below w.heap.size w w1 := by rw [hw1]; exact below_drewN hB _
            have hous1 : w1.ownsRow w.heap.size 31 1 (.slice oa c.length ocap) c.length us := ownsRow_below hous b1
            have hz1' := b1.size
            have g7 := (B1.cell (p := ⟨b, off + k, none⟩) h4).trans H5.out
            clear hw1 hci g5
            have tok1 : True := trivial
            go_wp2_with (first
              | (at_builtin; have _t := tok1; clear tok1; refine wpList_append_new rfl _ _ 27 rfl w.heap.size 31 i0 (.slice none 0 0) 1 24 Tryd.underlying27 hi hz0 hz1 hz2 rfl (by decide) _ c.length us rfl (World.ownsRow.alloc hous1 _) ⟨w1.heap.size, 0, none⟩ 1 1 [.slice xa x.length xcap] rfl rfl (cells_new w1 [.slice xa x.length xcap] _) (by simp [Value.oneCell']) (by unfold maxLen; omega) (by omega) (by simp; omega) ?_; intro v4 w4 hown4 hg4 hn4; have g8 := (((B1.alloc (by omega) (.cells #[.slice xa x.length xcap] 31)).grown hg4 (by simp; omega) (fun r h => (hlow r h).1)).cell (p := ⟨b, off + k, none⟩) h4).trans H5.out; have hz4 := hg4.size; simp only [World.size_alloc] at hz4; obtain ⟨qa, qcap, rfl⟩ := ownsRow_val hown4)
              | (at_builtin; refine wpList_append_new rfl _ _ 27 rfl w.heap.size 31 i0 (.slice none 0 0) 1 24 Tryd.underlying27 hi hz0 hz1 hz2 rfl (by decide) _ (c.length + 1) (us ++ [.slice xa x.length xcap]) rfl (World.ownsRow.alloc hown4 _) ⟨w4.heap.size, 0, none⟩ 1 1 [.slice ua (rAt l k).length ucap] rfl rfl (cells_new w4 [.slice ua (rAt l k).length ucap] _) (by simp [Value.oneCell']) (by unfold maxLen; omega) (by omega) (by simp; omega) ?_; intro v5 w5 hown5 hg5 hn5))
            go_roundw
            case rel =>
              have hr4 : OwnRr w4 w.heap.size (.slice qa (c.length + 1) qcap) (c ++ [x]) := OwnRr.app_old Hul.out (by omega) hous1 hown4 hg4 hn4 (fun i hi => ⟨(Hur.out i hi).1.below (Nat.le_refl _) b1, (Hur.out i hi).2⟩) hx0 B1
              have B4 : Below w.heap.size w w4 := ((B1.alloc (by omega) _).grown hg4 (by simp; omega) (fun r h => (hlow r h).1))
              have hlow4 := World.ownsRow.lt hown4
              have hcl2 : (c ++ [x]).length = c.length + 1 := by simp
              obtain ⟨us4, hul4, hous4, hur4⟩ := hr4
              have e4 : us4 = us ++ [.slice xa x.length xcap] := own_unique hous4 (by rw [hcl2]; exact hown4)
              subst e4
              refine ⟨k + 1, _, true, by omega, by go_num, rfl, OwnRr.app_old hul4 (by omega) hous4 (by rw [hcl2]; exact hown5) hg5 hn5 hur4 H60.out B4, hide ((Hst.out Hq0.out).2.1 (by first | rfl | trivial) hq2), ((B4.alloc (by omega) _).grown hg5 (by simp; omega) (fun r h => (hlow4 r h).1))⟩
            case measure => simp [intOf]; omega
          · have hq3 : decide (q > 0) = false := by simpa using hq2
            go_wp2_with fail
            refine hci.mono ?_
            rintro e w1 ⟨rfl, m, hw1⟩
            have b1 : Below wr.heap.size wr w1 := by rw [hw1]; exact below_drewN (Below.refl _ _) _
            have B1 : Below w.heap.size w w1 := by rw [hw1]; exact below_drewN hB _
            have hous1 : w1.ownsRow w.heap.size 31 1 (.slice oa c.length ocap) c.length us := ownsRow_below hous b1
            have hz1' := b1.size
            have g7 := (B1.cell (p := ⟨b, off + k, none⟩) h4).trans H5.out
            clear hw1 hci g5
            go_wp2_with (at_builtin; refine wpList_append_new rfl _ _ 27 rfl w.heap.size 31 i0 (.slice none 0 0) 1 24 Tryd.underlying27 hi hz0 hz1 hz2 rfl (by decide) _ c.length us rfl (World.ownsRow.alloc hous1 _) ⟨w1.heap.size, 0, none⟩ 1 1 [.slice ua (rAt l k).length ucap] rfl rfl (cells_new w1 [.slice ua (rAt l k).length ucap] _) (by simp [Value.oneCell']) (by unfold maxLen; omega) (by omega) (by simp; omega) ?_; intro v4 w4 hown4 hg4 hn4)
            go_roundw
            case rel =>
              refine ⟨k + 1, _, false, by omega, by go_num, rfl, OwnRr.app_old Hul.out (by omega) hous1 hown4 hg4 hn4 (fun i hi => ⟨(Hur.out i hi).1.below (Nat.le_refl _) b1, (Hur.out i hi).2⟩) H60.out B1, hide ((Hst.out Hq0.out).2.2 (by first | rfl | trivial) hq2), ((B1.alloc (by omega) _).grown hg4 (by simp; omega) (fun r h => (hlow r h).1))⟩
            case measure => simp [intOf]; omega
    · obtain rfl : k = l.length := by omega
      have hfin := HW.out
      unfold WithAt at hfin
      rw [List.take_length] at hfin
      have Hfin := hide hfin
      clear h3 hfin
      cases done with
      | true =>
        have hrr : OwnRr wr w.heap.size (.slice oa c.length ocap) c := ⟨us, Hul.out, hous, Hur.out⟩
        have hrow := hrr.row
        rw [(Hfin.out.2.2 (by first | rfl | trivial)).1] at hrow
        have Hrow := hide hrow
        clear hrow hrr
        go_wp2_with fail
        go_ret
        refine ⟨_, rfl, ?_, hB⟩
        have := Hrow.out
        rwa [← (Hfin.out.2.2 (by first | rfl | trivial)).1] at this ⊢
      | false =>
        have He := hide (insD_none x l (Hfin.out.2.1 (by first | rfl | trivial)).2)
        have Hc := hide (Hfin.out.2.1 (by first | rfl | trivial)).1
        go_wp2_with (at_builtin; refine wpList_append_new rfl _ _ 27 rfl w.heap.size 31 i0 (.slice none 0 0) 1 24 Tryd.underlying27 hi hz0 hz1 hz2 rfl (by decide) _ c.length us rfl (World.ownsRow.alloc hous _) ⟨wr.heap.size, 0, none⟩ 1 1 [.slice xa x.length xcap] rfl rfl (cells_new wr [.slice xa x.length xcap] _) (by simp [Value.oneCell']) (by unfold maxLen; omega) (by omega) (by simp; omega) ?_; intro v4 w4 hown4 hg4 hn4)
        go_ret
        refine ⟨_, rfl, ?_, ((hB.alloc (by omega) _).grown hg4 (by simp; omega) (fun r h => (hlow r h).1))⟩
        have hr4 := (OwnRr.app_old Hul.out (by omega) hous hown4 hg4 hn4 Hur.out hx0 hB).row
        rw [He.out, ← Hc.out]; exact hr4
end Go.Proofs.YtodkmbjhdckjiaaDoor
