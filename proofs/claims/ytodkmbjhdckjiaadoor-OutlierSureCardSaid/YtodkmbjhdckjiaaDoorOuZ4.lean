/- OutlierSure: for every list of intervals and every number the statement answers true and leaves its arguments as they were. Its card ties the table of math/bits to the program's text. No other condition. -/
import Derived.Test.YtodkmbjhdckjiaaDoorOuQ
import Derived.Test.YtodkmbjhdckjiaaDoorFrT
namespace Go.Proofs.YtodkmbjhdckjiaaDoor
open Go.RowKit Go.Shelf
open Go.ChangeShapes Go.WideShapes
attribute [local go_sem ↓] run_max_mx run_min_mn run_eql_iv run_neq_iv
def suT (l : List Iv) (i : Nat) (t : Int) : Bool := !hasB (iLo l i) (iHi l i) t || decide (lst l < (woL l t).length)
def endAt (l : List Iv) (k m : Nat) : Int := if m = 0 then iLo l k else iHi l k
def suIn (b : Bool) (l : List Iv) (i k : Nat) : Nat → Bool
  | 0 => b
  | m + 1 => suIn b l i k m && suT l i (endAt l k m)
set_option maxRecDepth 100000 in
set_option maxHeartbeats 2000000 in
theorem sure_walk (w : World) (hT : TabAt 0 Lib.deBruijn32tab w) (v : Value) (l : List Iv) (hv : IvRow w v l) (m : Nat) (hm : m < 256) : Calls Tryd.prog 6 #[v, .int .u8 (m : Int)] w fun e w' => e = .returned (.bool true) ∧ Below w.heap.size w w' := by
  have hv0 := hv
  obtain ⟨a, cap, rfl, h1, h2, h3⟩ := hv
  cases hok : ouOk l with
  | false =>
    clear h3
    go_enter Tryd.func6, Tryd.ntmps6
    go_wp2_with fail
    refine (head_any _ hT).mono ?_
    rintro e w1 ⟨rfl, b1⟩
    have hri := right16_any _ l _ (hv0.below (Nat.le_refl _) b1)
    rw [hok] at hri
    go_wp2_with (go_at_call 18; refine hri.mono ?_; rintro e w2 ⟨rfl, b2⟩)
    go_ret
    exact ⟨rfl, b1.trans (b2.mono b1.size)⟩
  | true =>
    have hpos := ((ouOk_iff l).1 hok).1
    have he : ouEr l = 0 := by simp [ouEr, hok]; omega
    have hlv := lstV_ok hok
    have Hok := hide hok
    have hsl := setsL_length l
    obtain ⟨i, hi⟩ : ∃ i, i = m % l.length := ⟨_, rfl⟩
    have hil : i < l.length := by rw [hi]; exact Nat.mod_lt _ (by omega)
    have hrem : (m : Int).tmod (l.length : Int) = (i : Int) := by rw [hi]; simp [Int.tmod]
    have hl0 : ((l.length : Int) == 0) = false := by rw [beq_eq_false_iff_ne]; omega
    have hl0' : (l.length : Int) ≠ 0 := by omega
    have hsu := hide (sure_law hok hil)
    have hri2 := hide (sure_rise hok)
    have hle := sure_len hok
    obtain ⟨bi, offi, rfl, bi1, bi2, bi3⟩ := h3 i hil
    have Hi := hide hi
    clear hi
    go_enter Tryd.func6, Tryd.ntmps6
    go_wp2_with fail
    refine (head_any _ hT).mono ?_
    rintro e w1 ⟨rfl, b1⟩
    have hri := right16_any _ l _ (hv0.below (Nat.le_refl _) b1)
    rw [hok] at hri
    clear hok
    go_wp2_with (go_at_call 18; refine hri.mono ?_; rintro e w2 ⟨rfl, b2⟩)
    have B2 : Below w.heap.size w w2 := b1.trans (b2.mono b1.size)
    refine (Least_any _ l _ (hv0.below (Nat.le_refl _) B2)).mono ?_
    rintro e w3 ⟨rfl, b3⟩
    rw [he, hlv]
    have B3 : Below w.heap.size w w3 := B2.trans (b3.mono B2.size)
    clear b1 b2 b3 B2 hri
    go_wp2_with fail
    refine (Sure_any _ l _ (hv0.below (Nat.le_refl _) B3) (tab_below hT (Nat.le_refl _) B3)).mono ?_
    rintro e w4 ⟨su, rfl, hsur, b4⟩
    rw [he]
    have B4 : Below w.heap.size w w4 := B3.trans (b4.mono B3.size)
    have hz4 := B4.size
    have hsur0 := hsur
    obtain ⟨ua, ucap, rfl, r1, r2, r3⟩ := hsur
    clear r3 b4 B3 hlv he
    go_wp2_with fail
    go_loopw [11, 38] (fun f q wr => ∃ k : Nat, k ≤ l.length ∧ q = .int .i64 k ∧ f = .bool (suB l i k) ∧ Below w4.heap.size w4 wr) (fun _ q _ => l.length - (intOf q).toNat)
    case atStart => exact ⟨0, Nat.zero_le _, rfl, rfl, Below.refl _ _⟩
    case round =>
      obtain ⟨k, hk, rfl, rfl, hB⟩ := hrel
      have hz5 := hB.size
      by_cases hlt : k < l.length
      · obtain ⟨b, off, hbb, e2, e3, e4⟩ := h3 k hlt
        cases hbb
        have f3 := ((B4.trans (hB.mono hz4)).cell (p := ⟨bi, offi + k * 2, none⟩) e2).trans e3
        have f4 := ((B4.trans (hB.mono hz4)).cell (p := ⟨bi, offi + k * 2 + 1, none⟩) e2).trans e4
        have Bw : Below w.heap.size w wr := B4.trans (hB.mono hz4)
        have Hk := hide (show suB l i (k + 1) = suIn (suB l i k) l i k 2 by simp [suB, suIn, suT, endAt])
        generalize suB l i k = s0 at *
        clear h3 e3 e4
        go_wp2_with fail
        have Bo : Below wr.heap.size wr ((wr.alloc (.cells #[.int .i64 (iLo l k), .int .i64 (iHi l k)] 42)).alloc (.cells #[.int .i64 (iLo l k), .int .i64 (iHi l k)] 3)) := (by ((repeat' (first | exact Below.refl _ _ | refine Below.alloc ?_ ?_ _ | refine Below.setCell ?_ ?_ _ | refine Below.drew ?_ | refine below_drewN ?_ _)) <;> (first | omega | (simp; done) | (simp; omega))))
        have ho : ∀ m, m < 2 → ((wr.alloc (.cells #[.int .i64 (iLo l k), .int .i64 (iHi l k)] 42)).alloc (.cells #[.int .i64 (iLo l k), .int .i64 (iHi l k)] 3)).cell? ⟨wr.heap.size + 1, m, none⟩ = some (.int .i64 (endAt l k m)) := fun m hm => by
          rcases Nat.eq_zero_or_pos m with h0 | h0
          · subst h0; simp [go_sem, endAt]
          · obtain rfl : m = 1 := by omega
            simp [go_sem, endAt]
        have hzo : ((wr.alloc (.cells #[.int .i64 (iLo l k), .int .i64 (iHi l k)] 42)).alloc (.cells #[.int .i64 (iLo l k), .int .i64 (iHi l k)] 3)).heap.size = wr.heap.size + 2 := by simp
        generalize (wr.alloc (.cells #[.int .i64 (iLo l k), .int .i64 (iHi l k)] 42)).alloc (.cells #[.int .i64 (iLo l k), .int .i64 (iHi l k)] 3) = wo at *
        clear f3 f4
        go_loopw [11, 48] (fun f q wi => ∃ m : Nat, m ≤ 2 ∧ q = .int .i64 m ∧ f = .bool (suIn s0 l i k m) ∧ Below wo.heap.size wo wi) (fun _ q _ => 2 - (intOf q).toNat)
        case atStart => exact ⟨0, Nat.zero_le _, rfl, rfl, Below.refl _ _⟩
        case round =>
          obtain ⟨m, hm2, rfl, rfl, hBi⟩ := hrel
          have hzi := hBi.size
          by_cases hmt : m < 2
          · have c1 := (hBi.cell (p := ⟨_, m, none⟩) (by show _ + 1 < _; omega)).trans (ho m hmt)
            have Bi := Bw.trans ((Bo.trans (hBi.mono (by omega))).mono Bw.size)
            have c2 := (Bi.cell (p := ⟨bi, offi + i * 2, none⟩) e2).trans bi2
            have c3 := (Bi.cell (p := ⟨bi, offi + i * 2 + 1, none⟩) e2).trans bi3
            have hwi := RWithout_any _ l (endAt l k m) _ (hv0.below (Nat.le_refl _) Bi) (by omega)
            have Hn := hide (show suIn s0 l i k (m + 1) = (suIn s0 l i k m && suT l i (endAt l k m)) from rfl)
            have Ht := hide (show suT l i (endAt l k m) = (!hasB (iLo l i) (iHi l i) (endAt l k m) || decide (lst l < (woL l (endAt l k m)).length)) from rfl)
            have Hh := hide (hasB_iff (iLo l i) (iHi l i) (endAt l k m))
            clear ho bi2 bi3
            generalize endAt l k m = t at *
            generalize suIn s0 l i k m = s1 at *
            by_cases d1 : iLo l i ≤ t
            · by_cases d2 : t ≤ iHi l i
              · have hh : hasB (iLo l i) (iHi l i) t = true := Hh.out.2 ⟨d1, d2⟩
                have Hh2 := hide hh
                clear hh
                cases s1 with
                | true =>
                  go_wp2_with (go_at_call 22; refine hwi.mono ?_; rintro e w6 ⟨ov, rfl, ho6, b6⟩; obtain ⟨oa, ocap, rfl, _, _⟩ := ho6.val)
                  go_roundw
                  case rel => exact ⟨m + 1, by omega, by go_num, by rw [Hn.out, Ht.out, Hh2.out]; simp, hBi.trans (b6.mono hzi)⟩
                  case measure => simp [intOf]; omega
                | false =>
                  go_wp2_with fail
                  go_roundw
                  case rel => exact ⟨m + 1, by omega, by go_num, by rw [Hn.out]; simp, hBi⟩
                  case measure => simp [intOf]; omega
              · have hh : hasB (iLo l i) (iHi l i) t = false := by rw [← Bool.not_eq_true]; exact fun h => d2 (Hh.out.1 h).2
                have Hh2 := hide hh
                clear hh
                go_wp2_with fail
                go_roundw
                case rel => exact ⟨m + 1, by omega, by go_num, by rw [Hn.out, Ht.out, Hh2.out]; simp, hBi⟩
                case measure => simp [intOf]; omega
            · have hh : hasB (iLo l i) (iHi l i) t = false := by rw [← Bool.not_eq_true]; exact fun h => d1 (Hh.out.1 h).1
              have Hh2 := hide hh
              clear hh
              go_wp2_with fail
              go_roundw
              case rel => exact ⟨m + 1, by omega, by go_num, by rw [Hn.out, Ht.out, Hh2.out]; simp, hBi⟩
              case measure => simp [intOf]; omega
          · obtain rfl : m = 2 := by omega
            clear ho
            go_wp2_with fail
            go_roundw
            case rel => exact ⟨k + 1, by omega, by go_num, by rw [Hk.out], hB.trans ((Bo.trans (hBi.mono (by omega))).mono hz5)⟩
            case measure => simp [intOf]; omega
      · obtain rfl : k = l.length := by omega
        clear h3
        have hs5 := hsur0.below (Nat.le_refl _) hB
        have hri3 := rising_any _ _ (l.length : Int) _ hs5
        rw [hri2.out] at hri3
        have hhas := RHas16_any _ _ (i : Int) _ hs5
        rw [hsu.out] at hhas
        have heq : (suB l i l.length == suB l i l.length) = true := by simp
        have hle' : ((sureL l).length : Int) ≤ lst l := hle
        clear hs5 hsur0
        generalize suB l i l.length = q at *
        go_wp2_with (first | (go_at_call 20; refine hri3.mono ?_; rintro e w6 ⟨rfl, rfl⟩) | (go_at_call 23; refine hhas.mono ?_; rintro e w6 ⟨rfl, rfl⟩))
        go_ret
        exact ⟨by first | rfl | simp, B4.trans (hB.mono hz4)⟩
theorem sure_walk2 (w : World) (hT : TabAt 0 Lib.deBruijn32tab w) (v : Value) (l : List Iv) (hv : IvRow w v l) (m : Int) (hm : 0 ≤ m ∧ m ≤ 255) : Calls Tryd.prog 6 #[v, .int .u8 m] w fun e w' => e = .returned (.bool true) ∧ Below w.heap.size w w' := by
  obtain ⟨n, rfl⟩ := Int.eq_ofNat_of_zero_le hm.1
  exact sure_walk w hT v l hv n (by omega)
set_option maxRecDepth 100000 in
theorem outlierSure_row : Rows.OutlierSureSaid :=
  OpenClaim.holds_of_wide 6 Tryd.f6 rfl rfl rfl rfl rfl rfl rfl ⟨rfl, rfl, rfl, rfl, rfl⟩ rfl rfl rfl rfl rfl (by kernel_rfl) Tryd.func6 (by kernel_rfl)
    (of_decide_eq_true (by kernel_rfl)) (by unfold Func.isWrapper; rw [if_neg (of_decide_eq_false (by kernel_rfl))]; exact ⟨rfl, rfl⟩)
    (fun os started H enc _ => law_liftedT started 6 Tryd.f6 Tryd.func6 (by kernel_rfl) Rows.outlierSureSpec rfl rfl
      (fun ds h => by match ds, h with | [_, _], _ => exact ⟨rfl, rfl, rfl⟩)
      (fun t h => by
        rw [Tryd.params6] at h
        simp only [List.mem_cons, List.not_mem_nil, or_false] at h
        rcases h with rfl | rfl <;> exact ⟨by kernel_rfl, of_decide_eq_true (by kernel_rfl)⟩)
      (ChangeSpec.witness_shaped (enc := enc) (C := Tryd.checked) (os := os) (X := fun w _ => laidMetH Tryd.prog laidT w) false (World.doorLaid Tryd.prog 400 os) #[.slice none 0 0, .int .u8 0] 8 rfl (World.shaped_of_RefB (by kernel_rfl) (by kernel_rfl)) (by kernel_rfl) (by kernel_rfl) (by kernel_rfl) (door_met os _))
      (fun W base args ds p hT hA hok => by
        rw [Tryd.params6] at hA hok
        obtain ⟨v0, vs0, d0, ds0, p0, q0, hargs, rfl, rfl, h0, r0⟩ := ChangeShapes.trodAll_cons hA
        obtain ⟨v1, vs1, d1, ds1, p1, q1, rfl, rfl, rfl, h1, r1⟩ := ChangeShapes.trodAll_cons r0
        obtain ⟨rfl, rfl, rfl⟩ := ChangeShapes.trodAll_nil r1
        obtain rfl : args = #[v0, v1] := by rw [← Array.toArray_toList (xs := args), hargs]
        obtain ⟨l0, hl0, wl0⟩ := open_ivs (hok 0 _ v0 rfl rfl) h0
        obtain ⟨x1, rfl, hx1⟩ := open_u8 Tryd.underlying5 (hok 1 _ v1 rfl rfl) h1
        exact sure_walk2 W hT v0 l0 hl0 x1 hx1))
set_option maxRecDepth 100000 in
theorem outlierSure_holds : Rows.OutlierSureCardSaid :=
  Claim7.holds_tied_plain_at .later [] [.data] true _ false outlierSure_row (fun _ h => by cases h) (by kernel_rfl) (fun _ h => by cases h) outlierSure_row_tie rfl ⟨rfl, rfl⟩ (by kernel_rfl) rfl
    (fun f fn hf hfn => by
      obtain rfl : f = 6 := Option.some.inj ((show Tryd.prog.funcNamed Rows.outlierSureRow.func = some 6 by kernel_rfl).symm.trans hf) |>.symm
      obtain rfl : fn = Tryd.f6 := (Option.some.inj (Tryd.func6.symm.trans hfn)).symm
      refine ⟨by kernel_rfl, fun j t ht => ?_⟩
      have hm := Array.mem_of_getElem? ht
      have key : (Tryd.f6).params.all (fun t => !Tryd.prog.wantsStandIn t) = true := by kernel_rfl
      have := Array.all_eq_true_iff_forall_mem.1 key t hm
      exact (by simpa using this : Tryd.prog.wantsStandIn t = false))
    (by kernel_rfl)
end Go.Proofs.YtodkmbjhdckjiaaDoor
