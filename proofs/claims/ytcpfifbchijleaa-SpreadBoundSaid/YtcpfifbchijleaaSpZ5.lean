/- SpreadBound: for every list of widths, numbers and parts the statement answers true and leaves its arguments as they were. No condition. -/
import Derived.Test.YtcpfifbchijleaaSpR
import Derived.Test.YtcpfifbchijleaaSpV
import Derived.Test.YtcpfifbchijleaaFs
namespace Go.Proofs.Ytcpfifbchijleaa
open Go.ChangeShapes Go.WideShapes Go.ChangeAt Go.RowKit Go.Joins Go.Deep
attribute [local go_sem ↓] run_max_mx run_min_mn run_eql_iv run_neq_iv
def PRow (w : World) (v : Value) (R : Nat × (Nat → Pt)) : Prop :=
  ∃ a cap, v = .slice a R.1 cap ∧ R.1 ≤ cap ∧ cap ≤ 9223372036854775807 ∧ ∀ i, i < R.1 → ∃ b off, a = some ⟨b, off, none⟩ ∧ b < w.heap.size ∧
    (w.cell? ⟨b, off + i * 5, none⟩ = some (.int .u64 (R.2 i).left) ∧ w.cell? ⟨b, off + i * 5 + 1, none⟩ = some (.int .u64 (R.2 i).less) ∧ w.cell? ⟨b, off + i * 5 + 2, none⟩ = some (.int .u8 (R.2 i).act) ∧
      w.cell? ⟨b, off + i * 5 + 3, none⟩ = some (.int .i64 (R.2 i).lo) ∧ w.cell? ⟨b, off + i * 5 + 4, none⟩ = some (.int .i64 (R.2 i).hi)) ∧
    (0 ≤ (R.2 i).left ∧ (R.2 i).left ≤ 18446744073709551615) ∧ (0 ≤ (R.2 i).less ∧ (R.2 i).less ≤ 18446744073709551615) ∧ (0 ≤ (R.2 i).act ∧ (R.2 i).act ≤ 255)
theorem PRow.below {w w' : World} {v : Value} {R : Nat × (Nat → Pt)} (h : PRow w v R) (hb : Below w.heap.size w w') : PRow w' v R := by
  obtain ⟨a, cap, rfl, h1, h2, h3⟩ := h
  refine ⟨a, cap, rfl, h1, h2, fun i hi => ?_⟩
  obtain ⟨b, off, rfl, h4, ⟨c0, c1, c2, c3, c4⟩, h5⟩ := h3 i hi
  have k := fun o => hb.cell (p := ⟨b, o, none⟩) h4
  exact ⟨b, off, rfl, Nat.lt_of_lt_of_le h4 hb.size, ⟨(k _).trans c0, (k _).trans c1, (k _).trans c2, (k _).trans c3, (k _).trans c4⟩, h5⟩
theorem wf_u64 {x : Int} (h : (Lit.int .u64 x).wf = true) : 0 ≤ x ∧ x ≤ 18446744073709551615 := by
  simpa [Lit.wf, IntKind.min, IntKind.max, IntKind.signed, IntKind.bits] using h
theorem wf_u8 {x : Int} (h : (Lit.int .u8 x).wf = true) : 0 ≤ x ∧ x ≤ 255 := by
  simpa [Lit.wf, IntKind.min, IntKind.max, IntKind.signed, IntKind.bits] using h
def ptK : Nat → IntKind
  | 0 => .u64
  | 1 => .u64
  | 2 => .u8
  | _ => .i64
theorem cellsPt : Try.prog.cellsOf 48 = 5 := by kernel_rfl
set_option maxRecDepth 100000 in
theorem open_pts {H : Type} {enc : TypeId × Value → H} {W : World} {base : Nat} {v : Value} {d : DataW H} {p : List MemPlace} (hok : Value.okWide Try.prog W .any base 43 v) (h : DataW.Trod enc Try.prog W 0 (fun _ => true) true 43 v d p) :
    ∃ R, PRow W v R := by
  have i64 := CellInt.int (enc := enc) (w := W) (base := 0) (spare := fun _ => true) (held := true) Try.underlying3
  have u64 := CellInt.int (enc := enc) (w := W) (base := 0) (spare := fun _ => true) (held := true) Try.underlying44
  have u8 := CellInt.int (enc := enc) (w := W) (base := 0) (spare := fun _ => true) (held := true) Try.underlying5
  have v0 : CellInt enc Try.prog W 0 (fun _ => true) true 46 0 .i64 := CellInt.field Try.underlying46 0 _ rfl (of_decide_eq_true (by kernel_rfl)) i64
  have v1 : CellInt enc Try.prog W 0 (fun _ => true) true 46 1 .i64 := CellInt.field Try.underlying46 1 _ rfl (of_decide_eq_true (by kernel_rfl)) i64
  have hc : ∀ j, j < 5 → CellInt enc Try.prog W 0 (fun _ => true) true 48 j (ptK j) := by
    intro j hj
    match j, hj with
    | 0, _ => exact CellInt.field Try.underlying48 0 _ rfl (of_decide_eq_true (by kernel_rfl)) u64
    | 1, _ => exact CellInt.field Try.underlying48 1 _ rfl (of_decide_eq_true (by kernel_rfl)) u64
    | 2, _ => exact CellInt.field Try.underlying48 2 _ rfl (of_decide_eq_true (by kernel_rfl)) u8
    | 3, _ => exact CellInt.field Try.underlying48 3 _ rfl (of_decide_eq_true (by kernel_rfl)) v0
    | 4, _ => exact CellInt.field Try.underlying48 3 _ rfl (of_decide_eq_true (by kernel_rfl)) v1
  obtain ⟨a, len, cap, G, rfl, hl, hm, hG⟩ := open_flat ptK Try.underlying43 cellsPt (by omega) hc hok h
  refine ⟨(len, fun i => ⟨G i 0, G i 1, G i 2, G i 3, G i 4⟩), a, cap, rfl, hl, hm, fun i hi => ?_⟩
  obtain ⟨b, off, h1, h2, h3⟩ := hG i hi
  exact ⟨b, off, h1, h2, ⟨(h3 0 (by omega)).1, (h3 1 (by omega)).1, (h3 2 (by omega)).1, (h3 3 (by omega)).1, (h3 4 (by omega)).1⟩, wf_u64 (h3 0 (by omega)).2, wf_u64 (h3 1 (by omega)).2, wf_u8 (h3 2 (by omega)).2⟩
set_option maxRecDepth 100000 in
set_option maxHeartbeats 2000000 in
theorem SpBound_any (w : World) (v : Value) (l : List Int) (hv : IsRow w v l) (_wl : WfI l) (f : Int) (lost : Int) (x : Int) (vp : Value) (R : Nat × (Nat → Pt)) (hp : PRow w vp R) :
    Calls Try.prog 8 #[v, .int .i64 f, .int .i64 lost, .int .i64 x, vp] w fun e w' => e = .returned (.bool true) ∧ Below w.heap.size w w' := by
  obtain ⟨pn, P⟩ := R
  obtain ⟨a, cap, rfl, g1, g2, g3⟩ := id hv
  obtain ⟨pa, pcap, rfl, p1, p2, p3⟩ := id hp
  clear g3 p3
  cases hok : spOk l f lost with
  | false =>
    have hne : (spEr l f lost == 0) = false := by rw [beq_eq_false_iff_ne]; rcases spEr_no hok with h | h <;> omega
    have hne2 : (spEr l f lost != 0) = true := by rw [bne_iff_ne]; rcases spEr_no hok with h | h <;> omega
    clear hok
    go_enter Try.func8, Try.ntmps8
    go_wp2_with fail
    refine (head_any _).mono ?_
    rintro e w1 ⟨rfl, b1⟩
    go_wp2_with fail
    refine (Worst_any _ l _ _ _ (hv.below (Nat.le_refl _) b1)).mono ?_
    rintro e w2 ⟨rfl, b2⟩
    go_wp2_with fail
    go_ret
    have z1 := b1.size
    exact ⟨rfl, (by ((repeat' (first | exact Below.refl _ _ | exact b1 | exact b2 | refine Below.alloc ?_ ?_ _ | refine Below.setCell ?_ ?_ _ | refine Below.drew ?_ | refine below_drewN ?_ _ | refine Below.trans ?_ (b1.mono ?_) | refine Below.trans ?_ (b2.mono ?_))) <;> (first | omega | (simp; done) | (simp; omega))))⟩
  | true =>
    have He := hide (spEr_ok hok)
    by_cases h1 : pn < l.length
    · have d1 : decide (pn < l.length) = true := decide_eq_true h1
      clear hok
      go_enter Try.func8, Try.ntmps8
      go_wp2_with fail
      refine (head_any _).mono ?_
      rintro e w1 ⟨rfl, b1⟩
      go_wp2_with fail
      refine (Worst_any _ l _ _ _ (hv.below (Nat.le_refl _) b1)).mono ?_
      rintro e w2 ⟨rfl, b2⟩
      rw [He.out]
      go_wp2_with fail
      go_ret
      have z1 := b1.size
      exact ⟨rfl, (by ((repeat' (first | exact Below.refl _ _ | exact b1 | exact b2 | refine Below.alloc ?_ ?_ _ | refine Below.setCell ?_ ?_ _ | refine Below.drew ?_ | refine below_drewN ?_ _ | refine Below.trans ?_ (b1.mono ?_) | refine Below.trans ?_ (b2.mono ?_))) <;> (first | omega | (simp; done) | (simp; omega))))⟩
    have d1 : decide (pn < l.length) = false := decide_eq_false h1
    by_cases h2 : x < 0
    · have d2 : decide (x < 0) = true := decide_eq_true h2
      clear hok
      go_enter Try.func8, Try.ntmps8
      go_wp2_with fail
      refine (head_any _).mono ?_
      rintro e w1 ⟨rfl, b1⟩
      go_wp2_with fail
      refine (Worst_any _ l _ _ _ (hv.below (Nat.le_refl _) b1)).mono ?_
      rintro e w2 ⟨rfl, b2⟩
      rw [He.out]
      go_wp2_with fail
      go_ret
      have z1 := b1.size
      exact ⟨rfl, (by ((repeat' (first | exact Below.refl _ _ | exact b1 | exact b2 | refine Below.alloc ?_ ?_ _ | refine Below.setCell ?_ ?_ _ | refine Below.drew ?_ | refine below_drewN ?_ _ | refine Below.trans ?_ (b1.mono ?_) | refine Below.trans ?_ (b2.mono ?_))) <;> (first | omega | (simp; done) | (simp; omega))))⟩
    have d2 : decide (x < 0) = false := decide_eq_false h2
    by_cases h3 : 3000000000000000 < x
    · have d3 : decide (3000000000000000 < x) = true := decide_eq_true h3
      clear hok
      go_enter Try.func8, Try.ntmps8
      go_wp2_with fail
      refine (head_any _).mono ?_
      rintro e w1 ⟨rfl, b1⟩
      go_wp2_with fail
      refine (Worst_any _ l _ _ _ (hv.below (Nat.le_refl _) b1)).mono ?_
      rintro e w2 ⟨rfl, b2⟩
      rw [He.out]
      go_wp2_with fail
      go_ret
      have z1 := b1.size
      exact ⟨rfl, (by ((repeat' (first | exact Below.refl _ _ | exact b1 | exact b2 | refine Below.alloc ?_ ?_ _ | refine Below.setCell ?_ ?_ _ | refine Below.drew ?_ | refine below_drewN ?_ _ | refine Below.trans ?_ (b1.mono ?_) | refine Below.trans ?_ (b2.mono ?_))) <;> (first | omega | (simp; done) | (simp; omega))))⟩
    have d3 : decide (3000000000000000 < x) = false := decide_eq_false h3
    have hbound := bd_bound (P := P) (x := x) (by omega) hok
    have hi := (spOk_iff l f lost).1 hok
    have hfb := hi.2.1
    have hlb := hi.2.2.1
    have hn16 := hi.1.1
    have Hinv := hide (fun i (hi' : i ≤ l.length) => bd_inv (P := P) (f := f) (lost := lost) (p := x) (q := x) (x := x) (by omega) ⟨Int.le_refl _, Int.le_refl _⟩ hi.1.2 i hi')
    have Hwd := hide hi.1.2
    have Hbound := hide hbound
    obtain ⟨i0, hi0, hz0, hz1, hz2⟩ := info_parts infoIv2
    clear hok hbound hi
    go_enter Try.func8, Try.ntmps8
    go_wp2_with fail
    refine (head_any _).mono ?_
    rintro e w1 ⟨rfl, b1⟩
    have hv1 := hv.below (Nat.le_refl _) b1
    have z1 := b1.size
    go_wp2_with fail
    refine (Worst_any _ l _ _ _ hv1).mono ?_
    rintro e w2 ⟨rfl, b2⟩
    rw [He.out]
    have hv2 := hv1.below (Nat.le_refl _) b2
    have B2 : Below w.heap.size w w2 := (by ((repeat' (first | exact Below.refl _ _ | exact b1 | exact b2 | refine Below.alloc ?_ ?_ _ | refine Below.setCell ?_ ?_ _ | refine Below.drew ?_ | refine below_drewN ?_ _ | refine Below.trans ?_ (b1.mono ?_) | refine Below.trans ?_ (b2.mono ?_))) <;> (first | omega | (simp; done) | (simp; omega))))
    have hp2 := hp.below B2
    obtain ⟨a', cap', hva, j1, j2, j3⟩ := hv2
    cases hva
    obtain ⟨pa', pcap', hvp, k1, k2, k3⟩ := hp2
    cases hvp
    clear hv1 b1 b2 hv hp
    go_wp2_with fail
    go_loopw [14, 15, 16, 53] (fun s14 s15 s16 s53 wx => ∃ (i : Nat) (s : Bd), i ≤ l.length ∧ s53 = .int .i64 i ∧ Hid (s = bdS l P f lost x i) ∧ s15 = .int .i64 s.gone ∧ s16 = .int .i64 s.wrong ∧ OwnIv wx w2.heap.size s14 s.list ∧ Below w2.heap.size w2 wx) (fun _ _ _ s53 _ => l.length - (intOf s53).toNat)
    case atStart => exact ⟨0, ⟨[], 0, 0⟩, Nat.zero_le _, rfl, hide rfl, rfl, rfl, OwnP.nil _ _, Below.refl _ _⟩
    case round =>
      obtain ⟨i, s, hi', rfl, Hs, rfl, rfl, hown, hB⟩ := hrel
      have hz := hB.size
      obtain ⟨_, _, _, _, I⟩ := Hinv.out i hi'
      rw [← Hs.out] at I
      have hgb := I.gb
      have hwb := I.wb
      have hlen := I.len
      clear I
      by_cases hlt : i < l.length
      · obtain ⟨b, off, rfl, q4, q5⟩ := j3 i hlt
        have q5' := (hB.cell (p := ⟨b, off + i, none⟩) q4).trans q5
        have hipn : i < pn := by omega
        obtain ⟨b2, off2, rfl, r4, ⟨c0, c1, c2, c3, c4⟩, hL, hLe, hAc⟩ := k3 i hipn
        have kk := fun o => hB.cell (p := ⟨b2, o, none⟩) r4
        have c0' := (kk _).trans c0
        have c1' := (kk _).trans c1
        have c2' := (kk _).trans c2
        have c3' := (kk _).trans c3
        have c4' := (kk _).trans c4
        have hwi := Hwd.out i hlt
        have hb := pt_bd (p := P i) hwi
        have Hst := hide (show bdS l P f lost x (i + 1) = if ptGone (P i) (bdS l P f lost x i).gone lost = true then ⟨(bdS l P f lost x i).list, (bdS l P f lost x i).gone + 1, (bdS l P f lost x i).wrong⟩ else if ptLie (P i) (bdS l P f lost x i).wrong f = true then ⟨(bdS l P f lost x i).list ++ [((P i).lo, (P i).hi)], (bdS l P f lost x i).gone, (bdS l P f lost x i).wrong + 1⟩ else ⟨(bdS l P f lost x i).list ++ [ptI (iAt l i) x (P i)], (bdS l P f lost x i).gone, (bdS l P f lost x i).wrong⟩ from rfl)
        rw [← Hs.out] at Hst
        generalize hPi : P i = pt at *
        generalize hWi : iAt l i = wi at *
        have eL : pt.left % (wi + 1) = ptL wi pt := rfl
        have eR : wi - ptL wi pt - pt.less % (wi - ptL wi pt + 1) = ptR wi pt := rfl
        clear q5 c0 c1 c2 c3 c4 kk j3 k3 hPi hWi
        go_upto_region 11 with fail
        have bA : Below wr.heap.size wr (wr.alloc (.cells #[.int .u64 pt.left, .int .u64 pt.less, .int .u8 pt.act, .int .i64 pt.lo, .int .i64 pt.hi] 48)) := (by ((repeat' (first | exact Below.refl _ _ | refine Below.alloc ?_ ?_ _ | refine Below.setCell ?_ ?_ _ | refine Below.drew ?_ | refine below_drewN ?_ _)) <;> (first | omega | (simp; done) | (simp; omega))))
        have m0 : (wr.alloc (.cells #[.int .u64 pt.left, .int .u64 pt.less, .int .u8 pt.act, .int .i64 pt.lo, .int .i64 pt.hi] 48)).cell? ⟨wr.heap.size, 0, none⟩ = some (.int .u64 pt.left) := by simp
        have m1 : (wr.alloc (.cells #[.int .u64 pt.left, .int .u64 pt.less, .int .u8 pt.act, .int .i64 pt.lo, .int .i64 pt.hi] 48)).cell? ⟨wr.heap.size, 1, none⟩ = some (.int .u64 pt.less) := by simp
        have m2 : (wr.alloc (.cells #[.int .u64 pt.left, .int .u64 pt.less, .int .u8 pt.act, .int .i64 pt.lo, .int .i64 pt.hi] 48)).cell? ⟨wr.heap.size, 2, none⟩ = some (.int .u8 pt.act) := by simp
        have m3 : (wr.alloc (.cells #[.int .u64 pt.left, .int .u64 pt.less, .int .u8 pt.act, .int .i64 pt.lo, .int .i64 pt.hi] 48)).cell? ⟨wr.heap.size, 3, none⟩ = some (.int .i64 pt.lo) := by simp
        have m4 : (wr.alloc (.cells #[.int .u64 pt.left, .int .u64 pt.less, .int .u8 pt.act, .int .i64 pt.lo, .int .i64 pt.hi] 48)).cell? ⟨wr.heap.size, 4, none⟩ = some (.int .i64 pt.hi) := by simp
        have zA : wr.heap.size < (wr.alloc (.cells #[.int .u64 pt.left, .int .u64 pt.less, .int .u8 pt.act, .int .i64 pt.lo, .int .i64 pt.hi] 48)).heap.size := by simp
        have ownA := hown.below (Nat.le_refl _) bA
        have BA : Below w2.heap.size w2 (wr.alloc (.cells #[.int .u64 pt.left, .int .u64 pt.less, .int .u8 pt.act, .int .i64 pt.lo, .int .i64 pt.hi] 48)) := hB.trans (bA.mono hz)
        generalize wr.alloc (.cells #[.int .u64 pt.left, .int .u64 pt.less, .int .u8 pt.act, .int .i64 pt.lo, .int .i64 pt.hi] 48) = wA at *
        generalize wr.heap.size = qA at *
        clear c0' c1' c2' c3' c4' q5' bA hown hB
        have nz1 : ¬ wi + 1 = 0 := by omega
        have nz2 : ¬ wi - ptL wi pt + 1 = 0 := by omega
        have ub1 : IntKind.u64.wrap (wi + 1) = wi + 1 := IntWalk.u64_in _ (by omega)
        go_upto_region 13 with fail
        have hI : ptI wi x pt = (mx 0 (x - ptL wi pt), mn 3000000000000000 (x + ptR wi pt)) := rfl
        have HI := hide hI
        clear hI eL eR nz1 nz2 ub1
        generalize ptL wi pt = L at *
        generalize ptR wi pt = Rr at *
        go_upto_region 14 with fail
        have bB : Below wA.heap.size wA (wA.alloc (.cells #[.int .i64 (mx 0 (x - L)), .int .i64 (mn 3000000000000000 (x + Rr))] 46)) := (by ((repeat' (first | exact Below.refl _ _ | refine Below.alloc ?_ ?_ _ | refine Below.setCell ?_ ?_ _ | refine Below.drew ?_ | refine below_drewN ?_ _)) <;> (first | omega | (simp; done) | (simp; omega))))
        have y0 : (wA.alloc (.cells #[.int .i64 (mx 0 (x - L)), .int .i64 (mn 3000000000000000 (x + Rr))] 46)).cell? ⟨wA.heap.size, 0, none⟩ = some (.int .i64 (mx 0 (x - L))) := by simp
        have y1 : (wA.alloc (.cells #[.int .i64 (mx 0 (x - L)), .int .i64 (mn 3000000000000000 (x + Rr))] 46)).cell? ⟨wA.heap.size, 1, none⟩ = some (.int .i64 (mn 3000000000000000 (x + Rr))) := by simp
        have yf : ∀ o, (wA.alloc (.cells #[.int .i64 (mx 0 (x - L)), .int .i64 (mn 3000000000000000 (x + Rr))] 46)).frozen? ⟨wA.heap.size, o, none⟩ = false := fun o => by simp [go_sem]
        have zB : wA.heap.size < (wA.alloc (.cells #[.int .i64 (mx 0 (x - L)), .int .i64 (mn 3000000000000000 (x + Rr))] 46)).heap.size := by simp
        have ownB := ownA.below (Nat.le_refl _) bB
        have BB : Below w2.heap.size w2 (wA.alloc (.cells #[.int .i64 (mx 0 (x - L)), .int .i64 (mn 3000000000000000 (x + Rr))] 46)) := BA.trans (bB.mono BA.size)
        have n2 := (bB.cell (p := ⟨qA, 2, none⟩) zA).trans m2
        have n3 := (bB.cell (p := ⟨qA, 3, none⟩) zA).trans m3
        have n4 := (bB.cell (p := ⟨qA, 4, none⟩) zA).trans m4
        have zAw := BA.size
        have hqne : qA ≠ wA.heap.size := by omega
        generalize wA.alloc (.cells #[.int .i64 (mx 0 (x - L)), .int .i64 (mn 3000000000000000 (x + Rr))] 46) = wB at *
        have hwb2 : w2.heap.size ≤ wA.heap.size := zAw
        have hownlow : ∀ r, (u14 : Value).ownBlock = some r → r < wA.heap.size := fun r hr => (World.ownsRow.lt ownA r hr).2
        generalize wA.heap.size = qB at *
        clear m0 m1 m2 m3 m4 ownA BA bB
        go_cut [91] (fun s91 wx => s91 = .bool (ptGone pt s.gone lost) ∧ wB = wx)
        case first =>
          by_cases h1 : pt.act % 4 = 1
          · have e1 : (pt.act % 4 == 1) = true := by rw [beq_iff_eq]; exact h1
            have HG := hide (show ptGone pt s.gone lost = decide (s.gone < lost) by unfold ptGone; rw [decide_eq_true h1, Bool.true_and])
            clear h1
            go_wp2_with fail
            go_meet
            exact ⟨by rw [HG.out], rfl⟩
          · have e1 : (pt.act % 4 == 1) = false := by rw [beq_eq_false_iff_ne]; exact h1
            have HG := hide (show ptGone pt s.gone lost = false by unfold ptGone; rw [decide_eq_false h1, Bool.false_and])
            clear h1
            go_wp2_with fail
            go_meet
            exact ⟨by rw [HG.out], rfl⟩
        case rest =>
          obtain ⟨rfl, rfl⟩ := hcut
          cases hg : ptGone pt s.gone lost with
          | true =>
            have Hn := hide (Hst.out.trans (if_pos hg))
            go_wp2_with fail
            go_roundw
            case rel => exact ⟨i + 1, ⟨s.list, s.gone + 1, s.wrong⟩, by omega, by go_num, hide Hn.out.symm, rfl, rfl, ownB, BB⟩
            case measure => simp [intOf]; omega
          | false =>
            have Hst2 := hide (Hst.out.trans (if_neg (by simp [hg])))
            go_upto_region 16 with fail
            go_cut [103] (fun s103 wx => s103 = .bool (ptLie pt s.wrong f) ∧ wB = wx)
            case first =>
              by_cases h1 : pt.act % 4 = 2
              case neg =>
                have e1 : (pt.act % 4 == 2) = false := by rw [beq_eq_false_iff_ne]; exact h1
                have HG := hide (show ptLie pt s.wrong f = false by unfold ptLie; rw [decide_eq_false h1]; rfl)
                clear h1
                go_wp2_with fail
                go_meet
                exact ⟨by rw [HG.out], rfl⟩
              have e1 : (pt.act % 4 == 2) = true := by rw [beq_iff_eq]; exact h1
              by_cases h2 : s.wrong < f
              case neg =>
                have e2 : decide (s.wrong < f) = false := decide_eq_false h2
                have HG := hide (show ptLie pt s.wrong f = false by unfold ptLie; rw [decide_eq_true h1, e2]; rfl)
                clear h1
                go_wp2_with fail
                go_meet
                exact ⟨by rw [HG.out], rfl⟩
              have e2 : decide (s.wrong < f) = true := decide_eq_true h2
              by_cases h3 : 0 ≤ pt.lo
              case neg =>
                have e3 : decide (0 ≤ pt.lo) = false := decide_eq_false h3
                have HG := hide (show ptLie pt s.wrong f = false by unfold ptLie; rw [decide_eq_true h1, e2, e3]; rfl)
                clear h1
                go_wp2_with fail
                go_meet
                exact ⟨by rw [HG.out], rfl⟩
              have e3 : decide (0 ≤ pt.lo) = true := decide_eq_true h3
              by_cases h4 : pt.lo ≤ pt.hi
              case neg =>
                have e4 : decide (pt.lo ≤ pt.hi) = false := decide_eq_false h4
                have HG := hide (show ptLie pt s.wrong f = false by unfold ptLie; rw [decide_eq_true h1, e2, e3, e4]; rfl)
                clear h1
                go_wp2_with fail
                go_meet
                exact ⟨by rw [HG.out], rfl⟩
              have e4 : decide (pt.lo ≤ pt.hi) = true := decide_eq_true h4
              have HG := hide (show ptLie pt s.wrong f = decide (pt.hi ≤ 3000000000000000) by unfold ptLie; rw [decide_eq_true h1, e2, e3, e4]; rfl)
              clear h1
              go_wp2_with fail
              go_meet
              exact ⟨by rw [HG.out], rfl⟩
            case rest =>
              obtain ⟨rfl, rfl⟩ := hcut
              have hll : s.list.length ≤ 16 := by omega
              obtain ⟨oa, ocap, hov, ho1, ho2⟩ := ownB.val
              subst hov
              cases hl : ptLie pt s.wrong f with
              | true =>
                have Hn := hide (Hst2.out.trans (if_pos hl))
                go_upto_region 19 with fail
                have hb' : ∀ r, (Value.slice oa s.list.length ocap).ownBlock = some r → r ≠ qB := fun r hr => by have := hownlow r hr; omega
                have ownC : OwnIv ((wB.setCell ⟨qB, 0, none⟩ (.int .i64 pt.lo)).setCell ⟨qB, 1, none⟩ (.int .i64 pt.hi)) w2.heap.size (.slice oa s.list.length ocap) s.list := ownsRow_setCell_ne (ownsRow_setCell_ne ownB hb' _) hb' _
                have BC : Below w2.heap.size w2 ((wB.setCell ⟨qB, 0, none⟩ (.int .i64 pt.lo)).setCell ⟨qB, 1, none⟩ (.int .i64 pt.hi)) := (BB.setCell (p := ⟨qB, 0, none⟩) hwb2 _).setCell (p := ⟨qB, 1, none⟩) hwb2 _
                have v0 : ((wB.setCell ⟨qB, 0, none⟩ (.int .i64 pt.lo)).setCell ⟨qB, 1, none⟩ (.int .i64 pt.hi)).cell? ⟨qB, 0, none⟩ = some (.int .i64 pt.lo) := (World.cell?_setCell_other _ _ _ _ (fun e => by simp at e)).trans (World.cell?_setCell_same' _ _ _ (by rw [y0]; rfl))
                have v1 : ((wB.setCell ⟨qB, 0, none⟩ (.int .i64 pt.lo)).setCell ⟨qB, 1, none⟩ (.int .i64 pt.hi)).cell? ⟨qB, 1, none⟩ = some (.int .i64 pt.hi) := World.cell?_setCell_same' _ _ _ (by rw [World.cell?_setCell_other _ _ _ _ (fun e => by simp at e), y1]; rfl)
                generalize (wB.setCell ⟨qB, 0, none⟩ (.int .i64 pt.lo)).setCell ⟨qB, 1, none⟩ (.int .i64 pt.hi) = wC at *
                have zC := BC.size
                have hlow := World.ownsRow.lt ownC
                have own' := ownC
                unfold OwnIv OwnP at own'
                clear n2 n3 n4 y0 y1 yf ownB ownC
                go_wp2_with (at_builtin; refine wpList_append_own _ rfl _ _ 30 rfl w2.heap.size 46 i0 (.agg #[.int .i64 0, .int .i64 0]) 2 16 Try.underlying30 hi0 hz0 hz1 hz2 rfl (by decide) _ s.list.length (encL s.list) rfl (World.ownsRow.alloc own' _) ⟨wC.heap.size, 0, none⟩ 1 1 [.int .i64 pt.lo, .int .i64 pt.hi] rfl rfl (cells_new wC [.int .i64 pt.lo, .int .i64 pt.hi] _) (by simp [Value.oneCell']) (by unfold maxLen; omega) (by omega) (by simp; omega) ?_; intro v9 w9 hown9 hg9 _)
                go_roundw
                case rel => exact ⟨i + 1, ⟨s.list ++ [(pt.lo, pt.hi)], s.gone, s.wrong + 1⟩, by omega, by go_num, hide Hn.out.symm, rfl, rfl, OwnP.app hown9, (BC.alloc (by omega) _).grown hg9 (by simp; omega) (fun r h => (hlow r h).1)⟩
                case measure => simp [intOf]; omega
              | false =>
                have Hn := hide (Hst2.out.trans (if_neg (by simp [hl])))
                have zC := BB.size
                have hlow := World.ownsRow.lt ownB
                have own' := ownB
                unfold OwnIv OwnP at own'
                clear n2 n3 n4 ownB
                go_wp2_with (at_builtin; refine wpList_append_own _ rfl _ _ 30 rfl w2.heap.size 46 i0 (.agg #[.int .i64 0, .int .i64 0]) 2 16 Try.underlying30 hi0 hz0 hz1 hz2 rfl (by decide) _ s.list.length (encL s.list) rfl (World.ownsRow.alloc own' _) ⟨wB.heap.size, 0, none⟩ 1 1 [.int .i64 (mx 0 (x - L)), .int .i64 (mn 3000000000000000 (x + Rr))] rfl rfl (cells_new wB [.int .i64 (mx 0 (x - L)), .int .i64 (mn 3000000000000000 (x + Rr))] _) (by simp [Value.oneCell']) (by unfold maxLen; omega) (by omega) (by simp; omega) ?_; intro v9 w9 hown9 hg9 _)
                go_roundw
                case rel => exact ⟨i + 1, ⟨s.list ++ [ptI wi x pt], s.gone, s.wrong⟩, by omega, by go_num, hide Hn.out.symm, rfl, rfl, by rw [HI.out]; exact OwnP.app hown9, (BB.alloc (by omega) _).grown hg9 (by simp; omega) (fun r h => (hlow r h).1)⟩
                case measure => simp [intOf]; omega
      · obtain rfl : i = l.length := by omega
        have hbo := Hbound.out
        rw [← Hs.out] at hbo
        have hrow := hown.row
        clear j3 k3
        go_wp2_with fail
        refine (Combine_any _ s.list _ _ hrow).mono ?_
        rintro e w3 ⟨rfl, b3⟩
        obtain ⟨o1, o2, o3, o4, o5⟩ := hbo
        rw [o1]
        have z3 := b3.size
        have x1 : decide (cbLo s.list f ≤ x) = true := decide_eq_true o2
        have x2 : decide (x ≤ cbHi s.list f) = true := decide_eq_true o3
        have x3 : decide (cbHi s.list f - cbLo s.list f ≤ worst l f lost) = true := decide_eq_true o4
        go_wp2_with fail
        go_ret
        have z2' := B2.size
        exact ⟨by first | rfl | (refine ret_bool ?_; simp; done), (by ((repeat' (first | exact Below.refl _ _ | exact B2 | exact hB | exact b3 | refine Below.alloc ?_ ?_ _ | refine Below.setCell ?_ ?_ _ | refine Below.drew ?_ | refine below_drewN ?_ _ | refine Below.trans ?_ (B2.mono ?_) | refine Below.trans ?_ (hB.mono ?_) | refine Below.trans ?_ (b3.mono ?_))) <;> (first | omega | (simp; done) | (simp; omega))))⟩
set_option maxRecDepth 100000 in
theorem spreadBound_holds : Rows.SpreadBoundSaid :=
  OpenClaim.holds_of_wide 8 Try.f8 rfl rfl rfl rfl rfl rfl rfl ⟨rfl, rfl, rfl, rfl, rfl⟩ rfl rfl rfl rfl rfl (by kernel_rfl) Try.func8 (by kernel_rfl)
    (of_decide_eq_true (by kernel_rfl)) (by unfold Func.isWrapper; rw [if_neg (of_decide_eq_false (by kernel_rfl))]; exact ⟨rfl, rfl⟩)
    (fun os started H enc _ => law_lifted started 8 Try.f8 Try.func8 (by kernel_rfl) Rows.spreadBoundSpec rfl rfl
      (fun ds h => by match ds, h with | [_, _, _, _, _], _ => exact ⟨rfl, rfl, rfl⟩)
      (fun t h => by
        rw [Try.params8] at h
        simp only [List.mem_cons, List.not_mem_nil, or_false] at h
        rcases h with rfl | rfl | rfl | rfl | rfl <;> exact ⟨by kernel_rfl, of_decide_eq_true (by kernel_rfl)⟩)
      (ChangeSpec.witness6 (enc := enc) (C := Try.checked) false ⟨#[], #[.slice none 0 0, .int .i64 0, .int .i64 0, .int .i64 0, .slice none 0 0], []⟩ 8 (by kernel_rfl) (by kernel_rfl) (by kernel_rfl) (by kernel_rfl))
      (fun W base args ds p hA hok => by
        rw [Try.params8] at hA hok
        obtain ⟨v0, vs0, d0, ds0, p0, q0, hargs, rfl, rfl, h0, r0⟩ := ChangeShapes.trodAll_cons hA
        obtain ⟨v1, vs1, d1, ds1, p1, q1, rfl, rfl, rfl, h1, r1⟩ := ChangeShapes.trodAll_cons r0
        obtain ⟨v2, vs2, d2, ds2, p2, q2, rfl, rfl, rfl, h2, r2⟩ := ChangeShapes.trodAll_cons r1
        obtain ⟨v3, vs3, d3, ds3, p3, q3, rfl, rfl, rfl, h3, r3⟩ := ChangeShapes.trodAll_cons r2
        obtain ⟨v4, vs4, d4, ds4, p4, q4, rfl, rfl, rfl, h4, r4⟩ := ChangeShapes.trodAll_cons r3
        obtain ⟨rfl, rfl, rfl⟩ := ChangeShapes.trodAll_nil r4
        obtain rfl : args = #[v0, v1, v2, v3, v4] := by rw [← Array.toArray_toList (xs := args), hargs]
        obtain ⟨l0, hl0, wl0⟩ := open_is (hok 0 _ v0 rfl rfl) h0
        obtain ⟨x1, rfl, hx1⟩ := open_i64 Try.underlying3 (hok 1 _ v1 rfl rfl) h1
        obtain ⟨x2, rfl, hx2⟩ := open_i64 Try.underlying3 (hok 2 _ v2 rfl rfl) h2
        obtain ⟨x3, rfl, hx3⟩ := open_i64 Try.underlying3 (hok 3 _ v3 rfl rfl) h3
        obtain ⟨l4, hl4⟩ := open_pts (hok 4 _ v4 rfl rfl) h4
        exact SpBound_any W v0 l0 hl0 wl0 x1 x2 x3 v4 l4 hl4))
end Go.Proofs.Ytcpfifbchijleaa
