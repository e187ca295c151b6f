/- SpreadEqual: for every list of widths and numbers the statement answers true and leaves its arguments as they were. No condition. -/
import Derived.Test.YtcpfifbchijleaaSpZ1
import Derived.Deep.CutBlock
namespace Go.Proofs.Ytcpfifbchijleaa
open Go.RowKit
attribute [local go_sem ↓] run_max_mx run_min_mn run_eql_iv run_neq_iv
def nLt (l : List Int) (x : Int) : Nat → Int
  | 0 => 0
  | k + 1 => nLt l x k + if iAt l k < x then 1 else 0
def nEq (l : List Int) (x : Int) : Nat → Int
  | 0 => 0
  | k + 1 => nEq l x k + if iAt l k = x then 1 else 0
def anyE (l : List Int) (x : Int) : Nat → Bool
  | 0 => false
  | k + 1 => anyE l x k || (iAt l k == x)
theorem nLt_bd (l : List Int) (x : Int) : ∀ k, 0 ≤ nLt l x k ∧ nLt l x k ≤ k
  | 0 => by simp [nLt]
  | k + 1 => by have := nLt_bd l x k; simp only [nLt]; split <;> omega
theorem nEq_bd (l : List Int) (x : Int) : ∀ k, 0 ≤ nEq l x k ∧ nEq l x k ≤ k
  | 0 => by simp [nEq]
  | k + 1 => by have := nEq_bd l x k; simp only [nEq]; split <;> omega
theorem anyE_of (l : List Int) (x : Int) : ∀ k, 0 < nEq l x k → anyE l x k = true
  | 0, h => by simp [nEq] at h
  | k + 1, h => by
    simp only [nEq] at h
    simp only [anyE, Bool.or_eq_true, beq_iff_eq]
    by_cases e : iAt l k = x
    · exact .inr e
    · rw [if_neg e] at h; exact .inl (anyE_of l x k (by omega))
theorem nLt_cge (l : List Int) (x : Int) : ∀ k, k ≤ l.length → nLt l x k = k - cge x (l.take k)
  | 0, _ => by simp [nLt, cge]
  | k + 1, h => by
    rw [nLt, nLt_cge l x k (by omega), take_snoc_is l k h, cge_append]
    have e : cge x [iAt l k] = if x ≤ iAt l k then 1 else 0 := by rw [cge_cons]; simp [cge]
    rw [e]
    by_cases hx : x ≤ iAt l k
    · rw [if_neg (by omega), if_pos hx]; omega
    · rw [if_pos (by omega), if_neg hx]; omega
theorem nEq_cge (l : List Int) (x : Int) : ∀ k, k ≤ l.length → nEq l x k = cge x (l.take k) - cge (x + 1) (l.take k)
  | 0, _ => by simp [nEq, cge]
  | k + 1, h => by
    rw [nEq, nEq_cge l x k (by omega), take_snoc_is l k h, cge_append, cge_append]
    have e : ∀ y, cge y [iAt l k] = if y ≤ iAt l k then 1 else 0 := fun y => by rw [cge_cons]; simp [cge]
    rw [e, e]
    by_cases hx : iAt l k = x
    · rw [if_pos hx, if_pos (by omega), if_neg (by omega)]; omega
    · rw [if_neg hx]
      by_cases hy : x ≤ iAt l k
      · rw [if_pos hy, if_pos (by omega)]; omega
      · rw [if_neg hy, if_neg (by omega)]; omega
theorem worst_zero {l : List Int} {lost : Int} (h : spOk l 0 lost = true) : worst l 0 lost = iAt (srt l) (spK l 0 lost - 1) := by
  have hm := sp_mk h
  obtain ⟨j, j1, j2, j3⟩ := worst_at h
  have e : j = spK l 0 lost := by unfold jLo at j1; omega
  subst e
  rw [j3]
  have hd := srt_bd l ((spOk_iff l 0 lost).1 h).1.2 (spK l 0 lost - 1)
  have a := vJ_spec (srt l) (spK l 0 lost) (spK l 0 lost)
  rw [show 2 * spK l 0 lost - spK l 0 lost - 1 = spK l 0 lost - 1 by omega] at a
  have b := a.2.1 (by omega)
  have c := a.2.2 (iAt (srt l) (spK l 0 lost - 1)) (by omega) (fun _ => Int.le_refl _)
  omega
theorem equal_a {l : List Int} {lost : Int} (h : spOk l 0 lost = true) : anyE l (worst l 0 lost) l.length = true ∧ nLt l (worst l 0 lost) l.length ≤ lost ∧ lost < nLt l (worst l 0 lost) l.length + nEq l (worst l 0 lost) l.length := by
  have hm := sp_mk h
  have hw := worst_zero h
  have a := nLt_cge l (worst l 0 lost) l.length (Nat.le_refl _)
  have b := nEq_cge l (worst l 0 lost) l.length (Nat.le_refl _)
  rw [List.take_length] at a b
  have c1 := (srt_cge l (worst l 0 lost) (spK l 0 lost - 1) (by omega)).1 (by omega)
  have c2 : ¬ spK l 0 lost - 1 < cge (worst l 0 lost + 1) l := fun hh => by
    have := (srt_cge l (worst l 0 lost + 1) (spK l 0 lost - 1) (by omega)).2 hh
    omega
  exact ⟨anyE_of _ _ _ (by omega), by omega, by omega⟩
theorem rep_at (n : Nat) (w : Int) (i : Nat) (h : i < n) : iAt (srt (List.replicate n w)) i = w := by
  have hl : i < (srt (List.replicate n w)).length := by rw [srt_length]; simpa using h
  have hm := iAt_mem hl
  exact List.eq_of_mem_replicate ((srt_perm _).mem_iff.1 hm)
theorem worst_rep {n : Nat} {w f lost : Int} (hw : 0 ≤ w) (h : spOk (List.replicate n w) f lost = true) : worst (List.replicate n w) f lost = if (n : Int) - lost ≤ 3 * f then w * 2 else w := by
  have hm := sp_mk h
  rw [List.length_replicate] at hm
  obtain ⟨j, j1, j2, j3⟩ := worst_at h
  have g1 := worst_ge h (spK (List.replicate n w) f lost) (by unfold jLo; omega) (Nat.le_refl _)
  have g2 := worst_ge h (jLo (spM (List.replicate n w) f lost) (spK (List.replicate n w) f lost)) (Nat.le_refl _) (by unfold jLo; omega)
  generalize spM (List.replicate n w) f lost = m at *
  generalize spK (List.replicate n w) f lost = k at *
  have d1 := rep_at n w (k - 1) (by omega)
  have d2 := rep_at n w (2 * k - j - 1) (by unfold jLo at j1; omega)
  have d3 := rep_at n w (2 * k - k - 1) (by omega)
  have a := vJ_spec (srt (List.replicate n w)) k j
  have b := vJ_spec (srt (List.replicate n w)) k k
  have c := vJ_spec (srt (List.replicate n w)) k (jLo m k)
  by_cases h3 : (n : Int) - lost ≤ 3 * f
  · rw [if_pos h3]
    have e : jLo m k = 0 := by unfold jLo; omega
    rw [e] at c g2
    have d4 := rep_at n w (2 * k - 0 - 1) (by omega)
    have := c.2.2 (w * 2) (by omega) (fun h => by omega)
    omega
  · rw [if_neg h3]
    have hj : 0 < j := by unfold jLo at j1; omega
    have d5 := rep_at n w (j - 1) (by omega)
    have := a.2.1 hj
    have := b.2.2 w (by omega) (fun _ => by omega)
    omega
set_option maxRecDepth 100000 in
set_option maxHeartbeats 2000000 in
theorem SpEqual_any (w : World) (v : Value) (l : List Int) (hv : IsRow w v l) (_wl : WfI l) (f : Int) (lost : Int) (x : Int) (hx : 0 ≤ x ∧ x ≤ 4294967295) :
    Calls Try.prog 7 #[v, .int .i64 f, .int .i64 lost, .int .u32 x] w fun e w' => e = .returned (.bool true) ∧ Below w.heap.size w w' := by
  have hv0 := hv
  obtain ⟨a, cap, rfl, g1, g2, g3⟩ := hv
  obtain ⟨i0, hi0, hz0, hz1, hz2⟩ := info_parts infoIs
  go_enter Try.func7, Try.ntmps7
  go_wp2_with fail
  refine (head_any _).mono ?_
  rintro e w1 ⟨rfl, b1⟩
  have hv1 := hv0.below (Nat.le_refl _) b1
  go_wp2_with fail
  refine (Worst_any _ l _ _ _ hv1).mono ?_
  rintro e w2 ⟨rfl, b2⟩
  have hv2 := hv1.below (Nat.le_refl _) b2
  have z1 := b1.size
  have B2 : Below w.heap.size w w2 := (by ((repeat' (first | exact Below.refl _ _ | exact b1 | exact b2 | refine Below.alloc ?_ ?_ _ | refine Below.setCell ?_ ?_ _ | refine Below.drew ?_ | refine below_drewN ?_ _ | refine Below.trans ?_ (b1.mono ?_) | refine Below.trans ?_ (b2.mono ?_))) <;> (first | omega | (simp; done) | (simp; omega))))
  clear hv1 b1 b2 z1
  go_upto_if 31 with fail
  go_cut [12] (fun _ wx => w2 = wx)
  case first =>
    cases hok : spOk l 0 lost with
    | false =>
      have hne : (spEr l 0 lost == 0) = false := by rw [beq_eq_false_iff_ne]; rcases spEr_no hok with h | h <;> omega
      have hne2 : ¬ spEr l 0 lost = 0 := by rcases spEr_no hok with h | h <;> omega
      clear hok
      go_wp2_with fail
      go_meet
      rfl
    | true =>
      have hne : (spEr l 0 lost == 0) = true := by rw [beq_iff_eq]; exact spEr_ok hok
      have hne2 : spEr l 0 lost = 0 := spEr_ok hok
      have Heq := hide (equal_a hok)
      have hi := (spOk_iff l 0 lost).1 hok
      have hl16 := hi.1.1.2
      have hlo := hi.2.2.1
      generalize worst l 0 lost = y at *
      clear hok hi
      have h3 : ∀ i, i < l.length → ∃ b off, a = some ⟨b, off, none⟩ ∧ w2.cell? ⟨b, off + i, none⟩ = some (.int .i64 (iAt l i)) := fun i hi => by
        obtain ⟨a', cap', e, r1, r2, r3⟩ := hv2
        cases e
        obtain ⟨b, off, e1, e2, e3⟩ := r3 i hi
        exact ⟨b, off, e1, e3⟩
      have H3 := hide h3
      clear h3 g3
      go_wp2_with fail
      clear hne hne2
      go_loopw [12, 13, 34] (fun s12 s13 s34 wx => ∃ (i : Nat) (b : Bool), i ≤ l.length ∧ s34 = .int .i64 i ∧ s12 = .int .i64 (nLt l y i) ∧ s13 = .bool b ∧ Hid (b = anyE l y i) ∧ w2 = wx) (fun _ _ s34 _ => l.length - (intOf s34).toNat)
      case atStart => exact ⟨0, false, Nat.zero_le _, rfl, rfl, rfl, hide rfl, rfl⟩
      case round =>
        obtain ⟨i, b, hi, rfl, rfl, rfl, Hb, rfl⟩ := hrel
        have hbd := nLt_bd l y i
        by_cases hlt : i < l.length
        · obtain ⟨bb, off, rfl, hc⟩ := H3.out i hlt
          have Hs := hide (show nLt l y (i + 1) = nLt l y i + if iAt l i < y then 1 else 0 from rfl)
          have Hs2 := hide (show anyE l y (i + 1) = (anyE l y i || (iAt l i == y)) from rfl)
          by_cases hy : iAt l i < y
          · have Hs' := hide (Hs.out.trans (by rw [if_pos hy]))
            cases b with
            | true =>
              go_wp2_with fail
              go_roundw
              case rel => exact ⟨i + 1, _, by omega, by go_num, by rw [Hs'.out], rfl, hide (by rw [Hs2.out, ← Hb.out]; rfl), by first | rfl | trivial⟩
              case measure => simp [intOf]; omega
            | false =>
              go_wp2_with fail
              go_roundw
              case rel => exact ⟨i + 1, _, by omega, by go_num, by rw [Hs'.out], rfl, hide (by rw [Hs2.out, ← Hb.out]; rfl), by first | rfl | trivial⟩
              case measure => simp [intOf]; omega
          · have Hs' := hide (Hs.out.trans (by rw [if_neg hy]))
            cases b with
            | true =>
              go_wp2_with fail
              go_roundw
              case rel => exact ⟨i + 1, _, by omega, by go_num, by rw [Hs'.out, Int.add_zero], rfl, hide (by rw [Hs2.out, ← Hb.out]; rfl), by first | rfl | trivial⟩
              case measure => simp [intOf]; omega
            | false =>
              go_wp2_with fail
              go_roundw
              case rel => exact ⟨i + 1, _, by omega, by go_num, by rw [Hs'.out, Int.add_zero], rfl, hide (by rw [Hs2.out, ← Hb.out]; rfl), by first | rfl | trivial⟩
              case measure => simp [intOf]; omega
        · obtain rfl : i = l.length := by omega
          have hb : b = true := by rw [Hb.out]; exact Heq.out.1
          subst hb
          go_wp2_with fail
          go_loopw [16, 52] (fun s16 s52 wx => ∃ i : Nat, i ≤ l.length ∧ s52 = .int .i64 i ∧ s16 = .int .i64 (nEq l y i) ∧ w2 = wx) (fun _ s52 _ => l.length - (intOf s52).toNat)
          case atStart => exact ⟨0, Nat.zero_le _, rfl, rfl, rfl⟩
          case round =>
            obtain ⟨i, hi, rfl, rfl, rfl⟩ := hrel
            have hbd2 := nEq_bd l y i
            by_cases hlt : i < l.length
            · obtain ⟨bb, off, rfl, hc⟩ := H3.out i hlt
              have Hs := hide (show nEq l y (i + 1) = nEq l y i + if iAt l i = y then 1 else 0 from rfl)
              by_cases hy : iAt l i = y
              · have Hs' := hide (Hs.out.trans (by rw [if_pos hy]))
                have hy2 : (iAt l i == y) = true := by rw [beq_iff_eq]; exact hy
                clear hy
                go_wp2_with fail
                go_roundw
                case rel => exact ⟨i + 1, by omega, by go_num, by rw [Hs'.out], by first | rfl | trivial⟩
                case measure => simp [intOf]; omega
              · have Hs' := hide (Hs.out.trans (by rw [if_neg hy]))
                have hy2 : (iAt l i == y) = false := by rw [beq_eq_false_iff_ne]; exact hy
                go_wp2_with fail
                go_roundw
                case rel => exact ⟨i + 1, by omega, by go_num, by rw [Hs'.out, Int.add_zero], by first | rfl | trivial⟩
                case measure => simp [intOf]; omega
            · obtain rfl : i = l.length := by omega
              have e1 : decide (lost < nLt l y l.length) = false := decide_eq_false (by have := Heq.out.2.1; omega)
              have e2 : decide (nLt l y l.length + nEq l y l.length ≤ lost) = false := decide_eq_false (by have := Heq.out.2.2; omega)
              go_wp2_with fail
              go_meet
              rfl
  case rest =>
    have hwc := hcut
    subst hwc
    have z2 := B2.size
    cases hW : (inB l.length 1 16 && allW l l.length) with
    | false =>
      go_wp2_with (go_at_call 19; refine (RWidths_any _ l _ hv2).mono ?_; rintro e w3 ⟨rfl, b3⟩; rw [hW])
      go_ret
      exact ⟨rfl, (by ((repeat' (first | exact Below.refl _ _ | exact B2 | exact b3 | refine Below.alloc ?_ ?_ _ | refine Below.setCell ?_ ?_ _ | refine Below.drew ?_ | refine below_drewN ?_ _ | refine Below.trans ?_ (B2.mono ?_) | refine Below.trans ?_ (b3.mono ?_))) <;> (first | omega | (simp; done) | (simp; omega))))⟩
    | true =>
      have hW2 := hW
      simp only [Bool.and_eq_true, inB, decide_eq_true_eq] at hW2
      have hn1 := hW2.1
      clear hW2 g3
      go_wp2_with (go_at_call 19; refine (RWidths_any _ l _ hv2).mono ?_; rintro e w3 ⟨rfl, b3⟩; rw [hW])
      have B3 : Below w.heap.size w w3 := (by ((repeat' (first | exact Below.refl _ _ | exact B2 | exact b3 | refine Below.alloc ?_ ?_ _ | refine Below.setCell ?_ ?_ _ | refine Below.drew ?_ | refine below_drewN ?_ _ | refine Below.trans ?_ (B2.mono ?_) | refine Below.trans ?_ (b3.mono ?_))) <;> (first | omega | (simp; done) | (simp; omega))))
      clear hv2 b3 B2 hW
      go_loopw [19, 82] (fun s19 s82 wx => ∃ k : Nat, k ≤ l.length ∧ s82 = .int .i64 k ∧ OwnIs wx w3.heap.size s19 (List.replicate k x) ∧ Below w3.heap.size w3 wx) (fun _ s82 _ => l.length - (intOf s82).toNat)
      case atStart => exact ⟨0, Nat.zero_le _, rfl, OwnIs.nil _ _, Below.refl _ _⟩
      case round =>
        obtain ⟨k, hk, rfl, hown, hB⟩ := hrel
        have hlk : (List.replicate k x).length = k := List.length_replicate
        by_cases hlt : k < l.length
        · obtain ⟨oa, ocap, hov, ho1, ho2⟩ := hown.val
          have hlow := World.ownsRow.lt hown
          have hown' := hown
          unfold OwnIs at hown'
          rw [hlk] at hown' hov
          subst hov
          have Hlk := hide hlk
          have hz := hB.size
          have Hmt := hide (show List.replicate (k + 1) x = List.replicate k x ++ [x] from List.replicate_succ')
          clear hlk hown
          go_wp2_with (at_builtin; refine wpList_append_own _ rfl _ _ 22 rfl w3.heap.size 3 i0 (.int .i64 0) 1 8 Try.underlying22 hi0 hz0 hz1 hz2 rfl (by decide) _ k (encI (List.replicate k x)) rfl (World.ownsRow.alloc hown' _) ⟨wr.heap.size, 0, none⟩ 1 1 [.int .i64 x] rfl rfl (cells_new wr [.int .i64 x] _) (by simp [Value.oneCell']) (by unfold maxLen; omega) (by omega) (by simp; omega) ?_; intro v4 w4 hown4 hg4 _)
          go_roundw
          case rel =>
            refine ⟨k + 1, by omega, by go_num, by rw [Hmt.out]; exact OwnIs.app (by rw [Hlk.out]; exact hown4), ?_⟩
            exact (hB.alloc (by omega) _).grown hg4 (by simp; omega) (fun r h => (hlow r h).1)
          case measure => simp [intOf]; omega
        · obtain rfl : k = l.length := by omega
          have r4 := hown.row
          have z3 := hB.size
          clear hlk
          go_wp2_with fail
          refine (Worst_any _ (List.replicate l.length x) _ _ _ r4).mono ?_
          rintro e w5 ⟨rfl, b5⟩
          have z3 := B3.size
          have z4 := hB.size
          have BF : Below w.heap.size w w5 := (by ((repeat' (first | exact Below.refl _ _ | exact B3 | exact hB | exact b5 | refine Below.alloc ?_ ?_ _ | refine Below.setCell ?_ ?_ _ | refine Below.drew ?_ | refine below_drewN ?_ _ | refine Below.trans ?_ (B3.mono ?_) | refine Below.trans ?_ (hB.mono ?_) | refine Below.trans ?_ (b5.mono ?_))) <;> (first | omega | (simp; done) | (simp; omega))))
          clear r4 hown
          cases hk2 : spOk (List.replicate l.length x) f lost with
          | false =>
            have hne : (spEr (List.replicate l.length x) f lost == 0) = false := by rw [beq_eq_false_iff_ne]; rcases spEr_no hk2 with h | h <;> omega
            have hne2 : (spEr (List.replicate l.length x) f lost != 0) = true := by rw [bne_iff_ne]; rcases spEr_no hk2 with h | h <;> omega
            clear hk2
            go_wp2_with fail
            go_ret
            exact ⟨rfl, BF⟩
          | true =>
            have he := spEr_ok hk2
            have hi := (spOk_iff _ f lost).1 hk2
            have hf := hi.2.1
            have hlo := hi.2.2.1
            have hw := worst_rep hx.1 hk2
            rw [he]
            by_cases h3 : (l.length : Int) - lost ≤ 3 * f
            · rw [if_pos h3] at hw
              rw [hw]
              clear hk2 he hi hw
              go_wp2_with fail
              go_ret
              exact ⟨by first | rfl | exact ret_bool (by simp), BF⟩
            · rw [if_neg h3] at hw
              rw [hw]
              clear hk2 he hi hw
              go_wp2_with fail
              go_ret
              exact ⟨by first | rfl | exact ret_bool (by simp), BF⟩
set_option maxRecDepth 100000 in
theorem spreadEqual_holds : Rows.SpreadEqualSaid :=
  OpenClaim.holds_of_wide 7 Try.f7 rfl rfl rfl rfl rfl rfl rfl ⟨rfl, rfl, rfl, rfl, rfl⟩ rfl rfl rfl rfl rfl (by kernel_rfl) Try.func7 (by kernel_rfl)
    (of_decide_eq_true (by kernel_rfl)) (by unfold Func.isWrapper; rw [if_neg (of_decide_eq_false (by kernel_rfl))]; exact ⟨rfl, rfl⟩)
    (fun os started H enc _ => law_lifted started 7 Try.f7 Try.func7 (by kernel_rfl) Rows.spreadEqualSpec rfl rfl
      (fun ds h => by match ds, h with | [_, _, _, _], _ => exact ⟨rfl, rfl, rfl⟩)
      (fun t h => by
        rw [Try.params7] at h
        simp only [List.mem_cons, List.not_mem_nil, or_false] at h
        rcases h with rfl | rfl | rfl | rfl <;> exact ⟨by kernel_rfl, of_decide_eq_true (by kernel_rfl)⟩)
      (ChangeSpec.witness6 (enc := enc) (C := Try.checked) false ⟨#[], #[.slice none 0 0, .int .i64 0, .int .i64 0, .int .u32 0], []⟩ 8 (by kernel_rfl) (by kernel_rfl) (by kernel_rfl) (by kernel_rfl))
      (fun W base args ds p hA hok => by
        rw [Try.params7] at hA hok
        obtain ⟨v0, vs0, d0, ds0, p0, q0, hargs, rfl, rfl, h0, r0⟩ := ChangeShapes.trodAll_cons hA
        obtain ⟨v1, vs1, d1, ds1, p1, q1, rfl, rfl, rfl, h1, r1⟩ := ChangeShapes.trodAll_cons r0
        obtain ⟨v2, vs2, d2, ds2, p2, q2, rfl, rfl, rfl, h2, r2⟩ := ChangeShapes.trodAll_cons r1
        obtain ⟨v3, vs3, d3, ds3, p3, q3, rfl, rfl, rfl, h3, r3⟩ := ChangeShapes.trodAll_cons r2
        obtain ⟨rfl, rfl, rfl⟩ := ChangeShapes.trodAll_nil r3
        obtain rfl : args = #[v0, v1, v2, v3] := by rw [← Array.toArray_toList (xs := args), hargs]
        obtain ⟨l0, hl0, wl0⟩ := open_is (hok 0 _ v0 rfl rfl) h0
        obtain ⟨x1, rfl, hx1⟩ := open_i64 Try.underlying3 (hok 1 _ v1 rfl rfl) h1
        obtain ⟨x2, rfl, hx2⟩ := open_i64 Try.underlying3 (hok 2 _ v2 rfl rfl) h2
        obtain ⟨x3, rfl, hx3⟩ := open_u32 Try.underlying35 (hok 3 _ v3 rfl rfl) h3
        exact SpEqual_any W v0 l0 hl0 wl0 x1 x2 x3 hx3))
end Go.Proofs.Ytcpfifbchijleaa
