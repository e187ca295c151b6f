/- SpreadGrows: for every list of widths and numbers the statement answers true and leaves its arguments as they were. No condition. -/
import Derived.Test.YtcpfifbchijleaaSpR
import Derived.Test.YtcpfifbchijleaaSpQ
import Derived.Test.YtcpfifbchijleaaSpL
import Derived.Test.YtcpfifbchijleaaFs
namespace Go.Proofs.Ytcpfifbchijleaa
open Go.RowKit
attribute [local go_sem ↓] run_max_mx run_min_mn run_eql_iv run_neq_iv
theorem own_newI {w : World} {base q : Nat} (hh : w.heap[q]? = some (.cells #[] 3)) (h : base ≤ q) : OwnIs w base (.slice (some ⟨q, 0, none⟩) 0 0) [] :=
  ⟨rfl, .inr ⟨q, 0, #[], rfl, h, hh, Nat.le_refl _, Nat.zero_le _, rfl, rfl⟩⟩
theorem isrow_cells {w : World} {b off n cap : Nat} {l : List Int} (h : IsRow w (.slice (some ⟨b, off, none⟩) n cap) l) : ∀ j u, (encI l)[j]? = some u → w.cell? ((⟨b, off, none⟩ : Addr).add j) = some u := by
  obtain ⟨a, cap', e, h1, h2, h3⟩ := h
  cases e
  intro j u hj
  have hjl : j < l.length := by rw [← encI_length]; exact (List.getElem?_eq_some_iff.1 hj).1
  obtain ⟨b', off', e, _, h5⟩ := h3 j hjl
  cases e
  rw [encI_at l j hjl] at hj
  cases hj
  rw [Go.WideShapes.add_plain]
  exact h5
theorem own_cap {w : World} {base e size n g cap : Nat} {xs : List Value} (h : w.ownsRow base e size (.slice (some ⟨g, 0, none⟩) n cap) n xs) : n ≤ cap ∧ cap ≤ 9223372036854775807 := by
  rcases h.2 with ⟨hv, _⟩ | ⟨g', cap', cur, hv, hg, hc, hn, hm, _⟩
  · simp at hv
  · simp only [Value.slice.injEq] at hv; obtain ⟨-, -, rfl⟩ := hv; exact ⟨hn, hm⟩
theorem mulL_take (t : Int) (l : List Int) (k : Nat) (hk : k < l.length) : mulL t (l.take (k + 1)) = mulL t (l.take k) ++ [iAt l k * t] := by
  rw [take_snoc_is l k hk]; simp [mulL]
theorem mul_bd {a t : Int} (h1 : 0 ≤ a ∧ a ≤ 1000000000000) (h2 : 0 ≤ t ∧ t ≤ 255) : 0 ≤ a * t ∧ a * t ≤ 255000000000000 := by
  have := Int.mul_nonneg h1.1 h2.1
  have := Int.mul_le_mul h1.2 h2.2 h2.1 (by omega : (0 : Int) ≤ 1000000000000)
  omega
theorem worst_bd {l : List Int} {f lost : Int} (h : spOk l f lost = true) : 0 ≤ worst l f lost ∧ worst l f lost ≤ 2000000000000 := by
  rw [worst_ok h]
  have hm := sp_mk h
  have := bestP_bd (srt_bd l ((spOk_iff l f lost).1 h).1.2) (spM l f lost) (spK l f lost) hm.2.2.1 hm.2.2.2.1
  omega
theorem spOk_mulL {l : List Int} {f lost t : Int} (h : spOk l f lost = true) (hb : (inB (mulL t l).length 1 16 && allW (mulL t l) (mulL t l).length) = true) : spOk (mulL t l) f lost = true := by
  simp only [spOk, spA, Bool.and_eq_true] at h hb ⊢
  rw [mulL_length] at *
  exact ⟨⟨⟨hb, h.1.1.2⟩, h.1.2⟩, h.2⟩
def wider (l : List Int) (q : Nat) (b : Int) : List Int := l.set q (mn 1000000000000 (iAt l q + b))
theorem wider_ok {l : List Int} {f lost b : Int} {q : Nat} (h : spOk l f lost = true) (hq : q < l.length) (hb : 0 ≤ b) : spOk (wider l q b) f lost = true ∧ worst l f lost ≤ worst (wider l q b) f lost := by
  have hi := (spOk_iff l f lost).1 h
  have hl : (wider l q b).length = l.length := by simp [wider]
  have hat : ∀ j, iAt (wider l q b) j = if q = j then mn 1000000000000 (iAt l q + b) else iAt l j := fun j => iAt_set l q j _ hq
  have hs := mn_spec 1000000000000 (iAt l q + b)
  have hqb := hi.1.2 q hq
  have hok : spOk (wider l q b) f lost = true := by
    rw [spOk_iff, hl]
    refine ⟨⟨hi.1.1, fun j hj => ?_⟩, hi.2⟩
    rw [hat j]
    split
    · omega
    · exact hi.1.2 j hj
  refine ⟨hok, worst_mono hl.symm (fun j hj => ?_) h hok⟩
  rw [hat j]
  split
  · rename_i e; subst e; omega
  · exact Int.le_refl _
set_option maxRecDepth 100000 in
set_option maxHeartbeats 2000000 in
theorem SpGrows_any (w : World) (v : Value) (l : List Int) (hv : IsRow w v l) (_wl : WfI l) (f : Int) (lost : Int) (k8 : Int) (h8 : 0 ≤ k8 ∧ k8 ≤ 255) (b32 : Int) (h32 : 0 ≤ b32 ∧ b32 ≤ 4294967295) (tm : Int) (htm : 0 ≤ tm ∧ tm ≤ 255) :
    Calls Try.prog 4 #[v, .int .i64 f, .int .i64 lost, .int .u8 k8, .int .u32 b32, .int .u8 tm] w fun e w' => e = .returned (.bool true) ∧ Below w.heap.size w w' := by
  cases hok : spOk l f lost with
  | false =>
    have hne : (spEr l f lost == 0) = false := by rw [beq_eq_false_iff_ne]; rcases spEr_no hok with h | h <;> omega
    have hne2 : (spEr l f lost != 0) = true := by rw [bne_iff_ne]; rcases spEr_no hok with h | h <;> omega
    have hw0 := worst_no hok
    clear hok
    go_enter Try.func4, Try.ntmps4
    go_wp2_with fail
    refine (head_any _).mono ?_
    rintro e w1 ⟨rfl, b1⟩
    go_wp2_with fail
    refine (Worst_any _ l _ _ _ (hv.below (Nat.le_refl _) b1)).mono ?_
    rintro e w2 ⟨rfl, b2⟩
    rw [hw0]
    go_wp2_with fail
    go_ret
    have z1 := b1.size
    exact ⟨rfl, (by ((repeat' (first | exact Below.refl _ _ | exact b1 | exact b2 | refine Below.alloc ?_ ?_ _ | refine Below.setCell ?_ ?_ _ | refine Below.drew ?_ | refine below_drewN ?_ _ | refine Below.trans ?_ (b1.mono ?_) | refine Below.trans ?_ (b2.mono ?_))) <;> (first | omega | (simp; done) | (simp; omega))))⟩
  | true =>
    have he := spEr_ok hok
    have hi := (spOk_iff l f lost).1 hok
    have hf := hi.2.1
    have hlo := hi.2.2.1
    have hlen := hi.1.1
    have Hwd := hide hi.1.2
    have hwb := worst_bd hok
    obtain ⟨q, hqe⟩ : ∃ q : Nat, k8 % (l.length : Int) = q := ⟨(k8 % (l.length : Int)).toNat, by have := Int.emod_nonneg k8 (show (l.length : Int) ≠ 0 by omega); omega⟩
    have hq : q < l.length := by have := Int.emod_lt_of_pos k8 (show (0 : Int) < (l.length : Int) by omega); omega
    have hqb := hi.1.2 q hq
    have hwo := wider_ok (b := b32) hok hq h32.1
    obtain ⟨b, off, cap, rfl, g1, g2, g4, g5, g7⟩ := hv.at0 (by omega)
    have Hok := hide hok
    have He := hide he
    have Hwo := hide hwo
    obtain ⟨i0, hi0, hz0, hz1, hz2⟩ := info_parts infoIs
    clear hok he hi hwo g5
    go_enter Try.func4, Try.ntmps4
    go_wp2_with fail
    refine (head_any _).mono ?_
    rintro e w1 ⟨rfl, b1⟩
    have hv1 := hv.below (Nat.le_refl _) b1
    go_wp2_with fail
    refine (Worst_any _ l _ _ _ hv1).mono ?_
    rintro e w2 ⟨rfl, b2⟩
    rw [He.out]
    have hv2 := hv1.below (Nat.le_refl _) b2
    have z1 := b1.size
    have z2 := b2.size
    clear g7 hv1
    go_wp2_with (at_builtin; refine wpList_append_own _ rfl _ _ 22 rfl w2.heap.size 3 i0 (.int .i64 0) 1 8 Try.underlying22 hi0 hz0 hz1 hz2 rfl (by decide) _ 0 [] rfl (own_newI (base := w2.heap.size) (World.alloc_heap_new w2 _) (Nat.le_refl _)) ⟨b, off, none⟩ l.length cap (encI l) rfl (by rw [encI_length, Nat.mul_one]) (isrow_cells (hv2.below (Nat.le_refl _) ((Below.refl _ _).alloc (Nat.le_refl _) _))) (encI_one l) (by unfold maxLen; omega) (by omega) (by simp) ?_; intro v3 w3 hown3 hg3 _; rw [Nat.zero_add, List.nil_append] at hown3; obtain ⟨gB, cap3, rfl, hgb, hglt⟩ := World.ownsRow.form hown3 (by omega); have k3 := (World.ownsRow.cellAt hown3 q (by omega)).trans (encI_at l q hq); have f3 := World.ownsRow.frozenAt hown3 q; obtain ⟨hcap1, hcap2⟩ := own_cap hown3; have Hown3 := hide hown3; clear hown3)
    have B3 : Below w2.heap.size w2 w3 := ((Below.refl _ _).alloc (Nat.le_refl _) _).grown hg3 (by simp) (fun r h => by cases h; exact Nat.le_refl _)
    have B4 : Below w2.heap.size w2 (w3.setCell ⟨gB, q, none⟩ (.int .i64 (mn 1000000000000 (iAt l q + b32)))) := B3.setCell (p := ⟨gB, q, none⟩) hgb _
    have hwl : (wider l q b32).length = l.length := by simp [wider]
    have r4 : IsRow (w3.setCell ⟨gB, q, none⟩ (.int .i64 (mn 1000000000000 (iAt l q + b32)))) (.slice (some ⟨gB, 0, none⟩) l.length cap3) (wider l q b32) := by
      have := (OwnIs.set (c := l) Hown3.out q (mn 1000000000000 (iAt l q + b32))).row
      have e : (l.set q (mn 1000000000000 (iAt l q + b32))).length = l.length := by simp
      rw [e] at this
      exact this
    have hwo := Hwo.out
    have he2 := spEr_ok hwo.1
    have He2 := hide he2
    have hlt2 : decide (worst (wider l q b32) f lost < worst l f lost) = false := decide_eq_false (by omega)
    clear hwl hg3 B3 hwo he2 hqe
    generalize w3.setCell ⟨gB, q, none⟩ (.int .i64 (mn 1000000000000 (iAt l q + b32))) = w4 at *
    refine (Worst_any _ (wider l q b32) _ _ _ r4).mono ?_
    rintro e w5 ⟨rfl, b5⟩
    rw [He2.out]
    have hv4 := hv2.below (Nat.le_refl _) B4
    have hv5 := hv4.below (Nat.le_refl _) b5
    go_wp2_with fail
    refine (Worst_any _ l _ _ _ hv5).mono ?_
    rintro e w6 ⟨rfl, b6⟩
    have hv6 := hv5.below (Nat.le_refl _) b6
    go_wp2_with fail
    refine (Worst_any _ l _ _ _ hv6).mono ?_
    rintro e w7 ⟨rfl, b7⟩
    have hv7 := hv6.below (Nat.le_refl _) b7
    have z4 := B4.size
    have z5 := b5.size
    have z6 := b6.size
    have z7 := b7.size
    have B7 : Below w.heap.size w w7 := (by ((repeat' (first | exact Below.refl _ _ | exact b1 | exact b2 | exact B4 | exact b5 | exact b6 | exact b7 | refine Below.alloc ?_ ?_ _ | refine Below.setCell ?_ ?_ _ | refine Below.drew ?_ | refine below_drewN ?_ _ | refine Below.trans ?_ (b1.mono ?_) | refine Below.trans ?_ (b2.mono ?_) | refine Below.trans ?_ (B4.mono ?_) | refine Below.trans ?_ (b5.mono ?_) | refine Below.trans ?_ (b6.mono ?_) | refine Below.trans ?_ (b7.mono ?_))) <;> (first | omega | (simp; done) | (simp; omega))))
    clear B4 b5 b6 b7 r4 hv2 hv4 hv5 hv6 b1 b2
    go_upto_region 11 with fail
    go_cut [110] (fun s110 wx => s110 = .bool false ∧ Below w7.heap.size w7 wx)
    case first =>
      cases h1 : spOk l (f + 1) lost with
      | true =>
        have p1 : (spEr l (f + 1) lost == 0) = true := by rw [spEr_ok h1]; rfl
        have p2 : decide (worst l (f + 1) lost < worst l f lost) = false := decide_eq_false (by have := worst_f Hok.out h1; omega)
        clear h1
        cases h2 : spOk l f (lost + 1) with
        | true =>
          have p3 : (spEr l f (lost + 1) == 0) = true := by rw [spEr_ok h2]; rfl
          have p4 : decide (worst l f (lost + 1) < worst l f lost) = false := decide_eq_false (by have := worst_lost Hok.out h2; omega)
          clear h2
          go_wp2_with fail
          go_meet
          exact ⟨rfl, Below.refl _ _⟩
        | false =>
          have p3 : (spEr l f (lost + 1) == 0) = false := by rw [beq_eq_false_iff_ne]; rcases spEr_no h2 with h | h <;> omega
          clear h2
          go_wp2_with fail
          go_meet
          exact ⟨rfl, Below.refl _ _⟩
      | false =>
        have p1 : (spEr l (f + 1) lost == 0) = false := by rw [beq_eq_false_iff_ne]; rcases spEr_no h1 with h | h <;> omega
        clear h1
        cases h2 : spOk l f (lost + 1) with
        | true =>
          have p3 : (spEr l f (lost + 1) == 0) = true := by rw [spEr_ok h2]; rfl
          have p4 : decide (worst l f (lost + 1) < worst l f lost) = false := decide_eq_false (by have := worst_lost Hok.out h2; omega)
          clear h2
          go_wp2_with fail
          go_meet
          exact ⟨rfl, Below.refl _ _⟩
        | false =>
          have p3 : (spEr l f (lost + 1) == 0) = false := by rw [beq_eq_false_iff_ne]; rcases spEr_no h2 with h | h <;> omega
          clear h2
          go_wp2_with fail
          go_meet
          exact ⟨rfl, Below.refl _ _⟩
    case rest =>
      obtain ⟨rfl, bc⟩ := hcut
      have hvc := hv7.below (Nat.le_refl _) bc
      have Bc : Below w.heap.size w wc := (by ((repeat' (first | exact Below.refl _ _ | exact B7 | exact bc | refine Below.alloc ?_ ?_ _ | refine Below.setCell ?_ ?_ _ | refine Below.drew ?_ | refine below_drewN ?_ _ | refine Below.trans ?_ (B7.mono ?_) | refine Below.trans ?_ (bc.mono ?_))) <;> (first | omega | (simp; done) | (simp; omega))))
      have zc := Bc.size
      obtain ⟨a', cap', hva, j1, j2, j3⟩ := hvc
      cases hva
      clear hv7 B7 bc hlt2 z1 z2 z4 z5 z6 z7
      go_wp2_with fail
      go_loopw [24, 113] (fun s24 s113 wx => ∃ k : Nat, k ≤ l.length ∧ s113 = .int .i64 k ∧ OwnIs wx wc.heap.size s24 (mulL tm (l.take k)) ∧ Below wc.heap.size wc wx) (fun _ s113 _ => l.length - (intOf s113).toNat)
      case atStart => exact ⟨0, Nat.zero_le _, rfl, by rw [List.take_zero]; exact OwnIs.nil _ _, Below.refl _ _⟩
      case round =>
        obtain ⟨k, hk, rfl, hown, hB⟩ := hrel
        have hlk : (mulL tm (l.take k)).length = k := by rw [mulL_length, List.length_take]; omega
        by_cases hlt : k < l.length
        · obtain ⟨b', off', hbe, j4, j5⟩ := j3 k hlt
          cases hbe
          have j5' := (hB.cell (p := ⟨b, off + k, none⟩) j4).trans j5
          have hkb := Hwd.out k hlt
          have hmb := mul_bd hkb htm
          obtain ⟨oa, ocap, hov, ho1, ho2⟩ := hown.val
          have hlow := World.ownsRow.lt hown
          have hown' := hown
          unfold OwnIs at hown'
          rw [hlk] at hown' hov
          subst hov
          have Hlk := hide hlk
          have hz := hB.size
          have Hmt := hide (mulL_take tm l k hlt)
          clear hlk j5 hown
          go_wp2_with (at_builtin; refine wpList_append_own _ rfl _ _ 22 rfl wc.heap.size 3 i0 (.int .i64 0) 1 8 Try.underlying22 hi0 hz0 hz1 hz2 rfl (by decide) _ k (encI (mulL tm (l.take k))) rfl (World.ownsRow.alloc hown' _) ⟨wr.heap.size, 0, none⟩ 1 1 [.int .i64 (iAt l k * tm)] rfl rfl (cells_new wr [.int .i64 (iAt l k * tm)] _) (by simp [Value.oneCell']) (by unfold maxLen; omega) (by omega) (by simp; omega) ?_; intro v3 w3 hown3 hg3 _)
          go_roundw
          case rel =>
            refine ⟨k + 1, by omega, by go_num, by rw [Hmt.out]; exact OwnIs.app (by rw [Hlk.out]; exact hown3), ?_⟩
            exact (hB.alloc (by omega) _).grown hg3 (by simp; omega) (fun r h => (hlow r h).1)
          case measure => simp [intOf]; omega
        · obtain rfl : k = l.length := by omega
          rw [List.take_length] at hown
          rw [List.take_length] at hlk
          have r8 := hown.row
          clear hlk j3
          go_wp2_with fail
          refine (Worst_any _ (mulL tm l) _ _ _ r8).mono ?_
          rintro e w8 ⟨rfl, b8⟩
          have r9 := r8.below (Nat.le_refl _) b8
          have z8 := b8.size
          have zr := hB.size
          by_cases hW : (inB (mulL tm l).length 1 16 && allW (mulL tm l) (mulL tm l).length) = true
          · have hk2 := spOk_mulL Hok.out hW
            have E8 := hide (spEr_ok hk2)
            have M8 := hide (worst_mulL tm htm.1 Hok.out hk2)
            have hmb : 0 ≤ worst l f lost * tm ∧ worst l f lost * tm ≤ 510000000000000 := by
              have := Int.mul_nonneg hwb.1 htm.1
              have := Int.mul_le_mul hwb.2 htm.2 htm.1 (by omega : (0 : Int) ≤ 2000000000000)
              omega
            rw [E8.out, M8.out]
            clear hk2
            go_wp2_with (go_at_call 19; refine (RWidths_any _ (mulL tm l) _ r9).mono ?_; rintro e w9 ⟨rfl, b9⟩; rw [hW])
            go_ret
            exact ⟨rfl, (by ((repeat' (first | exact Below.refl _ _ | exact Bc | exact hB | exact b8 | exact b9 | refine Below.alloc ?_ ?_ _ | refine Below.setCell ?_ ?_ _ | refine Below.drew ?_ | refine below_drewN ?_ _ | refine Below.trans ?_ (Bc.mono ?_) | refine Below.trans ?_ (hB.mono ?_) | refine Below.trans ?_ (b8.mono ?_) | refine Below.trans ?_ (b9.mono ?_))) <;> (first | omega | (simp; done) | (simp; omega))))⟩
          · have hW' : (inB (mulL tm l).length 1 16 && allW (mulL tm l) (mulL tm l).length) = false := by simpa using hW
            clear hW
            go_wp2_with (go_at_call 19; refine (RWidths_any _ (mulL tm l) _ r9).mono ?_; rintro e w9 ⟨rfl, b9⟩; rw [hW'])
            go_ret
            exact ⟨rfl, (by ((repeat' (first | exact Below.refl _ _ | exact Bc | exact hB | exact b8 | exact b9 | refine Below.alloc ?_ ?_ _ | refine Below.setCell ?_ ?_ _ | refine Below.drew ?_ | refine below_drewN ?_ _ | refine Below.trans ?_ (Bc.mono ?_) | refine Below.trans ?_ (hB.mono ?_) | refine Below.trans ?_ (b8.mono ?_) | refine Below.trans ?_ (b9.mono ?_))) <;> (first | omega | (simp; done) | (simp; omega))))⟩
set_option maxRecDepth 100000 in
theorem spreadGrows_holds : Rows.SpreadGrowsSaid :=
  OpenClaim.holds_of_wide 4 Try.f4 rfl rfl rfl rfl rfl rfl rfl ⟨rfl, rfl, rfl, rfl, rfl⟩ rfl rfl rfl rfl rfl (by kernel_rfl) Try.func4 (by kernel_rfl)
    (of_decide_eq_true (by kernel_rfl)) (by unfold Func.isWrapper; rw [if_neg (of_decide_eq_false (by kernel_rfl))]; exact ⟨rfl, rfl⟩)
    (fun os started H enc _ => law_lifted started 4 Try.f4 Try.func4 (by kernel_rfl) Rows.spreadGrowsSpec rfl rfl
      (fun ds h => by match ds, h with | [_, _, _, _, _, _], _ => exact ⟨rfl, rfl, rfl⟩)
      (fun t h => by
        rw [Try.params4] at h
        simp only [List.mem_cons, List.not_mem_nil, or_false] at h
        rcases h with rfl | rfl | rfl | rfl | rfl | rfl <;> exact ⟨by kernel_rfl, of_decide_eq_true (by kernel_rfl)⟩)
      (ChangeSpec.witness6 (enc := enc) (C := Try.checked) false ⟨#[], #[.slice none 0 0, .int .i64 0, .int .i64 0, .int .u8 0, .int .u32 0, .int .u8 0], []⟩ 8 (by kernel_rfl) (by kernel_rfl) (by kernel_rfl) (by kernel_rfl))
      (fun W base args ds p hA hok => by
        rw [Try.params4] at hA hok
        obtain ⟨v0, vs0, d0, ds0, p0, q0, hargs, rfl, rfl, h0, r0⟩ := ChangeShapes.trodAll_cons hA
        obtain ⟨v1, vs1, d1, ds1, p1, q1, rfl, rfl, rfl, h1, r1⟩ := ChangeShapes.trodAll_cons r0
        obtain ⟨v2, vs2, d2, ds2, p2, q2, rfl, rfl, rfl, h2, r2⟩ := ChangeShapes.trodAll_cons r1
        obtain ⟨v3, vs3, d3, ds3, p3, q3, rfl, rfl, rfl, h3, r3⟩ := ChangeShapes.trodAll_cons r2
        obtain ⟨v4, vs4, d4, ds4, p4, q4, rfl, rfl, rfl, h4, r4⟩ := ChangeShapes.trodAll_cons r3
        obtain ⟨v5, vs5, d5, ds5, p5, q5, rfl, rfl, rfl, h5, r5⟩ := ChangeShapes.trodAll_cons r4
        obtain ⟨rfl, rfl, rfl⟩ := ChangeShapes.trodAll_nil r5
        obtain rfl : args = #[v0, v1, v2, v3, v4, v5] := by rw [← Array.toArray_toList (xs := args), hargs]
        obtain ⟨l0, hl0, wl0⟩ := open_is (hok 0 _ v0 rfl rfl) h0
        obtain ⟨x1, rfl, hx1⟩ := open_i64 Try.underlying3 (hok 1 _ v1 rfl rfl) h1
        obtain ⟨x2, rfl, hx2⟩ := open_i64 Try.underlying3 (hok 2 _ v2 rfl rfl) h2
        obtain ⟨x3, rfl, hx3⟩ := open_u8 Try.underlying5 (hok 3 _ v3 rfl rfl) h3
        obtain ⟨x4, rfl, hx4⟩ := open_u32 Try.underlying35 (hok 4 _ v4 rfl rfl) h4
        obtain ⟨x5, rfl, hx5⟩ := open_u8 Try.underlying5 (hok 5 _ v5 rfl rfl) h5
        exact SpGrows_any W v0 l0 hl0 wl0 x1 x2 x3 hx3 x4 hx4 x5 hx5))
end Go.Proofs.Ytcpfifbchijleaa
