/- WidthFurther: for every site, schedule and number the statement answers true and leaves its arguments as they were. No condition. -/
import Derived.Test.YtbgfgpjgehkdjaaWdM
import Derived.Test.YtbgfgpjgehkdjaaWdR
import Derived.Test.YtbgfgpjgehkdjaaFg
namespace Go.Proofs.Ytbgfgpjgehkdjaa
open Go.RowKit

set_option maxRecDepth 100000 in
set_option maxHeartbeats 4000000 in
theorem WdFurther_any (w : World) (v : Value) (s : SiA) (hs : SiOk w v s) (u : Value) (c : ScA) (hc : ScOk w u c) (k8 : Int) (hk8 : 0 ≤ k8 ∧ k8 ≤ 255) :
    Calls Try.prog 6 #[v, u, .int .u8 k8] w fun e w' => e = .returned (.bool true) ∧ Below w.heap.size w w' := by
  obtain ⟨r, f, lo, tm, pv, ps⟩ := s
  obtain ⟨uv, use, ev⟩ := c
  obtain ⟨rfl, hp, -, -⟩ := hs
  obtain ⟨rfl, hu, -, -⟩ := hc
  simp only at hp hu ⊢
  obtain ⟨pa, pc, rfl, q1, q2, q3⟩ := id hp
  obtain ⟨ua, uc, rfl, u1, u2, u3⟩ := id hu
  have Hq3 := hide q3
  have Hu3 := hide u3
  clear q3 u3
  have hP : ∀ W : World, Below w.heap.size w W → PrRow W (.slice pa ps.length pc) ps ∧ IsRow W (.slice ua use.length uc) use := fun W hW => ⟨hp.below (Nat.le_refl _) hW, hu.below (Nat.le_refl _) hW⟩
  have HP := hide hP
  have hS : ∀ W : World, Below (w.heap.size + 2) ((w.alloc (.cells #[.int .i64 r, .int .i64 f, .int .i64 lo, .int .i64 tm, .slice pa ps.length pc] 24)).alloc (.cells #[.slice ua use.length uc, .int .i64 ev] 27)) W → W.cell? ⟨w.heap.size, 0, none⟩ = some (.int .i64 r) ∧ W.cell? ⟨w.heap.size, 1, none⟩ = some (.int .i64 f) ∧ W.cell? ⟨w.heap.size, 2, none⟩ = some (.int .i64 lo) ∧ W.cell? ⟨w.heap.size, 3, none⟩ = some (.int .i64 tm) ∧ W.cell? ⟨w.heap.size, 4, none⟩ = some (.slice pa ps.length pc) ∧ W.cell? ⟨w.heap.size + 1, 0, none⟩ = some (.slice ua use.length uc) ∧ W.cell? ⟨w.heap.size + 1, 1, none⟩ = some (.int .i64 ev) := by
    intro W hW
    have hc := (bk hW w.heap.size (by omega)).1
    have hd := (bk hW (w.heap.size + 1) (by omega)).1
    exact ⟨(hc 0).trans (by simp), (hc 1).trans (by simp), (hc 2).trans (by simp), (hc 3).trans (by simp), (hc 4).trans (by simp), (hd 0).trans (by simp), (hd 1).trans (by simp)⟩
  have HS := hide hS
  have hL : ∀ W : World, Below (w.heap.size + 2) ((w.alloc (.cells #[.int .i64 r, .int .i64 f, .int .i64 lo, .int .i64 tm, .slice pa ps.length pc] 24)).alloc (.cells #[.slice ua use.length uc, .int .i64 ev] 27)) W → Below w.heap.size w W ∧ w.heap.size + 2 ≤ W.heap.size := fun W hW => ⟨(((Below.refl _ _).alloc (Nat.le_refl _) _).alloc (by simp) _).trans (hW.mono (by omega)), by have := hW.size; simpa using this⟩
  have HL := hide hL
  clear hP hS hL hp hu
  by_cases hf : ps.length ≤ 20 ∧ use.length ≤ 20
  case neg =>
    go_enter Try.func6, Try.ntmps6
    go_wp2_with fail
    refine (head_any _).mono ?_
    rintro e w1 ⟨rfl, b1⟩
    have B1 : Below (w.heap.size + 2) ((w.alloc (.cells #[.int .i64 r, .int .i64 f, .int .i64 lo, .int .i64 tm, .slice pa ps.length pc] 24)).alloc (.cells #[.slice ua use.length uc, .int .i64 ev] 27)) w1 := b1.mono (by simp)
    clear b1
    have z1 := (HL.out _ B1).2
    obtain ⟨y0, y1, y2, y3, y4, x0, x1⟩ := HS.out w1 B1
    go_wp2_with fail
    refine (R29Few_any r f lo tm _ ps _ use ev _ (HP.out _ (HL.out _ B1).1).1 (HP.out _ (HL.out _ B1).1).2).mono ?_
    rintro e w2 ⟨rfl, b2⟩
    rw [decide_eq_false hf]
    have B2 := (HL.out _ B1).1
    go_wp2_with fail
    go_ret
    exact ⟨rfl, (by ((repeat' (first | with_reducible exact Below.refl _ _ | with_reducible exact b2 | with_reducible exact B2 | with_reducible refine Below.alloc ?_ ?_ _ | with_reducible refine Below.setCell ?_ ?_ _ | with_reducible refine Below.drew ?_ | with_reducible refine below_drewN ?_ _ | with_reducible refine Below.trans ?_ (b2.mono ?_) | with_reducible refine Below.trans ?_ (B2.mono ?_))) <;> (first | omega | (simp; done) | (simp; omega))))⟩
  have hun : use.length ≤ 1000000 := by omega
  cases hR : rgB ⟨r, f, lo, tm, ps⟩ use ev with
  | false =>
    go_enter Try.func6, Try.ntmps6
    go_wp2_with fail
    refine (head_any _).mono ?_
    rintro e w1 ⟨rfl, b1⟩
    have B1 : Below (w.heap.size + 2) ((w.alloc (.cells #[.int .i64 r, .int .i64 f, .int .i64 lo, .int .i64 tm, .slice pa ps.length pc] 24)).alloc (.cells #[.slice ua use.length uc, .int .i64 ev] 27)) w1 := b1.mono (by simp)
    clear b1
    have z1 := (HL.out _ B1).2
    obtain ⟨y0, y1, y2, y3, y4, x0, x1⟩ := HS.out w1 B1
    go_wp2_with fail
    refine (R29Few_any r f lo tm _ ps _ use ev _ (HP.out _ (HL.out _ B1).1).1 (HP.out _ (HL.out _ B1).1).2).mono ?_
    rintro e w2 ⟨rfl, b2⟩
    rw [decide_eq_true hf]
    have B2 : Below (w.heap.size + 2) ((w.alloc (.cells #[.int .i64 r, .int .i64 f, .int .i64 lo, .int .i64 tm, .slice pa ps.length pc] 24)).alloc (.cells #[.slice ua use.length uc, .int .i64 ev] 27)) w2 := (by ((repeat' (first | with_reducible exact Below.refl _ _ | with_reducible exact b2 | with_reducible exact B1 | with_reducible refine Below.alloc ?_ ?_ _ | with_reducible refine Below.setCell ?_ ?_ _ | with_reducible refine Below.drew ?_ | with_reducible refine below_drewN ?_ _ | with_reducible refine Below.trans ?_ (b2.mono ?_) | with_reducible refine Below.trans ?_ (B1.mono ?_))) <;> (first | omega | (simp; done) | (simp; omega))))
    clear y0 y1 y2 y3 y4 x0 x1 b2 B1 z1
    have z2 := (HL.out _ B2).2
    obtain ⟨y0, y1, y2, y3, y4, x0, x1⟩ := HS.out w2 B2
    go_wp2_with fail
    refine (R29Right_any r f lo tm _ ps _ use ev _ (HP.out _ (HL.out _ B2).1).1 (HP.out _ (HL.out _ B2).1).2 hun).mono ?_
    rintro e w3 ⟨rfl, b3⟩
    rw [hR]
    have B3 := (HL.out _ B2).1
    go_wp2_with fail
    go_ret
    exact ⟨rfl, (by ((repeat' (first | with_reducible exact Below.refl _ _ | with_reducible exact b3 | with_reducible exact B3 | with_reducible refine Below.alloc ?_ ?_ _ | with_reducible refine Below.setCell ?_ ?_ _ | with_reducible refine Below.drew ?_ | with_reducible refine below_drewN ?_ _ | with_reducible refine Below.trans ?_ (b3.mono ?_) | with_reducible refine Below.trans ?_ (B3.mono ?_))) <;> (first | omega | (simp; done) | (simp; omega))))⟩
  | true =>
    have hrg := (rgB_iff _ _ _).1 hR
    have hsi := (siN_iff _).1 ((siB_iff _).1 hrg.1).1
    have hin := hrg.2.2.1
    have hul : 1 ≤ use.length := by have := hrg.2.2.2.2; simp only at this hsi; omega
    simp only at hsi hin
    have hn16 : ps.length ≤ 16 := hsi.2.2.2.2
    have hn1 : 1 ≤ ps.length := by have := hin 0 (by omega); omega
    obtain ⟨q, hqe⟩ : ∃ q : Nat, k8 % (ps.length : Int) = q := ⟨(k8 % (ps.length : Int)).toNat, by have := Int.emod_nonneg k8 (show (ps.length : Int) ≠ 0 by omega); omega⟩
    have hql : q < ps.length := by have := Int.emod_lt_of_pos k8 (show (0 : Int) < (ps.length : Int) by omega); omega
    have hlaw := fu_law (k := q) hR (by simp only; exact hql)
    simp only at hlaw
    obtain ⟨hl1, hl2, hl3⟩ := hlaw
    have hE : wdEr ⟨r, f, lo, tm, ps⟩ use ev = 0 := by unfold wdEr; rw [hR]; rfl
    have hE2 : wdEr ⟨r, f, lo, tm, ps⟩ (fuL use q ps.length) ev = 0 := by unfold wdEr; rw [hl1]; rfl
    have hus := usd_eq use q ps.length
    rw [decide_eq_true hql, Bool.true_and] at hus
    have Hf := hide hf
    have HR := hide hR
    have HE := hide hE
    have HE2 := hide hE2
    have Hl := hide (And.intro hl2 hl3)
    have Hus := hide hus
    obtain ⟨i0, hi0, hz0, hz1, hz2⟩ := info_parts infoInt
    have nz : ¬ (ps.length : Int) = 0 := by omega
    clear hf hR hl1 hl2 hl3 hrg hsi hin hE hE2 hus
    go_enter Try.func6, Try.ntmps6
    go_wp2_with fail
    refine (head_any _).mono ?_
    rintro e w1 ⟨rfl, b1⟩
    have B1 : Below (w.heap.size + 2) ((w.alloc (.cells #[.int .i64 r, .int .i64 f, .int .i64 lo, .int .i64 tm, .slice pa ps.length pc] 24)).alloc (.cells #[.slice ua use.length uc, .int .i64 ev] 27)) w1 := b1.mono (by simp)
    clear b1
    have z1 := (HL.out _ B1).2
    obtain ⟨y0, y1, y2, y3, y4, x0, x1⟩ := HS.out w1 B1
    go_wp2_with fail
    refine (R29Few_any r f lo tm _ ps _ use ev _ (HP.out _ (HL.out _ B1).1).1 (HP.out _ (HL.out _ B1).1).2).mono ?_
    rintro e w2 ⟨rfl, b2⟩
    rw [decide_eq_true Hf.out]
    have B2 : Below (w.heap.size + 2) ((w.alloc (.cells #[.int .i64 r, .int .i64 f, .int .i64 lo, .int .i64 tm, .slice pa ps.length pc] 24)).alloc (.cells #[.slice ua use.length uc, .int .i64 ev] 27)) w2 := (by ((repeat' (first | with_reducible exact Below.refl _ _ | with_reducible exact b2 | with_reducible exact B1 | with_reducible refine Below.alloc ?_ ?_ _ | with_reducible refine Below.setCell ?_ ?_ _ | with_reducible refine Below.drew ?_ | with_reducible refine below_drewN ?_ _ | with_reducible refine Below.trans ?_ (b2.mono ?_) | with_reducible refine Below.trans ?_ (B1.mono ?_))) <;> (first | omega | (simp; done) | (simp; omega))))
    clear y0 y1 y2 y3 y4 x0 x1 b2 B1 z1
    have z2 := (HL.out _ B2).2
    obtain ⟨y0, y1, y2, y3, y4, x0, x1⟩ := HS.out w2 B2
    go_wp2_with fail
    refine (R29Right_any r f lo tm _ ps _ use ev _ (HP.out _ (HL.out _ B2).1).1 (HP.out _ (HL.out _ B2).1).2 hun).mono ?_
    rintro e w3 ⟨rfl, b3⟩
    rw [HR.out]
    have B3 : Below (w.heap.size + 2) ((w.alloc (.cells #[.int .i64 r, .int .i64 f, .int .i64 lo, .int .i64 tm, .slice pa ps.length pc] 24)).alloc (.cells #[.slice ua use.length uc, .int .i64 ev] 27)) w3 := (by ((repeat' (first | with_reducible exact Below.refl _ _ | with_reducible exact b3 | with_reducible exact B2 | with_reducible refine Below.alloc ?_ ?_ _ | with_reducible refine Below.setCell ?_ ?_ _ | with_reducible refine Below.drew ?_ | with_reducible refine below_drewN ?_ _ | with_reducible refine Below.trans ?_ (b3.mono ?_) | with_reducible refine Below.trans ?_ (B2.mono ?_))) <;> (first | omega | (simp; done) | (simp; omega))))
    clear y0 y1 y2 y3 y4 x0 x1 b3 B2 z2
    have z3 := (HL.out _ B3).2
    obtain ⟨y0, y1, y2, y3, y4, x0, x1⟩ := HS.out w3 B3
    go_wp2_with fail
    rw [hqe]
    clear hqe
    go_loopw [9, 10, 11] (fun s9 s10 s11 wx => ∃ i : Nat, i ≤ ps.length ∧ s11 = .int .i64 i ∧ OwnIs wx w3.heap.size s9 (fuL use q i) ∧ s10 = .bool (usd use q i) ∧ w3.heap.size ≤ wx.heap.size ∧ Below (w.heap.size + 2) ((w.alloc (.cells #[.int .i64 r, .int .i64 f, .int .i64 lo, .int .i64 tm, .slice pa ps.length pc] 24)).alloc (.cells #[.slice ua use.length uc, .int .i64 ev] 27)) wx) (fun _ _ s11 _ => ps.length - (intOf s11).toNat)
    case atStart => exact ⟨0, Nat.zero_le _, rfl, OwnIs.nil _ _, rfl, Nat.le_refl _, B3⟩
    case round =>
      clear y0 y1 y2 y3 y4 x0 x1
      obtain ⟨i, hi, rfl, hown, rfl, hzr, hB⟩ := hrel
      obtain ⟨y0, y1, y2, y3, y4, x0, x1⟩ := HS.out wr hB
      have zr := (HL.out _ hB).2
      by_cases hlt : i < ps.length
      · have hfl := fuL_len use q i
        obtain ⟨oa, ocap, hov, ho1, ho2⟩ := hown.val
        subst hov
        have hlow := World.ownsRow.lt hown
        have Hown := hide hown
        have hown' := hown
        unfold OwnIs at hown'
        clear hown
        go_wp2_with fail
        go_loop [12, 13] (fun s12 s13 => ∃ j : Nat, j ≤ use.length ∧ s13 = .int .i64 j ∧ s12 = .bool (anyTo use i j)) (fun _ s13 => use.length - (intOf s13).toNat)
        case atStart => exact ⟨0, Nat.zero_le _, rfl, rfl⟩
        case round =>
          obtain ⟨j, hj, rfl, rfl⟩ := hrel
          by_cases hjl : j < use.length
          · obtain ⟨ub, uo, rfl, u4, u5⟩ := Hu3.out j hjl
            have u5' := ((HL.out _ hB).1.cell (p := ⟨ub, uo + j, none⟩) u4).trans u5
            have I1 : (0 : Int) ≤ (j : Int) := by omega
            have I2 : (j : Int) < (use.length : Int) := by omega
            clear u5
            cases hb : anyTo use i j with
            | true =>
              have Hb := hide hb
              clear hb
              go_wp2_with fail
              go_round
              case rel => exact ⟨j + 1, by omega, by go_num, by rw [anyTo, Hb.out]; rfl⟩
              case measure => simp [intOf]; omega
            | false =>
              have Hb := hide hb
              clear hb
              go_wp2_with fail
              go_round
              case rel => exact ⟨j + 1, by omega, by go_num, by rw [anyTo, Hb.out]; rfl⟩
              case measure => simp [intOf]; omega
          · obtain rfl : j = use.length := by omega
            by_cases hbq : i = q
            · cases hA : anyTo use i use.length with
              | true =>
                have dq1 : ((i : Int) == (q : Int)) = true := by first | (rw [beq_iff_eq]; omega) | (rw [beq_eq_false_iff_ne]; omega)
                have dq2 : (i == q) = true := by first | (rw [beq_iff_eq]; omega) | (rw [beq_eq_false_iff_ne]; omega)
                have dq3 : decide (i = q) = true := by first | exact decide_eq_true hbq | exact decide_eq_false hbq
                have HA := hide hA
                have Hbq := hide dq2
                clear hA hbq
                go_wp2_with (at_builtin; refine wpList_append_own _ rfl _ _ 25 rfl w3.heap.size 3 i0 (.int .i64 0) 1 8 Try.underlying25 hi0 hz0 hz1 hz2 rfl (by decide) _ (fuL use q i).length (encI (fuL use q i)) rfl (World.ownsRow.alloc hown' _) ⟨wr.heap.size, 0, none⟩ 1 1 [.int .i64 (i : Int)] rfl rfl (cells_new wr [.int .i64 (i : Int)] _) (by simp [Value.oneCell']) (by unfold maxLen; omega) (by omega) (by simp; omega) ?_; intro v4 w4 hown4 hg4 _)
                all_goals
                  have hB4 : Below (w.heap.size + 2) ((w.alloc (.cells #[.int .i64 r, .int .i64 f, .int .i64 lo, .int .i64 tm, .slice pa ps.length pc] 24)).alloc (.cells #[.slice ua use.length uc, .int .i64 ev] 27)) w4 := (hB.alloc (by omega) _).grown hg4 (by simp; omega) (fun r h => by have := hlow r h; omega)
                  have hz4 : w3.heap.size ≤ w4.heap.size := by have := hg4.size; simp at this; omega
                  go_roundw
                  case rel =>
                    have e : fuL use q (i + 1) = fuL use q i ++ [(i : Int)] := by rw [fuL_succ, if_pos (by unfold inU; rw [HA.out, Hbq.out]; rfl)]
                    exact ⟨i + 1, by omega, by go_num, by rw [e]; exact OwnIs.app hown4, by rw [usd, HA.out, Hbq.out]; first | (simp; done) | (simp; assumption) | (simp; simpa using ‹¬ usd use q i = true›), hz4, hB4⟩
                  case measure => simp [intOf]; omega
              | false =>
                have dq1 : ((i : Int) == (q : Int)) = true := by first | (rw [beq_iff_eq]; omega) | (rw [beq_eq_false_iff_ne]; omega)
                have dq2 : (i == q) = true := by first | (rw [beq_iff_eq]; omega) | (rw [beq_eq_false_iff_ne]; omega)
                have dq3 : decide (i = q) = true := by first | exact decide_eq_true hbq | exact decide_eq_false hbq
                have HA := hide hA
                have Hbq := hide dq2
                clear hA hbq
                go_wp2_with (at_builtin; refine wpList_append_own _ rfl _ _ 25 rfl w3.heap.size 3 i0 (.int .i64 0) 1 8 Try.underlying25 hi0 hz0 hz1 hz2 rfl (by decide) _ (fuL use q i).length (encI (fuL use q i)) rfl (World.ownsRow.alloc hown' _) ⟨wr.heap.size, 0, none⟩ 1 1 [.int .i64 (i : Int)] rfl rfl (cells_new wr [.int .i64 (i : Int)] _) (by simp [Value.oneCell']) (by unfold maxLen; omega) (by omega) (by simp; omega) ?_; intro v4 w4 hown4 hg4 _)
                all_goals
                  have hB4 : Below (w.heap.size + 2) ((w.alloc (.cells #[.int .i64 r, .int .i64 f, .int .i64 lo, .int .i64 tm, .slice pa ps.length pc] 24)).alloc (.cells #[.slice ua use.length uc, .int .i64 ev] 27)) w4 := (hB.alloc (by omega) _).grown hg4 (by simp; omega) (fun r h => by have := hlow r h; omega)
                  have hz4 : w3.heap.size ≤ w4.heap.size := by have := hg4.size; simp at this; omega
                  go_roundw
                  case rel =>
                    have e : fuL use q (i + 1) = fuL use q i ++ [(i : Int)] := by rw [fuL_succ, if_pos (by unfold inU; rw [HA.out, Hbq.out]; rfl)]
                    exact ⟨i + 1, by omega, by go_num, by rw [e]; exact OwnIs.app hown4, by rw [usd, HA.out, Hbq.out]; first | (simp; done) | (simp; assumption) | (simp; simpa using ‹¬ usd use q i = true›), hz4, hB4⟩
                  case measure => simp [intOf]; omega
            · cases hA : anyTo use i use.length with
              | true =>
                have dq1 : ((i : Int) == (q : Int)) = false := by first | (rw [beq_iff_eq]; omega) | (rw [beq_eq_false_iff_ne]; omega)
                have dq2 : (i == q) = false := by first | (rw [beq_iff_eq]; omega) | (rw [beq_eq_false_iff_ne]; omega)
                have dq3 : decide (i = q) = false := by first | exact decide_eq_true hbq | exact decide_eq_false hbq
                have HA := hide hA
                have Hbq := hide dq2
                clear hA hbq
                go_wp2_with (at_builtin; refine wpList_append_own _ rfl _ _ 25 rfl w3.heap.size 3 i0 (.int .i64 0) 1 8 Try.underlying25 hi0 hz0 hz1 hz2 rfl (by decide) _ (fuL use q i).length (encI (fuL use q i)) rfl (World.ownsRow.alloc hown' _) ⟨wr.heap.size, 0, none⟩ 1 1 [.int .i64 (i : Int)] rfl rfl (cells_new wr [.int .i64 (i : Int)] _) (by simp [Value.oneCell']) (by unfold maxLen; omega) (by omega) (by simp; omega) ?_; intro v4 w4 hown4 hg4 _)
                all_goals
                  have hB4 : Below (w.heap.size + 2) ((w.alloc (.cells #[.int .i64 r, .int .i64 f, .int .i64 lo, .int .i64 tm, .slice pa ps.length pc] 24)).alloc (.cells #[.slice ua use.length uc, .int .i64 ev] 27)) w4 := (hB.alloc (by omega) _).grown hg4 (by simp; omega) (fun r h => by have := hlow r h; omega)
                  have hz4 : w3.heap.size ≤ w4.heap.size := by have := hg4.size; simp at this; omega
                  go_roundw
                  case rel =>
                    have e : fuL use q (i + 1) = fuL use q i ++ [(i : Int)] := by rw [fuL_succ, if_pos (by unfold inU; rw [HA.out, Hbq.out]; rfl)]
                    exact ⟨i + 1, by omega, by go_num, by rw [e]; exact OwnIs.app hown4, by rw [usd, HA.out, Hbq.out]; first | (simp; done) | (simp; assumption) | (simp; simpa using ‹¬ usd use q i = true›), hz4, hB4⟩
                  case measure => simp [intOf]; omega
              | false =>
                have dq1 : ((i : Int) == (q : Int)) = false := by first | (rw [beq_iff_eq]; omega) | (rw [beq_eq_false_iff_ne]; omega)
                have dq2 : (i == q) = false := by first | (rw [beq_iff_eq]; omega) | (rw [beq_eq_false_iff_ne]; omega)
                have dq3 : decide (i = q) = false := by first | exact decide_eq_true hbq | exact decide_eq_false hbq
                have HA := hide hA
                have Hbq := hide dq2
                clear hA hbq
                go_wp2_with fail
                all_goals
                  go_roundw
                  case rel =>
                    have e : fuL use q (i + 1) = fuL use q i := by rw [fuL_succ, if_neg (by unfold inU; rw [HA.out, Hbq.out]; simp)]
                    exact ⟨i + 1, by omega, by go_num, by rw [e]; exact Hown.out, by rw [usd, HA.out, Hbq.out]; first | (simp; done) | (simp; assumption) | (simp; simpa using ‹¬ usd use q i = true›), hzr, hB⟩
                  case measure => simp [intOf]; omega
      · obtain rfl : i = ps.length := by omega
        have hrow := hown.row
        obtain ⟨oa, ocap, rfl, ho1, ho2⟩ := hown.val
        have Hrow := hide hrow
        rw [Hus.out]
        clear hown hrow
        cases hA : anyTo use q use.length with
        | true =>
          have hwe := Hl.out.2 hA
          have HA := hide hA
          have Hwe := hide hwe
          clear hA hwe
          go_wp2_with fail
          refine (wdWidthS_any r f lo tm _ ps _ use ev _ (HP.out _ (HL.out _ hB).1).1 (HP.out _ (HL.out _ hB).1).2).mono ?_
          rintro e w5 ⟨rfl, b5⟩
          rw [HE.out]
          have z5 := b5.size
          have B5 : Below (w.heap.size + 2) ((w.alloc (.cells #[.int .i64 r, .int .i64 f, .int .i64 lo, .int .i64 tm, .slice pa ps.length pc] 24)).alloc (.cells #[.slice ua use.length uc, .int .i64 ev] 27)) w5 := (by ((repeat' (first | with_reducible exact Below.refl _ _ | with_reducible exact b5 | with_reducible exact hB | with_reducible refine Below.alloc ?_ ?_ _ | with_reducible refine Below.setCell ?_ ?_ _ | with_reducible refine Below.drew ?_ | with_reducible refine below_drewN ?_ _ | with_reducible refine Below.trans ?_ (b5.mono ?_) | with_reducible refine Below.trans ?_ (hB.mono ?_))) <;> (first | omega | (simp; done) | (simp; omega))))
          have Hrow5 := hide (Hrow.out.below (Nat.le_refl _) b5)
          clear y0 y1 y2 y3 y4 x0 x1 b5
          obtain ⟨y0, y1, y2, y3, y4, x0, x1⟩ := HS.out w5 B5
          have zz5 := (HL.out _ B5).2
          go_wp2_with fail
          refine (wdWidthS_any r f lo tm _ ps _ (fuL use q ps.length) ev _ (HP.out _ (HL.out _ B5).1).1 Hrow5.out).mono ?_
          rintro e w6 ⟨rfl, b6⟩
          rw [HE2.out, Hwe.out]
          have B6 : Below (w.heap.size + 2) ((w.alloc (.cells #[.int .i64 r, .int .i64 f, .int .i64 lo, .int .i64 tm, .slice pa ps.length pc] 24)).alloc (.cells #[.slice ua use.length uc, .int .i64 ev] 27)) w6 := (by ((repeat' (first | with_reducible exact Below.refl _ _ | with_reducible exact b6 | with_reducible exact B5 | with_reducible refine Below.alloc ?_ ?_ _ | with_reducible refine Below.setCell ?_ ?_ _ | with_reducible refine Below.drew ?_ | with_reducible refine below_drewN ?_ _ | with_reducible refine Below.trans ?_ (b6.mono ?_) | with_reducible refine Below.trans ?_ (B5.mono ?_))) <;> (first | omega | (simp; done) | (simp; omega))))
          go_wp2_with fail
          go_ret
          exact ⟨ret_bool (by simp), (HL.out _ B6).1⟩
        | false =>
          have hwe := Hl.out.1
          have HA := hide hA
          have dle : decide (wdt ⟨r, f, lo, tm, ps⟩ (fuL use q ps.length) ev ≤ wdt ⟨r, f, lo, tm, ps⟩ use ev) = true := decide_eq_true hwe
          clear hA hwe
          go_wp2_with fail
          refine (wdWidthS_any r f lo tm _ ps _ use ev _ (HP.out _ (HL.out _ hB).1).1 (HP.out _ (HL.out _ hB).1).2).mono ?_
          rintro e w5 ⟨rfl, b5⟩
          rw [HE.out]
          have z5 := b5.size
          have B5 : Below (w.heap.size + 2) ((w.alloc (.cells #[.int .i64 r, .int .i64 f, .int .i64 lo, .int .i64 tm, .slice pa ps.length pc] 24)).alloc (.cells #[.slice ua use.length uc, .int .i64 ev] 27)) w5 := (by ((repeat' (first | with_reducible exact Below.refl _ _ | with_reducible exact b5 | with_reducible exact hB | with_reducible refine Below.alloc ?_ ?_ _ | with_reducible refine Below.setCell ?_ ?_ _ | with_reducible refine Below.drew ?_ | with_reducible refine below_drewN ?_ _ | with_reducible refine Below.trans ?_ (b5.mono ?_) | with_reducible refine Below.trans ?_ (hB.mono ?_))) <;> (first | omega | (simp; done) | (simp; omega))))
          have Hrow5 := hide (Hrow.out.below (Nat.le_refl _) b5)
          clear y0 y1 y2 y3 y4 x0 x1 b5
          obtain ⟨y0, y1, y2, y3, y4, x0, x1⟩ := HS.out w5 B5
          have zz5 := (HL.out _ B5).2
          go_wp2_with fail
          refine (wdWidthS_any r f lo tm _ ps _ (fuL use q ps.length) ev _ (HP.out _ (HL.out _ B5).1).1 Hrow5.out).mono ?_
          rintro e w6 ⟨rfl, b6⟩
          rw [HE2.out]
          have B6 : Below (w.heap.size + 2) ((w.alloc (.cells #[.int .i64 r, .int .i64 f, .int .i64 lo, .int .i64 tm, .slice pa ps.length pc] 24)).alloc (.cells #[.slice ua use.length uc, .int .i64 ev] 27)) w6 := (by ((repeat' (first | with_reducible exact Below.refl _ _ | with_reducible exact b6 | with_reducible exact B5 | with_reducible refine Below.alloc ?_ ?_ _ | with_reducible refine Below.setCell ?_ ?_ _ | with_reducible refine Below.drew ?_ | with_reducible refine below_drewN ?_ _ | with_reducible refine Below.trans ?_ (b6.mono ?_) | with_reducible refine Below.trans ?_ (B5.mono ?_))) <;> (first | omega | (simp; done) | (simp; omega))))
          go_wp2_with fail
          go_ret
          exact ⟨by first | rfl | exact ret_bool dle | exact ret_bool (by simp), (HL.out _ B6).1⟩
set_option maxRecDepth 100000 in
theorem widthFurther_holds : Rows.WidthFurtherSaid :=
  OpenClaim.holds_of_wide 6 Try.f6 rfl rfl rfl rfl rfl rfl rfl ⟨rfl, rfl, rfl, rfl, rfl⟩ rfl rfl rfl rfl rfl (by kernel_rfl) Try.func6 (by kernel_rfl)
    (of_decide_eq_true (by kernel_rfl)) (by unfold Func.isWrapper; rw [if_neg (of_decide_eq_false (by kernel_rfl))]; exact ⟨rfl, rfl⟩)
    (fun os started H enc _ => law_lifted started 6 Try.f6 Try.func6 (by kernel_rfl) Rows.widthFurtherSpec rfl rfl
      (fun ds h => by match ds, h with | [_, _, _], _ => exact ⟨rfl, rfl, rfl⟩)
      (fun t h => by
        rw [Try.params6] at h
        simp only [List.mem_cons, List.not_mem_nil, or_false] at h
        rcases h with rfl | rfl | rfl <;> exact ⟨by kernel_rfl, of_decide_eq_true (by kernel_rfl)⟩)
      (ChangeSpec.witness6 (enc := enc) (C := Try.checked) false ⟨#[], #[.agg #[.int .i64 0, .int .i64 0, .int .i64 0, .int .i64 0, .slice none 0 0], .agg #[.slice none 0 0, .int .i64 0], .int .u8 0], []⟩ 8 (by kernel_rfl) (by kernel_rfl) (by kernel_rfl) (by kernel_rfl))
      (fun W base args ds p hA hok => by
        rw [Try.params6] at hA hok
        obtain ⟨v0, vs0, d0, ds0, p0, q0, hargs, rfl, rfl, h0, r0⟩ := ChangeShapes.trodAll_cons hA
        obtain ⟨v1, vs1, d1, ds1, p1, q1, rfl, rfl, rfl, h1, r1⟩ := ChangeShapes.trodAll_cons r0
        obtain ⟨v2, vs2, d2, ds2, p2, q2, rfl, rfl, rfl, h2, r2⟩ := ChangeShapes.trodAll_cons r1
        obtain ⟨rfl, rfl, rfl⟩ := ChangeShapes.trodAll_nil r2
        obtain rfl : args = #[v0, v1, v2] := by rw [← Array.toArray_toList (xs := args), hargs]
        obtain ⟨l0, hl0⟩ := open_site (hok 0 _ v0 rfl rfl) h0
        obtain ⟨l1, hl1⟩ := open_sched (hok 1 _ v1 rfl rfl) h1
        obtain ⟨x2, rfl, hx2⟩ := open_u8 Try.underlying5 (hok 2 _ v2 rfl rfl) h2
        exact WdFurther_any W v0 l0 hl0 v1 l1 hl1 x2 hx2))
end Go.Proofs.Ytbgfgpjgehkdjaa
