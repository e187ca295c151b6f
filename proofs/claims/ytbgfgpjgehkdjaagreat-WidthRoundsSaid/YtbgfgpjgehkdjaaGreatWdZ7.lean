/- WidthRounds: for every site, schedule, numbers, lies and times the statement answers true and leaves its arguments as they were. No condition. -/
import Derived.Test.YtbgfgpjgehkdjaaGreatWdM
import Derived.Test.YtbgfgpjgehkdjaaGreatWdU
import Derived.Test.YtbgfgpjgehkdjaaGreatFg
import Derived.Deep.DeepCutAuto
namespace Go.Proofs.YtbgfgpjgehkdjaaGreat
open Go.RowKit
attribute [local go_sem ↓] run_max_mx run_min_mn

/-- Bit i of x, as the program asks for it. -/
def btB (x : Int) (i : Nat) : Bool := decide (bits BinOp.and IntKind.u16 (x / 2 ^ min i 16) 1 = 1)
set_option maxRecDepth 100000 in
set_option maxHeartbeats 16000000 in
theorem WdRounds_any (w : World) (v : Value) (s : SiA) (hs : SiOk w v s) (u : Value) (c : ScA) (hc : ScOk w u c) (xv : Value) (xs : List A3) (hx : A3sOk w xv xs) (lv : Value) (lies : List Iv) (hl : IvRow w lv lies)
    (bn : Int) (_hbn : 0 ≤ bn ∧ bn ≤ 65535) (gn : Int) (_hgn : 0 ≤ gn ∧ gn ≤ 65535) (wn : Int) (hwn : 0 ≤ wn ∧ wn ≤ 18446744073709551615) (en : Int) (hen : 0 ≤ en ∧ en ≤ 18446744073709551615) :
    Calls Tryz.prog 3 #[v, u, xv, lv, .int .u16 bn, .int .u16 gn, .int .u64 wn, .int .u64 en] w fun e w' => e = .returned (.bool true) ∧ Below w.heap.size w w' := by
  obtain ⟨r, f, lo, tm, pv, ps⟩ := s
  obtain ⟨uv, use, ev⟩ := c
  obtain ⟨rfl, hp, -, -⟩ := hs
  obtain ⟨rfl, hu, -, -⟩ := hc
  obtain ⟨hx, hxw⟩ := hx
  simp only at hp hu ⊢
  have hP0 : ∀ W : World, Below w.heap.size w W → PrRow W pv ps ∧ IsRow W uv use := fun W hW => ⟨hp.below (Nat.le_refl _) hW, hu.below (Nat.le_refl _) hW⟩
  have HP0 := hide hP0
  have hS0 : ∀ W : World, Below (w.heap.size + 2) ((w.alloc (.cells #[.int .i64 r, .int .i64 f, .int .i64 lo, .int .i64 tm, pv] 24)).alloc (.cells #[uv, .int .i64 ev] 27)) W → W.cell? ⟨w.heap.size, 0, none⟩ = some (.int .i64 r) ∧ W.cell? ⟨w.heap.size, 1, none⟩ = some (.int .i64 f) ∧ W.cell? ⟨w.heap.size, 2, none⟩ = some (.int .i64 lo) ∧ W.cell? ⟨w.heap.size, 3, none⟩ = some (.int .i64 tm) ∧ W.cell? ⟨w.heap.size, 4, none⟩ = some pv ∧ W.cell? ⟨w.heap.size + 1, 0, none⟩ = some uv ∧ W.cell? ⟨w.heap.size + 1, 1, none⟩ = some (.int .i64 ev) := by
    intro W hW
    have hc := (bk hW w.heap.size (by omega)).1
    have hd := (bk hW (w.heap.size + 1) (by omega)).1
    exact ⟨(hc 0).trans (by simp), (hc 1).trans (by simp), (hc 2).trans (by simp), (hc 3).trans (by simp), (hc 4).trans (by simp), (hd 0).trans (by simp), (hd 1).trans (by simp)⟩
  have HS := hide hS0
  have hL0 : ∀ W : World, Below (w.heap.size + 2) ((w.alloc (.cells #[.int .i64 r, .int .i64 f, .int .i64 lo, .int .i64 tm, pv] 24)).alloc (.cells #[uv, .int .i64 ev] 27)) W → Below w.heap.size w W ∧ w.heap.size + 2 ≤ W.heap.size := fun W hW => ⟨(((Below.refl _ _).alloc (Nat.le_refl _) _).alloc (by simp) _).trans (hW.mono (by omega)), by have := hW.size; simpa using this⟩
  have HL := hide hL0
  clear hS0 hL0 hP0
  obtain ⟨pa, pc, hpv, q1, q2, q3⟩ := id hp
  obtain ⟨ua, uc, huv, u1, u2, u3⟩ := id hu
  obtain ⟨xa, xc, hxv, x1, x2, x3⟩ := id hx
  obtain ⟨la, lc, hlv, l1, l2, l3⟩ := id hl

  by_cases hf : ps.length ≤ 20 ∧ use.length ≤ 20
  case neg =>
    subst hpv huv hxv hlv
    clear q3 u3 x3 l3
    go_enter Tryz.func3, Tryz.ntmps3
    go_wp2_with fail
    refine (head_any _).mono ?_
    rintro e w1 ⟨rfl, b1⟩
    have B1 : Below (w.heap.size + 2) ((w.alloc (.cells #[.int .i64 r, .int .i64 f, .int .i64 lo, .int .i64 tm, .slice pa ps.length pc] 24)).alloc (.cells #[.slice ua use.length uc, .int .i64 ev] 27)) w1 := b1.mono (by simp)
    clear b1
    have z1 := (HL.out _ B1).2
    obtain ⟨y0, y1, y2, y3, y4, v0, v1⟩ := HS.out w1 B1
    go_wp2_with fail
    refine (R29Few_any r f lo tm _ ps _ use ev _ (HP0.out _ (HL.out _ B1).1).1 (HP0.out _ (HL.out _ B1).1).2).mono ?_
    rintro e w2 ⟨rfl, b2⟩
    rw [decide_eq_false hf]
    have B2 := (HL.out _ B1).1
    go_wp2_with fail
    go_ret
    exact ⟨rfl, (by ((repeat' (first | with_reducible exact Below.refl _ _ | with_reducible exact b2 | with_reducible exact B2 | with_reducible refine Below.alloc ?_ ?_ _ | with_reducible refine Below.setCell ?_ ?_ _ | with_reducible refine Below.drew ?_ | with_reducible refine below_drewN ?_ _ | with_reducible refine Below.trans ?_ (b2.mono ?_) | with_reducible refine Below.trans ?_ (B2.mono ?_))) <;> (first | omega | (simp; done) | (simp; omega))))⟩
  have hun : use.length ≤ 1000000 := by omega
  cases hR : rgB ⟨r, f, lo, tm, ps⟩ use ev with
  | false =>
    subst hpv huv hxv hlv
    clear q3 u3 x3 l3
    go_enter Tryz.func3, Tryz.ntmps3
    go_wp2_with fail
    refine (head_any _).mono ?_
    rintro e w1 ⟨rfl, b1⟩
    have B1 : Below (w.heap.size + 2) ((w.alloc (.cells #[.int .i64 r, .int .i64 f, .int .i64 lo, .int .i64 tm, .slice pa ps.length pc] 24)).alloc (.cells #[.slice ua use.length uc, .int .i64 ev] 27)) w1 := b1.mono (by simp)
    clear b1
    have z1 := (HL.out _ B1).2
    obtain ⟨y0, y1, y2, y3, y4, v0, v1⟩ := HS.out w1 B1
    go_wp2_with fail
    refine (R29Few_any r f lo tm _ ps _ use ev _ (HP0.out _ (HL.out _ B1).1).1 (HP0.out _ (HL.out _ B1).1).2).mono ?_
    rintro e w2 ⟨rfl, b2⟩
    rw [decide_eq_true hf]
    have B2 : Below (w.heap.size + 2) ((w.alloc (.cells #[.int .i64 r, .int .i64 f, .int .i64 lo, .int .i64 tm, .slice pa ps.length pc] 24)).alloc (.cells #[.slice ua use.length uc, .int .i64 ev] 27)) w2 := (by ((repeat' (first | with_reducible exact Below.refl _ _ | with_reducible exact b2 | with_reducible exact B1 | with_reducible refine Below.alloc ?_ ?_ _ | with_reducible refine Below.setCell ?_ ?_ _ | with_reducible refine Below.drew ?_ | with_reducible refine below_drewN ?_ _ | with_reducible refine Below.trans ?_ (b2.mono ?_) | with_reducible refine Below.trans ?_ (B1.mono ?_))) <;> (first | omega | (simp; done) | (simp; omega))))
    clear y0 y1 y2 y3 y4 v0 v1 b2 B1 z1
    have z2 := (HL.out _ B2).2
    obtain ⟨y0, y1, y2, y3, y4, v0, v1⟩ := HS.out w2 B2
    go_wp2_with fail
    refine (R29Right_any r f lo tm _ ps _ use ev _ (HP0.out _ (HL.out _ B2).1).1 (HP0.out _ (HL.out _ B2).1).2 hun).mono ?_
    rintro e w3 ⟨rfl, b3⟩
    rw [hR]
    have B3 := (HL.out _ B2).1
    go_wp2_with fail
    go_ret
    exact ⟨rfl, (by ((repeat' (first | with_reducible exact Below.refl _ _ | with_reducible exact b3 | with_reducible exact B3 | with_reducible refine Below.alloc ?_ ?_ _ | with_reducible refine Below.setCell ?_ ?_ _ | with_reducible refine Below.drew ?_ | with_reducible refine below_drewN ?_ _ | with_reducible refine Below.trans ?_ (b3.mono ?_) | with_reducible refine Below.trans ?_ (B3.mono ?_))) <;> (first | omega | (simp; done) | (simp; omega))))⟩
  | true =>
  by_cases hxl : xs.length < use.length ∨ lies.length < use.length
  case pos =>
    subst hpv huv hxv hlv
    clear q3 u3 x3 l3
    go_enter Tryz.func3, Tryz.ntmps3
    go_wp2_with fail
    refine (head_any _).mono ?_
    rintro e w1 ⟨rfl, b1⟩
    have B1 : Below (w.heap.size + 2) ((w.alloc (.cells #[.int .i64 r, .int .i64 f, .int .i64 lo, .int .i64 tm, .slice pa ps.length pc] 24)).alloc (.cells #[.slice ua use.length uc, .int .i64 ev] 27)) w1 := b1.mono (by simp)
    clear b1
    have z1 := (HL.out _ B1).2
    obtain ⟨y0, y1, y2, y3, y4, v0, v1⟩ := HS.out w1 B1
    go_wp2_with fail
    refine (R29Few_any r f lo tm _ ps _ use ev _ (HP0.out _ (HL.out _ B1).1).1 (HP0.out _ (HL.out _ B1).1).2).mono ?_
    rintro e w2 ⟨rfl, b2⟩
    rw [decide_eq_true hf]
    have B2 : Below (w.heap.size + 2) ((w.alloc (.cells #[.int .i64 r, .int .i64 f, .int .i64 lo, .int .i64 tm, .slice pa ps.length pc] 24)).alloc (.cells #[.slice ua use.length uc, .int .i64 ev] 27)) w2 := (by ((repeat' (first | with_reducible exact Below.refl _ _ | with_reducible exact b2 | with_reducible exact B1 | with_reducible refine Below.alloc ?_ ?_ _ | with_reducible refine Below.setCell ?_ ?_ _ | with_reducible refine Below.drew ?_ | with_reducible refine below_drewN ?_ _ | with_reducible refine Below.trans ?_ (b2.mono ?_) | with_reducible refine Below.trans ?_ (B1.mono ?_))) <;> (first | omega | (simp; done) | (simp; omega))))
    clear y0 y1 y2 y3 y4 v0 v1 b2 B1 z1
    have z2 := (HL.out _ B2).2
    obtain ⟨y0, y1, y2, y3, y4, v0, v1⟩ := HS.out w2 B2
    go_wp2_with fail
    refine (R29Right_any r f lo tm _ ps _ use ev _ (HP0.out _ (HL.out _ B2).1).1 (HP0.out _ (HL.out _ B2).1).2 hun).mono ?_
    rintro e w3 ⟨rfl, b3⟩
    rw [hR]
    have B3 : Below (w.heap.size + 2) ((w.alloc (.cells #[.int .i64 r, .int .i64 f, .int .i64 lo, .int .i64 tm, .slice pa ps.length pc] 24)).alloc (.cells #[.slice ua use.length uc, .int .i64 ev] 27)) w3 := (by ((repeat' (first | with_reducible exact Below.refl _ _ | with_reducible exact b3 | with_reducible exact B2 | with_reducible refine Below.alloc ?_ ?_ _ | with_reducible refine Below.setCell ?_ ?_ _ | with_reducible refine Below.drew ?_ | with_reducible refine below_drewN ?_ _ | with_reducible refine Below.trans ?_ (b3.mono ?_) | with_reducible refine Below.trans ?_ (B2.mono ?_))) <;> (first | omega | (simp; done) | (simp; omega))))
    clear y0 y1 y2 y3 y4 v0 v1 b3 B2 z2
    obtain ⟨y0, y1, y2, y3, y4, v0, v1⟩ := HS.out w3 B3
    have B4 := (HL.out _ B3).1
    by_cases hx1 : xs.length < use.length
    · have d1 : decide ((xs.length : Int) < (use.length : Int)) = true := decide_eq_true (by omega)
      go_wp2_with fail
      go_ret
      exact ⟨rfl, B4⟩
    · have hx2 : lies.length < use.length := by omega
      have d1 : decide ((xs.length : Int) < (use.length : Int)) = false := decide_eq_false (by omega)
      have d2 : decide ((lies.length : Int) < (use.length : Int)) = true := decide_eq_true (by omega)
      go_wp2_with fail
      go_ret
      exact ⟨rfl, B4⟩

  have hrg := (rgB_iff _ _ _).1 hR
  have hsi := (siN_iff _).1 ((siB_iff _).1 hrg.1).1
  have hin := hrg.2.2.1
  have hul : 1 ≤ use.length := by have := hrg.2.2.2.2; simp only at this hsi; omega
  have hprs := ((siB_iff _).1 hrg.1).2.1
  simp only at hsi hin hprs
  have hn16 : ps.length ≤ 16 := hsi.2.2.2.2
  have hn1 : 1 ≤ ps.length := by have := hin 0 (by omega); omega
  have hev := hrg.2.1
  simp only at hev
  obtain ⟨pb, po, pc', e1, -, -, hpl, hpat⟩ := hp.at0 hn1
  rw [hpv] at e1
  simp only [Value.slice.injEq] at e1
  obtain ⟨rfl, -, rfl⟩ := e1
  obtain ⟨ub, uo, rfl, hubl, -⟩ := u3 0 hul
  obtain ⟨xb, xo, rfl, hxbl, -⟩ := x3 0 (by omega)
  obtain ⟨lb, loff, rfl, hlbl, -⟩ := l3 0 (by omega)
  have hU : ∀ i, i < use.length → w.cell? ⟨ub, uo + i, none⟩ = some (.int .i64 (iAt use i)) := fun i hi => by
    obtain ⟨_, _, e, _, h⟩ := u3 i hi
    simp only [Option.some.injEq, Addr.mk.injEq, and_true] at e
    obtain ⟨rfl, rfl⟩ := e
    exact h
  have hX : ∀ i, i < use.length → A3At w xb (xo + i * 3) (aAt xs i) := fun i hi => by
    obtain ⟨_, _, e, _, h⟩ := x3 i (by omega)
    simp only [Option.some.injEq, Addr.mk.injEq, and_true] at e
    obtain ⟨rfl, rfl⟩ := e
    exact h
  have hY : ∀ i, i < use.length → w.cell? ⟨lb, loff + i * 2, none⟩ = some (.int .i64 (iLo lies i)) ∧ w.cell? ⟨lb, loff + i * 2 + 1, none⟩ = some (.int .i64 (iHi lies i)) := fun i hi => by
    obtain ⟨_, _, e, _, h⟩ := l3 i (by omega)
    simp only [Option.some.injEq, Addr.mk.injEq, and_true] at e
    obtain ⟨rfl, rfl⟩ := e
    exact h
  subst hpv huv hxv hlv
  obtain ⟨t, ht⟩ : ∃ t : Int, t = wn % 1500000000000000 := ⟨_, rfl⟩
  have ht0 : 0 ≤ t ∧ t < 1500000000000000 := by omega
  have ft : wn % 1500000000000000 = t := ht.symm
  have hw0 : 0 ≤ wn := hwn.1
  have hlaw := rd_law hR xs lies (btB gn) (btB bn) t ht0
  have hlaw2 : ∀ i, i < use.length → (0 ≤ iAt use i ∧ iAt use i < ps.length) ∧ prB r tm (pU ps use i) = true ∧ A3Wf (aAt xs i) ∧ ∀ W : World, Below w.heap.size w W → W.cell? ⟨ub, uo + i, none⟩ = some (.int .i64 (iAt use i)) ∧ A3At W xb (xo + i * 3) (aAt xs i) ∧ (W.cell? ⟨lb, loff + i * 2, none⟩ = some (.int .i64 (iLo lies i)) ∧ W.cell? ⟨lb, loff + i * 2 + 1, none⟩ = some (.int .i64 (iHi lies i))) ∧ PrAt W pb (po + (iAt use i).toNat * 8) (pU ps use i) := fun i hi => by
    have h1 := hin i hi
    refine ⟨h1, hprs _ (by omega), hxw i (by omega), fun W hW => ⟨(hW.cell hubl).trans (hU i hi), (hX i hi).below hW hxbl, ⟨(hW.cell hlbl).trans (hY i hi).1, (hW.cell hlbl).trans (hY i hi).2⟩, (hpat _ (by omega)).below hW hpl⟩⟩
  have HQ := hide hlaw2
  have HW := hide hlaw
  have HR := hide hR
  have Hf := hide hf
  have hwd := wdWidthS_any r f lo tm (.slice (some ⟨pb, po, none⟩) ps.length pc) ps (.slice (some ⟨ub, uo, none⟩) use.length uc) use ev
  have Hwd := hide hwd
  have d1 : decide ((xs.length : Int) < (use.length : Int)) = false := decide_eq_false (by omega)
  have d2 : decide ((lies.length : Int) < (use.length : Int)) = false := decide_eq_false (by omega)
  have d1n : decide (xs.length < use.length) = false := decide_eq_false (by omega)
  have d2n : decide (lies.length < use.length) = false := decide_eq_false (by omega)
  have hf0 : 0 ≤ f ∧ f ≤ 5 := by omega
  have hlo0 : 0 ≤ lo ∧ lo ≤ 16 := by omega
  have hr0 : 0 ≤ r ∧ r ≤ 1000000 := by omega
  have htm0 : 1 ≤ tm ∧ tm ≤ 1000000000 := by omega
  have hu20 : use.length ≤ 20 := by omega
  obtain ⟨i0, hi0, hz0, hz1, hz2⟩ := info_parts infoIv
  clear hwd hlaw hlaw2 hR hrg hsi hin hprs hp hu hx hl q3 u3 x3 l3 hxw hpat hU hX hY hwn ht

  go_enter Tryz.func3, Tryz.ntmps3
  go_wp2_with fail
  refine (head_any _).mono ?_
  rintro e w1 ⟨rfl, b1⟩
  have B1 : Below (w.heap.size + 2) ((w.alloc (.cells #[.int .i64 r, .int .i64 f, .int .i64 lo, .int .i64 tm, .slice (some ⟨pb, po, none⟩) ps.length pc] 24)).alloc (.cells #[.slice (some ⟨ub, uo, none⟩) use.length uc, .int .i64 ev] 27)) w1 := b1.mono (by simp)
  clear b1
  have z1 := (HL.out _ B1).2
  obtain ⟨y0, y1, y2, y3, y4, v0, v1⟩ := HS.out w1 B1
  go_wp2_with fail
  refine (R29Few_any r f lo tm _ ps _ use ev _ (HP0.out _ (HL.out _ B1).1).1 (HP0.out _ (HL.out _ B1).1).2).mono ?_
  rintro e w2 ⟨rfl, b2⟩
  rw [decide_eq_true Hf.out]
  have B2 : Below (w.heap.size + 2) ((w.alloc (.cells #[.int .i64 r, .int .i64 f, .int .i64 lo, .int .i64 tm, .slice (some ⟨pb, po, none⟩) ps.length pc] 24)).alloc (.cells #[.slice (some ⟨ub, uo, none⟩) use.length uc, .int .i64 ev] 27)) w2 := (by ((repeat' (first | with_reducible exact Below.refl _ _ | with_reducible exact b2 | with_reducible exact B1 | with_reducible refine Below.alloc ?_ ?_ _ | with_reducible refine Below.setCell ?_ ?_ _ | with_reducible refine Below.drew ?_ | with_reducible refine below_drewN ?_ _ | with_reducible refine Below.trans ?_ (b2.mono ?_) | with_reducible refine Below.trans ?_ (B1.mono ?_))) <;> (first | omega | (simp; done) | (simp; omega))))
  clear y0 y1 y2 y3 y4 v0 v1 b2 B1 z1
  have z2 := (HL.out _ B2).2
  obtain ⟨y0, y1, y2, y3, y4, v0, v1⟩ := HS.out w2 B2
  go_wp2_with fail
  refine (R29Right_any r f lo tm _ ps _ use ev _ (HP0.out _ (HL.out _ B2).1).1 (HP0.out _ (HL.out _ B2).1).2 hun).mono ?_
  rintro e w3 ⟨rfl, b3⟩
  rw [HR.out]
  have B3 : Below (w.heap.size + 2) ((w.alloc (.cells #[.int .i64 r, .int .i64 f, .int .i64 lo, .int .i64 tm, .slice (some ⟨pb, po, none⟩) ps.length pc] 24)).alloc (.cells #[.slice (some ⟨ub, uo, none⟩) use.length uc, .int .i64 ev] 27)) w3 := (by ((repeat' (first | with_reducible exact Below.refl _ _ | with_reducible exact b3 | with_reducible exact B2 | with_reducible refine Below.alloc ?_ ?_ _ | with_reducible refine Below.setCell ?_ ?_ _ | with_reducible refine Below.drew ?_ | with_reducible refine below_drewN ?_ _ | with_reducible refine Below.trans ?_ (b3.mono ?_) | with_reducible refine Below.trans ?_ (B2.mono ?_))) <;> (first | omega | (simp; done) | (simp; omega))))
  clear y0 y1 y2 y3 y4 v0 v1 b3 B2 z2
  have z3 := (HL.out _ B3).2
  obtain ⟨y0, y1, y2, y3, y4, v0, v1⟩ := HS.out w3 B3
  go_wp2_with fail
  (try rw [ft])
  clear ft
  go_loopw [19, 20, 21, 22] (fun s19 s20 s21 s22 wx => ∃ i : Nat, i ≤ use.length ∧ s22 = .int .i64 i ∧ OwnIv wx w3.heap.size s19 (rdS ps use xs lies (btB gn) (btB bn) f lo t i).list ∧ s20 = .int .i64 (rdS ps use xs lies (btB gn) (btB bn) f lo t i).wrong ∧ s21 = .int .i64 (rdS ps use xs lies (btB gn) (btB bn) f lo t i).gone ∧ w3.heap.size ≤ wx.heap.size ∧ Below (w.heap.size + 2) ((w.alloc (.cells #[.int .i64 r, .int .i64 f, .int .i64 lo, .int .i64 tm, .slice (some ⟨pb, po, none⟩) ps.length pc] 24)).alloc (.cells #[.slice (some ⟨ub, uo, none⟩) use.length uc, .int .i64 ev] 27)) wx) (fun _ _ _ s22 _ => use.length - (intOf s22).toNat)
  case atStart => exact ⟨0, Nat.zero_le _, rfl, OwnP.nil _ _, rfl, rfl, Nat.le_refl _, B3⟩

  case round =>
    clear y0 y1 y2 y3 y4 v0 v1
    obtain ⟨i, hi, rfl, hown, rfl, rfl, hzr, hB⟩ := hrel
    obtain ⟨y0, y1, y2, y3, y4, v0, v1⟩ := HS.out wr hB
    have zr := (HL.out _ hB).2
    have Br := (HL.out _ hB).1
    obtain ⟨oa, ocap, hov, ho1, ho2⟩ := hown.val
    subst hov
    have hlow := World.ownsRow.lt hown
    have hown' := hown
    unfold OwnP at hown'
    have Hown := hide hown
    clear hown
    by_cases hlt : i < use.length
    · obtain ⟨h1, h2, h3, h4⟩ := HQ.out i hlt
      have hbd := rdS_bd ps use xs lies (btB gn) (btB bn) f lo t i
      have hln := rdS_len ps use xs lies (btB gn) (btB bn) f lo t i
      have hst := rdS.eq_2 ps use xs lies (btB gn) (btB bn) f lo t i
      rw [show i.succ = i + 1 from rfl] at hst
      generalize rdS ps use xs lies (btB gn) (btB bn) f lo t i = st at *
      obtain ⟨sl, sg, sw⟩ := st
      simp only at hbd hln hown' hst ho1 ⊢
      cases hG : (btB gn i && decide (sg < lo)) with
      | true =>
        rw [hG, if_pos rfl] at hst
        have hG' := hG
        simp only [Bool.and_eq_true, decide_eq_true_eq, btB] at hG'
        obtain ⟨hg1, hg2⟩ := hG'
        have Hst := hide hst
        clear hst hG HQ h4 HS HL HW HP0 Hwd HR Hf hown' hlow
        go_wp2_with fail
        go_roundw
        case rel => exact ⟨i + 1, by omega, by go_num, by rw [Hst.out]; exact Hown.out, by rw [Hst.out], by rw [Hst.out], hzr, hB⟩
        case measure => simp [intOf]; omega
      | false =>
        have hg : ¬ (bits BinOp.and IntKind.u16 (gn / 2 ^ min i 16) 1 = 1) ∨ ((bits BinOp.and IntKind.u16 (gn / 2 ^ min i 16) 1 = 1) ∧ ¬ sg < lo) := by
          by_cases hb : bits BinOp.and IntKind.u16 (gn / 2 ^ min i 16) 1 = 1
          · refine .inr ⟨hb, fun hc => ?_⟩
            rw [show btB gn i = true from decide_eq_true hb, decide_eq_true hc] at hG
            cases hG
          · exact .inl hb
        rw [hG, if_neg (by simp)] at hst
        go_upto_region 10 with fail
        go_cut [82] from 65 to 135 (fun s82 wx => s82 = .bool false ∧ wr = wx)
        case first =>
          clear HQ h4 hst hG hown' HS HL
          rcases hg with hg | ⟨hg, hg'⟩
          all_goals
            go_wp2_with fail
            go_meet
            exact ⟨rfl, rfl⟩
        case rest =>
        obtain ⟨rfl, hcut⟩ := hcut
        subst hcut
        clear hg
        cases hV : ((btB bn i && decide (sw < f)) && validB (iLo lies i) (iHi lies i)) with
        | true =>
          rw [hV, if_pos rfl] at hst
          have hV' := hV
          simp only [Bool.and_eq_true, decide_eq_true_eq, btB] at hV'
          obtain ⟨⟨hb1, hb2⟩, hv⟩ := hV'
          have Hst := hide hst
          have Hv := hide hv
          obtain ⟨-, -, ⟨j0, j1⟩, -⟩ := h4 wr Br
          have I1 : (0 : Int) ≤ (i : Int) := by omega
          have I2 : (i : Int) < (lies.length : Int) := by omega
          clear hst hG hV hv HQ
          go_upto_region 12 with fail
          go_cut [102] from 65 to 135 (fun s102 wx => s102 = .bool true ∧ Below wr.heap.size wr wx)
          case first =>
            clear HS HL Hst h4 hown'
            go_wp2_with (go_at_call 7; (with_reducible refine (RValid_any _ _ _).mono ?_); rintro e w' ⟨rfl, rfl⟩; rw [Hv.out])
            go_meet
            exact ⟨rfl, (by ((repeat' (first | with_reducible exact Below.refl _ _ | with_reducible refine Below.alloc ?_ ?_ _ | with_reducible refine Below.setCell ?_ ?_ _ | with_reducible refine Below.drew ?_ | with_reducible refine below_drewN ?_ _)) <;> (first | omega | (simp; done) | (simp; omega))))⟩
          case rest =>
          obtain ⟨rfl, Bc⟩ := hcut
          clear y0 y1 y2 y3 y4 v0 v1 j0 j1 hb1
          have BB : Below (w.heap.size + 2) ((w.alloc (.cells #[.int .i64 r, .int .i64 f, .int .i64 lo, .int .i64 tm, .slice (some ⟨pb, po, none⟩) ps.length pc] 24)).alloc (.cells #[.slice (some ⟨ub, uo, none⟩) use.length uc, .int .i64 ev] 27)) wc := (by ((repeat' (first | with_reducible exact Below.refl _ _ | with_reducible exact Bc | with_reducible exact hB | with_reducible refine Below.alloc ?_ ?_ _ | with_reducible refine Below.setCell ?_ ?_ _ | with_reducible refine Below.drew ?_ | with_reducible refine below_drewN ?_ _ | with_reducible refine Below.trans ?_ (Bc.mono ?_) | with_reducible refine Below.trans ?_ (hB.mono ?_))) <;> (first | omega | (simp; done) | (simp; omega))))
          have zc := Bc.size
          have hownc := Hown.out.below (Nat.le_refl _) Bc
          unfold OwnP at hownc
          obtain ⟨y0, y1, y2, y3, y4, v0, v1⟩ := HS.out wc BB
          obtain ⟨-, -, ⟨j0, j1⟩, -⟩ := h4 wc (HL.out _ BB).1
          clear h4 Bc
          go_wp2_with (at_builtin; refine wpList_append_own _ rfl _ _ 29 rfl w3.heap.size 36 i0 (.agg #[.int .i64 0, .int .i64 0]) 2 16 Tryz.underlying29 hi0 hz0 hz1 hz2 rfl (by decide) _ sl.length (encL sl) rfl (World.ownsRow.alloc hownc _) ⟨wc.heap.size, 0, none⟩ 1 1 [.int .i64 (iLo lies i), .int .i64 (iHi lies i)] rfl rfl (cells_new wc [.int .i64 (iLo lies i), .int .i64 (iHi lies i)] _) (by simp [Value.oneCell']) (by unfold maxLen; omega) (by omega) (by simp; omega) ?_; intro v4 w4 hown4 hg4 _)
          all_goals
            have hB4 : Below (w.heap.size + 2) ((w.alloc (.cells #[.int .i64 r, .int .i64 f, .int .i64 lo, .int .i64 tm, .slice (some ⟨pb, po, none⟩) ps.length pc] 24)).alloc (.cells #[.slice (some ⟨ub, uo, none⟩) use.length uc, .int .i64 ev] 27)) w4 := (BB.alloc (by omega) _).grown hg4 (by simp; omega) (fun r h => by have := hlow r h; omega)
            have hz4 : w3.heap.size ≤ w4.heap.size := by have := hg4.size; simp at this; omega
            go_roundw
            case rel => exact ⟨i + 1, by omega, by go_num, by rw [Hst.out]; exact OwnP.app hown4, by rw [Hst.out], by rw [Hst.out], hz4, hB4⟩
            case measure => simp [intOf]; omega
        | false =>
          rw [hV, if_neg (by simp)] at hst
          have hb : ¬ (bits BinOp.and IntKind.u16 (bn / 2 ^ min i 16) 1 = 1) ∨ ((bits BinOp.and IntKind.u16 (bn / 2 ^ min i 16) 1 = 1) ∧ ¬ sw < f) ∨ ((bits BinOp.and IntKind.u16 (bn / 2 ^ min i 16) 1 = 1) ∧ sw < f ∧ validB (iLo lies i) (iHi lies i) = false) := by
            by_cases hb : bits BinOp.and IntKind.u16 (bn / 2 ^ min i 16) 1 = 1
            · by_cases hc : sw < f
              · refine .inr (.inr ⟨hb, hc, ?_⟩)
                rw [show btB bn i = true from decide_eq_true hb, decide_eq_true hc] at hV
                simpa using hV
              · exact .inr (.inl ⟨hb, hc⟩)
            · exact .inl hb
          obtain ⟨q, hqe⟩ : ∃ q : Nat, iAt use i = q := ⟨(iAt use i).toNat, by omega⟩
          have hH := heard_any (pU ps use i) r tm h2 t (aAt xs i).a (aAt xs i).b (aAt xs i).c (by omega) h3.1 h3.2.1 h3.2.2
          have hhd : hdI ps use xs t i = (hdLo (pU ps use i) t (aAt xs i).a (aAt xs i).b, hdHi (pU ps use i) t (aAt xs i).a (aAt xs i).b (aAt xs i).c) := rfl
          rw [hhd] at hst
          rw [hqe] at h4 h1
          rw [Int.toNat_natCast] at h4
          generalize hdLo (pU ps use i) t (aAt xs i).a (aAt xs i).b = L at *
          generalize hdHi (pU ps use i) t (aAt xs i).a (aAt xs i).b (aAt xs i).c = G at *
          generalize pU ps use i = p at *
          generalize aAt xs i = x at *
          obtain ⟨x0, x1, x2⟩ := x
          obtain ⟨-, -, ⟨j0, j1⟩, -⟩ := h4 wr Br
          have Hst := hide hst
          have HH := hide hH
          have I1 : (0 : Int) ≤ (i : Int) := by omega
          have I2 : (i : Int) < (lies.length : Int) := by omega
          have I3 : (i : Int) < (xs.length : Int) := by omega
          have I4 : (i : Int) < (use.length : Int) := by omega
          have I5 : (0 : Int) ≤ (q : Int) := by omega
          have I6 : (q : Int) < (ps.length : Int) := by omega
          have zub := Nat.lt_of_lt_of_le hubl Br.size
          have zxb := Nat.lt_of_lt_of_le hxbl Br.size
          have zpl := Nat.lt_of_lt_of_le hpl Br.size
          have z2a : w.heap.size < wr.heap.size := by omega
          have z2b : w.heap.size + 1 < wr.heap.size := by omega
          clear hst hG hV HQ hH hhd h1 h2 h3 hqe
          go_upto_region 12 with fail
          go_cut [102] from 65 to 135 (fun s102 wx => s102 = .bool false ∧ Below wr.heap.size wr wx)
          case first =>
            clear HS HL HH Hst h4 hown'
            rcases hb with hb | ⟨hb, hb'⟩ | ⟨hb, hb', hv⟩
            all_goals
              go_wp2_with (go_at_call 7; (with_reducible refine (RValid_any _ _ _).mono ?_); rintro e w' ⟨rfl, rfl⟩; (try rw [hv]))
              go_meet
              exact ⟨rfl, (by ((repeat' (first | with_reducible exact Below.refl _ _ | with_reducible refine Below.alloc ?_ ?_ _ | with_reducible refine Below.setCell ?_ ?_ _ | with_reducible refine Below.drew ?_ | with_reducible refine below_drewN ?_ _)) <;> (first | omega | (simp; done) | (simp; omega))))⟩
          case rest =>
          obtain ⟨rfl, Bd⟩ := hcut
          obtain ⟨wd, hwd⟩ : ∃ wd, wd = wc := ⟨_, rfl⟩
          subst hwd
          have hB : Below (w.heap.size + 2) ((w.alloc (.cells #[.int .i64 r, .int .i64 f, .int .i64 lo, .int .i64 tm, .slice (some ⟨pb, po, none⟩) ps.length pc] 24)).alloc (.cells #[.slice (some ⟨ub, uo, none⟩) use.length uc, .int .i64 ev] 27)) wd := (by ((repeat' (first | with_reducible exact Below.refl _ _ | with_reducible exact Bd | with_reducible exact hB | with_reducible refine Below.alloc ?_ ?_ _ | with_reducible refine Below.setCell ?_ ?_ _ | with_reducible refine Below.drew ?_ | with_reducible refine below_drewN ?_ _ | with_reducible refine Below.trans ?_ (Bd.mono ?_) | with_reducible refine Below.trans ?_ (hB.mono ?_))) <;> (first | omega | (simp; done) | (simp; omega))))
          have zd := Bd.size
          have zub := Nat.lt_of_lt_of_le zub Bd.size
          have zxb := Nat.lt_of_lt_of_le zxb Bd.size
          have zpl := Nat.lt_of_lt_of_le zpl Bd.size
          have z2a : w.heap.size < wd.heap.size := by omega
          have z2b : w.heap.size + 1 < wd.heap.size := by omega
          clear hb y0 y1 y2 y3 y4 v0 v1 j0 j1
          obtain ⟨y0, y1, y2, y3, y4, v0, v1⟩ := HS.out wd hB
          obtain ⟨c0, ⟨g0, g1, g2⟩, -, ⟨p0, p1, p2, p3, p4, p5, p6, p7⟩⟩ := h4 wd (HL.out _ hB).1
          simp only at g0 g1 g2
          have Hownd := Hown.out.below (Nat.le_refl _) Bd
          clear h4
          go_upto_region 15 with fail
          go_cut [23, 24] from 65 to 135 (fun s23 s24 wx => ∃ g : Nat, s23 = .pointer (some ⟨g, 0, none⟩) ∧ s24 = .bool true ∧ wd.heap.size ≤ g ∧ g < wx.heap.size ∧ wx.cell? ⟨g, 0, none⟩ = some (.int .i64 L) ∧ wx.cell? ⟨g, 1, none⟩ = some (.int .i64 G) ∧ Below wd.heap.size wd wx)
          case first =>
            have hA : ∀ W : World, Below wd.heap.size wd W → W.cell? ⟨w.heap.size, 4, none⟩ = some (.slice (some ⟨pb, po, none⟩) ps.length pc) ∧ W.cell? ⟨w.heap.size + 1, 0, none⟩ = some (.slice (some ⟨ub, uo, none⟩) use.length uc) ∧ W.cell? ⟨ub, uo + i, none⟩ = some (.int .i64 (q : Int)) ∧ W.cell? ⟨pb, po + q * 8, none⟩ = some (.int .i64 p.au) ∧ W.cell? ⟨pb, po + q * 8 + 1, none⟩ = some (.int .i64 p.er) ∧ W.cell? ⟨pb, po + q * 8 + 2, none⟩ = some (.int .i64 p.co) ∧ W.cell? ⟨pb, po + q * 8 + 3, none⟩ = some (.int .i64 p.at_) ∧ W.cell? ⟨pb, po + q * 8 + 4, none⟩ = some (.int .i64 p.ol) ∧ W.cell? ⟨pb, po + q * 8 + 5, none⟩ = some (.int .i64 p.oh) ∧ W.cell? ⟨pb, po + q * 8 + 6, none⟩ = some (.int .i64 p.bl) ∧ W.cell? ⟨pb, po + q * 8 + 7, none⟩ = some (.int .i64 p.bh) ∧ W.cell? ⟨xb, xo + i * 3, none⟩ = some (.int .u32 x0) ∧ W.cell? ⟨xb, xo + i * 3 + 1, none⟩ = some (.int .u32 x1) ∧ W.cell? ⟨xb, xo + i * 3 + 2, none⟩ = some (.int .u32 x2) := fun W hW =>
              ⟨(hW.cell z2a).trans y4, (hW.cell z2b).trans v0, (hW.cell zub).trans c0, (hW.cell zpl).trans p0, (hW.cell zpl).trans p1, (hW.cell zpl).trans p2, (hW.cell zpl).trans p3, (hW.cell zpl).trans p4, (hW.cell zpl).trans p5, (hW.cell zpl).trans p6, (hW.cell zpl).trans p7, (hW.cell zxb).trans g0, (hW.cell zxb).trans g1, (hW.cell zxb).trans g2⟩
            have HA := hide hA
            clear hA HS HL Hst Hown Hownd hown' hlow HW Hwd HP0 HR Hf
            go_region_held3 (fun w' => w'.cell? ⟨w.heap.size, 4, none⟩ = some (.slice (some ⟨pb, po, none⟩) ps.length pc) ∧ w'.cell? ⟨w.heap.size + 1, 0, none⟩ = some (.slice (some ⟨ub, uo, none⟩) use.length uc) ∧ w'.cell? ⟨ub, uo + i, none⟩ = some (.int .i64 (q : Int)) ∧ w'.cell? ⟨pb, po + q * 8, none⟩ = some (.int .i64 p.au) ∧ w'.cell? ⟨pb, po + q * 8 + 1, none⟩ = some (.int .i64 p.er) ∧ w'.cell? ⟨pb, po + q * 8 + 2, none⟩ = some (.int .i64 p.co) ∧ w'.cell? ⟨pb, po + q * 8 + 3, none⟩ = some (.int .i64 p.at_) ∧ w'.cell? ⟨pb, po + q * 8 + 4, none⟩ = some (.int .i64 p.ol) ∧ w'.cell? ⟨pb, po + q * 8 + 5, none⟩ = some (.int .i64 p.oh) ∧ w'.cell? ⟨pb, po + q * 8 + 6, none⟩ = some (.int .i64 p.bl) ∧ w'.cell? ⟨pb, po + q * 8 + 7, none⟩ = some (.int .i64 p.bh) ∧ w'.cell? ⟨xb, xo + i * 3, none⟩ = some (.int .u32 x0) ∧ w'.cell? ⟨xb, xo + i * 3 + 1, none⟩ = some (.int .u32 x1) ∧ w'.cell? ⟨xb, xo + i * 3 + 2, none⟩ = some (.int .u32 x2)) (first | (refine HA.out _ ?_; ((repeat' (first | with_reducible exact Below.refl _ _ | with_reducible refine Below.alloc ?_ ?_ _ | with_reducible refine Below.setCell ?_ ?_ _ | with_reducible refine Below.drew ?_ | with_reducible refine below_drewN ?_ _)) <;> (first | omega | (simp; done) | (simp; omega))); done) | (refine HA.out _ ?_; ((repeat' (first | with_reducible exact Below.refl _ _ | with_reducible exact b4 | with_reducible refine Below.alloc ?_ ?_ _ | with_reducible refine Below.setCell ?_ ?_ _ | with_reducible refine Below.drew ?_ | with_reducible refine below_drewN ?_ _ | with_reducible refine Below.trans ?_ (b4.mono ?_))) <;> (first | omega | (simp; done) | (simp; omega))); done))
              (first | (go_at_call 8; (with_reducible refine (HH.out _).mono ?_); rintro e w4 ⟨rfl, b4⟩; have z4 := b4.size; (try simp at z4); have kx := fun h o => (bk b4 wd.heap.size h).1 o; have fx := fun h o => (bk b4 wd.heap.size h).2 o))
            all_goals go_wp2_with fail
            all_goals go_meet
            all_goals refine ⟨_, rfl, rfl, ?_, ?_, ?_, ?_, ?_⟩
            all_goals first | (with_reducible assumption) | omega | (simp; omega) | (simp [*]; done) | (((repeat' (first | with_reducible exact Below.refl _ _ | with_reducible exact b4 | with_reducible refine Below.alloc ?_ ?_ _ | with_reducible refine Below.setCell ?_ ?_ _ | with_reducible refine Below.drew ?_ | with_reducible refine below_drewN ?_ _ | with_reducible refine Below.trans ?_ (b4.mono ?_))) <;> (first | omega | (simp; done) | (simp; omega)))) | (refine World.cell?_setCell_same' _ _ _ ?_; simp [*]; done) | (refine World.cell?_setCell_same' _ _ _ ?_; rw [World.cell?_setCell_other _ _ _ _ (fun e => by simp at e)]; simp [*]; done) | (refine World.cell?_setCell_same' _ _ _ ?_; rw [World.cell?_setCell_other _ _ _ _ (fun e => by simp at e), kx (by simp) 1]; simp; done) | (rw [World.cell?_setCell_other _ _ _ _ (fun e => by simp at e)]; refine World.cell?_setCell_same' _ _ _ ?_; simp [*]; done) | (rw [World.cell?_setCell_other _ _ _ _ (fun e => by simp at e)]; refine World.cell?_setCell_same' _ _ _ ?_; rw [kx (by simp) 0]; simp; done)
          case rest =>
            obtain ⟨g, rfl, rfl, hgl1, hgl2, k0, k1, Bc⟩ := hcut
            clear y0 y1 y2 y3 y4 v0 v1 p0 p1 p2 p3 p4 p5 p6 p7 g0 g1 g2 c0
            have BB : Below (w.heap.size + 2) ((w.alloc (.cells #[.int .i64 r, .int .i64 f, .int .i64 lo, .int .i64 tm, .slice (some ⟨pb, po, none⟩) ps.length pc] 24)).alloc (.cells #[.slice (some ⟨ub, uo, none⟩) use.length uc, .int .i64 ev] 27)) wc := (by ((repeat' (first | with_reducible exact Below.refl _ _ | with_reducible exact Bc | with_reducible exact hB | with_reducible refine Below.alloc ?_ ?_ _ | with_reducible refine Below.setCell ?_ ?_ _ | with_reducible refine Below.drew ?_ | with_reducible refine below_drewN ?_ _ | with_reducible refine Below.trans ?_ (Bc.mono ?_) | with_reducible refine Below.trans ?_ (hB.mono ?_))) <;> (first | omega | (simp; done) | (simp; omega))))
            have zc := Bc.size
            have hownc := Hownd.below (Nat.le_refl _) Bc
            unfold OwnP at hownc
            go_wp2_with (at_builtin; refine wpList_append_own _ rfl _ _ 29 rfl w3.heap.size 36 i0 (.agg #[.int .i64 0, .int .i64 0]) 2 16 Tryz.underlying29 hi0 hz0 hz1 hz2 rfl (by decide) _ sl.length (encL sl) rfl (World.ownsRow.alloc hownc _) ⟨wc.heap.size, 0, none⟩ 1 1 [.int .i64 L, .int .i64 G] rfl rfl (cells_new wc [.int .i64 L, .int .i64 G] _) (by simp [Value.oneCell']) (by unfold maxLen; omega) (by omega) (by simp; omega) ?_; intro v4 w4 hown4 hg4 _)
            all_goals
              have hB4 : Below (w.heap.size + 2) ((w.alloc (.cells #[.int .i64 r, .int .i64 f, .int .i64 lo, .int .i64 tm, .slice (some ⟨pb, po, none⟩) ps.length pc] 24)).alloc (.cells #[.slice (some ⟨ub, uo, none⟩) use.length uc, .int .i64 ev] 27)) w4 := (BB.alloc (by omega) _).grown hg4 (by simp; omega) (fun r h => by have := hlow r h; omega)
              have hz4 : w3.heap.size ≤ w4.heap.size := by have := hg4.size; simp at this; omega
              go_roundw
              case rel => exact ⟨i + 1, by omega, by go_num, by rw [Hst.out]; exact OwnP.app hown4, by rw [Hst.out], by rw [Hst.out], hz4, hB4⟩
              case measure => simp [intOf]; omega
    · obtain rfl : i = use.length := by omega
      clear HQ hlow hown'
      have hz := HW.out
      clear HW
      (try simp only at hz)
      generalize (rdS ps use xs lies (btB gn) (btB bn) f lo t use.length).list = l at *
      generalize (rdS ps use xs lies (btB gn) (btB bn) f lo t use.length).wrong = sw at *
      generalize (rdS ps use xs lies (btB gn) (btB bn) f lo t use.length).gone = sg at *
      obtain ⟨n1, n2, n3, n4, ⟨n5, n6, n6'⟩, n7, n8, n9, ⟨n10, n10'⟩, ⟨n11, n11'⟩, n12⟩ := hz
      have hCo := Combine_any (.slice oa l.length ocap) l f wr Hown.out.row
      rw [n1] at hCo
      have hWd := fun W hp hu => Hwd.out W hp hu
      rw [n3] at hWd
      have hEl := Elapsed_any r (ev + tm)
      rw [n4] at hEl
      have hAt := beAt_any 0 (cbLo l f) (cbHi l f) r (ev + tm)
      rw [n7] at hAt
      generalize cbLo l f = CL at *
      generalize cbHi l f = CH at *
      generalize elLo r (ev + tm) = eL at *
      generalize elHi r (ev + tm) = eH at *
      generalize atLo 0 CL CH r (ev + tm) = AL at *
      generalize atHi 0 CL CH r (ev + tm) = AH at *
      generalize wdt ⟨r, f, lo, tm, ps⟩ use ev = WD at *
      obtain ⟨D, hD⟩ : ∃ D : Int, D = eH - eL + 1 := ⟨_, rfl⟩
      obtain ⟨E, hE⟩ : ∃ E : Int, E = en % D := ⟨_, rfl⟩
      have hE0 : 0 ≤ E ∧ E ≤ eH - eL := by
        have a1 := Int.emod_nonneg en (show D ≠ 0 by omega)
        have a2 := Int.emod_lt_of_pos en (show 0 < D by omega)
        omega
      have n13 := n12 E hE0
      have fD : eH - eL + 1 = D := hD.symm
      have fE : en % D = E := hE.symm
      have fN : t + eL + E = t + eL + E := rfl
      have hCC : CL ≤ CH := by have := of_decide_eq_true (show decide (CL ≤ t ∧ t ≤ CH) = true from n2); omega
      have hAA : AL ≤ AH := by have := of_decide_eq_true (show decide (AL ≤ mn (t + eL + E) 3000000000000000 ∧ mn (t + eL + E) 3000000000000000 ≤ AH) = true from n13); omega
      have HCo := hide hCo
      have HWd := hide hWd
      have HEl := hide hEl
      have HAt := hide hAt
      have Hn2 := hide n2
      have Hn13 := hide n13
      have db1 : decide (eL < 0) = false := decide_eq_false (by omega)
      have db2 : decide (eH < eL) = false := decide_eq_false (by omega)
      have db3 : decide (AH - AL ≤ WD) = true := decide_eq_true (by omega)
      have db4 : decide (CH - CL ≤ WD) = true := decide_eq_true (by omega)
      have dD : ¬ D = 0 := by omega
      have dD1 : 0 < D ∧ D ≤ 1002000000000011 := by omega
      have sm : ev + tm = ev + tm := rfl
      clear hCo hWd hEl hAt n2 n12 n13 n1 n3 n4 n7 Hwd hD hE
      go_wp2_with fail
      refine HCo.out.mono ?_
      rintro e w4 ⟨rfl, b4⟩
      have B4 : Below (w.heap.size + 2) ((w.alloc (.cells #[.int .i64 r, .int .i64 f, .int .i64 lo, .int .i64 tm, .slice (some ⟨pb, po, none⟩) ps.length pc] 24)).alloc (.cells #[.slice (some ⟨ub, uo, none⟩) use.length uc, .int .i64 ev] 27)) w4 := (by ((repeat' (first | with_reducible exact Below.refl _ _ | with_reducible exact b4 | with_reducible exact hB | with_reducible refine Below.alloc ?_ ?_ _ | with_reducible refine Below.setCell ?_ ?_ _ | with_reducible refine Below.drew ?_ | with_reducible refine below_drewN ?_ _ | with_reducible refine Below.trans ?_ (b4.mono ?_) | with_reducible refine Below.trans ?_ (hB.mono ?_))) <;> (first | omega | (simp; done) | (simp; omega))))
      have z4 := b4.size
      clear y0 y1 y2 y3 y4 v0 v1 hB zr Br hzr
      obtain ⟨y0, y1, y2, y3, y4, v0, v1⟩ := HS.out w4 B4
      have g4 := (HL.out _ B4).2
      have g4a : w.heap.size < w4.heap.size := by omega
      have g4b : w.heap.size + 1 < w4.heap.size := by omega
      have fW : Hid (∀ W : World, Below (w4.heap.size + 1) (w4.alloc (.cells #[.int .i64 CL, .int .i64 CH] 36)) W → W.cell? ⟨w4.heap.size, 0, none⟩ = some (.int .i64 CL) ∧ W.cell? ⟨w4.heap.size, 1, none⟩ = some (.int .i64 CH) ∧ Below (w.heap.size + 2) ((w.alloc (.cells #[.int .i64 r, .int .i64 f, .int .i64 lo, .int .i64 tm, .slice (some ⟨pb, po, none⟩) ps.length pc] 24)).alloc (.cells #[.slice (some ⟨ub, uo, none⟩) use.length uc, .int .i64 ev] 27)) W ∧ w4.heap.size + 1 ≤ W.heap.size) := hide (fun W hW => by
        have k := (bk hW w4.heap.size (by omega)).1
        have := hW.size
        simp only [World.size_alloc] at this
        exact ⟨(k 0).trans (by simp), (k 1).trans (by simp), (B4.alloc (by omega) _).trans (hW.mono (by omega)), this⟩)
      have hQ4 : Below w.heap.size w (w4.alloc (.cells #[.int .i64 CL, .int .i64 CH] 36)) := (HL.out _ B4).1.alloc (by omega) _
      go_wp2_with fail
      refine (HWd.out _ (HP0.out _ hQ4).1 (HP0.out _ hQ4).2).mono ?_
      rintro e w5 ⟨rfl, b5⟩
      have A5 : Below (w4.heap.size + 1) (w4.alloc (.cells #[.int .i64 CL, .int .i64 CH] 36)) w5 := b5.mono (by simp)
      obtain ⟨a0, a1, B5, z5⟩ := fW.out w5 A5
      clear y0 y1 y2 y3 y4 v0 v1 b4
      obtain ⟨y0, y1, y2, y3, y4, v0, v1⟩ := HS.out w5 B5
      have g5a : w.heap.size < w5.heap.size := by omega
      have g5b : w.heap.size + 1 < w5.heap.size := by omega
      have g5c : w4.heap.size < w5.heap.size := by omega
      go_wp2_with (go_at_call 11; (with_reducible refine (RHas_any _ _ _ _).mono ?_); rintro e w' ⟨rfl, rfl⟩; rw [Hn2.out])
      refine (HEl.out _).mono ?_
      rintro e w6 ⟨rfl, b6⟩
      have A6 : Below (w4.heap.size + 1) (w4.alloc (.cells #[.int .i64 CL, .int .i64 CH] 36)) w6 := (by ((repeat' (first | with_reducible exact Below.refl _ _ | with_reducible exact b6 | with_reducible exact A5 | with_reducible refine Below.alloc ?_ ?_ _ | with_reducible refine Below.setCell ?_ ?_ _ | with_reducible refine Below.drew ?_ | with_reducible refine below_drewN ?_ _ | with_reducible refine Below.trans ?_ (b6.mono ?_) | with_reducible refine Below.trans ?_ (A5.mono ?_))) <;> (first | omega | (simp; done) | (simp; omega))))
      have z6 := b6.size
      simp only [World.size_alloc] at z6
      obtain ⟨a0, a1, B6, z6'⟩ := fW.out w6 A6
      clear y0 y1 y2 y3 y4 v0 v1 b5
      obtain ⟨y0, y1, y2, y3, y4, v0, v1⟩ := HS.out w6 B6
      have g6a : w.heap.size < w6.heap.size := by omega
      have g6b : w.heap.size + 1 < w6.heap.size := by omega
      have g6c : w4.heap.size < w6.heap.size := by omega
      have fX : Hid (∀ W : World, Below (w6.heap.size + 1) (w6.alloc (.cells #[.int .i64 eL, .int .i64 eH] 51)) W → W.cell? ⟨w6.heap.size, 0, none⟩ = some (.int .i64 eL) ∧ W.cell? ⟨w6.heap.size, 1, none⟩ = some (.int .i64 eH) ∧ Below (w4.heap.size + 1) (w4.alloc (.cells #[.int .i64 CL, .int .i64 CH] 36)) W ∧ w6.heap.size + 1 ≤ W.heap.size) := hide (fun W hW => by
        have k := (bk hW w6.heap.size (by omega)).1
        have := hW.size
        simp only [World.size_alloc] at this
        exact ⟨(k 0).trans (by simp), (k 1).trans (by simp), (A6.alloc (by omega) _).trans (hW.mono (by omega)), this⟩)
      go_upto_region 26 with fail
      go_quiet (fail)
      go_wp2_with fail
      refine (HAt.out _).mono ?_
      rintro e w7 ⟨rfl, b7⟩
      have A7 : Below (w6.heap.size + 1) (w6.alloc (.cells #[.int .i64 eL, .int .i64 eH] 51)) w7 := (by ((repeat' (first | with_reducible exact Below.refl _ _ | with_reducible exact b7 | with_reducible refine Below.alloc ?_ ?_ _ | with_reducible refine Below.setCell ?_ ?_ _ | with_reducible refine Below.drew ?_ | with_reducible refine below_drewN ?_ _ | with_reducible refine Below.trans ?_ (b7.mono ?_))) <;> (first | omega | (simp; done) | (simp; omega))))
      obtain ⟨-, -, C7, z7⟩ := fX.out w7 A7
      obtain ⟨a0, a1, B7, -⟩ := fW.out w7 C7
      have g7c : w4.heap.size < w7.heap.size := by omega
      have Bw := (HL.out _ B7).1
      clear y0 y1 y2 y3 y4 v0 v1 b6 b7
      go_wp2_with (go_at_call 11; (with_reducible refine (RHas_any _ _ _ _).mono ?_); rintro e w' ⟨rfl, rfl⟩; rw [Hn13.out])
      all_goals go_ret
      all_goals first | (exfalso; omega) | exact ⟨rfl, (by ((repeat' (first | with_reducible exact Below.refl _ _ | with_reducible exact Bw | with_reducible refine Below.alloc ?_ ?_ _ | with_reducible refine Below.setCell ?_ ?_ _ | with_reducible refine Below.drew ?_ | with_reducible refine below_drewN ?_ _ | with_reducible refine Below.trans ?_ (Bw.mono ?_))) <;> (first | omega | (simp; done) | (simp; omega))))⟩
set_option maxRecDepth 100000 in
theorem widthRounds_holds : Rows.WidthRoundsSaid :=
  OpenClaim.holds_of_wide 3 Tryz.f3 rfl rfl rfl rfl rfl rfl rfl ⟨rfl, rfl, rfl, rfl, rfl⟩ rfl rfl rfl rfl rfl (by kernel_rfl) Tryz.func3 (by kernel_rfl)
    (of_decide_eq_true (by kernel_rfl)) (by unfold Func.isWrapper; rw [if_neg (of_decide_eq_false (by kernel_rfl))]; exact ⟨rfl, rfl⟩)
    (fun os started H enc _ => law_lifted started 3 Tryz.f3 Tryz.func3 (by kernel_rfl) Rows.widthRoundsSpec rfl rfl
      (fun ds h => by match ds, h with | [_, _, _, _, _, _, _, _], _ => exact ⟨rfl, rfl, rfl⟩)
      (fun t h => by
        rw [Tryz.params3] at h
        simp only [List.mem_cons, List.not_mem_nil, or_false] at h
        rcases h with rfl | rfl | rfl | rfl | rfl | rfl | rfl | rfl <;> exact ⟨by kernel_rfl, of_decide_eq_true (by kernel_rfl)⟩)
      (ChangeSpec.witness6 (enc := enc) (C := Tryz.checked) false ⟨#[], #[.agg #[.int .i64 0, .int .i64 0, .int .i64 0, .int .i64 0, .slice none 0 0], .agg #[.slice none 0 0, .int .i64 0], .slice none 0 0, .slice none 0 0, .int .u16 0, .int .u16 0, .int .u64 0, .int .u64 0], []⟩ 8 (by kernel_rfl) (by kernel_rfl) (by kernel_rfl) (by kernel_rfl))
      (fun W base args ds p hA hok => by
        rw [Tryz.params3] at hA hok
        obtain ⟨v0, vs0, d0, ds0, p0, q0, hargs, rfl, rfl, h0, r0⟩ := ChangeShapes.trodAll_cons hA
        obtain ⟨v1, vs1, d1, ds1, p1, q1, rfl, rfl, rfl, h1, r1⟩ := ChangeShapes.trodAll_cons r0
        obtain ⟨v2, vs2, d2, ds2, p2, q2, rfl, rfl, rfl, h2, r2⟩ := ChangeShapes.trodAll_cons r1
        obtain ⟨v3, vs3, d3, ds3, p3, q3, rfl, rfl, rfl, h3, r3⟩ := ChangeShapes.trodAll_cons r2
        obtain ⟨v4, vs4, d4, ds4, p4, q4, rfl, rfl, rfl, h4, r4⟩ := ChangeShapes.trodAll_cons r3
        obtain ⟨v5, vs5, d5, ds5, p5, q5, rfl, rfl, rfl, h5, r5⟩ := ChangeShapes.trodAll_cons r4
        obtain ⟨v6, vs6, d6, ds6, p6, q6, rfl, rfl, rfl, h6, r6⟩ := ChangeShapes.trodAll_cons r5
        obtain ⟨v7, vs7, d7, ds7, p7, q7, rfl, rfl, rfl, h7, r7⟩ := ChangeShapes.trodAll_cons r6
        obtain ⟨rfl, rfl, rfl⟩ := ChangeShapes.trodAll_nil r7
        obtain rfl : args = #[v0, v1, v2, v3, v4, v5, v6, v7] := by rw [← Array.toArray_toList (xs := args), hargs]
        obtain ⟨l0, hl0⟩ := open_site (hok 0 _ v0 rfl rfl) h0
        obtain ⟨l1, hl1⟩ := open_sched (hok 1 _ v1 rfl rfl) h1
        obtain ⟨l2, hl2⟩ := open_a3s (hok 2 _ v2 rfl rfl) h2
        obtain ⟨l3, hl3, wl3⟩ := open_ivs (hok 3 _ v3 rfl rfl) h3
        obtain ⟨x4, rfl, hx4⟩ := open_u16 Tryz.underlying30 (hok 4 _ v4 rfl rfl) h4
        obtain ⟨x5, rfl, hx5⟩ := open_u16 Tryz.underlying30 (hok 5 _ v5 rfl rfl) h5
        obtain ⟨x6, rfl, hx6⟩ := open_u64 Tryz.underlying31 (hok 6 _ v6 rfl rfl) h6
        obtain ⟨x7, rfl, hx7⟩ := open_u64 Tryz.underlying31 (hok 7 _ v7 rfl rfl) h7
        exact WdRounds_any W v0 l0 hl0 v1 l1 hl1 v2 l2 hl2 v3 l3 hl3 x4 hx4 x5 hx5 x6 hx6 x7 hx7))
end Go.Proofs.YtbgfgpjgehkdjaaGreat