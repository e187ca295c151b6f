/- WidthMore: for every site, schedule and numbers the statement answers true and leaves its arguments as they were. No condition. -/
import Derived.Test.YtbgfgpjgehkdjaaWdM
import Derived.Test.YtbgfgpjgehkdjaaWdS
import Derived.Test.YtbgfgpjgehkdjaaFg
import Derived.Deep.DeepCutAuto
namespace Go.Proofs.Ytbgfgpjgehkdjaa
open Go.RowKit

theorem own_newP {w : World} {base q : Nat} (hh : w.heap[q]? = some (.cells #[] 47)) (h : base ≤ q) : OwnPs w base (.slice (some ⟨q, 0, none⟩) 0 0) [] :=
  ⟨rfl, .inr ⟨q, 0, #[], rfl, h, hh, Nat.le_refl _, Nat.zero_le _, rfl, rfl⟩⟩
theorem prrow_cells {w : World} {b off n cap : Nat} {l : List Pr} (h : PrRow w (.slice (some ⟨b, off, none⟩) n cap) l) : ∀ j u, (encPs l)[j]? = some u → w.cell? ((⟨b, off, none⟩ : Addr).add j) = some u := by
  obtain ⟨a, cap', e, h1, h2, h3⟩ := h
  cases e
  intro j u hj
  have hjl : j < l.length * 8 := by rw [← encPs_length]; exact (List.getElem?_eq_some_iff.1 hj).1
  have hi : j / 8 < l.length := by omega
  obtain ⟨b', off', e, _, p0, p1, p2, p3, p4, p5, p6, p7⟩ := h3 (j / 8) hi
  cases e
  obtain ⟨e0, e1, e2, e3, e4, e5, e6, e7⟩ := encPs_at l (j / 8) hi
  rw [Go.WideShapes.add_plain]
  have ht : j % 8 < 8 := Nat.mod_lt _ (by decide)
  have hj8 : j = j / 8 * 8 + j % 8 := by omega
  generalize j / 8 = i at *
  generalize j % 8 = t at *
  subst hj8
  rw [← Nat.add_assoc]
  rcases (by omega : t = 0 ∨ t = 1 ∨ t = 2 ∨ t = 3 ∨ t = 4 ∨ t = 5 ∨ t = 6 ∨ t = 7) with rfl | rfl | rfl | rfl | rfl | rfl | rfl | rfl
  · rw [Nat.add_zero] at hj ⊢; rw [e0] at hj; cases hj; exact p0
  · rw [e1] at hj; cases hj; exact p1
  · rw [e2] at hj; cases hj; exact p2
  · rw [e3] at hj; cases hj; exact p3
  · rw [e4] at hj; cases hj; exact p4
  · rw [e5] at hj; cases hj; exact p5
  · rw [e6] at hj; cases hj; exact p6
  · rw [e7] at hj; cases hj; exact p7
theorem encPs_set (x : Int) : ∀ (ps : List Pr) (q : Nat), q < ps.length → (encPs ps).set (q * 8 + 1) (.int .i64 ((pAt ps q).er + x)) = encPs (erL ps q x)
  | [], q, h => by simp at h
  | p :: c, 0, _ => rfl
  | p :: c, q + 1, h => by
    have e : encPs (p :: c) = .int .i64 p.au :: .int .i64 p.er :: .int .i64 p.co :: .int .i64 p.at_ :: .int .i64 p.ol :: .int .i64 p.oh :: .int .i64 p.bl :: .int .i64 p.bh :: encPs c := rfl
    have ih := encPs_set x c q (by simpa using h)
    have e2 : erL (p :: c) (q + 1) x = p :: erL c q x := rfl
    have e3 : pAt (p :: c) (q + 1) = pAt c q := rfl
    rw [e, e2, e3, show (q + 1) * 8 + 1 = q * 8 + 1 + 1 + 1 + 1 + 1 + 1 + 1 + 1 + 1 by omega]
    simp only [List.set_cons_succ]
    rw [ih]
    rfl
set_option maxRecDepth 100000 in
set_option maxHeartbeats 4000000 in
theorem WdMore_any (w : World) (v : Value) (s : SiA) (hs : SiOk w v s) (u : Value) (c : ScA) (hc : ScOk w u c) (k8 : Int) (hk8 : 0 ≤ k8 ∧ k8 ≤ 255) (wh : Int) (hwh : 0 ≤ wh ∧ wh ≤ 255) (by_ : Int) (hby : 0 ≤ by_ ∧ by_ ≤ 4294967295) :
    Calls Try.prog 5 #[v, u, .int .u8 k8, .int .u8 wh, .int .u32 by_] w fun e w' => e = .returned (.bool true) ∧ Below w.heap.size w w' := by
  obtain ⟨r, f, lo, tm, pv, ps⟩ := s
  obtain ⟨uv, use, ev⟩ := c
  obtain ⟨rfl, hp, -, -⟩ := hs
  obtain ⟨rfl, hu, -, -⟩ := hc
  simp only at hp hu ⊢
  obtain ⟨pa, pc, rfl, q1, q2, q3⟩ := id hp
  obtain ⟨ua, uc, rfl, u1, u2, u3⟩ := id hu
  have Hq3 := hide q3
  have Hu3 := hide u3
  clear q3 u3
  have hP : ∀ W : World, Below w.heap.size w W → PrRow W (.slice pa ps.length pc) ps ∧ IsRow W (.slice ua use.length uc) use := fun W hW => ⟨hp.below (Nat.le_refl _) hW, hu.below (Nat.le_refl _) hW⟩
  have HP := hide hP
  have hS : ∀ W : World, Below (w.heap.size + 2) ((w.alloc (.cells #[.int .i64 r, .int .i64 f, .int .i64 lo, .int .i64 tm, .slice pa ps.length pc] 24)).alloc (.cells #[.slice ua use.length uc, .int .i64 ev] 27)) W → W.cell? ⟨w.heap.size, 0, none⟩ = some (.int .i64 r) ∧ W.cell? ⟨w.heap.size, 1, none⟩ = some (.int .i64 f) ∧ W.cell? ⟨w.heap.size, 2, none⟩ = some (.int .i64 lo) ∧ W.cell? ⟨w.heap.size, 3, none⟩ = some (.int .i64 tm) ∧ W.cell? ⟨w.heap.size, 4, none⟩ = some (.slice pa ps.length pc) ∧ W.cell? ⟨w.heap.size + 1, 0, none⟩ = some (.slice ua use.length uc) ∧ W.cell? ⟨w.heap.size + 1, 1, none⟩ = some (.int .i64 ev) := by
    intro W hW
    have hc := (bk hW w.heap.size (by omega)).1
    have hd := (bk hW (w.heap.size + 1) (by omega)).1
    exact ⟨(hc 0).trans (by simp), (hc 1).trans (by simp), (hc 2).trans (by simp), (hc 3).trans (by simp), (hc 4).trans (by simp), (hd 0).trans (by simp), (hd 1).trans (by simp)⟩
  have HS := hide hS
  have hL : ∀ W : World, Below (w.heap.size + 2) ((w.alloc (.cells #[.int .i64 r, .int .i64 f, .int .i64 lo, .int .i64 tm, .slice pa ps.length pc] 24)).alloc (.cells #[.slice ua use.length uc, .int .i64 ev] 27)) W → Below w.heap.size w W ∧ w.heap.size + 2 ≤ W.heap.size := fun W hW => ⟨(((Below.refl _ _).alloc (Nat.le_refl _) _).alloc (by simp) _).trans (hW.mono (by omega)), by have := hW.size; simpa using this⟩
  have HL := hide hL
  clear hP hS hL hp hu
  by_cases hf : ps.length ≤ 20 ∧ use.length ≤ 20
  case neg =>
    go_enter Try.func5, Try.ntmps5
    go_wp2_with fail
    refine (head_any _).mono ?_
    rintro e w1 ⟨rfl, b1⟩
    have B1 : Below (w.heap.size + 2) ((w.alloc (.cells #[.int .i64 r, .int .i64 f, .int .i64 lo, .int .i64 tm, .slice pa ps.length pc] 24)).alloc (.cells #[.slice ua use.length uc, .int .i64 ev] 27)) w1 := b1.mono (by simp)
    clear b1
    have z1 := (HL.out _ B1).2
    obtain ⟨y0, y1, y2, y3, y4, x0, x1⟩ := HS.out w1 B1
    go_wp2_with fail
    refine (R29Few_any r f lo tm _ ps _ use ev _ (HP.out _ (HL.out _ B1).1).1 (HP.out _ (HL.out _ B1).1).2).mono ?_
    rintro e w2 ⟨rfl, b2⟩
    rw [decide_eq_false hf]
    have B2 := (HL.out _ B1).1
    go_wp2_with fail
    go_ret
    exact ⟨rfl, (by ((repeat' (first | with_reducible exact Below.refl _ _ | with_reducible exact b2 | with_reducible exact B2 | with_reducible refine Below.alloc ?_ ?_ _ | with_reducible refine Below.setCell ?_ ?_ _ | with_reducible refine Below.drew ?_ | with_reducible refine below_drewN ?_ _ | with_reducible refine Below.trans ?_ (b2.mono ?_) | with_reducible refine Below.trans ?_ (B2.mono ?_))) <;> (first | omega | (simp; done) | (simp; omega))))⟩
  have hun : use.length ≤ 1000000 := by omega
  cases hR : rgB ⟨r, f, lo, tm, ps⟩ use ev with
  | false =>
    go_enter Try.func5, Try.ntmps5
    go_wp2_with fail
    refine (head_any _).mono ?_
    rintro e w1 ⟨rfl, b1⟩
    have B1 : Below (w.heap.size + 2) ((w.alloc (.cells #[.int .i64 r, .int .i64 f, .int .i64 lo, .int .i64 tm, .slice pa ps.length pc] 24)).alloc (.cells #[.slice ua use.length uc, .int .i64 ev] 27)) w1 := b1.mono (by simp)
    clear b1
    have z1 := (HL.out _ B1).2
    obtain ⟨y0, y1, y2, y3, y4, x0, x1⟩ := HS.out w1 B1
    go_wp2_with fail
    refine (R29Few_any r f lo tm _ ps _ use ev _ (HP.out _ (HL.out _ B1).1).1 (HP.out _ (HL.out _ B1).1).2).mono ?_
    rintro e w2 ⟨rfl, b2⟩
    rw [decide_eq_true hf]
    have B2 : Below (w.heap.size + 2) ((w.alloc (.cells #[.int .i64 r, .int .i64 f, .int .i64 lo, .int .i64 tm, .slice pa ps.length pc] 24)).alloc (.cells #[.slice ua use.length uc, .int .i64 ev] 27)) w2 := (by ((repeat' (first | with_reducible exact Below.refl _ _ | with_reducible exact b2 | with_reducible exact B1 | with_reducible refine Below.alloc ?_ ?_ _ | with_reducible refine Below.setCell ?_ ?_ _ | with_reducible refine Below.drew ?_ | with_reducible refine below_drewN ?_ _ | with_reducible refine Below.trans ?_ (b2.mono ?_) | with_reducible refine Below.trans ?_ (B1.mono ?_))) <;> (first | omega | (simp; done) | (simp; omega))))
    clear y0 y1 y2 y3 y4 x0 x1 b2 B1 z1
    have z2 := (HL.out _ B2).2
    obtain ⟨y0, y1, y2, y3, y4, x0, x1⟩ := HS.out w2 B2
    go_wp2_with fail
    refine (R29Right_any r f lo tm _ ps _ use ev _ (HP.out _ (HL.out _ B2).1).1 (HP.out _ (HL.out _ B2).1).2 hun).mono ?_
    rintro e w3 ⟨rfl, b3⟩
    rw [hR]
    have B3 := (HL.out _ B2).1
    go_wp2_with fail
    go_ret
    exact ⟨rfl, (by ((repeat' (first | with_reducible exact Below.refl _ _ | with_reducible exact b3 | with_reducible exact B3 | with_reducible refine Below.alloc ?_ ?_ _ | with_reducible refine Below.setCell ?_ ?_ _ | with_reducible refine Below.drew ?_ | with_reducible refine below_drewN ?_ _ | with_reducible refine Below.trans ?_ (b3.mono ?_) | with_reducible refine Below.trans ?_ (B3.mono ?_))) <;> (first | omega | (simp; done) | (simp; omega))))⟩
  | true =>
    have hrg := (rgB_iff _ _ _).1 hR
    have hsi := (siN_iff _).1 ((siB_iff _).1 hrg.1).1
    have hin := hrg.2.2.1
    have hev := hrg.2.1
    have hul : 1 ≤ use.length := by have := hrg.2.2.2.2; simp only at this hsi; omega
    simp only at hsi hin hev
    have hn16 : ps.length ≤ 16 := hsi.2.2.2.2
    have hn1 : 1 ≤ ps.length := by have := hin 0 (by omega); omega
    have hE : wdEr ⟨r, f, lo, tm, ps⟩ use ev = 0 := by unfold wdEr; rw [hR]; rfl
    have her := si_wd hrg.1
    have Her := hide her
    clear her
    obtain ⟨⟨r1, r2⟩, ⟨f1, f2⟩, ⟨l1, l2⟩, ⟨t1, t2⟩, -⟩ := hsi
    obtain ⟨ev1, ev2⟩ := hev
    have Hf := hide hf
    have HR := hide hR
    have HE := hide hE
    obtain ⟨i0, hi0, hz0, hz1, hz2⟩ := info_parts infoPr
    clear hf hR hrg hin hE
    go_enter Try.func5, Try.ntmps5
    go_wp2_with fail
    refine (head_any _).mono ?_
    rintro e w1 ⟨rfl, b1⟩
    have B1 : Below (w.heap.size + 2) ((w.alloc (.cells #[.int .i64 r, .int .i64 f, .int .i64 lo, .int .i64 tm, .slice pa ps.length pc] 24)).alloc (.cells #[.slice ua use.length uc, .int .i64 ev] 27)) w1 := b1.mono (by simp)
    clear b1
    have z1 := (HL.out _ B1).2
    obtain ⟨y0, y1, y2, y3, y4, x0, x1⟩ := HS.out w1 B1
    go_wp2_with fail
    refine (R29Few_any r f lo tm _ ps _ use ev _ (HP.out _ (HL.out _ B1).1).1 (HP.out _ (HL.out _ B1).1).2).mono ?_
    rintro e w2 ⟨rfl, b2⟩
    rw [decide_eq_true Hf.out]
    have B2 : Below (w.heap.size + 2) ((w.alloc (.cells #[.int .i64 r, .int .i64 f, .int .i64 lo, .int .i64 tm, .slice pa ps.length pc] 24)).alloc (.cells #[.slice ua use.length uc, .int .i64 ev] 27)) w2 := (by ((repeat' (first | with_reducible exact Below.refl _ _ | with_reducible exact b2 | with_reducible exact B1 | with_reducible refine Below.alloc ?_ ?_ _ | with_reducible refine Below.setCell ?_ ?_ _ | with_reducible refine Below.drew ?_ | with_reducible refine below_drewN ?_ _ | with_reducible refine Below.trans ?_ (b2.mono ?_) | with_reducible refine Below.trans ?_ (B1.mono ?_))) <;> (first | omega | (simp; done) | (simp; omega))))
    clear y0 y1 y2 y3 y4 x0 x1 b2 B1 z1
    have z2 := (HL.out _ B2).2
    obtain ⟨y0, y1, y2, y3, y4, x0, x1⟩ := HS.out w2 B2
    go_wp2_with fail
    refine (R29Right_any r f lo tm _ ps _ use ev _ (HP.out _ (HL.out _ B2).1).1 (HP.out _ (HL.out _ B2).1).2 hun).mono ?_
    rintro e w3 ⟨rfl, b3⟩
    rw [HR.out]
    have B3 : Below (w.heap.size + 2) ((w.alloc (.cells #[.int .i64 r, .int .i64 f, .int .i64 lo, .int .i64 tm, .slice pa ps.length pc] 24)).alloc (.cells #[.slice ua use.length uc, .int .i64 ev] 27)) w3 := (by ((repeat' (first | with_reducible exact Below.refl _ _ | with_reducible exact b3 | with_reducible exact B2 | with_reducible refine Below.alloc ?_ ?_ _ | with_reducible refine Below.setCell ?_ ?_ _ | with_reducible refine Below.drew ?_ | with_reducible refine below_drewN ?_ _ | with_reducible refine Below.trans ?_ (b3.mono ?_) | with_reducible refine Below.trans ?_ (B2.mono ?_))) <;> (first | omega | (simp; done) | (simp; omega))))
    clear y0 y1 y2 y3 y4 x0 x1 b3 B2 z2
    have z3 := (HL.out _ B3).2
    obtain ⟨y0, y1, y2, y3, y4, x0, x1⟩ := HS.out w3 B3
    go_upto_region 4 with fail
    have zd : w3.drew.heap.size = w3.heap.size := rfl
    have z3a : w.heap.size < w3.heap.size := by omega
    have z3b : w.heap.size + 1 < w3.heap.size := by omega
    go_cut [12, 13] (fun s12 s13 wx => ∃ T D : Nat, s12 = .pointer (some ⟨T, 0, none⟩) ∧ s13 = .pointer (some ⟨D, 0, none⟩) ∧ T ≠ D ∧ w3.heap.size ≤ T ∧ w3.heap.size ≤ D ∧ T < w3.heap.size + 2 ∧ D < w3.heap.size + 2 ∧ w3.heap.size + 2 ≤ wx.heap.size ∧ (wx.cell? ⟨T, 0, none⟩ = some (.int .i64 r) ∧ wx.cell? ⟨T, 1, none⟩ = some (.int .i64 f) ∧ wx.cell? ⟨T, 2, none⟩ = some (.int .i64 lo) ∧ wx.cell? ⟨T, 3, none⟩ = some (.int .i64 tm) ∧ wx.cell? ⟨T, 4, none⟩ = some (.slice pa ps.length pc) ∧ wx.cell? ⟨D, 0, none⟩ = some (.slice ua use.length uc) ∧ wx.cell? ⟨D, 1, none⟩ = some (.int .i64 ev) ∧ (∀ o, wx.frozen? ⟨T, o, none⟩ = false) ∧ (∀ o, wx.frozen? ⟨D, o, none⟩ = false)) ∧ Below (w.heap.size + 2) ((w.alloc (.cells #[.int .i64 r, .int .i64 f, .int .i64 lo, .int .i64 tm, .slice pa ps.length pc] 24)).alloc (.cells #[.slice ua use.length uc, .int .i64 ev] 27)) wx)
    case first =>
      go_region
      all_goals go_wp2
      all_goals go_meet
      all_goals first | (refine ⟨w3.heap.size, w3.heap.size + 1, rfl, rfl, ?_, ?_, ?_, ?_, ?_, ?_, ⟨?_, ?_, ?_, ?_, ?_, ?_, ?_, ?_, ?_⟩, ?_⟩) | (refine ⟨w3.heap.size + 1, w3.heap.size, rfl, rfl, ?_, ?_, ?_, ?_, ?_, ?_, ⟨?_, ?_, ?_, ?_, ?_, ?_, ?_, ?_, ?_⟩, ?_⟩)
      all_goals first | omega | (simp; done) | (simp; omega) | (((repeat' (first | with_reducible exact Below.refl _ _ | with_reducible exact B3 | with_reducible refine Below.alloc ?_ ?_ _ | with_reducible refine Below.setCell ?_ ?_ _ | with_reducible refine Below.drew ?_ | with_reducible refine below_drewN ?_ _ | with_reducible refine Below.trans ?_ (B3.mono ?_))) <;> (first | omega | (simp; done) | (simp; omega))))
    case rest =>
      obtain ⟨T, D, rfl, rfl, hne, hT1, hD1, hT2, hD2, hzc, ⟨c0, c1, c2, c3, c4, d0, d1, cf, df⟩, Bc⟩ := hcut
      have zT : w.heap.size + 2 ≤ T := by omega
      have zD : w.heap.size + 2 ≤ D := by omega
      clear y0 y1 y2 y3 y4 x0 x1 B3 z3 zd z3a z3b
      obtain ⟨y0, y1, y2, y3, y4, x0, x1⟩ := HS.out wc Bc
      obtain ⟨pb, po, rfl, q4, -⟩ := Hq3.out 0 (by omega)
      have zw := (HL.out _ Bc).2
      have za : w.heap.size < wc.heap.size := by omega
      have zb : w.heap.size + 1 < wc.heap.size := by omega
      have zt : T < wc.heap.size := by omega
      have zd : D < wc.heap.size := by omega
      have zp : pb < wc.heap.size := Nat.lt_of_lt_of_le q4 (HL.out _ Bc).1.size
      have hrc := (HP.out _ (HL.out _ Bc).1).1
      have Hrc := hide hrc
      clear hrc
      go_upto_region 6 with (at_builtin; refine wpList_append_own _ rfl _ _ 22 rfl wc.heap.size 47 i0 (.agg #[.int .i64 0, .int .i64 0, .int .i64 0, .int .i64 0, .int .i64 0, .int .i64 0, .int .i64 0, .int .i64 0]) 8 64 Try.underlying22 hi0 hz0 hz1 hz2 rfl (by decide) _ 0 [] rfl (own_newP (World.alloc_heap_new wc _) (Nat.le_refl _)) ⟨pb, po, none⟩ ps.length pc (encPs ps) rfl (encPs_length ps) (prrow_cells (Hrc.out.below (Nat.le_refl _) ((Below.refl _ _).alloc (Nat.le_refl _) _))) (encP_one ps) (by unfold maxLen; omega) (by omega) (by simp) ?_; intro v4 w4 hown4 hg4 _; rw [Nat.zero_add, List.nil_append] at hown4; obtain ⟨kT, fT⟩ := grown_keeps hg4 (b := T) (by simp; omega) (fun h => absurd (Option.some.inj (show some T = some wc.heap.size from h)) (by omega)); obtain ⟨kD, fD⟩ := grown_keeps hg4 (b := D) (by simp; omega) (fun h => absurd (Option.some.inj (show some D = some wc.heap.size from h)) (by omega)); obtain ⟨gB, cap4, rfl, hgb, hglt⟩ := World.ownsRow.form hown4 (by omega))
      have hz4 : wc.heap.size + 1 ≤ w4.heap.size := by have := hg4.size; simpa using this
      have B4 : Below (w.heap.size + 2) ((w.alloc (.cells #[.int .i64 r, .int .i64 f, .int .i64 lo, .int .i64 tm, .slice (some ⟨pb, po, none⟩) ps.length pc] 24)).alloc (.cells #[.slice ua use.length uc, .int .i64 ev] 27)) w4 := (Bc.alloc (by omega) _).grown hg4 (by simp; omega) (fun r h => by have h2 : wc.heap.size = r := Option.some.inj h; omega)
      have hT := fun o => (kT o).trans (old1 wc (.cells #[] 47) zt o).1
      have hD := fun o => (kD o).trans (old1 wc (.cells #[] 47) zd o).1
      have gT := fun o => (fT o).trans (old1 wc (.cells #[] 47) zt o).2
      have gD := fun o => (fD o).trans (old1 wc (.cells #[] 47) zd o).2
      have n4 : ∀ o : Nat, o ≠ 4 → (⟨T, 4, none⟩ : Addr) ≠ ⟨T, o, none⟩ := fun o ho e => by injection e with _ h2; exact ho h2.symm
      have nD : ∀ o : Nat, (⟨T, 4, none⟩ : Addr) ≠ ⟨D, o, none⟩ := fun o e => by injection e with h1; exact hne h1
      have e0 := (World.cell?_setCell_other w4 _ _ (.slice (some ⟨gB, 0, none⟩) ps.length cap4) (n4 0 (by decide))).trans ((hT 0).trans c0)
      have e1 := (World.cell?_setCell_other w4 _ _ (.slice (some ⟨gB, 0, none⟩) ps.length cap4) (n4 1 (by decide))).trans ((hT 1).trans c1)
      have e2 := (World.cell?_setCell_other w4 _ _ (.slice (some ⟨gB, 0, none⟩) ps.length cap4) (n4 2 (by decide))).trans ((hT 2).trans c2)
      have e3 := (World.cell?_setCell_other w4 _ _ (.slice (some ⟨gB, 0, none⟩) ps.length cap4) (n4 3 (by decide))).trans ((hT 3).trans c3)
      have e4 : (w4.setCell ⟨T, 4, none⟩ (.slice (some ⟨gB, 0, none⟩) ps.length cap4)).cell? ⟨T, 4, none⟩ = some (.slice (some ⟨gB, 0, none⟩) ps.length cap4) := World.cell?_setCell_same' _ _ _ (by rw [hT 4, c4]; rfl)
      have e5 := (World.cell?_setCell_other w4 _ _ (.slice (some ⟨gB, 0, none⟩) ps.length cap4) (nD 0)).trans ((hD 0).trans d0)
      have e6 := (World.cell?_setCell_other w4 _ _ (.slice (some ⟨gB, 0, none⟩) ps.length cap4) (nD 1)).trans ((hD 1).trans d1)
      have eT : ∀ o, (w4.setCell ⟨T, 4, none⟩ (.slice (some ⟨gB, 0, none⟩) ps.length cap4)).frozen? ⟨T, o, none⟩ = false := fun o => by rw [World.frozen?_setCell, gT]; exact cf o
      have eD : ∀ o, (w4.setCell ⟨T, 4, none⟩ (.slice (some ⟨gB, 0, none⟩) ps.length cap4)).frozen? ⟨D, o, none⟩ = false := fun o => by rw [World.frozen?_setCell, gD]; exact df o
      have own5 : OwnPs (w4.setCell ⟨T, 4, none⟩ (.slice (some ⟨gB, 0, none⟩) ps.length cap4)) wc.heap.size (.slice (some ⟨gB, 0, none⟩) ps.length cap4) ps := ownsRow_setCell_below hown4 (by show T < wc.heap.size; omega) _
      have B5 : Below (w.heap.size + 2) ((w.alloc (.cells #[.int .i64 r, .int .i64 f, .int .i64 lo, .int .i64 tm, .slice (some ⟨pb, po, none⟩) ps.length pc] 24)).alloc (.cells #[.slice ua use.length uc, .int .i64 ev] 27)) (w4.setCell ⟨T, 4, none⟩ (.slice (some ⟨gB, 0, none⟩) ps.length cap4)) := B4.setCell (by show w.heap.size + 2 ≤ T; omega) _
      have z5 : (w4.setCell ⟨T, 4, none⟩ (.slice (some ⟨gB, 0, none⟩) ps.length cap4)).heap.size = w4.heap.size := by simp
      clear y0 y1 y2 y3 y4 x0 x1 c0 c1 c2 c3 c4 d0 d1 cf df hT hD gT gD kT fT kD fD hown4 hg4 B4 Bc n4 nD
      generalize w4.setCell ⟨T, 4, none⟩ (.slice (some ⟨gB, 0, none⟩) ps.length cap4) = w5 at *
      obtain ⟨y0, y1, y2, y3, y4, x0, x1⟩ := HS.out w5 B5
      have Hown5 := hide own5
      clear own5
      have hwh0 : 0 ≤ wh := hwh.1
      have hby0 : 0 ≤ by_ ∧ by_ ≤ 4294967295 := hby
      have hcw5 : wh % 5 = 0 ∨ wh % 5 = 1 ∨ wh % 5 = 2 ∨ wh % 5 = 3 ∨ wh % 5 = 4 := by omega
      clear hwh hby
      rcases hcw5 with fW | fW | fW | fW | fW
      · have fB : 0 ≤ by_ % 1000 ∧ by_ % 1000 ≤ 999 := by omega
        have e0x := World.cell?_setCell_same' w5 ⟨T, 0, none⟩ (.int .i64 (r + by_ % 1000)) (by rw [e0]; rfl)
        have e1x := (World.cell?_setCell_other w5 ⟨T, 0, none⟩ ⟨T, 1, none⟩ (.int .i64 (r + by_ % 1000)) (fun e => by injection e with _ h2; revert h2; decide)).trans e1
        have e2x := (World.cell?_setCell_other w5 ⟨T, 0, none⟩ ⟨T, 2, none⟩ (.int .i64 (r + by_ % 1000)) (fun e => by injection e with _ h2; revert h2; decide)).trans e2
        have e3x := (World.cell?_setCell_other w5 ⟨T, 0, none⟩ ⟨T, 3, none⟩ (.int .i64 (r + by_ % 1000)) (fun e => by injection e with _ h2; revert h2; decide)).trans e3
        have e4x := (World.cell?_setCell_other w5 ⟨T, 0, none⟩ ⟨T, 4, none⟩ (.int .i64 (r + by_ % 1000)) (fun e => by injection e with _ h2; revert h2; decide)).trans e4
        have e5x := (World.cell?_setCell_other w5 ⟨T, 0, none⟩ ⟨D, 0, none⟩ (.int .i64 (r + by_ % 1000)) (fun e => by injection e with h1; exact hne h1)).trans e5
        have e6x := (World.cell?_setCell_other w5 ⟨T, 0, none⟩ ⟨D, 1, none⟩ (.int .i64 (r + by_ % 1000)) (fun e => by injection e with h1; exact hne h1)).trans e6
        have BX : Below (w.heap.size + 2) ((w.alloc (.cells #[.int .i64 r, .int .i64 f, .int .i64 lo, .int .i64 tm, .slice (some ⟨pb, po, none⟩) ps.length pc] 24)).alloc (.cells #[.slice ua use.length uc, .int .i64 ev] 27)) (w5.setCell ⟨T, 0, none⟩ (.int .i64 (r + by_ % 1000))) := B5.setCell (by show w.heap.size + 2 ≤ T; omega) _
        have zX : (w5.setCell ⟨T, 0, none⟩ (.int .i64 (r + by_ % 1000))).heap.size = w5.heap.size := by simp
        have Hrow := hide (OwnPs.row (base := wc.heap.size) (c := ps) (ownsRow_setCell_below (a := ⟨T, 0, none⟩) Hown5.out (by show T < wc.heap.size; omega) (.int .i64 (r + by_ % 1000))))
        have hWd : Wider ps ps := Wider.refl ps
        have ztX : T < w5.heap.size := by omega
        have zdX : D < w5.heap.size := by omega
        go_upto_region 17 with fail
        clear y0 y1 y2 y3 y4 x0 x1 e0 e1 e2 e3 e4 e5 e6
        generalize (w5.setCell ⟨T, 0, none⟩ (.int .i64 (r + by_ % 1000))) = wX at *
        obtain ⟨y0, y1, y2, y3, y4, x0, x1⟩ := HS.out wX BX
        go_wp2_with fail
        refine (R29Right_any (r + by_ % 1000) f lo tm _ ps _ use ev _ Hrow.out (HP.out _ (HL.out _ BX).1).2 hun).mono ?_
        rintro e w6 ⟨rfl, b6⟩
        have zz := b6.size
        have B6 : Below (w.heap.size + 2) ((w.alloc (.cells #[.int .i64 r, .int .i64 f, .int .i64 lo, .int .i64 tm, .slice (some ⟨pb, po, none⟩) ps.length pc] 24)).alloc (.cells #[.slice ua use.length uc, .int .i64 ev] 27)) w6 := (by ((repeat' (first | with_reducible exact Below.refl _ _ | with_reducible exact b6 | with_reducible exact BX | with_reducible refine Below.alloc ?_ ?_ _ | with_reducible refine Below.setCell ?_ ?_ _ | with_reducible refine Below.drew ?_ | with_reducible refine below_drewN ?_ _ | with_reducible refine Below.trans ?_ (b6.mono ?_) | with_reducible refine Below.trans ?_ (BX.mono ?_))) <;> (first | omega | (simp; done) | (simp; omega))))
        obtain ⟨kb6_0, fb6_0, zb6_0, zab6_0, zbb6_0, zcb6_0, zdb6_0, zeb6_0⟩ := bk3 b6 (T) (by first | omega | (simp; done) | (simp; omega)); obtain ⟨kb6_1, fb6_1, zb6_1, zab6_1, zbb6_1, zcb6_1, zdb6_1, zeb6_1⟩ := bk3 b6 (D) (by first | omega | (simp; done) | (simp; omega))
        have Hrow6 := hide (Hrow.out.below (Nat.le_refl _) b6)
        clear y0 y1 y2 y3 y4 x0 x1
        obtain ⟨y0, y1, y2, y3, y4, x0, x1⟩ := HS.out w6 B6
        cases hN : rgB ⟨(r + by_ % 1000), f, lo, tm, ps⟩ use ev with
        | false =>
          go_wp2_with fail
          go_ret
          exact ⟨rfl, (HL.out _ B6).1⟩
        | true =>
          have hml := more_law HR.out hN (by simp only; omega) (by simp only; omega) (by simp only; omega) (by omega) rfl hWd
          have hEN : wdEr ⟨(r + by_ % 1000), f, lo, tm, ps⟩ use ev = 0 := by unfold wdEr; rw [hN]; rfl
          have dd1 : decide (wdt ⟨r, f, lo, tm, ps⟩ use ev ≤ wdt ⟨(r + by_ % 1000), f, lo, tm, ps⟩ use ev) = true := decide_eq_true hml.1
          have dd2 : decide (0 ≤ wdt ⟨r, f, lo, tm, ps⟩ use ev) = true := decide_eq_true hml.2
          have HEN := hide hEN
          clear hml hN hEN
          go_wp2_with fail
          refine (wdWidthS_any r f lo tm _ ps _ use ev _ (HP.out _ (HL.out _ B6).1).1 (HP.out _ (HL.out _ B6).1).2).mono ?_
          rintro e w7 ⟨rfl, b7⟩
          rw [HE.out]
          have zz7 := b7.size
          have B7 : Below (w.heap.size + 2) ((w.alloc (.cells #[.int .i64 r, .int .i64 f, .int .i64 lo, .int .i64 tm, .slice (some ⟨pb, po, none⟩) ps.length pc] 24)).alloc (.cells #[.slice ua use.length uc, .int .i64 ev] 27)) w7 := (by ((repeat' (first | with_reducible exact Below.refl _ _ | with_reducible exact b7 | with_reducible exact B6 | with_reducible refine Below.alloc ?_ ?_ _ | with_reducible refine Below.setCell ?_ ?_ _ | with_reducible refine Below.drew ?_ | with_reducible refine below_drewN ?_ _ | with_reducible refine Below.trans ?_ (b7.mono ?_) | with_reducible refine Below.trans ?_ (B6.mono ?_))) <;> (first | omega | (simp; done) | (simp; omega))))
          obtain ⟨kb7_0, fb7_0, zb7_0, zab7_0, zbb7_0, zcb7_0, zdb7_0, zeb7_0⟩ := bk3 b7 (T) (by first | omega | (simp; done) | (simp; omega)); obtain ⟨kb7_1, fb7_1, zb7_1, zab7_1, zbb7_1, zcb7_1, zdb7_1, zeb7_1⟩ := bk3 b7 (D) (by first | omega | (simp; done) | (simp; omega))
          have Hrow7 := hide (Hrow6.out.below (Nat.le_refl _) b7)
          clear y0 y1 y2 y3 y4 x0 x1
          go_wp2_with fail
          refine (wdWidthS_any (r + by_ % 1000) f lo tm _ ps _ use ev _ Hrow7.out (HP.out _ (HL.out _ B7).1).2).mono ?_
          rintro e w8 ⟨rfl, b8⟩
          rw [HEN.out]
          have B8 : Below (w.heap.size + 2) ((w.alloc (.cells #[.int .i64 r, .int .i64 f, .int .i64 lo, .int .i64 tm, .slice (some ⟨pb, po, none⟩) ps.length pc] 24)).alloc (.cells #[.slice ua use.length uc, .int .i64 ev] 27)) w8 := (by ((repeat' (first | with_reducible exact Below.refl _ _ | with_reducible exact b8 | with_reducible exact B7 | with_reducible refine Below.alloc ?_ ?_ _ | with_reducible refine Below.setCell ?_ ?_ _ | with_reducible refine Below.drew ?_ | with_reducible refine below_drewN ?_ _ | with_reducible refine Below.trans ?_ (b8.mono ?_) | with_reducible refine Below.trans ?_ (B7.mono ?_))) <;> (first | omega | (simp; done) | (simp; omega))))
          go_wp2_with fail
          go_ret
          exact ⟨by first | rfl | exact ret_bool (by simp), (HL.out _ B8).1⟩
      · have fB : 0 ≤ by_ % 3 ∧ by_ % 3 ≤ 2 := by omega
        have e0x := (World.cell?_setCell_other w5 ⟨T, 1, none⟩ ⟨T, 0, none⟩ (.int .i64 (f + by_ % 3)) (fun e => by injection e with _ h2; revert h2; decide)).trans e0
        have e1x := World.cell?_setCell_same' w5 ⟨T, 1, none⟩ (.int .i64 (f + by_ % 3)) (by rw [e1]; rfl)
        have e2x := (World.cell?_setCell_other w5 ⟨T, 1, none⟩ ⟨T, 2, none⟩ (.int .i64 (f + by_ % 3)) (fun e => by injection e with _ h2; revert h2; decide)).trans e2
        have e3x := (World.cell?_setCell_other w5 ⟨T, 1, none⟩ ⟨T, 3, none⟩ (.int .i64 (f + by_ % 3)) (fun e => by injection e with _ h2; revert h2; decide)).trans e3
        have e4x := (World.cell?_setCell_other w5 ⟨T, 1, none⟩ ⟨T, 4, none⟩ (.int .i64 (f + by_ % 3)) (fun e => by injection e with _ h2; revert h2; decide)).trans e4
        have e5x := (World.cell?_setCell_other w5 ⟨T, 1, none⟩ ⟨D, 0, none⟩ (.int .i64 (f + by_ % 3)) (fun e => by injection e with h1; exact hne h1)).trans e5
        have e6x := (World.cell?_setCell_other w5 ⟨T, 1, none⟩ ⟨D, 1, none⟩ (.int .i64 (f + by_ % 3)) (fun e => by injection e with h1; exact hne h1)).trans e6
        have BX : Below (w.heap.size + 2) ((w.alloc (.cells #[.int .i64 r, .int .i64 f, .int .i64 lo, .int .i64 tm, .slice (some ⟨pb, po, none⟩) ps.length pc] 24)).alloc (.cells #[.slice ua use.length uc, .int .i64 ev] 27)) (w5.setCell ⟨T, 1, none⟩ (.int .i64 (f + by_ % 3))) := B5.setCell (by show w.heap.size + 2 ≤ T; omega) _
        have zX : (w5.setCell ⟨T, 1, none⟩ (.int .i64 (f + by_ % 3))).heap.size = w5.heap.size := by simp
        have Hrow := hide (OwnPs.row (base := wc.heap.size) (c := ps) (ownsRow_setCell_below (a := ⟨T, 1, none⟩) Hown5.out (by show T < wc.heap.size; omega) (.int .i64 (f + by_ % 3))))
        have hWd : Wider ps ps := Wider.refl ps
        have ztX : T < w5.heap.size := by omega
        have zdX : D < w5.heap.size := by omega
        go_upto_region 17 with fail
        clear y0 y1 y2 y3 y4 x0 x1 e0 e1 e2 e3 e4 e5 e6
        generalize (w5.setCell ⟨T, 1, none⟩ (.int .i64 (f + by_ % 3))) = wX at *
        obtain ⟨y0, y1, y2, y3, y4, x0, x1⟩ := HS.out wX BX
        go_wp2_with fail
        refine (R29Right_any r (f + by_ % 3) lo tm _ ps _ use ev _ Hrow.out (HP.out _ (HL.out _ BX).1).2 hun).mono ?_
        rintro e w6 ⟨rfl, b6⟩
        have zz := b6.size
        have B6 : Below (w.heap.size + 2) ((w.alloc (.cells #[.int .i64 r, .int .i64 f, .int .i64 lo, .int .i64 tm, .slice (some ⟨pb, po, none⟩) ps.length pc] 24)).alloc (.cells #[.slice ua use.length uc, .int .i64 ev] 27)) w6 := (by ((repeat' (first | with_reducible exact Below.refl _ _ | with_reducible exact b6 | with_reducible exact BX | with_reducible refine Below.alloc ?_ ?_ _ | with_reducible refine Below.setCell ?_ ?_ _ | with_reducible refine Below.drew ?_ | with_reducible refine below_drewN ?_ _ | with_reducible refine Below.trans ?_ (b6.mono ?_) | with_reducible refine Below.trans ?_ (BX.mono ?_))) <;> (first | omega | (simp; done) | (simp; omega))))
        obtain ⟨kb6_0, fb6_0, zb6_0, zab6_0, zbb6_0, zcb6_0, zdb6_0, zeb6_0⟩ := bk3 b6 (T) (by first | omega | (simp; done) | (simp; omega)); obtain ⟨kb6_1, fb6_1, zb6_1, zab6_1, zbb6_1, zcb6_1, zdb6_1, zeb6_1⟩ := bk3 b6 (D) (by first | omega | (simp; done) | (simp; omega))
        have Hrow6 := hide (Hrow.out.below (Nat.le_refl _) b6)
        clear y0 y1 y2 y3 y4 x0 x1
        obtain ⟨y0, y1, y2, y3, y4, x0, x1⟩ := HS.out w6 B6
        cases hN : rgB ⟨r, (f + by_ % 3), lo, tm, ps⟩ use ev with
        | false =>
          go_wp2_with fail
          go_ret
          exact ⟨rfl, (HL.out _ B6).1⟩
        | true =>
          have hml := more_law HR.out hN (by simp only; omega) (by simp only; omega) (by simp only; omega) (by omega) rfl hWd
          have hEN : wdEr ⟨r, (f + by_ % 3), lo, tm, ps⟩ use ev = 0 := by unfold wdEr; rw [hN]; rfl
          have dd1 : decide (wdt ⟨r, f, lo, tm, ps⟩ use ev ≤ wdt ⟨r, (f + by_ % 3), lo, tm, ps⟩ use ev) = true := decide_eq_true hml.1
          have dd2 : decide (0 ≤ wdt ⟨r, f, lo, tm, ps⟩ use ev) = true := decide_eq_true hml.2
          have HEN := hide hEN
          clear hml hN hEN
          go_wp2_with fail
          refine (wdWidthS_any r f lo tm _ ps _ use ev _ (HP.out _ (HL.out _ B6).1).1 (HP.out _ (HL.out _ B6).1).2).mono ?_
          rintro e w7 ⟨rfl, b7⟩
          rw [HE.out]
          have zz7 := b7.size
          have B7 : Below (w.heap.size + 2) ((w.alloc (.cells #[.int .i64 r, .int .i64 f, .int .i64 lo, .int .i64 tm, .slice (some ⟨pb, po, none⟩) ps.length pc] 24)).alloc (.cells #[.slice ua use.length uc, .int .i64 ev] 27)) w7 := (by ((repeat' (first | with_reducible exact Below.refl _ _ | with_reducible exact b7 | with_reducible exact B6 | with_reducible refine Below.alloc ?_ ?_ _ | with_reducible refine Below.setCell ?_ ?_ _ | with_reducible refine Below.drew ?_ | with_reducible refine below_drewN ?_ _ | with_reducible refine Below.trans ?_ (b7.mono ?_) | with_reducible refine Below.trans ?_ (B6.mono ?_))) <;> (first | omega | (simp; done) | (simp; omega))))
          obtain ⟨kb7_0, fb7_0, zb7_0, zab7_0, zbb7_0, zcb7_0, zdb7_0, zeb7_0⟩ := bk3 b7 (T) (by first | omega | (simp; done) | (simp; omega)); obtain ⟨kb7_1, fb7_1, zb7_1, zab7_1, zbb7_1, zcb7_1, zdb7_1, zeb7_1⟩ := bk3 b7 (D) (by first | omega | (simp; done) | (simp; omega))
          have Hrow7 := hide (Hrow6.out.below (Nat.le_refl _) b7)
          clear y0 y1 y2 y3 y4 x0 x1
          go_wp2_with fail
          refine (wdWidthS_any r (f + by_ % 3) lo tm _ ps _ use ev _ Hrow7.out (HP.out _ (HL.out _ B7).1).2).mono ?_
          rintro e w8 ⟨rfl, b8⟩
          rw [HEN.out]
          have B8 : Below (w.heap.size + 2) ((w.alloc (.cells #[.int .i64 r, .int .i64 f, .int .i64 lo, .int .i64 tm, .slice (some ⟨pb, po, none⟩) ps.length pc] 24)).alloc (.cells #[.slice ua use.length uc, .int .i64 ev] 27)) w8 := (by ((repeat' (first | with_reducible exact Below.refl _ _ | with_reducible exact b8 | with_reducible exact B7 | with_reducible refine Below.alloc ?_ ?_ _ | with_reducible refine Below.setCell ?_ ?_ _ | with_reducible refine Below.drew ?_ | with_reducible refine below_drewN ?_ _ | with_reducible refine Below.trans ?_ (b8.mono ?_) | with_reducible refine Below.trans ?_ (B7.mono ?_))) <;> (first | omega | (simp; done) | (simp; omega))))
          go_wp2_with fail
          go_ret
          exact ⟨by first | rfl | exact ret_bool (by simp), (HL.out _ B8).1⟩
      · have fB : 0 ≤ by_ % 3 ∧ by_ % 3 ≤ 2 := by omega
        have e0x := (World.cell?_setCell_other w5 ⟨T, 2, none⟩ ⟨T, 0, none⟩ (.int .i64 (lo + by_ % 3)) (fun e => by injection e with _ h2; revert h2; decide)).trans e0
        have e1x := (World.cell?_setCell_other w5 ⟨T, 2, none⟩ ⟨T, 1, none⟩ (.int .i64 (lo + by_ % 3)) (fun e => by injection e with _ h2; revert h2; decide)).trans e1
        have e2x := World.cell?_setCell_same' w5 ⟨T, 2, none⟩ (.int .i64 (lo + by_ % 3)) (by rw [e2]; rfl)
        have e3x := (World.cell?_setCell_other w5 ⟨T, 2, none⟩ ⟨T, 3, none⟩ (.int .i64 (lo + by_ % 3)) (fun e => by injection e with _ h2; revert h2; decide)).trans e3
        have e4x := (World.cell?_setCell_other w5 ⟨T, 2, none⟩ ⟨T, 4, none⟩ (.int .i64 (lo + by_ % 3)) (fun e => by injection e with _ h2; revert h2; decide)).trans e4
        have e5x := (World.cell?_setCell_other w5 ⟨T, 2, none⟩ ⟨D, 0, none⟩ (.int .i64 (lo + by_ % 3)) (fun e => by injection e with h1; exact hne h1)).trans e5
        have e6x := (World.cell?_setCell_other w5 ⟨T, 2, none⟩ ⟨D, 1, none⟩ (.int .i64 (lo + by_ % 3)) (fun e => by injection e with h1; exact hne h1)).trans e6
        have BX : Below (w.heap.size + 2) ((w.alloc (.cells #[.int .i64 r, .int .i64 f, .int .i64 lo, .int .i64 tm, .slice (some ⟨pb, po, none⟩) ps.length pc] 24)).alloc (.cells #[.slice ua use.length uc, .int .i64 ev] 27)) (w5.setCell ⟨T, 2, none⟩ (.int .i64 (lo + by_ % 3))) := B5.setCell (by show w.heap.size + 2 ≤ T; omega) _
        have zX : (w5.setCell ⟨T, 2, none⟩ (.int .i64 (lo + by_ % 3))).heap.size = w5.heap.size := by simp
        have Hrow := hide (OwnPs.row (base := wc.heap.size) (c := ps) (ownsRow_setCell_below (a := ⟨T, 2, none⟩) Hown5.out (by show T < wc.heap.size; omega) (.int .i64 (lo + by_ % 3))))
        have hWd : Wider ps ps := Wider.refl ps
        have ztX : T < w5.heap.size := by omega
        have zdX : D < w5.heap.size := by omega
        go_upto_region 17 with fail
        clear y0 y1 y2 y3 y4 x0 x1 e0 e1 e2 e3 e4 e5 e6
        generalize (w5.setCell ⟨T, 2, none⟩ (.int .i64 (lo + by_ % 3))) = wX at *
        obtain ⟨y0, y1, y2, y3, y4, x0, x1⟩ := HS.out wX BX
        go_wp2_with fail
        refine (R29Right_any r f (lo + by_ % 3) tm _ ps _ use ev _ Hrow.out (HP.out _ (HL.out _ BX).1).2 hun).mono ?_
        rintro e w6 ⟨rfl, b6⟩
        have zz := b6.size
        have B6 : Below (w.heap.size + 2) ((w.alloc (.cells #[.int .i64 r, .int .i64 f, .int .i64 lo, .int .i64 tm, .slice (some ⟨pb, po, none⟩) ps.length pc] 24)).alloc (.cells #[.slice ua use.length uc, .int .i64 ev] 27)) w6 := (by ((repeat' (first | with_reducible exact Below.refl _ _ | with_reducible exact b6 | with_reducible exact BX | with_reducible refine Below.alloc ?_ ?_ _ | with_reducible refine Below.setCell ?_ ?_ _ | with_reducible refine Below.drew ?_ | with_reducible refine below_drewN ?_ _ | with_reducible refine Below.trans ?_ (b6.mono ?_) | with_reducible refine Below.trans ?_ (BX.mono ?_))) <;> (first | omega | (simp; done) | (simp; omega))))
        obtain ⟨kb6_0, fb6_0, zb6_0, zab6_0, zbb6_0, zcb6_0, zdb6_0, zeb6_0⟩ := bk3 b6 (T) (by first | omega | (simp; done) | (simp; omega)); obtain ⟨kb6_1, fb6_1, zb6_1, zab6_1, zbb6_1, zcb6_1, zdb6_1, zeb6_1⟩ := bk3 b6 (D) (by first | omega | (simp; done) | (simp; omega))
        have Hrow6 := hide (Hrow.out.below (Nat.le_refl _) b6)
        clear y0 y1 y2 y3 y4 x0 x1
        obtain ⟨y0, y1, y2, y3, y4, x0, x1⟩ := HS.out w6 B6
        cases hN : rgB ⟨r, f, (lo + by_ % 3), tm, ps⟩ use ev with
        | false =>
          go_wp2_with fail
          go_ret
          exact ⟨rfl, (HL.out _ B6).1⟩
        | true =>
          have hml := more_law HR.out hN (by simp only; omega) (by simp only; omega) (by simp only; omega) (by omega) rfl hWd
          have hEN : wdEr ⟨r, f, (lo + by_ % 3), tm, ps⟩ use ev = 0 := by unfold wdEr; rw [hN]; rfl
          have dd1 : decide (wdt ⟨r, f, lo, tm, ps⟩ use ev ≤ wdt ⟨r, f, (lo + by_ % 3), tm, ps⟩ use ev) = true := decide_eq_true hml.1
          have dd2 : decide (0 ≤ wdt ⟨r, f, lo, tm, ps⟩ use ev) = true := decide_eq_true hml.2
          have HEN := hide hEN
          clear hml hN hEN
          go_wp2_with fail
          refine (wdWidthS_any r f lo tm _ ps _ use ev _ (HP.out _ (HL.out _ B6).1).1 (HP.out _ (HL.out _ B6).1).2).mono ?_
          rintro e w7 ⟨rfl, b7⟩
          rw [HE.out]
          have zz7 := b7.size
          have B7 : Below (w.heap.size + 2) ((w.alloc (.cells #[.int .i64 r, .int .i64 f, .int .i64 lo, .int .i64 tm, .slice (some ⟨pb, po, none⟩) ps.length pc] 24)).alloc (.cells #[.slice ua use.length uc, .int .i64 ev] 27)) w7 := (by ((repeat' (first | with_reducible exact Below.refl _ _ | with_reducible exact b7 | with_reducible exact B6 | with_reducible refine Below.alloc ?_ ?_ _ | with_reducible refine Below.setCell ?_ ?_ _ | with_reducible refine Below.drew ?_ | with_reducible refine below_drewN ?_ _ | with_reducible refine Below.trans ?_ (b7.mono ?_) | with_reducible refine Below.trans ?_ (B6.mono ?_))) <;> (first | omega | (simp; done) | (simp; omega))))
          obtain ⟨kb7_0, fb7_0, zb7_0, zab7_0, zbb7_0, zcb7_0, zdb7_0, zeb7_0⟩ := bk3 b7 (T) (by first | omega | (simp; done) | (simp; omega)); obtain ⟨kb7_1, fb7_1, zb7_1, zab7_1, zbb7_1, zcb7_1, zdb7_1, zeb7_1⟩ := bk3 b7 (D) (by first | omega | (simp; done) | (simp; omega))
          have Hrow7 := hide (Hrow6.out.below (Nat.le_refl _) b7)
          clear y0 y1 y2 y3 y4 x0 x1
          go_wp2_with fail
          refine (wdWidthS_any r f (lo + by_ % 3) tm _ ps _ use ev _ Hrow7.out (HP.out _ (HL.out _ B7).1).2).mono ?_
          rintro e w8 ⟨rfl, b8⟩
          rw [HEN.out]
          have B8 : Below (w.heap.size + 2) ((w.alloc (.cells #[.int .i64 r, .int .i64 f, .int .i64 lo, .int .i64 tm, .slice (some ⟨pb, po, none⟩) ps.length pc] 24)).alloc (.cells #[.slice ua use.length uc, .int .i64 ev] 27)) w8 := (by ((repeat' (first | with_reducible exact Below.refl _ _ | with_reducible exact b8 | with_reducible exact B7 | with_reducible refine Below.alloc ?_ ?_ _ | with_reducible refine Below.setCell ?_ ?_ _ | with_reducible refine Below.drew ?_ | with_reducible refine below_drewN ?_ _ | with_reducible refine Below.trans ?_ (b8.mono ?_) | with_reducible refine Below.trans ?_ (B7.mono ?_))) <;> (first | omega | (simp; done) | (simp; omega))))
          go_wp2_with fail
          go_ret
          exact ⟨by first | rfl | exact ret_bool (by simp), (HL.out _ B8).1⟩
      · have e0x := (World.cell?_setCell_other w5 ⟨D, 1, none⟩ ⟨T, 0, none⟩ (.int .i64 (ev + by_)) (fun e => by injection e with h1; exact hne h1.symm)).trans e0
        have e1x := (World.cell?_setCell_other w5 ⟨D, 1, none⟩ ⟨T, 1, none⟩ (.int .i64 (ev + by_)) (fun e => by injection e with h1; exact hne h1.symm)).trans e1
        have e2x := (World.cell?_setCell_other w5 ⟨D, 1, none⟩ ⟨T, 2, none⟩ (.int .i64 (ev + by_)) (fun e => by injection e with h1; exact hne h1.symm)).trans e2
        have e3x := (World.cell?_setCell_other w5 ⟨D, 1, none⟩ ⟨T, 3, none⟩ (.int .i64 (ev + by_)) (fun e => by injection e with h1; exact hne h1.symm)).trans e3
        have e4x := (World.cell?_setCell_other w5 ⟨D, 1, none⟩ ⟨T, 4, none⟩ (.int .i64 (ev + by_)) (fun e => by injection e with h1; exact hne h1.symm)).trans e4
        have e5x := (World.cell?_setCell_other w5 ⟨D, 1, none⟩ ⟨D, 0, none⟩ (.int .i64 (ev + by_)) (fun e => by injection e with _ h2; revert h2; decide)).trans e5
        have e6x := World.cell?_setCell_same' w5 ⟨D, 1, none⟩ (.int .i64 (ev + by_)) (by rw [e6]; rfl)
        have BX : Below (w.heap.size + 2) ((w.alloc (.cells #[.int .i64 r, .int .i64 f, .int .i64 lo, .int .i64 tm, .slice (some ⟨pb, po, none⟩) ps.length pc] 24)).alloc (.cells #[.slice ua use.length uc, .int .i64 ev] 27)) (w5.setCell ⟨D, 1, none⟩ (.int .i64 (ev + by_))) := B5.setCell (by show w.heap.size + 2 ≤ D; omega) _
        have zX : (w5.setCell ⟨D, 1, none⟩ (.int .i64 (ev + by_))).heap.size = w5.heap.size := by simp
        have Hrow := hide (OwnPs.row (base := wc.heap.size) (c := ps) (ownsRow_setCell_below (a := ⟨D, 1, none⟩) Hown5.out (by show D < wc.heap.size; omega) (.int .i64 (ev + by_))))
        have hWd : Wider ps ps := Wider.refl ps
        have ztX : T < w5.heap.size := by omega
        have zdX : D < w5.heap.size := by omega
        go_upto_region 17 with fail
        clear y0 y1 y2 y3 y4 x0 x1 e0 e1 e2 e3 e4 e5 e6
        generalize (w5.setCell ⟨D, 1, none⟩ (.int .i64 (ev + by_))) = wX at *
        obtain ⟨y0, y1, y2, y3, y4, x0, x1⟩ := HS.out wX BX
        go_wp2_with fail
        refine (R29Right_any r f lo tm _ ps _ use (ev + by_) _ Hrow.out (HP.out _ (HL.out _ BX).1).2 hun).mono ?_
        rintro e w6 ⟨rfl, b6⟩
        have zz := b6.size
        have B6 : Below (w.heap.size + 2) ((w.alloc (.cells #[.int .i64 r, .int .i64 f, .int .i64 lo, .int .i64 tm, .slice (some ⟨pb, po, none⟩) ps.length pc] 24)).alloc (.cells #[.slice ua use.length uc, .int .i64 ev] 27)) w6 := (by ((repeat' (first | with_reducible exact Below.refl _ _ | with_reducible exact b6 | with_reducible exact BX | with_reducible refine Below.alloc ?_ ?_ _ | with_reducible refine Below.setCell ?_ ?_ _ | with_reducible refine Below.drew ?_ | with_reducible refine below_drewN ?_ _ | with_reducible refine Below.trans ?_ (b6.mono ?_) | with_reducible refine Below.trans ?_ (BX.mono ?_))) <;> (first | omega | (simp; done) | (simp; omega))))
        obtain ⟨kb6_0, fb6_0, zb6_0, zab6_0, zbb6_0, zcb6_0, zdb6_0, zeb6_0⟩ := bk3 b6 (T) (by first | omega | (simp; done) | (simp; omega)); obtain ⟨kb6_1, fb6_1, zb6_1, zab6_1, zbb6_1, zcb6_1, zdb6_1, zeb6_1⟩ := bk3 b6 (D) (by first | omega | (simp; done) | (simp; omega))
        have Hrow6 := hide (Hrow.out.below (Nat.le_refl _) b6)
        clear y0 y1 y2 y3 y4 x0 x1
        obtain ⟨y0, y1, y2, y3, y4, x0, x1⟩ := HS.out w6 B6
        cases hN : rgB ⟨r, f, lo, tm, ps⟩ use (ev + by_) with
        | false =>
          go_wp2_with fail
          go_ret
          exact ⟨rfl, (HL.out _ B6).1⟩
        | true =>
          have hml := more_law HR.out hN (by simp only; omega) (by simp only; omega) (by simp only; omega) (by omega) rfl hWd
          have hEN : wdEr ⟨r, f, lo, tm, ps⟩ use (ev + by_) = 0 := by unfold wdEr; rw [hN]; rfl
          have dd1 : decide (wdt ⟨r, f, lo, tm, ps⟩ use ev ≤ wdt ⟨r, f, lo, tm, ps⟩ use (ev + by_)) = true := decide_eq_true hml.1
          have dd2 : decide (0 ≤ wdt ⟨r, f, lo, tm, ps⟩ use ev) = true := decide_eq_true hml.2
          have HEN := hide hEN
          clear hml hN hEN
          go_wp2_with fail
          refine (wdWidthS_any r f lo tm _ ps _ use ev _ (HP.out _ (HL.out _ B6).1).1 (HP.out _ (HL.out _ B6).1).2).mono ?_
          rintro e w7 ⟨rfl, b7⟩
          rw [HE.out]
          have zz7 := b7.size
          have B7 : Below (w.heap.size + 2) ((w.alloc (.cells #[.int .i64 r, .int .i64 f, .int .i64 lo, .int .i64 tm, .slice (some ⟨pb, po, none⟩) ps.length pc] 24)).alloc (.cells #[.slice ua use.length uc, .int .i64 ev] 27)) w7 := (by ((repeat' (first | with_reducible exact Below.refl _ _ | with_reducible exact b7 | with_reducible exact B6 | with_reducible refine Below.alloc ?_ ?_ _ | with_reducible refine Below.setCell ?_ ?_ _ | with_reducible refine Below.drew ?_ | with_reducible refine below_drewN ?_ _ | with_reducible refine Below.trans ?_ (b7.mono ?_) | with_reducible refine Below.trans ?_ (B6.mono ?_))) <;> (first | omega | (simp; done) | (simp; omega))))
          obtain ⟨kb7_0, fb7_0, zb7_0, zab7_0, zbb7_0, zcb7_0, zdb7_0, zeb7_0⟩ := bk3 b7 (T) (by first | omega | (simp; done) | (simp; omega)); obtain ⟨kb7_1, fb7_1, zb7_1, zab7_1, zbb7_1, zcb7_1, zdb7_1, zeb7_1⟩ := bk3 b7 (D) (by first | omega | (simp; done) | (simp; omega))
          have Hrow7 := hide (Hrow6.out.below (Nat.le_refl _) b7)
          clear y0 y1 y2 y3 y4 x0 x1
          go_wp2_with fail
          refine (wdWidthS_any r f lo tm _ ps _ use (ev + by_) _ Hrow7.out (HP.out _ (HL.out _ B7).1).2).mono ?_
          rintro e w8 ⟨rfl, b8⟩
          rw [HEN.out]
          have B8 : Below (w.heap.size + 2) ((w.alloc (.cells #[.int .i64 r, .int .i64 f, .int .i64 lo, .int .i64 tm, .slice (some ⟨pb, po, none⟩) ps.length pc] 24)).alloc (.cells #[.slice ua use.length uc, .int .i64 ev] 27)) w8 := (by ((repeat' (first | with_reducible exact Below.refl _ _ | with_reducible exact b8 | with_reducible exact B7 | with_reducible refine Below.alloc ?_ ?_ _ | with_reducible refine Below.setCell ?_ ?_ _ | with_reducible refine Below.drew ?_ | with_reducible refine below_drewN ?_ _ | with_reducible refine Below.trans ?_ (b8.mono ?_) | with_reducible refine Below.trans ?_ (B7.mono ?_))) <;> (first | omega | (simp; done) | (simp; omega))))
          go_wp2_with fail
          go_ret
          exact ⟨by first | rfl | exact ret_bool (by simp), (HL.out _ B8).1⟩
      · obtain ⟨q, hqe⟩ : ∃ q : Nat, k8 % (ps.length : Int) = q := ⟨(k8 % (ps.length : Int)).toNat, by have := Int.emod_nonneg k8 (show (ps.length : Int) ≠ 0 by omega); omega⟩
        have hql : q < ps.length := by have := Int.emod_lt_of_pos k8 (show (0 : Int) < (ps.length : Int) by omega); omega
        have hqt : k8.tmod (ps.length : Int) = q := by rw [Int.tmod_eq_emod_of_nonneg hk8.1, hqe]
        obtain ⟨X, hX⟩ : ∃ X : Int, X = by_ % 5000 := ⟨_, rfl⟩
        have hX0 : 0 ≤ X ∧ X ≤ 4999 := by omega
        have hXe : by_ % 5000 = X := hX.symm
        have hXt : by_.tmod 5000 = X := by rw [Int.tmod_eq_emod_of_nonneg hby0.1, hXe]
        have hEr := (Her.out q hql).1
        have fE : IntKind.i64.wrap ((pAt ps q).er + X) = (pAt ps q).er + X := IntWalk.i64_in _ (by omega)
        have cE : w5.cell? ⟨gB, q * 8 + 1, none⟩ = some (.int .i64 (pAt ps q).er) := (World.ownsRow.cellAt Hown5.out (q * 8 + 1) (by omega)).trans (encPs_at ps q hql).2.1
        have gE : ∀ o, w5.frozen? ⟨gB, o, none⟩ = false := fun o => World.ownsRow.frozenAt Hown5.out o
        have I1 : (0 : Int) ≤ (q : Int) := by omega
        have I2 : (q : Int) < (ps.length : Int) := by omega
        have nz : ¬ (ps.length : Int) = 0 := by omega
        have zg : gB < w5.heap.size := by omega
        clear hX
        go_upto_region 16 with fail
        go_region
        go_upto_region 17 with fail
        have e0x : (w5.setCell ⟨gB, q * 8 + 1, none⟩ (.int .i64 ((pAt ps q).er + X))).drew.cell? ⟨T, 0, none⟩ = some (.int .i64 r) := (World.cell?_setCell_other w5 ⟨gB, q * 8 + 1, none⟩ ⟨T, 0, none⟩ (.int .i64 ((pAt ps q).er + X)) (fun e => by injection e with h1; omega)).trans e0
        have e1x : (w5.setCell ⟨gB, q * 8 + 1, none⟩ (.int .i64 ((pAt ps q).er + X))).drew.cell? ⟨T, 1, none⟩ = some (.int .i64 f) := (World.cell?_setCell_other w5 ⟨gB, q * 8 + 1, none⟩ ⟨T, 1, none⟩ (.int .i64 ((pAt ps q).er + X)) (fun e => by injection e with h1; omega)).trans e1
        have e2x : (w5.setCell ⟨gB, q * 8 + 1, none⟩ (.int .i64 ((pAt ps q).er + X))).drew.cell? ⟨T, 2, none⟩ = some (.int .i64 lo) := (World.cell?_setCell_other w5 ⟨gB, q * 8 + 1, none⟩ ⟨T, 2, none⟩ (.int .i64 ((pAt ps q).er + X)) (fun e => by injection e with h1; omega)).trans e2
        have e3x : (w5.setCell ⟨gB, q * 8 + 1, none⟩ (.int .i64 ((pAt ps q).er + X))).drew.cell? ⟨T, 3, none⟩ = some (.int .i64 tm) := (World.cell?_setCell_other w5 ⟨gB, q * 8 + 1, none⟩ ⟨T, 3, none⟩ (.int .i64 ((pAt ps q).er + X)) (fun e => by injection e with h1; omega)).trans e3
        have e4x : (w5.setCell ⟨gB, q * 8 + 1, none⟩ (.int .i64 ((pAt ps q).er + X))).drew.cell? ⟨T, 4, none⟩ = some (.slice (some ⟨gB, 0, none⟩) ps.length cap4) := (World.cell?_setCell_other w5 ⟨gB, q * 8 + 1, none⟩ ⟨T, 4, none⟩ (.int .i64 ((pAt ps q).er + X)) (fun e => by injection e with h1; omega)).trans e4
        have e5x : (w5.setCell ⟨gB, q * 8 + 1, none⟩ (.int .i64 ((pAt ps q).er + X))).drew.cell? ⟨D, 0, none⟩ = some (.slice ua use.length uc) := (World.cell?_setCell_other w5 ⟨gB, q * 8 + 1, none⟩ ⟨D, 0, none⟩ (.int .i64 ((pAt ps q).er + X)) (fun e => by injection e with h1; omega)).trans e5
        have e6x : (w5.setCell ⟨gB, q * 8 + 1, none⟩ (.int .i64 ((pAt ps q).er + X))).drew.cell? ⟨D, 1, none⟩ = some (.int .i64 ev) := (World.cell?_setCell_other w5 ⟨gB, q * 8 + 1, none⟩ ⟨D, 1, none⟩ (.int .i64 ((pAt ps q).er + X)) (fun e => by injection e with h1; omega)).trans e6
        have BX : Below (w.heap.size + 2) ((w.alloc (.cells #[.int .i64 r, .int .i64 f, .int .i64 lo, .int .i64 tm, .slice (some ⟨pb, po, none⟩) ps.length pc] 24)).alloc (.cells #[.slice ua use.length uc, .int .i64 ev] 27)) (w5.setCell ⟨gB, q * 8 + 1, none⟩ (.int .i64 ((pAt ps q).er + X))).drew := (B5.setCell (by show w.heap.size + 2 ≤ gB; omega) _).drew
        have zX : (w5.setCell ⟨gB, q * 8 + 1, none⟩ (.int .i64 ((pAt ps q).er + X))).drew.heap.size = w5.heap.size := by show (w5.setCell ⟨gB, q * 8 + 1, none⟩ (.int .i64 ((pAt ps q).er + X))).heap.size = _; simp
        have hst := (World.ownsRow.stored Hown5.out (q * 8 + 1) (.int .i64 ((pAt ps q).er + X))).1
        rw [encPs_set X ps q hql] at hst
        have hownX : OwnPs (w5.setCell ⟨gB, q * 8 + 1, none⟩ (.int .i64 ((pAt ps q).er + X))).drew wc.heap.size (.slice (some ⟨gB, 0, none⟩) ps.length cap4) (erL ps q X) := by
          unfold OwnPs
          rw [erL_length]
          exact ownsRow_below hst ((Below.refl _ _).drew)
        have Hrow := hide hownX.row
        have hWd : Wider ps (erL ps q X) := erL_wider ps q X hql hX0.1
        have ztX : T < w5.heap.size := by omega
        have zdX : D < w5.heap.size := by omega
        clear y0 y1 y2 y3 y4 x0 x1 e0 e1 e2 e3 e4 e5 e6 hst hownX cE gE fE
        generalize (w5.setCell ⟨gB, q * 8 + 1, none⟩ (.int .i64 ((pAt ps q).er + X))).drew = wX at *
        obtain ⟨y0, y1, y2, y3, y4, x0, x1⟩ := HS.out wX BX
        go_wp2_with fail
        refine (R29Right_any r f lo tm _ (erL ps q X) _ use ev _ Hrow.out (HP.out _ (HL.out _ BX).1).2 hun).mono ?_
        rintro e w6 ⟨rfl, b6⟩
        have zz := b6.size
        have B6 : Below (w.heap.size + 2) ((w.alloc (.cells #[.int .i64 r, .int .i64 f, .int .i64 lo, .int .i64 tm, .slice (some ⟨pb, po, none⟩) ps.length pc] 24)).alloc (.cells #[.slice ua use.length uc, .int .i64 ev] 27)) w6 := (by ((repeat' (first | with_reducible exact Below.refl _ _ | with_reducible exact b6 | with_reducible exact BX | with_reducible refine Below.alloc ?_ ?_ _ | with_reducible refine Below.setCell ?_ ?_ _ | with_reducible refine Below.drew ?_ | with_reducible refine below_drewN ?_ _ | with_reducible refine Below.trans ?_ (b6.mono ?_) | with_reducible refine Below.trans ?_ (BX.mono ?_))) <;> (first | omega | (simp; done) | (simp; omega))))
        obtain ⟨kb6_0, fb6_0, zb6_0, zab6_0, zbb6_0, zcb6_0, zdb6_0, zeb6_0⟩ := bk3 b6 (T) (by first | omega | (simp; done) | (simp; omega)); obtain ⟨kb6_1, fb6_1, zb6_1, zab6_1, zbb6_1, zcb6_1, zdb6_1, zeb6_1⟩ := bk3 b6 (D) (by first | omega | (simp; done) | (simp; omega))
        have Hrow6 := hide (Hrow.out.below (Nat.le_refl _) b6)
        clear y0 y1 y2 y3 y4 x0 x1
        obtain ⟨y0, y1, y2, y3, y4, x0, x1⟩ := HS.out w6 B6
        cases hN : rgB ⟨r, f, lo, tm, (erL ps q X)⟩ use ev with
        | false =>
          go_wp2_with fail
          go_ret
          exact ⟨rfl, (HL.out _ B6).1⟩
        | true =>
          have hml := more_law HR.out hN (by simp only; omega) (by simp only; omega) (by simp only; omega) (by omega) rfl hWd
          have hEN : wdEr ⟨r, f, lo, tm, (erL ps q X)⟩ use ev = 0 := by unfold wdEr; rw [hN]; rfl
          have dd1 : decide (wdt ⟨r, f, lo, tm, ps⟩ use ev ≤ wdt ⟨r, f, lo, tm, (erL ps q X)⟩ use ev) = true := decide_eq_true hml.1
          have dd2 : decide (0 ≤ wdt ⟨r, f, lo, tm, ps⟩ use ev) = true := decide_eq_true hml.2
          have HEN := hide hEN
          clear hml hN hEN
          go_wp2_with fail
          refine (wdWidthS_any r f lo tm _ ps _ use ev _ (HP.out _ (HL.out _ B6).1).1 (HP.out _ (HL.out _ B6).1).2).mono ?_
          rintro e w7 ⟨rfl, b7⟩
          rw [HE.out]
          have zz7 := b7.size
          have B7 : Below (w.heap.size + 2) ((w.alloc (.cells #[.int .i64 r, .int .i64 f, .int .i64 lo, .int .i64 tm, .slice (some ⟨pb, po, none⟩) ps.length pc] 24)).alloc (.cells #[.slice ua use.length uc, .int .i64 ev] 27)) w7 := (by ((repeat' (first | with_reducible exact Below.refl _ _ | with_reducible exact b7 | with_reducible exact B6 | with_reducible refine Below.alloc ?_ ?_ _ | with_reducible refine Below.setCell ?_ ?_ _ | with_reducible refine Below.drew ?_ | with_reducible refine below_drewN ?_ _ | with_reducible refine Below.trans ?_ (b7.mono ?_) | with_reducible refine Below.trans ?_ (B6.mono ?_))) <;> (first | omega | (simp; done) | (simp; omega))))
          obtain ⟨kb7_0, fb7_0, zb7_0, zab7_0, zbb7_0, zcb7_0, zdb7_0, zeb7_0⟩ := bk3 b7 (T) (by first | omega | (simp; done) | (simp; omega)); obtain ⟨kb7_1, fb7_1, zb7_1, zab7_1, zbb7_1, zcb7_1, zdb7_1, zeb7_1⟩ := bk3 b7 (D) (by first | omega | (simp; done) | (simp; omega))
          have Hrow7 := hide (Hrow6.out.below (Nat.le_refl _) b7)
          clear y0 y1 y2 y3 y4 x0 x1
          go_wp2_with fail
          refine (wdWidthS_any r f lo tm _ (erL ps q X) _ use ev _ Hrow7.out (HP.out _ (HL.out _ B7).1).2).mono ?_
          rintro e w8 ⟨rfl, b8⟩
          rw [HEN.out]
          have B8 : Below (w.heap.size + 2) ((w.alloc (.cells #[.int .i64 r, .int .i64 f, .int .i64 lo, .int .i64 tm, .slice (some ⟨pb, po, none⟩) ps.length pc] 24)).alloc (.cells #[.slice ua use.length uc, .int .i64 ev] 27)) w8 := (by ((repeat' (first | with_reducible exact Below.refl _ _ | with_reducible exact b8 | with_reducible exact B7 | with_reducible refine Below.alloc ?_ ?_ _ | with_reducible refine Below.setCell ?_ ?_ _ | with_reducible refine Below.drew ?_ | with_reducible refine below_drewN ?_ _ | with_reducible refine Below.trans ?_ (b8.mono ?_) | with_reducible refine Below.trans ?_ (B7.mono ?_))) <;> (first | omega | (simp; done) | (simp; omega))))
          go_wp2_with fail
          go_ret
          exact ⟨by first | rfl | exact ret_bool (by simp), (HL.out _ B8).1⟩
set_option maxRecDepth 100000 in
theorem widthMore_holds : Rows.WidthMoreSaid :=
  OpenClaim.holds_of_wide 5 Try.f5 rfl rfl rfl rfl rfl rfl rfl ⟨rfl, rfl, rfl, rfl, rfl⟩ rfl rfl rfl rfl rfl (by kernel_rfl) Try.func5 (by kernel_rfl)
    (of_decide_eq_true (by kernel_rfl)) (by unfold Func.isWrapper; rw [if_neg (of_decide_eq_false (by kernel_rfl))]; exact ⟨rfl, rfl⟩)
    (fun os started H enc _ => law_lifted started 5 Try.f5 Try.func5 (by kernel_rfl) Rows.widthMoreSpec rfl rfl
      (fun ds h => by match ds, h with | [_, _, _, _, _], _ => exact ⟨rfl, rfl, rfl⟩)
      (fun t h => by
        rw [Try.params5] at h
        simp only [List.mem_cons, List.not_mem_nil, or_false] at h
        rcases h with rfl | rfl | rfl | rfl | rfl <;> exact ⟨by kernel_rfl, of_decide_eq_true (by kernel_rfl)⟩)
      (ChangeSpec.witness6 (enc := enc) (C := Try.checked) false ⟨#[], #[.agg #[.int .i64 0, .int .i64 0, .int .i64 0, .int .i64 0, .slice none 0 0], .agg #[.slice none 0 0, .int .i64 0], .int .u8 0, .int .u8 0, .int .u32 0], []⟩ 8 (by kernel_rfl) (by kernel_rfl) (by kernel_rfl) (by kernel_rfl))
      (fun W base args ds p hA hok => by
        rw [Try.params5] at hA hok
        obtain ⟨v0, vs0, d0, ds0, p0, q0, hargs, rfl, rfl, h0, r0⟩ := ChangeShapes.trodAll_cons hA
        obtain ⟨v1, vs1, d1, ds1, p1, q1, rfl, rfl, rfl, h1, r1⟩ := ChangeShapes.trodAll_cons r0
        obtain ⟨v2, vs2, d2, ds2, p2, q2, rfl, rfl, rfl, h2, r2⟩ := ChangeShapes.trodAll_cons r1
        obtain ⟨v3, vs3, d3, ds3, p3, q3, rfl, rfl, rfl, h3, r3⟩ := ChangeShapes.trodAll_cons r2
        obtain ⟨v4, vs4, d4, ds4, p4, q4, rfl, rfl, rfl, h4, r4⟩ := ChangeShapes.trodAll_cons r3
        obtain ⟨rfl, rfl, rfl⟩ := ChangeShapes.trodAll_nil r4
        obtain rfl : args = #[v0, v1, v2, v3, v4] := by rw [← Array.toArray_toList (xs := args), hargs]
        obtain ⟨l0, hl0⟩ := open_site (hok 0 _ v0 rfl rfl) h0
        obtain ⟨l1, hl1⟩ := open_sched (hok 1 _ v1 rfl rfl) h1
        obtain ⟨x2, rfl, hx2⟩ := open_u8 Try.underlying5 (hok 2 _ v2 rfl rfl) h2
        obtain ⟨x3, rfl, hx3⟩ := open_u8 Try.underlying5 (hok 3 _ v3 rfl rfl) h3
        obtain ⟨x4, rfl, hx4⟩ := open_u32 Try.underlying37 (hok 4 _ v4 rfl rfl) h4
        exact WdMore_any W v0 l0 hl0 v1 l1 hl1 x2 hx2 x3 hx3 x4 hx4))
end Go.Proofs.Ytbgfgpjgehkdjaa
