/- WidthPeers: for every site, numbers and time the statement answers true and leaves its arguments as they were. No condition. -/
import Derived.Test.YtbgfgpjgehkdjaaWdM
import Derived.Test.YtbgfgpjgehkdjaaWdO
import Derived.Test.YtbgfgpjgehkdjaaFg
import Derived.Deep.DeepCutAuto
namespace Go.Proofs.Ytbgfgpjgehkdjaa
open Go.ChangeShapes Go.WideShapes Go.ChangeAt Go.RowKit Go.Joins Go.Deep
section
variable {H : Type} {enc : TypeId × Value → H} {W : World} {base : Nat}
structure A3 where
  a : Int
  b : Int
  c : Int
def A3Ok (_W : World) (v : Value) (x : A3) : Prop := v = .agg #[.int .u32 x.a, .int .u32 x.b, .int .u32 x.c] ∧ (0 ≤ x.a ∧ x.a ≤ 4294967295) ∧ (0 ≤ x.b ∧ x.b ≤ 4294967295) ∧ (0 ≤ x.c ∧ x.c ≤ 4294967295)
theorem wf_u32 {x : Int} (h : (Lit.int .u32 x).wf = true) : 0 ≤ x ∧ x ≤ 4294967295 := by
  simpa [Lit.wf, IntKind.min, IntKind.max, IntKind.signed, IntKind.bits] using h
set_option maxRecDepth 100000 in
theorem open_a3 {v : Value} {d : DataW H} {p : List MemPlace} (hok : Value.okWide Try.prog W .any base 38 v) (h : DataW.Trod enc Try.prog W 0 (fun _ => true) true 38 v d p) : ∃ x : A3, A3Ok W v x := by
  simp only [Value.okWide, Try.underlying38] at hok
  obtain ⟨cs, rfl, hsz, -⟩ := hok
  obtain ⟨fuel, hf⟩ := h
  have hc : Try.prog.cellsOf 37 = 1 := by kernel_rfl
  have key : ∀ j, j < 3 → CellInt enc Try.prog W 0 (fun _ => true) true 38 j .u32 := fun j hj => by
    have := CellInt.elem (enc := enc) (w := W) (base := 0) (spare := fun _ => true) (held := true) (j := 0) (k := .u32) Try.underlying38 j hj (by rw [hc]; decide) (CellInt.int Try.underlying37)
    rw [hc, Nat.mul_one, Nat.add_zero] at this
    exact this
  obtain ⟨n0, h0, w0⟩ := key 0 (by decide) _ _ _ hf
  obtain ⟨n1, h1, w1⟩ := key 1 (by decide) _ _ _ hf
  obtain ⟨n2, h2, w2⟩ := key 2 (by decide) _ _ _ hf
  have hs : cs.size = 3 := by rw [hsz]; kernel_rfl
  obtain ⟨l⟩ := cs
  match l, hs with
  | [a, b, c], _ =>
    simp only [Value.cells, List.getElem?_cons_zero, List.getElem?_cons_succ, Option.some.injEq] at h0 h1 h2
    subst h0 h1 h2
    exact ⟨⟨n0, n1, n2⟩, rfl, wf_u32 w0, wf_u32 w1, wf_u32 w2⟩
end
attribute [local go_sem ↓] run_max_mx run_min_mn
set_option maxRecDepth 100000 in
set_option maxHeartbeats 2000000 in
theorem WdPeers_any (w : World) (v : Value) (s : SiA) (hs : SiOk w v s) (k8 : Int) (hk8 : 0 ≤ k8 ∧ k8 ≤ 255) (u : Value) (x : A3) (hx : A3Ok w u x) (wn : Int) (hwn : 0 ≤ wn ∧ wn ≤ 18446744073709551615) :
    Calls Try.prog 4 #[v, .int .u8 k8, u, .int .u64 wn] w fun e w' => e = .returned (.bool true) ∧ Below w.heap.size w w' := by
  obtain ⟨r, f, lo, tm, pv, ps⟩ := s
  obtain ⟨x0, x1, x2⟩ := x
  obtain ⟨rfl, hp, -, -⟩ := hs
  obtain ⟨rfl, hx0, hx1, hx2⟩ := hx
  simp only at hp hx0 hx1 hx2 ⊢
  obtain ⟨pa, pc, rfl, q1, q2⟩ := hp.len
  have hP : ∀ W : World, Below w.heap.size w W → PrRow W (.slice pa ps.length pc) ps := fun W hW => hp.below (Nat.le_refl _) hW
  have HP := hide hP
  obtain ⟨t, ht⟩ : ∃ t : Int, t = wn % 2999999991000000 := ⟨_, rfl⟩
  have ht0 : 0 ≤ t ∧ t ≤ 2999999991000000 := by omega
  have ft : wn % 2999999991000000 = t := ht.symm
  have hw0 : 0 ≤ wn := hwn.1
  have hS : ∀ W : World, Below (w.heap.size + 2) ((w.alloc (.cells #[.int .i64 r, .int .i64 f, .int .i64 lo, .int .i64 tm, .slice pa ps.length pc] 24)).alloc (.cells #[.int .u32 x0, .int .u32 x1, .int .u32 x2] 38)) W → W.cell? ⟨w.heap.size, 0, none⟩ = some (.int .i64 r) ∧ W.cell? ⟨w.heap.size, 1, none⟩ = some (.int .i64 f) ∧ W.cell? ⟨w.heap.size, 2, none⟩ = some (.int .i64 lo) ∧ W.cell? ⟨w.heap.size, 3, none⟩ = some (.int .i64 tm) ∧ W.cell? ⟨w.heap.size, 4, none⟩ = some (.slice pa ps.length pc) ∧
      W.cell? ⟨w.heap.size + 1, 0, none⟩ = some (.int .u32 x0) ∧ W.cell? ⟨w.heap.size + 1, 1, none⟩ = some (.int .u32 x1) ∧ W.cell? ⟨w.heap.size + 1, 2, none⟩ = some (.int .u32 x2) := by
    intro W hW
    have hc := (bk hW w.heap.size (by omega)).1
    have hd := (bk hW (w.heap.size + 1) (by omega)).1
    exact ⟨(hc 0).trans (by simp), (hc 1).trans (by simp), (hc 2).trans (by simp), (hc 3).trans (by simp), (hc 4).trans (by simp), (hd 0).trans (by simp), (hd 1).trans (by simp), (hd 2).trans (by simp)⟩
  have HS := hide hS
  have hL : ∀ W : World, Below (w.heap.size + 2) ((w.alloc (.cells #[.int .i64 r, .int .i64 f, .int .i64 lo, .int .i64 tm, .slice pa ps.length pc] 24)).alloc (.cells #[.int .u32 x0, .int .u32 x1, .int .u32 x2] 38)) W → Below w.heap.size w W ∧ w.heap.size + 2 ≤ W.heap.size := fun W hW => ⟨(((Below.refl _ _).alloc (Nat.le_refl _) _).alloc (by simp) _).trans (hW.mono (by omega)), by have := hW.size; simpa using this⟩
  have HL := hide hL
  clear hP hS hL ht hwn
  cases hv : siB ⟨r, f, lo, tm, ps⟩ with
  | false =>
    clear hp
    go_enter Try.func4, Try.ntmps4
    go_wp2_with fail
    refine (head_any _).mono ?_
    rintro e w1 ⟨rfl, b1⟩
    have B1 : Below (w.heap.size + 2) ((w.alloc (.cells #[.int .i64 r, .int .i64 f, .int .i64 lo, .int .i64 tm, .slice pa ps.length pc] 24)).alloc (.cells #[.int .u32 x0, .int .u32 x1, .int .u32 x2] 38)) w1 := b1.mono (by simp)
    have z1 := (HL.out _ B1).2
    obtain ⟨y0, y1, y2, y3, y4, v0, v1, v2⟩ := HS.out w1 B1
    clear b1
    go_wp2_with fail
    refine (R29Valid_any r f lo tm _ ps _ (HP.out _ (HL.out _ B1).1)).mono ?_
    rintro e w2 ⟨rfl, b2⟩
    rw [hv]
    go_wp2_with fail
    go_ret
    have B2 := (HL.out _ B1).1
    exact ⟨rfl, (by ((repeat' (first | with_reducible exact Below.refl _ _ | with_reducible exact b2 | with_reducible exact B2 | with_reducible refine Below.alloc ?_ ?_ _ | with_reducible refine Below.setCell ?_ ?_ _ | with_reducible refine Below.drew ?_ | with_reducible refine below_drewN ?_ _ | with_reducible refine Below.trans ?_ (b2.mono ?_) | with_reducible refine Below.trans ?_ (B2.mono ?_))) <;> (first | omega | (simp; done) | (simp; omega))))⟩
  | true =>
    rcases Nat.eq_zero_or_pos ps.length with hn0 | hn0
    · have d0 : ((ps.length : Int) == 0) = true := by rw [beq_iff_eq]; omega
      have Hn := hide hn0
      clear hp hn0
      go_enter Try.func4, Try.ntmps4
      go_wp2_with fail
      refine (head_any _).mono ?_
      rintro e w1 ⟨rfl, b1⟩
      have B1 : Below (w.heap.size + 2) ((w.alloc (.cells #[.int .i64 r, .int .i64 f, .int .i64 lo, .int .i64 tm, .slice pa ps.length pc] 24)).alloc (.cells #[.int .u32 x0, .int .u32 x1, .int .u32 x2] 38)) w1 := b1.mono (by simp)
      have z1 := (HL.out _ B1).2
      obtain ⟨y0, y1, y2, y3, y4, v0, v1, v2⟩ := HS.out w1 B1
      clear b1
      go_wp2_with fail
      refine (R29Valid_any r f lo tm _ ps _ (HP.out _ (HL.out _ B1).1)).mono ?_
      rintro e w2 ⟨rfl, b2⟩
      have B2 : Below (w.heap.size + 2) ((w.alloc (.cells #[.int .i64 r, .int .i64 f, .int .i64 lo, .int .i64 tm, .slice pa ps.length pc] 24)).alloc (.cells #[.int .u32 x0, .int .u32 x1, .int .u32 x2] 38)) w2 := (by ((repeat' (first | with_reducible exact Below.refl _ _ | with_reducible exact b2 | with_reducible exact B1 | with_reducible refine Below.alloc ?_ ?_ _ | with_reducible refine Below.setCell ?_ ?_ _ | with_reducible refine Below.drew ?_ | with_reducible refine below_drewN ?_ _ | with_reducible refine Below.trans ?_ (b2.mono ?_) | with_reducible refine Below.trans ?_ (B1.mono ?_))) <;> (first | omega | (simp; done) | (simp; omega))))
      clear y0 y1 y2 y3 y4 v0 v1 v2
      obtain ⟨y0, y1, y2, y3, y4, v0, v1, v2⟩ := HS.out w2 B2
      rw [hv]
      go_wp2_with fail
      go_ret
      exact ⟨rfl, (HL.out _ B2).1⟩
    · have d0 : ((ps.length : Int) == 0) = false := by rw [beq_eq_false_iff_ne]; omega
      obtain ⟨q, hqe⟩ : ∃ q : Nat, k8 % (ps.length : Int) = q := ⟨(k8 % (ps.length : Int)).toNat, by have := Int.emod_nonneg k8 (show (ps.length : Int) ≠ 0 by omega); omega⟩
      have hql : q < ps.length := by have := Int.emod_lt_of_pos k8 (show (0 : Int) < (ps.length : Int) by omega); omega
      obtain ⟨h6, h7, h8⟩ := (siB_iff _).1 hv
      have hpr := h7 q hql
      have hsi := (siN_iff _).1 h6
      simp only at hpr hsi
      have hlaw := hd_law hpr t x0 x1 x2 ht0
      have hH := heard_any (pAt ps q) r tm hpr t x0 x1 x2 ht0 hx0 hx1 hx2
      have e0 : pkB ⟨r, f, lo, tm, ps⟩ (q : Int) = true := by unfold pkB; rw [hv]; simp only; rw [decide_eq_true (by omega)]; rfl
      have e1 : pkW ⟨r, f, lo, tm, ps⟩ (q : Int) = pWd (pAt ps q) := by unfold pkW; rw [e0]; simp
      have e2 : pkE ⟨r, f, lo, tm, ps⟩ (q : Int) = 0 := by unfold pkE; rw [e0]; rfl
      obtain ⟨b, off, cap, e, -, -, g4, g5⟩ := hp.at0 hn0
      simp only [Value.slice.injEq] at e
      obtain ⟨rfl, -, rfl⟩ := e
      have hT : ∀ W : World, Below w.heap.size w W → PrAt W b (off + q * 8) (pAt ps q) := fun W hW => (g5 q hql).below hW g4
      have HT := hide hT
      have hwd := si_wd hv q hql
      simp only at hwd
      have hpw : pWd (pAt ps q) = 2 * (pAt ps q).er + (pAt ps q).oh - (pAt ps q).ol := rfl
      generalize pAt ps q = p at *
      obtain ⟨⟨l1, l2, l3, l4⟩, l5⟩ := hlaw
      generalize hdLo p t x0 x1 = L at *
      generalize hdHi p t x0 x1 x2 = G at *
      generalize pWd p = Y at *
      have dH : hasB L G t = true := by unfold hasB; exact decide_eq_true ⟨l2, l3⟩
      have dY : decide (G - L ≤ Y) = true := decide_eq_true l5
      have hpn := wdPeer_any r f lo tm (.slice (some ⟨b, off, none⟩) ps.length pc) ps (q : Int)
      rw [e1, e2] at hpn
      have Hpn := hide hpn
      have HH := hide hH
      have I1 : (0 : Int) ≤ (q : Int) := by omega
      have I2 : (q : Int) < (ps.length : Int) := by omega
      have nz : ¬ (ps.length : Int) = 0 := by omega
      clear hp hpn hH e0 e1 e2 g5 hT h6 h7 h8 hpr l5 hwd hpw hsi
      go_enter Try.func4, Try.ntmps4
      go_wp2_with fail
      refine (head_any _).mono ?_
      rintro e w1 ⟨rfl, b1⟩
      have B1 : Below (w.heap.size + 2) ((w.alloc (.cells #[.int .i64 r, .int .i64 f, .int .i64 lo, .int .i64 tm, .slice (some ⟨b, off, none⟩) ps.length pc] 24)).alloc (.cells #[.int .u32 x0, .int .u32 x1, .int .u32 x2] 38)) w1 := b1.mono (by simp)
      have z1 := (HL.out _ B1).2
      obtain ⟨y0, y1, y2, y3, y4, v0, v1, v2⟩ := HS.out w1 B1
      clear b1
      go_wp2_with fail
      refine (R29Valid_any r f lo tm _ ps _ (HP.out _ (HL.out _ B1).1)).mono ?_
      rintro e w2 ⟨rfl, b2⟩
      have B2 : Below (w.heap.size + 2) ((w.alloc (.cells #[.int .i64 r, .int .i64 f, .int .i64 lo, .int .i64 tm, .slice (some ⟨b, off, none⟩) ps.length pc] 24)).alloc (.cells #[.int .u32 x0, .int .u32 x1, .int .u32 x2] 38)) w2 := (by ((repeat' (first | with_reducible exact Below.refl _ _ | with_reducible exact b2 | with_reducible exact B1 | with_reducible refine Below.alloc ?_ ?_ _ | with_reducible refine Below.setCell ?_ ?_ _ | with_reducible refine Below.drew ?_ | with_reducible refine below_drewN ?_ _ | with_reducible refine Below.trans ?_ (b2.mono ?_) | with_reducible refine Below.trans ?_ (B1.mono ?_))) <;> (first | omega | (simp; done) | (simp; omega))))
      clear y0 y1 y2 y3 y4 v0 v1 v2 b2 B1 z1
      have z2 := (HL.out _ B2).2
      obtain ⟨y0, y1, y2, y3, y4, v0, v1, v2⟩ := HS.out w2 B2
      obtain ⟨p0, p1, p2, p3, p4, p5, p6, p7⟩ := HT.out w2 (HL.out _ B2).1
      rw [hv]
      go_wp2_with fail
      rw [hqe]
      have hA : ∀ W : World, Below (w.heap.size + 2) ((w.alloc (.cells #[.int .i64 r, .int .i64 f, .int .i64 lo, .int .i64 tm, .slice (some ⟨b, off, none⟩) ps.length pc] 24)).alloc (.cells #[.int .u32 x0, .int .u32 x1, .int .u32 x2] 38)) W → W.cell? ⟨b, off + q * 8, none⟩ = some (.int .i64 p.au) ∧ W.cell? ⟨b, off + q * 8 + 1, none⟩ = some (.int .i64 p.er) ∧ W.cell? ⟨b, off + q * 8 + 2, none⟩ = some (.int .i64 p.co) ∧ W.cell? ⟨b, off + q * 8 + 3, none⟩ = some (.int .i64 p.at_) ∧ W.cell? ⟨b, off + q * 8 + 4, none⟩ = some (.int .i64 p.ol) ∧ W.cell? ⟨b, off + q * 8 + 5, none⟩ = some (.int .i64 p.oh) ∧ W.cell? ⟨b, off + q * 8 + 6, none⟩ = some (.int .i64 p.bl) ∧ W.cell? ⟨b, off + q * 8 + 7, none⟩ = some (.int .i64 p.bh) ∧ W.cell? ⟨w.heap.size, 4, none⟩ = some (.slice (some ⟨b, off, none⟩) ps.length pc) ∧ W.cell? ⟨w.heap.size + 1, 0, none⟩ = some (.int .u32 x0) ∧ W.cell? ⟨w.heap.size + 1, 1, none⟩ = some (.int .u32 x1) ∧ W.cell? ⟨w.heap.size + 1, 2, none⟩ = some (.int .u32 x2) := by
        intro W hW
        obtain ⟨p0, p1, p2, p3, p4, p5, p6, p7⟩ := HT.out W (HL.out _ hW).1
        obtain ⟨y0, y1, y2, y3, y4, v0, v1, v2⟩ := HS.out W hW
        exact ⟨p0, p1, p2, p3, p4, p5, p6, p7, y4, v0, v1, v2⟩
      have HA := hide hA
      have zd : w2.drew.heap.size = w2.heap.size := rfl
      clear hqe hA
      have g4' : b < w2.heap.size := Nat.lt_of_lt_of_le g4 (HL.out _ B2).1.size
      have z2a : w.heap.size < w2.heap.size := by omega
      have z2b : w.heap.size + 1 < w2.heap.size := by omega
      go_upto_region 6 with fail
      go_cut [12, 13] (fun s12 s13 wx => ∃ g : Nat, s12 = .pointer (some ⟨g, 0, none⟩) ∧ s13 = .bool true ∧ w.heap.size + 2 ≤ g ∧ g < wx.heap.size ∧ wx.cell? ⟨g, 0, none⟩ = some (.int .i64 L) ∧ wx.cell? ⟨g, 1, none⟩ = some (.int .i64 G) ∧ Below (w.heap.size + 2) ((w.alloc (.cells #[.int .i64 r, .int .i64 f, .int .i64 lo, .int .i64 tm, .slice (some ⟨b, off, none⟩) ps.length pc] 24)).alloc (.cells #[.int .u32 x0, .int .u32 x1, .int .u32 x2] 38)) wx)
      case first =>
        go_region_with (go_at_call 21; (with_reducible refine (HH.out _).mono ?_); rintro e w3 ⟨rfl, b3⟩; have z3 := b3.size; try simp at z3; obtain ⟨kb3_0, fb3_0, zb3_0, zab3_0, zbb3_0, zcb3_0, zdb3_0, zeb3_0⟩ := bk3 b3 (w.heap.size) (by first | omega | (simp; done) | (simp; omega)); obtain ⟨kb3_1, fb3_1, zb3_1, zab3_1, zbb3_1, zcb3_1, zdb3_1, zeb3_1⟩ := bk3 b3 (w.heap.size + 1) (by first | omega | (simp; done) | (simp; omega)); obtain ⟨kb3_2, fb3_2, zb3_2, zab3_2, zbb3_2, zcb3_2, zdb3_2, zeb3_2⟩ := bk3 b3 (b) (by first | omega | (simp; done) | (simp; omega)); have kx := fun h o => (bk b3 w2.heap.size h).1 o; have fx := fun h o => (bk b3 w2.heap.size h).2 o)
        all_goals go_wp2
        all_goals go_meet
        all_goals refine ⟨_, rfl, rfl, ?_, ?_, ?_, ?_, ?_⟩
        all_goals first | (with_reducible assumption) | omega | (simp; omega) | (simp [*]; done) | (((repeat' (first | with_reducible exact Below.refl _ _ | with_reducible exact b3 | with_reducible exact B2 | with_reducible refine Below.alloc ?_ ?_ _ | with_reducible refine Below.setCell ?_ ?_ _ | with_reducible refine Below.drew ?_ | with_reducible refine below_drewN ?_ _ | with_reducible refine Below.trans ?_ (b3.mono ?_) | with_reducible refine Below.trans ?_ (B2.mono ?_))) <;> (first | omega | (simp; done) | (simp; omega)))) | (refine World.cell?_setCell_same' _ _ _ ?_; simp [*]; done) | (refine World.cell?_setCell_same' _ _ _ ?_; rw [World.cell?_setCell_other _ _ _ _ (fun e => by simp at e)]; simp [*]; done) | (refine World.cell?_setCell_same' _ _ _ ?_; rw [World.cell?_setCell_other _ _ _ _ (fun e => by simp at e), kx (by simp) 1]; simp; done) | (rw [World.cell?_setCell_other _ _ _ _ (fun e => by simp at e)]; refine World.cell?_setCell_same' _ _ _ ?_; simp [*]; done) | (rw [World.cell?_setCell_other _ _ _ _ (fun e => by simp at e)]; refine World.cell?_setCell_same' _ _ _ ?_; rw [kx (by simp) 0]; simp; done)
      case rest =>
        obtain ⟨g, rfl, rfl, hg1, hg2, c0, c1, Bc⟩ := hcut
        clear y0 y1 y2 y3 y4 v0 v1 v2 p0 p1 p2 p3 p4 p5 p6 p7 B2 z2 zd g4' z2a z2b
        obtain ⟨y0, y1, y2, y3, y4, v0, v1, v2⟩ := HS.out wc Bc
        have zc := (HL.out _ Bc).2
        have Bw := (HL.out _ Bc).1
        go_wp2_with fail
        refine (Hpn.out _ (HP.out _ (HL.out _ Bc).1)).mono ?_
        rintro e w4 ⟨rfl, b4⟩
        obtain ⟨kb4_0, fb4_0, zb4_0, zab4_0, zbb4_0, zcb4_0, zdb4_0, zeb4_0⟩ := bk3 b4 (g) (by first | omega | (simp; done) | (simp; omega))
        have z4 := b4.size
        go_wp2_with (go_at_call 22; (with_reducible refine (RHas_any _ _ _ _).mono ?_); rintro e w' ⟨rfl, rfl⟩; rw [dH])
        go_ret
        exact ⟨rfl, (by ((repeat' (first | with_reducible exact Below.refl _ _ | with_reducible exact b4 | with_reducible exact Bw | with_reducible refine Below.alloc ?_ ?_ _ | with_reducible refine Below.setCell ?_ ?_ _ | with_reducible refine Below.drew ?_ | with_reducible refine below_drewN ?_ _ | with_reducible refine Below.trans ?_ (b4.mono ?_) | with_reducible refine Below.trans ?_ (Bw.mono ?_))) <;> (first | omega | (simp; done) | (simp; omega))))⟩
set_option maxRecDepth 100000 in
theorem widthPeers_holds : Rows.WidthPeersSaid :=
  OpenClaim.holds_of_wide 4 Try.f4 rfl rfl rfl rfl rfl rfl rfl ⟨rfl, rfl, rfl, rfl, rfl⟩ rfl rfl rfl rfl rfl (by kernel_rfl) Try.func4 (by kernel_rfl)
    (of_decide_eq_true (by kernel_rfl)) (by unfold Func.isWrapper; rw [if_neg (of_decide_eq_false (by kernel_rfl))]; exact ⟨rfl, rfl⟩)
    (fun os started H enc _ => law_lifted started 4 Try.f4 Try.func4 (by kernel_rfl) Rows.widthPeersSpec rfl rfl
      (fun ds h => by match ds, h with | [_, _, _, _], _ => exact ⟨rfl, rfl, rfl⟩)
      (fun t h => by
        rw [Try.params4] at h
        simp only [List.mem_cons, List.not_mem_nil, or_false] at h
        rcases h with rfl | rfl | rfl | rfl <;> exact ⟨by kernel_rfl, of_decide_eq_true (by kernel_rfl)⟩)
      (ChangeSpec.witness6 (enc := enc) (C := Try.checked) false ⟨#[], #[.agg #[.int .i64 0, .int .i64 0, .int .i64 0, .int .i64 0, .slice none 0 0], .int .u8 0, .agg #[.int .u32 0, .int .u32 0, .int .u32 0], .int .u64 0], []⟩ 8 (by kernel_rfl) (by kernel_rfl) (by kernel_rfl) (by kernel_rfl))
      (fun W base args ds p hA hok => by
        rw [Try.params4] at hA hok
        obtain ⟨v0, vs0, d0, ds0, p0, q0, hargs, rfl, rfl, h0, r0⟩ := ChangeShapes.trodAll_cons hA
        obtain ⟨v1, vs1, d1, ds1, p1, q1, rfl, rfl, rfl, h1, r1⟩ := ChangeShapes.trodAll_cons r0
        obtain ⟨v2, vs2, d2, ds2, p2, q2, rfl, rfl, rfl, h2, r2⟩ := ChangeShapes.trodAll_cons r1
        obtain ⟨v3, vs3, d3, ds3, p3, q3, rfl, rfl, rfl, h3, r3⟩ := ChangeShapes.trodAll_cons r2
        obtain ⟨rfl, rfl, rfl⟩ := ChangeShapes.trodAll_nil r3
        obtain rfl : args = #[v0, v1, v2, v3] := by rw [← Array.toArray_toList (xs := args), hargs]
        obtain ⟨l0, hl0⟩ := open_site (hok 0 _ v0 rfl rfl) h0
        obtain ⟨x1, rfl, hx1⟩ := open_u8 Try.underlying5 (hok 1 _ v1 rfl rfl) h1
        obtain ⟨l2, hl2⟩ := open_a3 (hok 2 _ v2 rfl rfl) h2
        obtain ⟨x3, rfl, hx3⟩ := open_u64 Try.underlying39 (hok 3 _ v3 rfl rfl) h3
        exact WdPeers_any W v0 l0 hl0 x1 hx1 v2 l2 hl2 x3 hx3))
end Go.Proofs.Ytbgfgpjgehkdjaa
