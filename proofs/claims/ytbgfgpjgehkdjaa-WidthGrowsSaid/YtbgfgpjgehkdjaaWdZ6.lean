/- WidthGrows: for every belief and numbers the statement answers true and leaves its arguments as they were. No condition. -/
import Derived.Test.YtbgfgpjgehkdjaaWdM
import Derived.Test.YtbgfgpjgehkdjaaWdN
import Derived.Test.YtbgfgpjgehkdjaaFg
namespace Go.Proofs.Ytbgfgpjgehkdjaa
open Go.ChangeShapes Go.WideShapes Go.ChangeAt Go.RowKit Go.Joins Go.Deep
attribute [local go_sem ↓] run_max_mx run_min_mn
section
variable {H : Type} {enc : TypeId × Value → H} {W : World} {base : Nat}
structure BeA where
  a : Int
  lo : Int
  hi : Int
def BeOk (_W : World) (v : Value) (b : BeA) : Prop := v = .agg #[.int .i64 b.a, .int .i64 b.lo, .int .i64 b.hi] ∧ (-9223372036854775808 ≤ b.a ∧ b.a ≤ 9223372036854775807) ∧ (-9223372036854775808 ≤ b.lo ∧ b.lo ≤ 9223372036854775807) ∧ (-9223372036854775808 ≤ b.hi ∧ b.hi ≤ 9223372036854775807)
set_option maxRecDepth 100000 in
theorem open_bel {v : Value} {d : DataW H} {p : List MemPlace} (hok : Value.okWide Try.prog W .any base 55 v) (h : DataW.Trod enc Try.prog W 0 (fun _ => true) true 55 v d p) : ∃ b : BeA, BeOk W v b := by
  obtain ⟨cs, G, rfl, hsz, hc⟩ := open_flat_agg (C := 3) (fun _ => .i64) Try.underlying55 (by kernel_rfl) (fun j hj => by
    match j, hj with
    | 0, _ => exact CellInt.field Try.underlying55 0 _ rfl (by decide +kernel) (CellInt.int Try.underlying3)
    | 1, _ => exact CellInt.field Try.underlying55 1 _ rfl (by decide +kernel) (CellInt.field Try.underlying41 0 _ rfl (by decide +kernel) (CellInt.int Try.underlying3))
    | 2, _ => exact CellInt.field Try.underlying55 1 _ rfl (by decide +kernel) (CellInt.field Try.underlying41 1 _ rfl (by decide +kernel) (CellInt.int Try.underlying3))) hok h
  have h0 := hc 0 (by decide)
  have h1 := hc 1 (by decide)
  have h2 := hc 2 (by decide)
  obtain ⟨l⟩ := cs
  match l, hsz with
  | [a, b, c], _ =>
    simp only [List.getElem?_toArray, List.getElem?_cons_zero, List.getElem?_cons_succ, Option.some.injEq] at h0 h1 h2
    obtain ⟨rfl, w0⟩ := h0
    obtain ⟨rfl, w1⟩ := h1
    obtain ⟨rfl, w2⟩ := h2
    exact ⟨⟨G 0, G 1, G 2⟩, rfl, wf_i64 w0, wf_i64 w1, wf_i64 w2⟩
end
/-- A belief that is carried on, and does not end at the last time, is wider by exactly the growth. -/
theorem at_grow {a lo hi r n : Int} (hn : 0 ≤ n) (h : atEr a lo hi r (a + n) = 0) (hx : atHi a lo hi r (a + n) ≠ 3000000000000000) : atHi a lo hi r (a + n) - atLo a lo hi r (a + n) = hi - lo + grw r n := by
  unfold atHi atLo at *
  rw [if_pos h] at *
  have hk : atOk a lo hi r (a + n) = true := by
    cases hh : atOk a lo hi r (a + n) with
    | true => rfl
    | false => unfold atEr at h; rw [hh] at h; simp at h
  have hel : elOk r (a + n - a) = true := by
    cases hh : elOk r (a + n - a) with
    | true => rfl
    | false =>
      unfold atEr at h
      rw [if_pos hk, if_neg (by omega), hh] at h
      simp at h
  rw [show a + n - a = n by omega] at *
  have hb := el_bd hel
  unfold atOk beB at hk
  simp only [Bool.and_eq_true, validB_iff] at hk
  have m1 := mn_spec (lo + elLo r n) 3000000000000000
  have m2 := mn_spec (hi + elHi r n) 3000000000000000
  unfold grw
  have hv := hk.1.2
  omega
theorem at_bd {a lo hi r t : Int} : (0 ≤ atLo a lo hi r t ∧ atLo a lo hi r t ≤ 3000000000000000) ∧ 0 ≤ atHi a lo hi r t ∧ atHi a lo hi r t ≤ 3000000000000000 := by
  by_cases h : atEr a lo hi r t = 0
  · unfold atLo atHi
    rw [if_pos h, if_pos h]
    have hk : atOk a lo hi r t = true := by
      cases hh : atOk a lo hi r t with
      | true => rfl
      | false => unfold atEr at h; rw [hh] at h; simp at h
    have hel : elOk r (t - a) = true := by
      cases hh : elOk r (t - a) with
      | true => rfl
      | false =>
        unfold atEr at h
        rw [if_pos hk, hh] at h
        split at h <;> simp at h
    have hb := el_bd hel
    have he := (elOk_iff _ _).1 hel
    unfold atOk beB at hk
    simp only [Bool.and_eq_true, validB_iff] at hk
    have m1 := mn_spec (lo + elLo r (t - a)) 3000000000000000
    have m2 := mn_spec (hi + elHi r (t - a)) 3000000000000000
    have hv := hk.1.2
    omega
  · unfold atLo atHi
    rw [if_neg h, if_neg h]
    omega
theorem at_valid {a lo hi r t : Int} (h : atEr a lo hi r t = 0) : (0 ≤ a ∧ a ≤ 3000000000000000) ∧ 0 ≤ lo ∧ lo ≤ hi ∧ hi ≤ 3000000000000000 := by
  have hk : atOk a lo hi r t = true := by
    cases hh : atOk a lo hi r t with
    | true => rfl
    | false => unfold atEr at h; rw [hh] at h; simp at h
  unfold atOk beB at hk
  simp only [Bool.and_eq_true, validB_iff, timeB_iff] at hk
  exact ⟨hk.1.1, hk.1.2⟩
set_option maxRecDepth 100000 in
set_option maxHeartbeats 2000000 in
theorem WdGrows_any (w : World) (v : Value) (b : BeA) (hb : BeOk w v b) (r : Int) (hr : 0 ≤ r ∧ r ≤ 4294967295) (mo : Int) (hmo : 0 ≤ mo ∧ mo ≤ 4294967295) (ct : Int) (hct : 0 ≤ ct ∧ ct ≤ 18446744073709551615) (la : Int) (hla : 0 ≤ la ∧ la ≤ 18446744073709551615) :
    Calls Try.prog 8 #[v, .int .u32 r, .int .u32 mo, .int .u64 ct, .int .u64 la] w fun e w' => e = .returned (.bool true) ∧ Below w.heap.size w w' := by
  obtain ⟨a, lo, hi⟩ := b
  obtain ⟨rfl, hba, hbl, hbh⟩ := hb
  simp only at hba hbl hbh ⊢
  obtain ⟨x, hx⟩ : ∃ x : Int, x = r % 1000001 := ⟨_, rfl⟩
  obtain ⟨y, hy⟩ : ∃ y : Int, y = mo % 1000000 := ⟨_, rfl⟩
  obtain ⟨n, hn⟩ : ∃ n : Int, n = ct % 100000000000000 := ⟨_, rfl⟩
  obtain ⟨l, hl⟩ : ∃ l : Int, l = la % 100000000000000 := ⟨_, rfl⟩
  have hx0 : 0 ≤ x ∧ x ≤ 1000000 := by omega
  have hy0 : 0 ≤ y ∧ y ≤ 999999 := by omega
  have hn0 : 0 ≤ n ∧ n ≤ 99999999999999 := by omega
  have hl0 : 0 ≤ l ∧ l ≤ 99999999999999 := by omega
  have f1 : r % 1000001 = x := hx.symm
  have f2 : mo % 1000000 = y := hy.symm
  have f3 : ct % 100000000000000 = n := hn.symm
  have f4 : la % 100000000000000 = l := hl.symm
  have hr2 : 0 ≤ r ∧ r ≤ 4294967295 := hr
  have hc0 : 0 ≤ ct := hct.1
  have hl1 : 0 ≤ la := hla.1
  clear hx hy hn hl hct hla
  have m1 := mn_spec 1000000 (x + y)
  generalize ht : mn 1000000 (x + y) = t at *
  have e1 : elOk x n = true := (elOk_iff _ _).2 (by omega)
  have e2 : elOk t (n + l) = true := (elOk_iff _ _).2 (by omega)
  have g1 := grw_bd e1
  have g2 := grw_mono e1 e2 (by omega) (by omega)
  have g3 := grw_bd e2
  have r1 : elEr x n = 0 := by unfold elEr; rw [if_pos e1]
  have r2 : elEr t (n + l) = 0 := by unfold elEr; rw [if_pos e2]
  have Hg := hide (fun a h1 h2 => at_grow (a := a) (lo := lo) (hi := hi) (r := x) (n := n) (by omega) h1 h2)
  have hG1 := wdGrowth_any x n
  have hG2 := wdGrowth_any t (n + l)
  rw [r1] at hG1
  rw [r2] at hG2
  generalize grw x n = g at *
  generalize grw t (n + l) = k at *
  have d1 : decide (g < 0) = false := decide_eq_false (by omega)
  have d2 : decide (k < g) = false := decide_eq_false (by omega)
  clear e1 e2 r1 r2 m1
  have HG1 := hide hG1
  have HG2 := hide hG2
  clear hG1 hG2
  by_cases ha : 0 ≤ a ∧ a ≤ 3000000000000000
  case neg =>
    have Hne := hide (fun t => fun h : atEr a lo hi x t = 0 => ha (at_valid h).1)
    clear ha Hg
    go_enter Try.func8, Try.ntmps8
    go_wp2_with fail
    refine (head_any _).mono ?_
    rintro e w1 ⟨rfl, b1⟩
    have z1 := b1.size
    obtain ⟨kb1_0, fb1_0, zb1_0, zab1_0, zbb1_0, zcb1_0, zdb1_0, zeb1_0⟩ := bk3 b1 (w.heap.size) (by first | omega | (simp; done) | (simp; omega))
    go_wp2_with fail
    refine (HG1.out _).mono ?_
    rintro e w2 ⟨rfl, b2⟩
    have z2 := b2.size
    obtain ⟨kb2_0, fb2_0, zb2_0, zab2_0, zbb2_0, zcb2_0, zdb2_0, zeb2_0⟩ := bk3 b2 (w.heap.size) (by first | omega | (simp; done) | (simp; omega))
    go_wp2_with fail
    refine (HG2.out _).mono ?_
    rintro e w3 ⟨rfl, b3⟩
    have z3 := b3.size
    obtain ⟨kb3_0, fb3_0, zb3_0, zab3_0, zbb3_0, zcb3_0, zdb3_0, zeb3_0⟩ := bk3 b3 (w.heap.size) (by first | omega | (simp; done) | (simp; omega))
    go_wp2_with fail
    refine (beAt_any a lo hi x _ _).mono ?_
    rintro e w4 ⟨rfl, b4⟩
    have z4 := b4.size
    generalize hT : IntKind.i64.wrap (a + n) = T
    generalize hL : atLo a lo hi x _ = L
    generalize hH : atHi a lo hi x _ = Hh
    generalize hE : atEr a lo hi x _ = E
    have hE0 : (E != 0) = true := by rw [bne_iff_ne]; intro h; rw [h] at hE; exact Hne.out _ hE
    clear hL hH hE hT
    go_wp2_with fail
    go_ret
    exact ⟨rfl, (by ((repeat' (first | with_reducible exact Below.refl _ _ | with_reducible exact b4 | with_reducible exact b3 | with_reducible exact b2 | with_reducible exact b1 | with_reducible refine Below.alloc ?_ ?_ _ | with_reducible refine Below.setCell ?_ ?_ _ | with_reducible refine Below.drew ?_ | with_reducible refine below_drewN ?_ _ | with_reducible refine Below.trans ?_ (b4.mono ?_) | with_reducible refine Below.trans ?_ (b3.mono ?_) | with_reducible refine Below.trans ?_ (b2.mono ?_) | with_reducible refine Below.trans ?_ (b1.mono ?_))) <;> (first | omega | (simp; done) | (simp; omega))))⟩
  obtain ⟨ha1, ha2⟩ := ha
  have hbd := at_bd (a := a) (lo := lo) (hi := hi) (r := x) (t := a + n)
  have hval := at_valid (a := a) (lo := lo) (hi := hi) (r := x) (t := a + n)
  have hgr := Hg.out a
  have hA := beAt_any a lo hi x (a + n)
  generalize atLo a lo hi x (a + n) = L at *
  generalize atHi a lo hi x (a + n) = Hh at *
  generalize atEr a lo hi x (a + n) = E at *
  have HA := hide hA
  clear hA Hg
  by_cases hE : E = 0
  case neg =>
    have hE0 : (E != 0) = true := by rw [bne_iff_ne]; exact hE
    clear hval hgr hbd hE
    go_enter Try.func8, Try.ntmps8
    go_wp2_with fail
    refine (head_any _).mono ?_
    rintro e w1 ⟨rfl, b1⟩
    have z1 := b1.size
    obtain ⟨kb1_0, fb1_0, zb1_0, zab1_0, zbb1_0, zcb1_0, zdb1_0, zeb1_0⟩ := bk3 b1 (w.heap.size) (by first | omega | (simp; done) | (simp; omega))
    go_wp2_with fail
    refine (HG1.out _).mono ?_
    rintro e w2 ⟨rfl, b2⟩
    have z2 := b2.size
    obtain ⟨kb2_0, fb2_0, zb2_0, zab2_0, zbb2_0, zcb2_0, zdb2_0, zeb2_0⟩ := bk3 b2 (w.heap.size) (by first | omega | (simp; done) | (simp; omega))
    go_wp2_with fail
    refine (HG2.out _).mono ?_
    rintro e w3 ⟨rfl, b3⟩
    have z3 := b3.size
    obtain ⟨kb3_0, fb3_0, zb3_0, zab3_0, zbb3_0, zcb3_0, zdb3_0, zeb3_0⟩ := bk3 b3 (w.heap.size) (by first | omega | (simp; done) | (simp; omega))
    go_wp2_with fail
    refine (HA.out _).mono ?_
    rintro e w4 ⟨rfl, b4⟩
    have z4 := b4.size
    go_wp2_with fail
    go_ret
    exact ⟨rfl, (by ((repeat' (first | with_reducible exact Below.refl _ _ | with_reducible exact b4 | with_reducible exact b3 | with_reducible exact b2 | with_reducible exact b1 | with_reducible refine Below.alloc ?_ ?_ _ | with_reducible refine Below.setCell ?_ ?_ _ | with_reducible refine Below.drew ?_ | with_reducible refine below_drewN ?_ _ | with_reducible refine Below.trans ?_ (b4.mono ?_) | with_reducible refine Below.trans ?_ (b3.mono ?_) | with_reducible refine Below.trans ?_ (b2.mono ?_) | with_reducible refine Below.trans ?_ (b1.mono ?_))) <;> (first | omega | (simp; done) | (simp; omega))))⟩
  subst hE
  obtain ⟨-, v1, v2, v3⟩ := hval rfl
  obtain ⟨⟨bl1, bl2⟩, bh1, bh2⟩ := hbd
  clear hval
  by_cases hM : Hh = 3000000000000000
  · have hM0 : (Hh == 3000000000000000) = true := by rw [beq_iff_eq]; exact hM
    clear hgr hM
    go_enter Try.func8, Try.ntmps8
    go_wp2_with fail
    refine (head_any _).mono ?_
    rintro e w1 ⟨rfl, b1⟩
    have z1 := b1.size
    obtain ⟨kb1_0, fb1_0, zb1_0, zab1_0, zbb1_0, zcb1_0, zdb1_0, zeb1_0⟩ := bk3 b1 (w.heap.size) (by first | omega | (simp; done) | (simp; omega))
    go_wp2_with fail
    refine (HG1.out _).mono ?_
    rintro e w2 ⟨rfl, b2⟩
    have z2 := b2.size
    obtain ⟨kb2_0, fb2_0, zb2_0, zab2_0, zbb2_0, zcb2_0, zdb2_0, zeb2_0⟩ := bk3 b2 (w.heap.size) (by first | omega | (simp; done) | (simp; omega))
    go_wp2_with fail
    refine (HG2.out _).mono ?_
    rintro e w3 ⟨rfl, b3⟩
    have z3 := b3.size
    obtain ⟨kb3_0, fb3_0, zb3_0, zab3_0, zbb3_0, zcb3_0, zdb3_0, zeb3_0⟩ := bk3 b3 (w.heap.size) (by first | omega | (simp; done) | (simp; omega))
    go_wp2_with fail
    refine (HA.out _).mono ?_
    rintro e w4 ⟨rfl, b4⟩
    have z4 := b4.size
    go_wp2_with fail
    go_ret
    exact ⟨rfl, (by ((repeat' (first | with_reducible exact Below.refl _ _ | with_reducible exact b4 | with_reducible exact b3 | with_reducible exact b2 | with_reducible exact b1 | with_reducible refine Below.alloc ?_ ?_ _ | with_reducible refine Below.setCell ?_ ?_ _ | with_reducible refine Below.drew ?_ | with_reducible refine below_drewN ?_ _ | with_reducible refine Below.trans ?_ (b4.mono ?_) | with_reducible refine Below.trans ?_ (b3.mono ?_) | with_reducible refine Below.trans ?_ (b2.mono ?_) | with_reducible refine Below.trans ?_ (b1.mono ?_))) <;> (first | omega | (simp; done) | (simp; omega))))⟩
  · have hM0 : (Hh == 3000000000000000) = false := by rw [beq_eq_false_iff_ne]; exact hM
    have hgr2 := hgr rfl hM
    have hfin : (Hh - L == hi - lo + g) = true := by rw [beq_iff_eq]; exact hgr2
    clear hgr hM hgr2
    go_enter Try.func8, Try.ntmps8
    go_wp2_with fail
    refine (head_any _).mono ?_
    rintro e w1 ⟨rfl, b1⟩
    have z1 := b1.size
    obtain ⟨kb1_0, fb1_0, zb1_0, zab1_0, zbb1_0, zcb1_0, zdb1_0, zeb1_0⟩ := bk3 b1 (w.heap.size) (by first | omega | (simp; done) | (simp; omega))
    go_wp2_with fail
    refine (HG1.out _).mono ?_
    rintro e w2 ⟨rfl, b2⟩
    have z2 := b2.size
    obtain ⟨kb2_0, fb2_0, zb2_0, zab2_0, zbb2_0, zcb2_0, zdb2_0, zeb2_0⟩ := bk3 b2 (w.heap.size) (by first | omega | (simp; done) | (simp; omega))
    go_wp2_with fail
    refine (HG2.out _).mono ?_
    rintro e w3 ⟨rfl, b3⟩
    have z3 := b3.size
    obtain ⟨kb3_0, fb3_0, zb3_0, zab3_0, zbb3_0, zcb3_0, zdb3_0, zeb3_0⟩ := bk3 b3 (w.heap.size) (by first | omega | (simp; done) | (simp; omega))
    go_wp2_with fail
    refine (HA.out _).mono ?_
    rintro e w4 ⟨rfl, b4⟩
    have z4 := b4.size
    obtain ⟨kb4_0, fb4_0, zb4_0, zab4_0, zbb4_0, zcb4_0, zdb4_0, zeb4_0⟩ := bk3 b4 (w.heap.size) (by first | omega | (simp; done) | (simp; omega))
    go_wp2_with fail
    go_ret
    exact ⟨by first | rfl | exact ret_bool (by simp; done), (by ((repeat' (first | with_reducible exact Below.refl _ _ | with_reducible exact b4 | with_reducible exact b3 | with_reducible exact b2 | with_reducible exact b1 | with_reducible refine Below.alloc ?_ ?_ _ | with_reducible refine Below.setCell ?_ ?_ _ | with_reducible refine Below.drew ?_ | with_reducible refine below_drewN ?_ _ | with_reducible refine Below.trans ?_ (b4.mono ?_) | with_reducible refine Below.trans ?_ (b3.mono ?_) | with_reducible refine Below.trans ?_ (b2.mono ?_) | with_reducible refine Below.trans ?_ (b1.mono ?_))) <;> (first | omega | (simp; done) | (simp; omega))))⟩
set_option maxRecDepth 100000 in
theorem widthGrows_holds : Rows.WidthGrowsSaid :=
  OpenClaim.holds_of_wide 8 Try.f8 rfl rfl rfl rfl rfl rfl rfl ⟨rfl, rfl, rfl, rfl, rfl⟩ rfl rfl rfl rfl rfl (by kernel_rfl) Try.func8 (by kernel_rfl)
    (of_decide_eq_true (by kernel_rfl)) (by unfold Func.isWrapper; rw [if_neg (of_decide_eq_false (by kernel_rfl))]; exact ⟨rfl, rfl⟩)
    (fun os started H enc _ => law_lifted started 8 Try.f8 Try.func8 (by kernel_rfl) Rows.widthGrowsSpec rfl rfl
      (fun ds h => by match ds, h with | [_, _, _, _, _], _ => exact ⟨rfl, rfl, rfl⟩)
      (fun t h => by
        rw [Try.params8] at h
        simp only [List.mem_cons, List.not_mem_nil, or_false] at h
        rcases h with rfl | rfl | rfl | rfl | rfl <;> exact ⟨by kernel_rfl, of_decide_eq_true (by kernel_rfl)⟩)
      (ChangeSpec.witness6 (enc := enc) (C := Try.checked) false ⟨#[], #[.agg #[.int .i64 0, .int .i64 0, .int .i64 0], .int .u32 0, .int .u32 0, .int .u64 0, .int .u64 0], []⟩ 8 (by kernel_rfl) (by kernel_rfl) (by kernel_rfl) (by kernel_rfl))
      (fun W base args ds p hA hok => by
        rw [Try.params8] at hA hok
        obtain ⟨v0, vs0, d0, ds0, p0, q0, hargs, rfl, rfl, h0, r0⟩ := ChangeShapes.trodAll_cons hA
        obtain ⟨v1, vs1, d1, ds1, p1, q1, rfl, rfl, rfl, h1, r1⟩ := ChangeShapes.trodAll_cons r0
        obtain ⟨v2, vs2, d2, ds2, p2, q2, rfl, rfl, rfl, h2, r2⟩ := ChangeShapes.trodAll_cons r1
        obtain ⟨v3, vs3, d3, ds3, p3, q3, rfl, rfl, rfl, h3, r3⟩ := ChangeShapes.trodAll_cons r2
        obtain ⟨v4, vs4, d4, ds4, p4, q4, rfl, rfl, rfl, h4, r4⟩ := ChangeShapes.trodAll_cons r3
        obtain ⟨rfl, rfl, rfl⟩ := ChangeShapes.trodAll_nil r4
        obtain rfl : args = #[v0, v1, v2, v3, v4] := by rw [← Array.toArray_toList (xs := args), hargs]
        obtain ⟨l0, hl0⟩ := open_bel (hok 0 _ v0 rfl rfl) h0
        obtain ⟨x1, rfl, hx1⟩ := open_u32 Try.underlying37 (hok 1 _ v1 rfl rfl) h1
        obtain ⟨x2, rfl, hx2⟩ := open_u32 Try.underlying37 (hok 2 _ v2 rfl rfl) h2
        obtain ⟨x3, rfl, hx3⟩ := open_u64 Try.underlying39 (hok 3 _ v3 rfl rfl) h3
        obtain ⟨x4, rfl, hx4⟩ := open_u64 Try.underlying39 (hok 4 _ v4 rfl rfl) h4
        exact WdGrows_any W v0 l0 hl0 x1 hx1 x2 hx2 x3 hx3 x4 hx4))
end Go.Proofs.Ytbgfgpjgehkdjaa
