
/- Package cert: comparing lists and cases, walked. -/
import Derived.Test.YtlmcoollkmhanaaCtR
import Derived.Deep.DeepCutAuto
namespace Go.Proofs.Ytlmcoollkmhanaa
open Go.RowKit

theorem int_ext {l1 l2 : List Int} (hl : l1.length = l2.length) (h : ∀ j, j < l1.length → iAt l1 j = iAt l2 j) : l1 = l2 := by
 refine List.ext_getElem hl fun i h1 h2 => ?_
 have := h i h1
 rwa [iAt_lt l1 i h1, iAt_lt l2 i h2] at this
set_option maxRecDepth 100000 in
set_option maxHeartbeats 1000000 in
theorem EqualI_any (v1 v2 : Value) (l1 l2 : List Int) (w : World) (hv1 : IsRow w v1 l1) (hv2 : IsRow w v2 l2) :
  Calls Try.prog 40 #[v1, v2] w fun e w' => e = .returned (.bool (decide (l1 = l2))) ∧ Below w.heap.size w w' := by
 obtain ⟨a1, c1, rfl, p1, p2, p3⟩ := id hv1
 obtain ⟨a2, c2, rfl, q1, q2, q3⟩ := id hv2
 have HR := hide (fun (W : World) (hW : Below w.heap.size w W) => (And.intro (hv1.below (Nat.le_refl _) hW) (hv2.below (Nat.le_refl _) hW) : IsRow W (.slice a1 l1.length c1) l1 ∧ IsRow W (.slice a2 l2.length c2) l2))
 clear p3 q3 hv1 hv2
 by_cases hl : l1.length = l2.length
 ·have d1 : ((l1.length : Int) != (l2.length : Int)) = false := by rw [hl]; simp
  have Hl := hide hl
  clear hl
  go_enter Try.func40, Try.ntmps40
  go_wp2_with fail
  go_loopw [13] (fun s13 wr => ∃ k : Nat, k ≤ l1.length ∧ s13 = .int .i64 k ∧ Hid (∀ j, j < k → iAt l1 j = iAt l2 j) ∧ Below w.heap.size w wr) (fun s13 _ => l1.length - (intOf s13).toNat)
  case atStart => exact ⟨0, Nat.zero_le _, rfl, hide (fun j hj => by omega), Below.refl _ _⟩
  case round =>
   obtain ⟨k, hk, rfl, Hall, hB⟩ := hrel
   by_cases hlt : k < l1.length
   ·obtain ⟨⟨x1, y1, e1, -, -, g1⟩, ⟨x2, y2, e2, -, -, g2⟩⟩ := HR.out wr hB
    obtain ⟨b1, o1, rfl, h1, h2⟩ := g1 k hlt
    obtain ⟨b2, o2, rfl, h3, h4⟩ := g2 k (by have := Hl.out; omega)
    cases e1
    cases e2
    have I1 : (0 : Int) ≤ (k : Int) := by omega
    have I2 : (k : Int) < (l1.length : Int) := by omega
    have I3 : (k : Int) < (l2.length : Int) := by have := Hl.out; omega
    clear g1 g2
    by_cases hx : iAt l1 k = iAt l2 k
    ·have d2 : (iAt l1 k != iAt l2 k) = false := by rw [hx]; simp
     have hn : ∀ j, j < k + 1 → iAt l1 j = iAt l2 j := fun j hj => by
      rcases Nat.lt_or_ge j k with h | h
      ·exact Hall.out j h
      ·obtain rfl : j = k := by omega
       exact hx
     have Hn := hide hn
     clear hx hn
     generalize iAt l1 k = q1 at *
     generalize iAt l2 k = q2 at *
     go_wp2_with fail
     go_quiet (fail)
     go_wp2_with fail
     go_roundw
     case rel => exact ⟨k + 1, by omega, by go_num, Hn, by first | exact hB | exact below_drewN hB _⟩
     case measure => simp [intOf]; omega
    ·have d2 : (iAt l1 k != iAt l2 k) = true := by rw [bne_iff_ne]; exact hx
     have hne : decide (l1 = l2) = false := decide_eq_false (fun e => hx (by rw [e]))
     have Hne := hide hne
     clear hx hne
     generalize iAt l1 k = q1 at *
     generalize iAt l2 k = q2 at *
     go_wp2_with fail
     go_quiet (fail)
     go_wp2_with fail
     go_ret
     exact ⟨by rw [Hne.out]; rfl, by first | exact hB | exact below_drewN hB _⟩
   ·obtain rfl : k = l1.length := by omega
    have he : decide (l1 = l2) = true := decide_eq_true (int_ext Hl.out Hall.out)
    have He := hide he
    clear he
    go_wp2_with fail
    go_ret
    exact ⟨by rw [He.out]; rfl, hB⟩
 ·have d1 : ((l1.length : Int) != (l2.length : Int)) = true := by rw [bne_iff_ne]; omega
  have hne : decide (l1 = l2) = false := decide_eq_false (fun e => hl (by rw [e]))
  rw [hne]
  clear hl hne
  go_enter Try.func40, Try.ntmps40
  go_wp2_with fail
  go_ret
  exact ⟨rfl, Below.refl _ _⟩
def csEq (a b : Cs) : Bool := decide (a.wd = b.wd) && (decide (a.li = b.li) && decide (a.lo = b.lo))
theorem csEq_iff (a b : Cs) : csEq a b = true ↔ a = b := by
 obtain ⟨a1, a2, a3⟩ := a
 obtain ⟨b1, b2, b3⟩ := b
 unfold csEq
 simp only [Bool.and_eq_true, decide_eq_true_eq, Cs.mk.injEq]
 exact ⟨fun ⟨x, y, z⟩ => ⟨y, z, x⟩, fun ⟨y, z, x⟩ => ⟨x, y, z⟩⟩
theorem cs_boxes {w : World} {u1 u2 u3 u4 : Value} {x1 x2 : Int} {t : TypeId} {W0 : World} (hW0 : W0 = (w.alloc (.cells #[u1, u2, .int .i64 x1] t)).alloc (.cells #[u3, u4, .int .i64 x2] t)) (V : World) (hV : Below (w.heap.size + 2) W0 V) :
  (V.cell? ⟨w.heap.size, 0, none⟩ = some u1 ∧ V.cell? ⟨w.heap.size, 1, none⟩ = some u2 ∧ V.cell? ⟨w.heap.size, 2, none⟩ = some (.int .i64 x1)) ∧ (V.cell? ⟨w.heap.size + 1, 0, none⟩ = some u3 ∧ V.cell? ⟨w.heap.size + 1, 1, none⟩ = some u4 ∧ V.cell? ⟨w.heap.size + 1, 2, none⟩ = some (.int .i64 x2)) ∧ Below w.heap.size w V ∧ w.heap.size + 2 ≤ V.heap.size := by
 have bW : Below w.heap.size w W0 := by rw [hW0]; ((with_reducible repeat' first | exact .refl _ _ | refine .alloc ?_ ?_ _ | refine .setCell ?_ ?_ _ | refine .drew ?_ | refine below_drewN ?_ _) <;> first | omega | simp <;> omega)
 have zW : W0.heap.size = w.heap.size + 2 := by rw [hW0]; simp
 have h0 := (bk hV w.heap.size (by omega)).1
 have h1 := (bk hV (w.heap.size + 1) (by omega)).1
 refine ⟨⟨(h0 _).trans ?_, (h0 _).trans ?_, (h0 _).trans ?_⟩, ⟨(h1 _).trans ?_, (h1 _).trans ?_, (h1 _).trans ?_⟩, bW.trans (hV.mono (by omega)), by have := hV.size; omega⟩ <;> (rw [hW0]; simp [go_sem])
set_option maxRecDepth 100000 in
set_option maxHeartbeats 1000000 in
theorem csSame_any (a b : Cs) (u1 u2 u3 u4 : Value) (w : World) (h1 : IsRow w u1 a.li) (h2 : IsRow w u2 a.lo) (h3 : IsRow w u3 b.li) (h4 : IsRow w u4 b.lo) :
  Calls Try.prog 24 #[.agg #[u1, u2, .int .i64 a.wd], .agg #[u3, u4, .int .i64 b.wd]] w fun e w' => e = .returned (.bool (csEq a b)) ∧ Below w.heap.size w w' := by
 have HR := hide (fun (W : World) (hW : Below w.heap.size w W) => (And.intro (And.intro (h1.below (Nat.le_refl _) hW) (h2.below (Nat.le_refl _) hW)) (And.intro (h3.below (Nat.le_refl _) hW) (h4.below (Nat.le_refl _) hW)) : (IsRow W u1 a.li ∧ IsRow W u2 a.lo) ∧ IsRow W u3 b.li ∧ IsRow W u4 b.lo))
 obtain ⟨a1, c1, rfl, -⟩ := id h1
 obtain ⟨a2, c2, rfl, -⟩ := id h2
 obtain ⟨a3, c3, rfl, -⟩ := id h3
 obtain ⟨a4, c4, rfl, -⟩ := id h4
 clear h1 h2 h3 h4
 obtain ⟨W0, hW0⟩ : ∃ W : World, W = (w.alloc (.cells #[.slice a1 a.li.length c1, .slice a2 a.lo.length c2, .int .i64 a.wd] 44)).alloc (.cells #[.slice a3 b.li.length c3, .slice a4 b.lo.length c4, .int .i64 b.wd] 44) := ⟨_, rfl⟩
 have HS := hide (cs_boxes (t := 44) hW0)
 have HE1 := hide (fun W p q => EqualI_any (.slice a1 a.li.length c1) (.slice a3 b.li.length c3) a.li b.li W p q)
 have HE2 := hide (fun W p q => EqualI_any (.slice a2 a.lo.length c2) (.slice a4 b.lo.length c4) a.lo b.lo W p q)
 unfold csEq
 cases d1 : decide (a.wd = b.wd) with
 | false =>
  have e1 : (a.wd == b.wd) = false := by rw [beq_eq_false_iff_ne]; exact of_decide_eq_false d1
  clear d1
  go_enter Try.func24, Try.ntmps24
  go_upto_region 1 with fail
  rw [← hW0]
  obtain ⟨⟨x0, x1, x2⟩, ⟨y0, y1, y2⟩, b0, z0⟩ := HS.out W0 (Below.refl _ _)
  clear hW0
  go_wp2_with fail
  go_ret
  exact ⟨rfl, b0⟩
 | true =>
  have e1 : (a.wd == b.wd) = true := by rw [beq_iff_eq]; exact of_decide_eq_true d1
  clear d1
  cases d2 : decide (a.li = b.li) with
  | false =>
   go_enter Try.func24, Try.ntmps24
   go_upto_region 1 with fail
   rw [← hW0]
   obtain ⟨⟨x0, x1, x2⟩, ⟨y0, y1, y2⟩, b0, z0⟩ := HS.out W0 (Below.refl _ _)
   clear hW0
   go_wp2_with fail
   refine (HE1.out _ (HR.out _ b0).1.1 (HR.out _ b0).2.1).mono ?_
   rintro e w1 ⟨rfl, k1⟩
   rw [d2]
   have B1 : Below (w.heap.size + 2) W0 w1 := (Below.refl _ _).trans (k1.mono z0)
   clear x0 x1 x2 y0 y1 y2 b0 z0 k1 d2
   obtain ⟨⟨x0, x1, x2⟩, ⟨y0, y1, y2⟩, b0, z0⟩ := HS.out w1 B1
   go_wp2_with fail
   go_ret
   exact ⟨rfl, b0⟩
  | true =>
   go_enter Try.func24, Try.ntmps24
   go_upto_region 1 with fail
   rw [← hW0]
   obtain ⟨⟨x0, x1, x2⟩, ⟨y0, y1, y2⟩, b0, z0⟩ := HS.out W0 (Below.refl _ _)
   clear hW0
   go_wp2_with fail
   refine (HE1.out _ (HR.out _ b0).1.1 (HR.out _ b0).2.1).mono ?_
   rintro e w1 ⟨rfl, k1⟩
   rw [d2]
   have B1 : Below (w.heap.size + 2) W0 w1 := (Below.refl _ _).trans (k1.mono z0)
   clear x0 x1 x2 y0 y1 y2 b0 z0 k1 d2
   obtain ⟨⟨x0, x1, x2⟩, ⟨y0, y1, y2⟩, b0, z0⟩ := HS.out w1 B1
   go_wp2_with fail
   refine (HE2.out _ (HR.out _ b0).1.2 (HR.out _ b0).2.2).mono ?_
   rintro e w2 ⟨rfl, k2⟩
   have B2 : Below (w.heap.size + 2) W0 w2 := B1.trans (k2.mono z0)
   clear x0 x1 x2 y0 y1 y2 b0 z0 k2 B1
   obtain ⟨⟨x0, x1, x2⟩, ⟨y0, y1, y2⟩, b0, z0⟩ := HS.out w2 B2
   obtain ⟨R, hR⟩ : ∃ R, R = decide (a.lo = b.lo) := ⟨_, rfl⟩
   rw [← hR]
   have HR2 := hide hR
   clear hR
   go_wp2_with fail
   go_ret
   exact ⟨by rw [HR2.out]; simp, b0⟩
def csEqTo (a b : List Cs) : Nat → Bool
 | 0 => true
 | k + 1 => csEqTo a b k && csEq (csAt a k) (csAt b k)
theorem csEqTo_iff (a b : List Cs) : ∀ k, (csEqTo a b k = true ↔ ∀ j, j < k → csAt a j = csAt b j)
 | 0 => by simp [csEqTo]
 | k + 1 => by
  rw [csEqTo, Bool.and_eq_true, csEqTo_iff a b k, csEq_iff]
  constructor
  ·rintro ⟨h1, h2⟩ j hj
   rcases Nat.lt_or_ge j k with h | h
   ·exact h1 j h
   ·obtain rfl : j = k := by omega
    exact h2
  ·exact fun h => ⟨fun j hj => h j (by omega), h k (by omega)⟩
def csEqB (a b : List Cs) : Bool := decide (a.length = b.length) && csEqTo a b a.length
theorem csEqB_iff (a b : List Cs) : csEqB a b = true ↔ a = b := by
 unfold csEqB
 rw [Bool.and_eq_true, decide_eq_true_eq, csEqTo_iff]
 constructor
 ·rintro ⟨h1, h2⟩
  refine List.ext_getElem h1 fun i h3 h4 => ?_
  have := h2 i h3
  rwa [csAt_lt a i h3, csAt_lt b i h4] at this
 ·rintro rfl; exact ⟨rfl, fun _ _ => rfl⟩
theorem csEqTo_no {a b : List Cs} {k : Nat} (h : csEq (csAt a k) (csAt b k) = false) {n : Nat} (hn : k < n) : csEqTo a b n = false := by
 cases e : csEqTo a b n with
 | false => rfl
 | true =>
  have := (csEqTo_iff a b n).1 e k hn
  rw [(csEq_iff _ _).2 this] at h
  cases h
set_option maxRecDepth 100000 in
set_option maxHeartbeats 1500000 in
theorem EqualFuncCs_any (v1 v2 : Value) (l1 l2 : List Cs) (w : World) (hv1 : CsRow w v1 l1) (hv2 : CsRow w v2 l2) :
  Calls Try.prog 23 #[v1, v2, .func (.func 24) #[] #[]] w fun e w' => e = .returned (.bool (csEqB l1 l2)) ∧ Below w.heap.size w w' := by
 obtain ⟨a1, c1, rfl, p1, p2⟩ := hv1.len
 obtain ⟨a2, c2, rfl, q1, q2⟩ := hv2.len
 have HR := hide (fun (W : World) (hW : Below w.heap.size w W) => (And.intro (hv1.below (Nat.le_refl _) hW) (hv2.below (Nat.le_refl _) hW) : CsRow W (.slice a1 l1.length c1) l1 ∧ CsRow W (.slice a2 l2.length c2) l2))
 clear hv1 hv2
 by_cases hl : l1.length = l2.length
 ·have d1 : ((l1.length : Int) != (l2.length : Int)) = false := by rw [hl]; simp
  have hd : csEqB l1 l2 = csEqTo l1 l2 l1.length := by unfold csEqB; rw [decide_eq_true hl, Bool.true_and]
  rw [hd]
  have Hl := hide hl
  clear hl hd
  go_enter Try.func23, Try.ntmps23
  go_wp2_with fail
  go_loopw [17] (fun s17 wr => ∃ k : Nat, k ≤ l1.length ∧ s17 = .int .i64 k ∧ Hid (csEqTo l1 l2 k = true) ∧ Below w.heap.size w wr) (fun s17 _ => l1.length - (intOf s17).toNat)
  case atStart => exact ⟨0, Nat.zero_le _, rfl, hide rfl, Below.refl _ _⟩
  case round =>
   obtain ⟨k, hk, rfl, Hall, hB⟩ := hrel
   by_cases hlt : k < l1.length
   ·obtain ⟨b1, o1, k1, u1, u2, e1, h1, ⟨x0, x1, x2⟩, r1, r2⟩ := (HR.out wr hB).1.at_ hlt
    obtain ⟨b2, o2, k2, u3, u4, e2, h2, ⟨y0, y1, y2⟩, r3, r4⟩ := (HR.out wr hB).2.at_ (i := k) (by have := Hl.out; omega)
    cases e1
    cases e2
    have I1 : (0 : Int) ≤ (k : Int) := by omega
    have I2 : (k : Int) < (l1.length : Int) := by omega
    have I3 : (k : Int) < (l2.length : Int) := by have := Hl.out; omega
    have hw := hB.size
    have HC := hide (fun (W : World) (hW : Below wr.heap.size wr W) => csSame_any (csAt l1 k) (csAt l2 k) u1 u2 u3 u4 W (r1.below (Nat.le_refl _) hW) (r2.below (Nat.le_refl _) hW) (r3.below (Nat.le_refl _) hW) (r4.below (Nat.le_refl _) hW))
    have hst : csEqTo l1 l2 (k + 1) = (csEqTo l1 l2 k && csEq (csAt l1 k) (csAt l2 k)) := rfl
    have hno := fun h => csEqTo_no (a := l1) (b := l2) (k := k) h hlt
    obtain ⟨g1, gc1, rfl, -⟩ := id r1
    obtain ⟨g2, gc2, rfl, -⟩ := id r2
    obtain ⟨g3, gc3, rfl, -⟩ := id r3
    obtain ⟨g4, gc4, rfl, -⟩ := id r4
    have Hst := hide hst
    have Hno := hide hno
    have b2l : b2 < (wr.alloc (.cells #[.slice g1 (csAt l1 k).li.length gc1, .slice g2 (csAt l1 k).lo.length gc2, .int .i64 (csAt l1 k).wd] 44)).heap.size := by simp; omega
    clear r1 r2 r3 r4 hst hno
    generalize csEq (csAt l1 k) (csAt l2 k) = R at *
    generalize csAt l1 k = A1 at *
    generalize csAt l2 k = A2 at *
    cases R with
    | true =>
     go_wp2_with ((refine (HC.out _ (by ((with_reducible repeat' first | exact .refl _ _ | refine .alloc ?_ ?_ _ | refine .setCell ?_ ?_ _ | refine .drew ?_ | refine below_drewN ?_ _) <;> first | omega | simp <;> omega))).mono ?_); rintro e w1 ⟨rfl, j1⟩)
     go_roundw
     case rel => exact ⟨k + 1, by omega, by go_num, hide (by rw [Hst.out, Hall.out]; rfl), (by ((with_reducible repeat' first | exact .refl _ _ | exact j1 | exact hB | refine .alloc ?_ ?_ _ | refine .setCell ?_ ?_ _ | refine .drew ?_ | refine below_drewN ?_ _ | refine Below.trans ?_ (j1.mono ?_) | refine Below.trans ?_ (hB.mono ?_)) <;> first | omega | simp <;> omega))⟩
     case measure => simp [intOf]; omega
    | false =>
     have Hn := hide (Hno.out rfl)
     go_wp2_with ((refine (HC.out _ (by ((with_reducible repeat' first | exact .refl _ _ | refine .alloc ?_ ?_ _ | refine .setCell ?_ ?_ _ | refine .drew ?_ | refine below_drewN ?_ _) <;> first | omega | simp <;> omega))).mono ?_); rintro e w1 ⟨rfl, j1⟩)
     go_ret
     exact ⟨by rw [Hn.out]; rfl, (by ((with_reducible repeat' first | exact .refl _ _ | exact j1 | exact hB | refine .alloc ?_ ?_ _ | refine .setCell ?_ ?_ _ | refine .drew ?_ | refine below_drewN ?_ _ | refine Below.trans ?_ (j1.mono ?_) | refine Below.trans ?_ (hB.mono ?_)) <;> first | omega | simp <;> omega))⟩
   ·obtain rfl : k = l1.length := by omega
    have he := Hall.out
    have He := hide he
    clear he
    go_wp2_with fail
    go_ret
    exact ⟨by rw [He.out]; rfl, hB⟩
 ·have d1 : ((l1.length : Int) != (l2.length : Int)) = true := by rw [bne_iff_ne]; omega
  have hne : csEqB l1 l2 = false := by unfold csEqB; rw [decide_eq_false hl]; rfl
  rw [hne]
  clear hl hne
  go_enter Try.func23, Try.ntmps23
  go_wp2_with fail
  go_ret
  exact ⟨rfl, Below.refl _ _⟩
end Go.Proofs.Ytlmcoollkmhanaa
