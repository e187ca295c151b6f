/- SpreadPicks: NOT DONE. -/
import Derived.Test.YtcpfifbchijleaaSpR
import Derived.Test.YtcpfifbchijleaaSpX
import Derived.Test.YtcpfifbchijleaaMpI
import Derived.Test.YtcpfifbchijleaaSpZ1
import Derived.Deep.DeepCutAuto
namespace Go.Proofs.Ytcpfifbchijleaa
open Go.RowKit

def gf (Z : List Int) (c : Int) (f : Int → Int) (y : Int) : Int := if y ∈ Z then c else f y
theorem gf_role (P G : List Int) : gf G 2 (gf P 1 fun _ => 0) = roleP P G := rfl
theorem gf_nil (c : Int) (f : Int → Int) : gf [] c f = f := by funext y; simp [gf]
theorem gf_step {Z : List Int} (c : Int) (f : Int → Int) (j : Nat) (hj : j < Z.length) : (fun y => if y = iAt Z j then c else gf (Z.take j) c f y) = gf (Z.take (j + 1)) c f := by
  funext y
  rw [take_snoc_is Z j hj]
  unfold gf
  by_cases e : y = iAt Z j
  · subst e; simp
  · simp [e]
theorem rising_new {n : Nat} {Z : List Int} (h : Rising n Z) (j : Nat) (hj : j < Z.length) : iAt Z j ∉ Z.take j := by
  intro hm
  obtain ⟨i, hi, e⟩ := List.getElem_of_mem hm
  rw [List.length_take] at hi
  rw [List.getElem_take] at e
  have := h.2 i j (by omega) hj
  rw [iAt_lt Z i (by omega)] at this
  omega
theorem own_apart {w : World} {b n base e size g k cap : Nat} {m : Int → Int} {xs : List Value} (hM : OwnM w b n m) (h : w.ownsRow base e size (.slice (some ⟨g, 0, none⟩) k cap) k xs) : b ≠ g := by
  intro hbg
  subst hbg
  obtain ⟨D, -, ⟨es, clock, he, -⟩, -⟩ := hM
  rcases h.2 with ⟨hv, _⟩ | ⟨g', cap', cur, hv, hg, hc, -⟩
  · simp at hv
  · simp only [Value.slice.injEq, Option.some.injEq, Addr.mk.injEq] at hv
    obtain ⟨⟨rfl, -⟩, -⟩ := hv
    rw [hc] at he
    simp at he
/-- The roles, and the numbers put to nothing, behind k groups. -/
def fG (P G : List Int) : Nat → Int → Int
  | 0 => fun _ => 0
  | 1 => gf P 1 fun _ => 0
  | _ => gf G 2 (gf P 1 fun _ => 0)
def dG (P G : List Int) : Nat → List Int
  | 0 => []
  | 1 => P
  | _ => P ++ G
set_option maxRecDepth 100000 in
set_option maxHeartbeats 2000000 in
theorem SpPicks_any (w : World) (v : Value) (l : List Int) (hv : IsRow w v l) (_wl : WfI l) (f : Int) (lost : Int) :
    Calls Try.prog 6 #[v, .int .i64 f, .int .i64 lost] w fun e w' => e = .returned (.bool true) ∧ Below w.heap.size w w' := by
  have hmm := @run_makeMap Try.prog
  cases hok : spOk l f lost with
  | false =>
    have hne : (spEr l f lost == 0) = false := by rw [beq_eq_false_iff_ne]; rcases spEr_no hok with h | h <;> omega
    have hne2 : (spEr l f lost != 0) = true := by rw [bne_iff_ne]; rcases spEr_no hok with h | h <;> omega
    have hp : pickL l f lost = [] := by unfold pickL; rw [if_neg (by simp [hok])]
    have hg : goneL l f lost = [] := by unfold goneL; rw [if_neg (by simp [hok])]
    clear hok
    go_enter Try.func6, Try.ntmps6
    go_wp2_with fail
    refine (head_any _).mono ?_
    rintro e w1 ⟨rfl, b1⟩
    go_wp2_with fail
    refine (Pick_any _ l _ _ _ (hv.below (Nat.le_refl _) b1)).mono ?_
    rintro e w2 ⟨v1, v2, rfl, o1, o2, b2⟩
    rw [hp] at o1
    rw [hg] at o2
    obtain ⟨a1, c1, rfl, -⟩ := o1.val
    obtain ⟨a2, c2, rfl, -⟩ := o2.val
    have i1 : IntKind.i64.wrap ((0 : Int) + 0) = 0 := by decide
    clear o1 o2 hp hg
    go_wp2_with fail
    go_ret
    have z1 := b1.size
    exact ⟨by first | rfl | exact ret_bool (by simp), (by ((repeat' (first | exact Below.refl _ _ | exact b1 | exact b2 | refine Below.alloc ?_ ?_ _ | refine Below.setCell ?_ ?_ _ | refine Below.drew ?_ | refine below_drewN ?_ _ | refine Below.trans ?_ (b1.mono ?_) | refine Below.trans ?_ (b2.mono ?_))) <;> (first | omega | (simp; done) | (simp; omega))))⟩
  | true =>
    have he := spEr_ok hok
    have hi := (spOk_iff l f lost).1 hok
    have hlen := hi.1.1
    obtain ⟨b, off, cap, rfl, g1, g2, g4, g5, g7⟩ := hv.at0 (by omega)
    obtain ⟨i0, hi0, hz0, hz1, hz2⟩ := info_parts infoIs
    have Hok := hide hok
    clear hok hi
    go_enter Try.func6, Try.ntmps6
    go_wp2_with fail
    refine (head_any _).mono ?_
    rintro e w1 ⟨rfl, b1⟩
    have hv1 := hv.below (Nat.le_refl _) b1
    go_wp2_with fail
    refine (Pick_any _ l _ _ _ hv1).mono ?_
    rintro e w2 ⟨v1, v2, rfl, o1, o2, b2⟩
    rw [he]
    have hv2 := hv1.below (Nat.le_refl _) b2
    have z1 := b1.size
    have z2 := b2.size
    have hmap := ownM_made w2
    obtain ⟨pa1, pc1, rfl, p1, p2⟩ := o1.val
    obtain ⟨pa2, pc2, rfl, p3, p4⟩ := o2.val
    clear g7 hv1
    have zA : (w2.alloc (.map #[] 0)).heap.size = w2.heap.size + 1 := by simp
    have hN : OwnIs ((w2.alloc (.map #[] 0)).alloc (.cells #[] 3)) w2.heap.size (.slice (some ⟨w2.heap.size + 1, 0, none⟩) 0 0) [] := own_newI (q := w2.heap.size + 1) (by rw [← zA]; exact World.alloc_heap_new _ _) (by omega)
    have hR := isrow_cells (hv2.below (Nat.le_refl _) (((Below.refl w2.heap.size w2).alloc (Nat.le_refl _) (.map #[] 0)).alloc (by omega) (.cells #[] 3)))
    go_wp2_with (at_builtin; refine wpList_append_own _ rfl _ _ 22 rfl w2.heap.size 3 i0 (.int .i64 0) 1 8 Try.underlying22 hi0 hz0 hz1 hz2 rfl (by decide) _ 0 [] rfl hN ⟨b, off, none⟩ l.length cap (encI l) rfl (by rw [encI_length, Nat.mul_one]) hR (encI_one l) (by unfold maxLen; omega) (by omega) (by simp; omega) ?_; intro v3 w3 hown3 hg3 _; rw [Nat.zero_add, List.nil_append] at hown3)
    have hg3' : ((w2.alloc (.map #[] 0)).alloc (.cells #[] 3)).grownBy w3 (some (w2.heap.size + 1)) := hg3
    have B3 : Below w2.heap.size w2 w3 := (((Below.refl w2.heap.size w2).alloc (Nat.le_refl _) (.map #[] 0)).alloc (by omega) (.cells #[] 3)).grown hg3' (by simp; omega) (fun r h => by cases h; omega)
    have hm3 := (hmap.kept (World.grownBy_alloc (w2.alloc (.map #[] 0)) (.cells #[] 3) none) (by simp)).kept hg3' (by simp)
    have z3 := B3.size
    obtain ⟨gB, cap3, rfl, hgb, hglt⟩ := World.ownsRow.form hown3 (by omega)
    have hne := own_apart hm3 hown3
    have z3' := hm3.lt
    have Hg := hide hglt
    clear hg3 hg3' hN hR hmap
    go_loopw [51] (fun s51 wr => ∃ k n : Nat, k ≤ 2 ∧ s51 = .int .i64 k ∧ n ≤ 16 * k ∧ OwnM wr w2.heap.size n (fG (pickL l f lost) (goneL l f lost) k) ∧ OwnIs wr w2.heap.size (.slice (some ⟨gB, 0, none⟩) l.length cap3) (zr l (dG (pickL l f lost) (goneL l f lost) k)) ∧ wr.heap[w3.heap.size]? = some (.cells #[.slice pa1 (pickL l f lost).length pc1, .slice pa2 (goneL l f lost).length pc2] 22) ∧ Below w2.heap.size w2 wr) (fun s51 _ => 2 - (intOf s51).toNat)
    case atStart =>
      refine ⟨0, 0, by omega, rfl, by omega, hm3.kept (World.grownBy_alloc _ _ none) (by simp), ?_, World.alloc_heap_new _ _, B3.alloc z3 _⟩
      rw [show dG (pickL l f lost) (goneL l f lost) 0 = [] from rfl, zr_nil]
      exact World.ownsRow.kept hown3 (World.grownBy_alloc _ _ none) (.inr (by simp [Value.ownBlock]))
    case round =>
      obtain ⟨k, n, hk, rfl, hn, hM, hO, hC, hB⟩ := hrel
      by_cases hlt : k < 2
      · obtain ⟨Z, pa, pc, hcell, hpc1, hpc2, hZr, hZrow, hZ16, hZ0, hf, hd⟩ : ∃ (Z : List Int) (pa : Option Addr) (pc : Nat), wr.cell? ⟨w3.heap.size, k, none⟩ = some (.slice pa Z.length pc) ∧ Z.length ≤ pc ∧ pc ≤ 9223372036854775807 ∧ Rising l.length Z ∧ IsRow w2 (.slice pa Z.length pc) Z ∧ Z.length ≤ 16 ∧ (∀ y, y ∈ Z → fG (pickL l f lost) (goneL l f lost) k y = 0) ∧
            fG (pickL l f lost) (goneL l f lost) (k + 1) = gf Z (k + 1) (fG (pickL l f lost) (goneL l f lost) k) ∧ dG (pickL l f lost) (goneL l f lost) (k + 1) = dG (pickL l f lost) (goneL l f lost) k ++ Z := by
          have hr := picks_rising Hok.out
          have hpl := picks_len Hok.out
          have hi := (spOk_iff l f lost).1 Hok.out
          rcases (by omega : k = 0 ∨ k = 1) with rfl | rfl
          · exact ⟨_, pa1, pc1, by simp [World.cell?, hC], p1, p2, hr.1, o1.row, by omega, fun _ _ => rfl, rfl, rfl⟩
          · refine ⟨_, pa2, pc2, by simp [World.cell?, hC], p3, p4, hr.2, o2.row, by omega, fun y hy => ?_, rfl, rfl⟩
            show gf (pickL l f lost) 1 (fun _ => 0) y = 0
            unfold gf
            rw [if_neg (fun h => picks_apart Hok.out y h hy)]
        have hZ16' : Z.length ≤ 1000 := by omega
        have hbC : w3.heap.size < wr.heap.size := (Array.getElem?_eq_some_iff.1 hC).1
        go_wp2_with fail
        go_loopw [58] (fun s58 wx => ∃ j n : Nat, j ≤ Z.length ∧ s58 = .int .i64 j ∧ n ≤ 16 * k + j ∧ OwnM wx w2.heap.size n (gf (Z.take j) (k + 1) (fG (pickL l f lost) (goneL l f lost) k)) ∧ OwnIs wx w2.heap.size (.slice (some ⟨gB, 0, none⟩) l.length cap3) (zr l (dG (pickL l f lost) (goneL l f lost) k ++ Z.take j)) ∧ wx.heap[w3.heap.size]? = some (.cells #[.slice pa1 (pickL l f lost).length pc1, .slice pa2 (goneL l f lost).length pc2] 22) ∧ Below w2.heap.size w2 wx) (fun s58 _ => Z.length - (intOf s58).toNat)
        case atStart =>
          exact ⟨0, n, by omega, rfl, by omega, by rw [List.take_zero, gf_nil]; exact hM, by rw [List.take_zero, List.append_nil]; exact hO, hC, hB⟩
        case round =>
          clear hn hM hO hC hB hcell hbC
          obtain ⟨j, n, hj, rfl, hn, hM, hO, hC, hB⟩ := hrel
          by_cases hjl : j < Z.length
          · obtain ⟨zb, zo, zc, e, y1, y2, y3, y4, y5⟩ := (hZrow.below (Nat.le_refl _) hB).at0 (by omega)
            simp only [Value.slice.injEq] at e
            obtain ⟨rfl, -, rfl⟩ := e
            have hx := hZr.1 j hjl
            have hxn := rising_new hZr j hjl
            have hx0 := hZ0 (iAt Z j) (by rw [iAt_lt _ _ hjl]; exact List.getElem_mem hjl)
            have Hstep := hide (gf_step (k + 1) (fG (pickL l f lost) (goneL l f lost) k) j hjl)
            have Htk := hide (take_snoc_is Z j hjl)
            obtain ⟨q, hq⟩ : ∃ q : Nat, iAt Z j = q := ⟨(iAt Z j).toNat, by omega⟩
            have hcj := y5 j hjl
            have hcp := fun _h : 0 < j => y5 (j - 1) (by omega)
            have hup : 0 < j → iAt Z (j - 1) < q := fun h => by rw [← hq]; exact hZr.2 (j - 1) j (by omega) hjl
            rw [hq] at hcj hx hxn hx0 Hstep Htk
            have hwq : (Lit.int .i64 (q : Int)).wf = true := WalkArith.wf_i64 (by omega)
            have hL := hM.look q hwq
            rw [show gf (Z.take j) (k + 1) (fG (pickL l f lost) (goneL l f lost) k) q = 0 by unfold gf; rw [if_neg hxn]; exact hx0] at hL
            have d1 : decide ((q : Int) < 0) = false := decide_eq_false (by omega)
            have d2 : decide ((l.length : Int) ≤ q) = false := decide_eq_false (by omega)
            have hOl := hO
            unfold OwnIs at hOl
            rw [zr_length] at hOl
            have hwk : IntKind.i64.wrap ((k : Int) + 1) = (k : Int) + 1 := IntWalk.i64_in _ (by omega)
            have hwkf : (Lit.int .i64 ((k : Int) + 1)).wf = true := WalkArith.wf_i64 (by omega)
            have hneB := own_apart hM hOl
            have fin : True := trivial
            rcases Nat.eq_zero_or_pos j with hj0 | hj0
            · have d3 : decide ((0 : Int) < j) = false := decide_eq_false (by omega)
              have d3' : decide (0 < j) = false := decide_eq_false (by omega)
              clear hf hd hZ0 hxn hx0 hcp hup hq hZr y5 hmm he hj0 hZrow hv2
              have d2' : decide (l.length ≤ q) = false := decide_eq_false (by omega)
              have d1' : ¬ (q : Int) < 0 := by omega
              have HH := hide (And.intro hn (And.intro hM (And.intro hOl (And.intro hC (And.intro hB (And.intro hneB (And.intro hwk (And.intro hwq hwkf))))))))
              have Hrest := hide (And.intro hne (And.intro hgb (And.intro o1 o2)))
              clear hneB hOl hO hM hC hB hn hwq hwk hwkf fin hne hgb hown3 hm3 B3 o1 o2
              go_upto_region 15 with fail
              clear hL d3 d3'
              go_wp2_with (at_mapUpdate; refine wpList_set_ownM _ rfl _ _ _ rfl w2.heap.size n _ rfl HH.out.2.1 (by have := HH.out.1; unfold maxLen; omega) _ ((k : Int) + 1) rfl rfl HH.out.2.2.2.2.2.2.2.1 HH.out.2.2.2.2.2.2.2.2 ?_; intro w5 hM5 hg5; have hO5 := World.ownsRow.kept HH.out.2.2.1 hg5 (.inr (by have := HH.out.2.2.2.2.2.1; simp [Value.ownBlock]; omega)); have k5 := (World.ownsRow.cellAt hO5 q (by omega)).trans (encI_at (zr l (dG (pickL l f lost) (goneL l f lost) k ++ Z.take j)) q (by rw [zr_length]; omega)); have f5 := World.ownsRow.frozenAt hO5 q; have HM5 := hide hM5; have HO5 := hide hO5; have Hg5 := hide hg5; clear hM5 hO5 hg5)
              obtain ⟨hn, hM, hOl, hC, hB, hneB, -, -, -⟩ := HH.out
              go_roundw
              case rel =>
                have hM6 : OwnM w5 w2.heap.size (n + 1) (gf (Z.take (j + 1)) (k + 1) (fG (pickL l f lost) (goneL l f lost) k)) := by rw [← Hstep.out]; exact HM5.out
                have hO6 : OwnIs w5 w2.heap.size (.slice (some ⟨gB, 0, none⟩) (zr l (dG (pickL l f lost) (goneL l f lost) k ++ Z.take j)).length cap3) (zr l (dG (pickL l f lost) (goneL l f lost) k ++ Z.take j)) := by unfold OwnIs; rw [zr_length]; exact HO5.out
                have hO7 := OwnIs.set hO6 q 0
                rw [zr_snoc l _ q (by omega), List.append_assoc, ← Htk.out, zr_length] at hO7
                have hb5 : w5.heap[w3.heap.size]? = some (.cells #[.slice pa1 (pickL l f lost).length pc1, .slice pa2 (goneL l f lost).length pc2] 22) := (Hg5.out.block w3.heap.size (Array.getElem?_eq_some_iff.1 hC).1 (fun h => by have := Option.some.inj h; omega)).trans hC
                refine ⟨u6, .int .i64 j, .int .i64 q, .int .i64 ((j + 1 : Nat) : Int), ⟨j + 1, by omega, rfl, n + 1, by omega, hM6.setCell (a := ⟨gB, q, none⟩) hneB _, hO7, ?_, ?_⟩, rfl, rfl, rfl, by go_num⟩
                · exact (Below.heap_setCell w5 ⟨gB, q, none⟩ _ w3.heap.size (fun h => by have := Hg.out; simp at h; omega)).trans hb5
                · exact (hB.grown Hg5.out (by have := hB.size; omega) (fun r h => by have := Option.some.inj h; omega)).setCell (by show w2.heap.size ≤ gB; exact Hrest.out.2.1) _
              case measure => simp [intOf]; omega
            · have d3 : decide ((0 : Int) < j) = true := decide_eq_true (by omega)
              have d3' : decide (0 < j) = true := decide_eq_true (by omega)
              obtain ⟨i1, hi1⟩ : ∃ i1, j = i1 + 1 := ⟨j - 1, by omega⟩
              have I2 : i1 < Z.length := by omega
              have hwj : IntKind.i64.wrap ((j : Int) - 1) = (i1 : Int) := by rw [IntWalk.i64_in _ (by omega)]; omega
              have hwj2 : (j : Int) - 1 = (i1 : Int) := by omega
              have hcp' := y5 i1 I2
              have d4 : decide ((q : Int) ≤ iAt Z i1) = false := decide_eq_false (by have := hup hj0; rw [show j - 1 = i1 by omega] at this; omega)
              have Hi1 := hide hi1
              clear hi1 hf hd hZ0 hxn hx0 hcp hup hq hZr y5 hmm he hj0 hZrow hv2
              have d2' : decide (l.length ≤ q) = false := decide_eq_false (by omega)
              have d1' : ¬ (q : Int) < 0 := by omega
              have HH := hide (And.intro hn (And.intro hM (And.intro hOl (And.intro hC (And.intro hB (And.intro hneB (And.intro hwk (And.intro hwq hwkf))))))))
              have Hrest := hide (And.intro hne (And.intro hgb (And.intro o1 o2)))
              clear hneB hOl hO hM hC hB hn hwq hwk hwkf fin hne hgb hown3 hm3 B3 o1 o2
              go_upto_region 15 with fail
              clear hL d3 d3' d4 hcp' hwj hwj2
              go_wp2_with (at_mapUpdate; refine wpList_set_ownM _ rfl _ _ _ rfl w2.heap.size n _ rfl HH.out.2.1 (by have := HH.out.1; unfold maxLen; omega) _ ((k : Int) + 1) rfl rfl HH.out.2.2.2.2.2.2.2.1 HH.out.2.2.2.2.2.2.2.2 ?_; intro w5 hM5 hg5; have hO5 := World.ownsRow.kept HH.out.2.2.1 hg5 (.inr (by have := HH.out.2.2.2.2.2.1; simp [Value.ownBlock]; omega)); have k5 := (World.ownsRow.cellAt hO5 q (by omega)).trans (encI_at (zr l (dG (pickL l f lost) (goneL l f lost) k ++ Z.take j)) q (by rw [zr_length]; omega)); have f5 := World.ownsRow.frozenAt hO5 q; have HM5 := hide hM5; have HO5 := hide hO5; have Hg5 := hide hg5; clear hM5 hO5 hg5)
              obtain ⟨hn, hM, hOl, hC, hB, hneB, -, -, -⟩ := HH.out
              go_roundw
              case rel =>
                have hM6 : OwnM w5 w2.heap.size (n + 1) (gf (Z.take (j + 1)) (k + 1) (fG (pickL l f lost) (goneL l f lost) k)) := by rw [← Hstep.out]; exact HM5.out
                have hO6 : OwnIs w5 w2.heap.size (.slice (some ⟨gB, 0, none⟩) (zr l (dG (pickL l f lost) (goneL l f lost) k ++ Z.take j)).length cap3) (zr l (dG (pickL l f lost) (goneL l f lost) k ++ Z.take j)) := by unfold OwnIs; rw [zr_length]; exact HO5.out
                have hO7 := OwnIs.set hO6 q 0
                rw [zr_snoc l _ q (by omega), List.append_assoc, ← Htk.out, zr_length] at hO7
                have hb5 : w5.heap[w3.heap.size]? = some (.cells #[.slice pa1 (pickL l f lost).length pc1, .slice pa2 (goneL l f lost).length pc2] 22) := (Hg5.out.block w3.heap.size (Array.getElem?_eq_some_iff.1 hC).1 (fun h => by have := Option.some.inj h; omega)).trans hC
                refine ⟨u6, .int .i64 j, .int .i64 q, .int .i64 ((j + 1 : Nat) : Int), ⟨j + 1, by omega, rfl, n + 1, by omega, hM6.setCell (a := ⟨gB, q, none⟩) hneB _, hO7, ?_, ?_⟩, rfl, rfl, rfl, by go_num⟩
                · exact (Below.heap_setCell w5 ⟨gB, q, none⟩ _ w3.heap.size (fun h => by have := Hg.out; simp at h; omega)).trans hb5
                · exact (hB.grown Hg5.out (by have := hB.size; omega) (fun r h => by have := Option.some.inj h; omega)).setCell (by show w2.heap.size ≤ gB; exact Hrest.out.2.1) _
              case measure => simp [intOf]; omega
          · obtain rfl : j = Z.length := by omega
            rw [List.take_length, ← hf] at hM
            rw [List.take_length, ← hd] at hO
            clear hf hd
            go_wp2_with fail
            go_roundw
            case rel => exact ⟨k + 1, n, by omega, by go_num, by omega, hM, hO, hC, hB⟩
            case measure => simp [intOf]; omega
      · obtain rfl : k = 2 := by omega
        have hvr := hv2.below (Nat.le_refl _) hB
        have hMlt := hM.lt
        have HM := hide hM
        have HO := hide hO
        have Hvr := hide hvr
        have HB := hide hB
        have Hrest := hide (And.intro hne (And.intro hgb (And.intro o1 o2)))
        clear hn hM hO hC hB hvr hv2 hm3 hown3 B3 hne hgb o1 o2 hmm
        obtain ⟨wo, hwo⟩ : ∃ wo : World, wo = wr := ⟨_, rfl⟩
        subst hwo
        go_wp2_with fail
        go_loopw [101] (fun s101 wx => ∃ i : Nat, i ≤ l.length ∧ s101 = .int .i64 i ∧ Below wo.heap.size wo wx) (fun s101 _ => l.length - (intOf s101).toNat)
        case atStart => exact ⟨0, Nat.zero_le _, rfl, Below.refl _ _⟩
        case round =>
          obtain ⟨i, hi, rfl, hBx⟩ := hrel
          by_cases hil : i < l.length
          · go_wp2_with fail
            obtain ⟨wp, hwp⟩ : ∃ wp : World, wp = wr := ⟨_, rfl⟩
            subst hwp
            go_loopw [106] (fun s106 wx => ∃ j : Nat, j ≤ l.length ∧ s106 = .int .i64 j ∧ Below wo.heap.size wo wx) (fun s106 _ => l.length - (intOf s106).toNat)
            case atStart => exact ⟨0, Nat.zero_le _, rfl, hBx⟩
            case round =>
              clear hBx
              obtain ⟨j, hj, rfl, hBx⟩ := hrel
              by_cases hjl : j < l.length
              · have hrow := Hvr.out.below (Nat.le_refl _) hBx
                obtain ⟨b', off', cap', e, y1, y2, y3, -, y5⟩ := hrow.at0 (by omega)
                simp only [Value.slice.injEq, Option.some.injEq, Addr.mk.injEq, and_true, true_and] at e
                obtain ⟨⟨rfl, rfl⟩, rfl⟩ := e
                have ci := y5 i hil
                have cj := y5 j hjl
                have hL1 : ∀ N, (Instr.lookup 39 (.map (some w2.heap.size)) (.int .i64 (i : Int)) false).run Try.prog (wr.drewN N) = .ok (.int .i64 (roleP (pickL l f lost) (goneL l f lost) i)) (wr.drewN N) := fun N => (HM.out.below (hBx.trans (below_drewN (Below.refl _ _) N)) hMlt).look i (WalkArith.wf_i64 (by omega))
                have hL2 : ∀ N, (Instr.lookup 39 (.map (some w2.heap.size)) (.int .i64 (j : Int)) false).run Try.prog (wr.drewN N) = .ok (.int .i64 (roleP (pickL l f lost) (goneL l f lost) j)) (wr.drewN N) := fun N => (HM.out.below (hBx.trans (below_drewN (Below.refl _ _) N)) hMlt).look j (WalkArith.wf_i64 (by omega))
                have I1 : (0 : Int) ≤ (i : Int) := by omega
                have I2 : (i : Int) < (l.length : Int) := by omega
                have I3 : (0 : Int) ≤ (j : Int) := by omega
                have I4 : (j : Int) < (l.length : Int) := by omega
                clear hrow y5
                by_cases hr : roleP (pickL l f lost) (goneL l f lost) j < roleP (pickL l f lost) (goneL l f lost) i
                · have hfal := role_falls Hok.out hil hjl hr
                  have e1 : decide (roleP (pickL l f lost) (goneL l f lost) j < roleP (pickL l f lost) (goneL l f lost) i) = true := decide_eq_true hr
                  have e2 : decide (iAt l j < iAt l i) = false := decide_eq_false (by omega)
                  generalize roleP (pickL l f lost) (goneL l f lost) i = ri at *
                  generalize roleP (pickL l f lost) (goneL l f lost) j = rj at *
                  clear hr hfal
                  go_wp2_with fail
                  go_quiet (fail)
                  go_wp2_with fail
                  go_roundw
                  case rel => exact ⟨j + 1, by omega, by go_num, (by ((repeat' (first | with_reducible exact Below.refl _ _ | with_reducible exact hBx | with_reducible refine Below.alloc ?_ ?_ _ | with_reducible refine Below.setCell ?_ ?_ _ | with_reducible refine Below.drew ?_ | with_reducible refine below_drewN ?_ _ | with_reducible refine Below.trans ?_ (hBx.mono ?_))) <;> (first | omega | (simp; done) | (simp; omega))))⟩
                  case measure => simp [intOf]; omega
                · have e1 : decide (roleP (pickL l f lost) (goneL l f lost) j < roleP (pickL l f lost) (goneL l f lost) i) = false := decide_eq_false hr
                  generalize roleP (pickL l f lost) (goneL l f lost) i = ri at *
                  generalize roleP (pickL l f lost) (goneL l f lost) j = rj at *
                  clear hr
                  go_wp2_with fail
                  go_quiet (fail)
                  go_wp2_with fail
                  go_roundw
                  case rel => exact ⟨j + 1, by omega, by go_num, (by ((repeat' (first | with_reducible exact Below.refl _ _ | with_reducible exact hBx | with_reducible refine Below.alloc ?_ ?_ _ | with_reducible refine Below.setCell ?_ ?_ _ | with_reducible refine Below.drew ?_ | with_reducible refine below_drewN ?_ _ | with_reducible refine Below.trans ?_ (hBx.mono ?_))) <;> (first | omega | (simp; done) | (simp; omega))))⟩
                  case measure => simp [intOf]; omega
              · obtain rfl : j = l.length := by omega
                go_wp2_with fail
                go_roundw
                case rel => exact ⟨i + 1, by omega, by go_num, hBx⟩
                case measure => simp [intOf]; omega
          · obtain rfl : i = l.length := by omega
            have hpl := picks_len Hok.out
            have eP : (((pickL l f lost).length : Int) == f) = true := by rw [beq_iff_eq]; exact hpl.1
            have eG : (((goneL l f lost).length : Int) == lost) = true := by rw [beq_iff_eq]; exact hpl.2
            clear hpl
            go_wp2_with fail
            refine (Worst_any _ l _ _ _ (Hvr.out.below (Nat.le_refl _) hBx)).mono ?_
            rintro e w8 ⟨rfl, b8⟩
            rw [spEr_ok Hok.out]
            have B8 : Below wo.heap.size wo w8 := hBx.trans (b8.mono hBx.size)
            go_wp2_with fail
            refine (Worst_any _ (zr l (dG (pickL l f lost) (goneL l f lost) 2)) _ _ _ (HO.out.row.below (Nat.le_refl _) B8)).mono ?_
            rintro e w9 ⟨rfl, b9⟩
            rw [show dG (pickL l f lost) (goneL l f lost) 2 = pickL l f lost ++ goneL l f lost from rfl, spEr_ok (zr_ok Hok.out), picks_worst Hok.out]
            have B9 : Below w2.heap.size w2 w9 := HB.out.trans ((B8.trans (b9.mono B8.size)).mono HB.out.size)
            go_wp2_with fail
            go_ret
            exact ⟨by first | rfl | exact ret_bool (by simp), (b1.trans (b2.mono z1)).trans (B9.mono (by omega))⟩
set_option maxRecDepth 100000 in
theorem spreadPicks_holds : Rows.SpreadPicksSaid :=
  OpenClaim.holds_of_wide 6 Try.f6 rfl rfl rfl rfl rfl rfl rfl ⟨rfl, rfl, rfl, rfl, rfl⟩ rfl rfl rfl rfl rfl (by kernel_rfl) Try.func6 (by kernel_rfl)
    (of_decide_eq_true (by kernel_rfl)) (by unfold Func.isWrapper; rw [if_neg (of_decide_eq_false (by kernel_rfl))]; exact ⟨rfl, rfl⟩)
    (fun os started H enc _ => law_lifted started 6 Try.f6 Try.func6 (by kernel_rfl) Rows.spreadPicksSpec rfl rfl
      (fun ds h => by match ds, h with | [_, _, _], _ => exact ⟨rfl, rfl, rfl⟩)
      (fun t h => by
        rw [Try.params6] at h
        simp only [List.mem_cons, List.not_mem_nil, or_false] at h
        rcases h with rfl | rfl | rfl <;> exact ⟨by kernel_rfl, of_decide_eq_true (by kernel_rfl)⟩)
      (ChangeSpec.witness6 (enc := enc) (C := Try.checked) false ⟨#[], #[.slice none 0 0, .int .i64 0, .int .i64 0], []⟩ 8 (by kernel_rfl) (by kernel_rfl) (by kernel_rfl) (by kernel_rfl))
      (fun W base args ds p hA hok => by
        rw [Try.params6] at hA hok
        obtain ⟨v0, vs0, d0, ds0, p0, q0, hargs, rfl, rfl, h0, r0⟩ := ChangeShapes.trodAll_cons hA
        obtain ⟨v1, vs1, d1, ds1, p1, q1, rfl, rfl, rfl, h1, r1⟩ := ChangeShapes.trodAll_cons r0
        obtain ⟨v2, vs2, d2, ds2, p2, q2, rfl, rfl, rfl, h2, r2⟩ := ChangeShapes.trodAll_cons r1
        obtain ⟨rfl, rfl, rfl⟩ := ChangeShapes.trodAll_nil r2
        obtain rfl : args = #[v0, v1, v2] := by rw [← Array.toArray_toList (xs := args), hargs]
        obtain ⟨l0, hl0, wl0⟩ := open_is (hok 0 _ v0 rfl rfl) h0
        obtain ⟨x1, rfl, hx1⟩ := open_i64 Try.underlying3 (hok 1 _ v1 rfl rfl) h1
        obtain ⟨x2, rfl, hx2⟩ := open_i64 Try.underlying3 (hok 2 _ v2 rfl rfl) h2
        exact SpPicks_any W v0 l0 hl0 wl0 x1 x2))
end Go.Proofs.Ytcpfifbchijleaa
