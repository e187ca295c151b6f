
/- Parts SpH SpN SpO of the proof, joined. -/
import Derived.Test.YtlmcoollkmhanaaGreatGr
import Derived.Test.YtlmcoollkmhanaaGreatGb
import Derived.Deep.RegionHeld3
import Derived.Deep.DeepCutAuto
import Derived.Deep.CutBlock
import Derived.StillTailTactics
/- Package spread: Pick at whatever arguments. -/
namespace Go.Proofs.YtlmcoollkmhanaaGreat
open Go.RowKit
def PickPost (w : World) (l : List Int) (f lost : Int) (e : Ending) (w' : World) : Prop :=
 ∃ v1 v2, e = .returned (.tuple #[v1, v2, .int .i64 (spEr l f lost)]) ∧ OwnIs w' w.heap.size v1 (pickL l f lost) ∧ OwnIs w' w.heap.size v2 (goneL l f lost) ∧ Below w.heap.size w w'
theorem PickPost.no {w w' : World} {l : List Int} {f lost x : Int} (h : spOk l f lost = false) (hx : spEr l f lost = x) (hb : Below w.heap.size w w') : PickPost w l f lost (.returned (.tuple #[.slice none 0 0, .slice none 0 0, .int .i64 x])) w' :=
 ⟨_, _, by rw [hx], by unfold pickL; rw [if_neg (by simp [h])]; exact OwnIs.nil _ _, by unfold goneL; rw [if_neg (by simp [h])]; exact OwnIs.nil _ _, hb⟩
set_option maxRecDepth 100000 in
set_option maxHeartbeats 400000 in
theorem Pick_any (v : Value) (l : List Int) (f lost : Int) (w : World) (hv : IsRow w v l) :
  Calls Tryz.prog 24 #[v, .int .i64 f, .int .i64 lost] w (PickPost w l f lost) := by
 rcases sp_ways l f lost with ⟨q1, q2⟩ | ⟨q1, q2, q3⟩ | ⟨q1, q2, q3, q4⟩
 ·have hf := ((spOk_iff l f lost).1 q1).2.1
  obtain ⟨n, rfl⟩ : ∃ n : Nat, f = n := ⟨f.toNat, by omega⟩
  exact (Pick_ok v l n lost w hv q1).mono fun e w' ⟨v1, v2, he, h1, h2, h3⟩ => ⟨v1, v2, by rw [q2]; exact he, h1, h2, h3⟩
 ·have Q2 := hide q2
  have Q3 := hide q3
  clear q2 q3
  go_enter Tryz.func24, Tryz.ntmps24
  go_wp2_with fail
  refine (newGame_bad v l f lost _ hv q1).mono ?_
  rintro e w1 ⟨rfl, b1⟩
  go_wp2_with fail
  go_ret3
  exact PickPost.no Q2.out Q3.out b1
 ·have Q2 := hide q2
  have Q3 := hide q3
  have Q4 := hide q4
  clear q2 q3 q4
  go_enter Tryz.func24, Tryz.ntmps24
  go_wp2_with fail
  refine (newGame_few v l f lost _ hv q1 (by have := Q2.out; omega)).mono ?_
  rintro e w1 ⟨rfl, b1⟩
  go_wp2_with fail
  go_ret3
  exact PickPost.no Q3.out Q4.out b1
end Go.Proofs.YtlmcoollkmhanaaGreat
/- Package spread: Place. -/
namespace Go.Proofs.YtlmcoollkmhanaaGreat
open Go.RowKit
attribute [local go_sem ↓] run_max_mx run_min_mn
theorem infoIv2 : (Tryz.prog.info? 53).map (fun i => (i.zero, i.size, i.bytes)) = some (some (.agg #[.int .i64 0, .int .i64 0]), 2, 16) := by kernel_rfl
theorem ownsRow_setCell_ne {w : World} {base e size n : Nat} {v : Value} {xs : List Value} (h : w.ownsRow base e size v n xs) {p : Addr} (hp : ∀ q, v.ownBlock = some q → q ≠ p.block) (u : Value) : (w.setCell p u).ownsRow base e size v n xs := by
 refine ⟨h.1, ?_⟩
 rcases h.2 with h1 | ⟨g, cap, cur, hv, hg, hc, r⟩
 ·exact .inl h1
 ·refine .inr ⟨g, cap, cur, hv, hg, ?_, r⟩
  rw [Below.heap_setCell w p u g (hp g (by rw [hv]; rfl))]
  exact hc
theorem cell_two {V : World} {b i j : Nat} {u v : Value} {p : Nat} (hp : p ≠ b) (o : Nat) : ((V.setCell ⟨b, i, none⟩ u).setCell ⟨b, j, none⟩ v).cell? ⟨p, o, none⟩ = V.cell? ⟨p, o, none⟩ :=
 (World.cell?_setCell_other _ _ _ _ (fun e => hp (by (simp at e) <;> exact e.1))).trans (World.cell?_setCell_other _ _ _ _ (fun e => hp (by (simp at e) <;> exact e.1)))
set_option maxRecDepth 100000 in
set_option maxHeartbeats 2000000 in
theorem Place_ok (v : Value) (l : List Int) (f : Nat) (lost x : Int) (w : World) (hv : IsRow w v l) (hok : spOk l f lost = true) (hx : 0 ≤ x ∧ x ≤ 3000000000000000) :
  Calls Tryz.prog 23 #[v, .int .i64 f, .int .i64 lost, .int .i64 x] w fun e w' => ∃ ov, e = .returned (.tuple #[ov, .int .i64 (placeEr l f lost x)]) ∧ OwnIv w' w.heap.size ov (placeL l f lost x) ∧ Below w.heap.size w w' := by
 have hv' := hv
 obtain ⟨a, cap, rfl, h1, h2, h3⟩ := hv
 obtain ⟨m1, m2, m3, m4, m5, m6⟩ := sp_mk hok
 have hi := (spOk_iff l f lost).1 hok
 have hwd := srt_bd l hi.1.2
 have hbb := bestP_bd hwd (spM l f lost) (spK l f lost) m3 m4
 have hax := plAll_bd hwd (spM l f lost) (spK l f lost) x m3 m4
 have hlb := fun t => plLeft_bd hwd (spM l f lost) (spK l f lost) t m3 m4
 have hin : inB x 0 3000000000000000 = true := by simp [inB]; omega
 have her : placeEr l f lost x = if (plAll l (spM l f lost) (spK l f lost) x (spM l f lost)).1 < 0 ∨ 3000000000000000 < (plAll l (spM l f lost) (spK l f lost) x (spM l f lost)).2 then 3 else 0 := by unfold placeEr; rw [if_pos hok, if_pos hin]
 have hpl : placeL l f lost x = if placeEr l f lost x = 0 then plLie l (spM l f lost) (spK l f lost) x f else [] := by unfold placeL; simp
 obtain ⟨i0, hi0, hz0, hz1, hz2⟩ := info_parts infoIv2
 have Hok := hide hok
 have Her := hide her
 have Hpl := hide hpl
 have Hwd := hide hwd
 have Hax := hide hax
 have Hlb := hide hlb
 have mf : spM l f lost + f ≤ l.length := by omega
 clear hok her hpl hi hwd hax hlb h3
 go_enter Tryz.func23, Tryz.ntmps23
 go_wp2_with fail
 refine (newGame_ok _ l f lost _ hv' Hok.out).mono ?_
 rintro e w1 ⟨gb, rfl, hgb, hG, b1⟩
 generalize hmq : spM l f lost = m at *
 generalize hkq : spK l f lost = k at *
 have HM := hide m1
 clear m1 m2 hmq hkq
 go_wp2_with (go_at_call 49; refine (within_any _ _ _ _).mono ?_; rintro e w' ⟨rfl, rfl⟩)
 refine (best_any gb l m k f _ hG m3 m4 m5 m6 Hwd.out).mono ?_
 rintro e w2 ⟨rfl, b2⟩
 have hG2 := hG.below (Nat.le_refl _) b2
 obtain ⟨j, hj⟩ : ∃ j : Nat, (bestP (srt l) m k).1 = j := ⟨(bestP (srt l) m k).1.toNat, by omega⟩
 have hjk : j ≤ k := by omega
 rw [hj]
 have g3 := hG2.k
 go_upto_region 8 with (go_at_call 51; refine (w_any gb k l m k f _ hG2 m3 m4 m5 (by omega)).mono ?_; rintro e w' ⟨rfl, n1, rfl⟩)
 have z1 := b1.size
 have hB2 : Below w.heap.size w (w2.drewN n1) := (by ((repeat' (first | exact Below.refl _ _ | exact b1 | exact b2 | refine Below.alloc ?_ ?_ _ | refine Below.setCell ?_ ?_ _ | refine Below.drew ?_ | refine below_drewN ?_ _ | refine Below.trans ?_ (b1.mono ?_) | refine Below.trans ?_ (b2.mono ?_))) <;> (first | omega | (simp; done) | (simp; omega))))
 have hG3 : GameAt (w2.drewN n1) gb l m k f := hG2.below (Nat.le_refl _) (below_drewN (Below.refl _ _) n1)
 have hX : mn (iAt (srt l) (k - 1)) (bestP (srt l) m k).2 = plX l m k := rfl
 rw [hX]
 clear hX hG2 hG g3 b2
 generalize w2.drewN n1 = W at *
 have hmk : (Instr.makeSlice 46 (.int .i64 l.length) (.int .i64 l.length)).run Tryz.prog W = .ok (.slice (some ⟨W.heap.size, 0, none⟩) l.length l.length) (W.alloc (.cells (madeCells #[.int .i64 0, .int .i64 0] (l.length * 2)) 53)) := by
  have := run_makeSlice (P := Tryz.prog) W 46 53 i0 (.agg #[.int .i64 0, .int .i64 0]) Tryz.underlying46 hi0 hz0 .i64 .i64 l.length l.length (by omega) (Int.le_refl _) (by rw [hz1]; omega) (by rw [hz2]; omega) (by omega)
  rw [hz1] at this
  simpa [Value.cells] using this
 have ho0 := (ownIv_made W W.heap.size l.length (Nat.le_refl _) (by omega)).below (B := (W.alloc (.cells (madeCells #[.int .i64 0, .int .i64 0] (l.length * 2)) 53)).heap.size) (Nat.le_refl _) ((Below.refl _ _).alloc (Nat.le_refl _) (.cells #[.int .i64 x, .int .i64 x] 53))
 have hb0 : Below W.heap.size W ((W.alloc (.cells (madeCells #[.int .i64 0, .int .i64 0] (l.length * 2)) 53)).alloc (.cells #[.int .i64 x, .int .i64 x] 53)) := (by ((repeat' (first | exact Below.refl _ _ | refine Below.alloc ?_ ?_ _ | refine Below.setCell ?_ ?_ _ | refine Below.drew ?_ | refine below_drewN ?_ _)) <;> (first | omega | (simp; done) | (simp; omega))))
 have y0 : ((W.alloc (.cells (madeCells #[.int .i64 0, .int .i64 0] (l.length * 2)) 53)).alloc (.cells #[.int .i64 x, .int .i64 x] 53)).cell? ⟨W.heap.size + 1, 0, none⟩ = some (.int .i64 x) := by simp [go_sem]
 have y1 : ((W.alloc (.cells (madeCells #[.int .i64 0, .int .i64 0] (l.length * 2)) 53)).alloc (.cells #[.int .i64 x, .int .i64 x] 53)).cell? ⟨W.heap.size + 1, 1, none⟩ = some (.int .i64 x) := by simp [go_sem]
 have yf : ∀ o, ((W.alloc (.cells (madeCells #[.int .i64 0, .int .i64 0] (l.length * 2)) 53)).alloc (.cells #[.int .i64 x, .int .i64 x] 53)).frozen? ⟨W.heap.size + 1, o, none⟩ = false := by intro o; simp [go_sem]
 have ys : ((W.alloc (.cells (madeCells #[.int .i64 0, .int .i64 0] (l.length * 2)) 53)).alloc (.cells #[.int .i64 x, .int .i64 x] 53)).heap.size = W.heap.size + 2 := by simp
 go_wp2_with fail
 clear hmk
 generalize (W.alloc (.cells (madeCells #[.int .i64 0, .int .i64 0] (l.length * 2)) 53)).alloc (.cells #[.int .i64 x, .int .i64 x] 53) = W0 at *
 go_loopw [17] (fun s17 wr => ∃ (t : Nat) (c : List Iv), t ≤ m ∧ s17 = .int .i64 ((t : Int) + 1) ∧ Hid (c = plOut l m k x t) ∧ OwnIv wr W.heap.size (.slice (some ⟨W.heap.size, 0, none⟩) c.length l.length) c ∧
   (wr.cell? ⟨W.heap.size + 1, 0, none⟩ = some (.int .i64 (plAll l m k x t).1) ∧ wr.cell? ⟨W.heap.size + 1, 1, none⟩ = some (.int .i64 (plAll l m k x t).2) ∧ ∀ o, wr.frozen? ⟨W.heap.size + 1, o, none⟩ = false) ∧ Below W.heap.size W wr ∧ W.heap.size + 1 < wr.heap.size) (fun s17 _ => m + 1 - (intOf s17).toNat)
 case atStart => exact ⟨0, List.replicate l.length (0, 0), Nat.zero_le _, by go_num, hide rfl, by rw [List.length_replicate]; exact ho0, ⟨y0, y1, yf⟩, hb0, by omega⟩
 case round =>
  obtain ⟨t, c, ht, rfl, Hc, hown, ⟨y0, y1, yf⟩, hB, hz⟩ := hrel
  have hGr := hG3.below (Nat.le_refl _) hB
  have g2 := hGr.m
  have g3 := hGr.k
  have ww1 : IntKind.i64.wrap ((t : Int) + 1) = t + 1 := IntWalk.i64_in _ (by omega)
  by_cases hlt : t < m
  ·go_upto_block 2 with fail
   go_cut [18] (fun s18 wx => s18 = .int .i64 (plLeft l m k t) ∧ ∃ n, wx = wr.drewN n)
   case first =>
    have Hjd := hide hj
    by_cases hA : (t : Int) + 1 ≤ j
    ·have hL : plLeft l m k t = plX l m k := by unfold plLeft; rw [hj, if_pos hA]
     have HL := hide hL
     clear hL hj
     go_wp2_with fail
     go_meet
     exact ⟨by rw [HL.out], 0, rfl⟩
    ·by_cases hK : t + 1 ≤ k
     ·have hL : plLeft l m k t = iAt (srt l) t := by unfold plLeft; rw [hj, if_neg hA, if_pos hK]
      have HL := hide hL
      clear hL hj
      go_wp2_with (go_at_call 51; refine (w_any gb (t + 1) l m k f _ hGr (by omega) (by omega) (by omega) (by omega)).mono ?_; rintro e w' ⟨rfl, n1, rfl⟩)
      go_meet
      exact ⟨by rw [HL.out], n1, rfl⟩
     ·have hL : plLeft l m k t = 0 := by unfold plLeft; rw [hj, if_neg hA, if_neg hK]
      have HL := hide hL
      clear hL hj
      go_wp2_with fail
      go_meet
      exact ⟨by rw [HL.out], 0, rfl⟩
   case rest =>
    obtain ⟨rfl, n1, hwc⟩ := hcut
    have hGc : GameAt wc gb l m k f := by rw [hwc]; exact hGr.below (Nat.le_refl _) (below_drewN (Below.refl _ _) n1)
    have hBc : Below W.heap.size W wc := by rw [hwc]; exact below_drewN hB n1
    have howc : OwnIv wc W.heap.size (.slice (some ⟨W.heap.size, 0, none⟩) c.length l.length) c := by rw [hwc]; exact hown
    have yc0 : wc.cell? ⟨W.heap.size + 1, 0, none⟩ = some (.int .i64 (plAll l m k x t).1) := by rw [hwc]; exact y0
    have yc1 : wc.cell? ⟨W.heap.size + 1, 1, none⟩ = some (.int .i64 (plAll l m k x t).2) := by rw [hwc]; exact y1
    have ycf : ∀ o, wc.frozen? ⟨W.heap.size + 1, o, none⟩ = false := by rw [hwc]; exact yf
    have hzc : W.heap.size + 1 < wc.heap.size := by rw [hwc]; exact hz
    clear hwc hGr hB hown y0 y1 yf hz g2 g3
    have w1' : wrap64 (x - plLeft l m k t) = x - plLeft l m k t := by
     have := Hlb.out t
     exact IntWalk.wrap64_in (x - plLeft l m k t) (by omega)
    have w2' : wrap64 (x - plLeft l m k t + iAt (srt l) t) = x - plLeft l m k t + iAt (srt l) t := by
     have := Hlb.out t
     have := Hwd.out t
     exact IntWalk.wrap64_in (x - plLeft l m k t + iAt (srt l) t) (by omega)
    go_upto_region 19 with (go_at_call 51; refine (w_any gb (t + 1) l m k f _ hGc (by omega) (by omega) (by omega) (by omega)).mono ?_; rintro e w' ⟨rfl, n2, hw2⟩; have HW := hide hw2; clear hw2)
    have hBd : Below W.heap.size W w' := by rw [HW.out]; exact below_drewN hBc n2
    have hzd : W.heap.size + 1 < w'.heap.size := by rw [HW.out]; exact hzc
    have hGd : GameAt w' gb l m k f := by rw [HW.out]; exact hGc.below (Nat.le_refl _) (below_drewN (Below.refl _ _) n2)
    have hod : OwnIv w' W.heap.size (.slice (some ⟨W.heap.size, 0, none⟩) c.length l.length) c := by rw [HW.out]; exact howc
    have yd0 : w'.cell? ⟨W.heap.size + 1, 0, none⟩ = some (.int .i64 (plAll l m k x t).1) := by rw [HW.out]; exact yc0
    have yd1 : w'.cell? ⟨W.heap.size + 1, 1, none⟩ = some (.int .i64 (plAll l m k x t).2) := by rw [HW.out]; exact yc1
    have ydf : ∀ o, w'.frozen? ⟨W.heap.size + 1, o, none⟩ = false := by rw [HW.out]; exact ycf
    clear HW hBc hzc hGc howc yc0 yc1 ycf
    have b9 : Below w'.heap.size w' (w'.alloc (.cells #[.int .i64 (x - plLeft l m k t), .int .i64 (x - plLeft l m k t + iAt (srt l) t)] 53)) := (by ((repeat' (first | exact Below.refl _ _ | refine Below.alloc ?_ ?_ _ | refine Below.setCell ?_ ?_ _ | refine Below.drew ?_ | refine below_drewN ?_ _)) <;> (first | omega | (simp; done) | (simp; omega))))
    have p0 : (w'.alloc (.cells #[.int .i64 (x - plLeft l m k t), .int .i64 (x - plLeft l m k t + iAt (srt l) t)] 53)).cell? ⟨w'.heap.size, 0, none⟩ = some (.int .i64 (plP l m k x t).1) := by simp [go_sem, plP]
    have p1 : (w'.alloc (.cells #[.int .i64 (x - plLeft l m k t), .int .i64 (x - plLeft l m k t + iAt (srt l) t)] 53)).cell? ⟨w'.heap.size, 1, none⟩ = some (.int .i64 (plP l m k x t).2) := by simp [go_sem, plP]
    have hBe := hBd.trans (b9.mono (by omega))
    have hGe := hGd.below (Nat.le_refl _) b9
    generalize w'.alloc (.cells #[.int .i64 (x - plLeft l m k t), .int .i64 (x - plLeft l m k t + iAt (srt l) t)] 53) = V at *
    have hoV := hod.below (Nat.le_refl _) b9
    have yV0 := (b9.cell (p := ⟨W.heap.size + 1, 0, none⟩) hzd).trans yd0
    have yV1 := (b9.cell (p := ⟨W.heap.size + 1, 1, none⟩) hzd).trans yd1
    obtain ⟨b, off, cp, g1, gle, gmx, gb4, g5⟩ := hGe.ov
    have c5 := g5 t (by omega)
    have hq := ordL_bd l t (by omega)
    obtain ⟨q, hqe⟩ : ∃ q, q = nAt (ordL l) t := ⟨_, rfl⟩
    rw [← hqe] at c5 hq
    have Hqe := hide hqe
    have hcl : c.length = l.length := by rw [Hc.out]; exact plOut_length l m k x t
    have f0 := World.ownsRow.frozenAt hoV (q * 2)
    have f1 := World.ownsRow.frozenAt hoV (q * 2 + 1)
    obtain ⟨u0, k0⟩ : ∃ u, V.cell? ⟨W.heap.size, q * 2, none⟩ = some u := ⟨_, (World.ownsRow.cellAt hoV (q * 2) (by omega)).trans (List.getElem?_eq_getElem (by rw [encL_length]; omega))⟩
    obtain ⟨u1, k1⟩ : ∃ u, V.cell? ⟨W.heap.size, q * 2 + 1, none⟩ = some u := ⟨_, (World.ownsRow.cellAt hoV (q * 2 + 1) (by omega)).trans (List.getElem?_eq_getElem (by rw [encL_length]; omega))⟩
    have Hcl := hide hcl
    have gd := hGe.lt
    have HGe := hide hGe
    have HGd := hide hGd
    clear hqe g5 yd0 yd1 hcl hod hGe hGd
    have www : IntKind.i64.wrap ((t : Int) + 1 - 1) = t := by rw [IntWalk.i64_in _ (by omega)]; omega
    have wwt : IntKind.i64.wrap (t : Int) = t := IntWalk.i64_in _ (by omega)
    have htl : t < l.length := by omega
    go_still_tail 11, (by kernel_rfl)
    change wpList _ _ _ _ _ V.drew
    have bd : Below V.heap.size V V.drew := (Below.refl _ _).drew
    have hBf : Below W.heap.size W V.drew := hBe.drew
    have hof := hoV.below (Nat.le_refl _) bd
    have f0' : V.drew.frozen? ⟨W.heap.size, q * 2, none⟩ = false := f0
    have f1' : V.drew.frozen? ⟨W.heap.size, q * 2 + 1, none⟩ = false := f1
    have k0' : V.drew.cell? ⟨W.heap.size, q * 2, none⟩ = some u0 := k0
    have k1' : V.drew.cell? ⟨W.heap.size, q * 2 + 1, none⟩ = some u1 := k1
    have e0 : V.drew.cell? ⟨W.heap.size + 1, 0, none⟩ = some (.int .i64 (plAll l m k x t).1) := yV0
    have e1 : V.drew.cell? ⟨W.heap.size + 1, 1, none⟩ = some (.int .i64 (plAll l m k x t).2) := yV1
    have e2 : V.drew.cell? ⟨w'.heap.size, 0, none⟩ = some (.int .i64 (plP l m k x t).1) := p0
    have e3 : V.drew.cell? ⟨w'.heap.size, 1, none⟩ = some (.int .i64 (plP l m k x t).2) := p1
    have ef : ∀ o, V.drew.frozen? ⟨W.heap.size + 1, o, none⟩ = false := fun o => (b9.frozen (p := ⟨W.heap.size + 1, o, none⟩) hzd).trans (ydf o)
    have ez : W.heap.size + 1 < V.drew.heap.size := Nat.lt_of_lt_of_le hzd b9.size
    clear f0 f1 k0 k1 yV0 yV1 p0 p1 ydf hBe hBd hoV b9 c5 g1 gb4 bd
    generalize V.drew = V2 at *
    go_upto_region 20 with fail
    have hql : q < c.length := by rw [Hcl.out]; exact hq
    have hX := OwnP.set hof q hql (plP l m k x t)
    have HXl : Hid (c.set q (plP l m k x t) = plOut l m k x (t + 1)) := by show _ = _; rw [plOut, ← Hqe.out, Hc.out]
    have x0 := (cell_two (V := V2) (b := W.heap.size) (i := q * 2) (j := q * 2 + 1) (u := .int .i64 (plP l m k x t).1) (v := .int .i64 (plP l m k x t).2) (p := W.heap.size + 1) (by omega) 0).trans e0
    have x1 := (cell_two (V := V2) (b := W.heap.size) (i := q * 2) (j := q * 2 + 1) (u := .int .i64 (plP l m k x t).1) (v := .int .i64 (plP l m k x t).2) (p := W.heap.size + 1) (by omega) 1).trans e1
    have x2 := (cell_two (V := V2) (b := W.heap.size) (i := q * 2) (j := q * 2 + 1) (u := .int .i64 (plP l m k x t).1) (v := .int .i64 (plP l m k x t).2) (p := w'.heap.size) (by omega) 0).trans e2
    have x3 := (cell_two (V := V2) (b := W.heap.size) (i := q * 2) (j := q * 2 + 1) (u := .int .i64 (plP l m k x t).1) (v := .int .i64 (plP l m k x t).2) (p := w'.heap.size) (by omega) 1).trans e3
    have xf : ∀ o, ((V2.setCell ⟨W.heap.size, q * 2, none⟩ (.int .i64 (plP l m k x t).1)).setCell ⟨W.heap.size, q * 2 + 1, none⟩ (.int .i64 (plP l m k x t).2)).frozen? ⟨W.heap.size + 1, o, none⟩ = false := fun o => by rw [World.frozen?_setCell, World.frozen?_setCell]; exact ef o
    have xz : W.heap.size + 1 < ((V2.setCell ⟨W.heap.size, q * 2, none⟩ (.int .i64 (plP l m k x t).1)).setCell ⟨W.heap.size, q * 2 + 1, none⟩ (.int .i64 (plP l m k x t).2)).heap.size := by simpa [World.setCell] using ez
    have xB : Below W.heap.size W ((V2.setCell ⟨W.heap.size, q * 2, none⟩ (.int .i64 (plP l m k x t).1)).setCell ⟨W.heap.size, q * 2 + 1, none⟩ (.int .i64 (plP l m k x t).2)) := (hBf.setCell (p := ⟨W.heap.size, q * 2, none⟩) (Nat.le_refl _) _).setCell (p := ⟨W.heap.size, q * 2 + 1, none⟩) (Nat.le_refl _) _
    clear e0 e1 e2 e3 ef ez hBf k0' k1' f0' f1' hof hql
    generalize (V2.setCell ⟨W.heap.size, q * 2, none⟩ (.int .i64 (plP l m k x t).1)).setCell ⟨W.heap.size, q * 2 + 1, none⟩ (.int .i64 (plP l m k x t).2) = X at *
    generalize c.set q (plP l m k x t) = c2 at *
    go_wp2_with fail
    go_roundw
    case rel =>
     have hb' : ∀ q, (Value.slice (some ⟨W.heap.size, 0, none⟩) c2.length l.length).ownBlock = some q → q ≠ W.heap.size + 1 := fun q h => by cases h; show W.heap.size ≠ W.heap.size + 1; omega
     refine ⟨t + 1, c2, by omega, by go_num, HXl, ownsRow_setCell_ne (ownsRow_setCell_ne hX hb' _) hb' _, ⟨?_, ?_, fun o => ?_⟩, (xB.setCell (p := ⟨W.heap.size + 1, 0, none⟩) (by show W.heap.size ≤ W.heap.size + 1; omega) _).setCell (p := ⟨W.heap.size + 1, 1, none⟩) (by show W.heap.size ≤ W.heap.size + 1; omega) _, by simpa [World.setCell] using xz⟩
     ·exact (World.cell?_setCell_other _ _ _ _ (fun e => by simp at e)).trans (World.cell?_setCell_same' _ _ _ (by rw [x0]; rfl))
     ·exact World.cell?_setCell_same' _ _ _ (by rw [World.cell?_setCell_other _ _ _ _ (fun e => by simp at e), x1]; rfl)
     ·rw [World.frozen?_setCell, World.frozen?_setCell]; exact xf o
    case measure => simp [intOf]; omega
  ·obtain rfl : m = t := by omega
   have zW := hB2.size
   clear hlt ht g3
   by_cases her : (plAll l m k x m).1 < 0 ∨ 3000000000000000 < (plAll l m k x m).2
   ·have Hpe : Hid (placeEr l f lost x = 3) := by show _ = _; rw [Her.out, if_pos her]
    have Hpl2 : Hid (placeL l f lost x = []) := by show _ = _; rw [Hpl.out, if_neg (by rw [Hpe.out]; omega)]
    by_cases h0 : (plAll l m k x m).1 < 0
    ·clear her
     have d0 : decide ((plAll l m k x m).1 < 0) = true := decide_eq_true h0
     go_wp2_with fail
     go_ret2
     exact ⟨_, by rw [Hpe.out]; rfl, by rw [Hpl2.out]; exact OwnP.nil _ _, (by ((repeat' (first | exact Below.refl _ _ | exact hB2 | exact hB | refine Below.alloc ?_ ?_ _ | refine Below.setCell ?_ ?_ _ | refine Below.drew ?_ | refine below_drewN ?_ _ | refine Below.trans ?_ (hB2.mono ?_) | refine Below.trans ?_ (hB.mono ?_))) <;> (first | omega | (simp; done) | (simp; omega))))⟩
    ·have h2 : 3000000000000000 < (plAll l m k x m).2 := by omega
     have d0 : decide ((plAll l m k x m).1 < 0) = false := decide_eq_false h0
     have d2 : decide (3000000000000000 < (plAll l m k x m).2) = true := decide_eq_true h2
     clear her
     go_wp2_with fail
     go_ret2
     exact ⟨_, by rw [Hpe.out]; rfl, by rw [Hpl2.out]; exact OwnP.nil _ _, (by ((repeat' (first | exact Below.refl _ _ | exact hB2 | exact hB | refine Below.alloc ?_ ?_ _ | refine Below.setCell ?_ ?_ _ | refine Below.drew ?_ | refine below_drewN ?_ _ | refine Below.trans ?_ (hB2.mono ?_) | refine Below.trans ?_ (hB.mono ?_))) <;> (first | omega | (simp; done) | (simp; omega))))⟩
   ·have h1 : ¬ (plAll l m k x m).1 < 0 := by omega
    have h2 : ¬ 3000000000000000 < (plAll l m k x m).2 := by omega
    have Hpe : Hid (placeEr l f lost x = 0) := by show _ = _; rw [Her.out, if_neg her]
    have Hpl2 : Hid (placeL l f lost x = plLie l m k x f) := by show _ = _; rw [Hpl.out, if_pos Hpe.out]
    obtain ⟨b, off, cp, g1w, gle, gmx, gb4, g5⟩ := hG3.ov
    have g1 := (hB.cell (p := ⟨gb, 1, none⟩) hG3.lt).trans g1w
    clear g1w
    have G5 := hide g5
    have hcl : c.length = l.length := by rw [Hc.out]; exact plOut_length l m k x m
    have Hcl := hide hcl
    clear g5 hcl
    have hw1 : IntKind.i64.wrap ((m : Int) + f) = ((m + f : Nat) : Int) := by rw [IntWalk.i64_in _ (by omega)]; omega
    have hsub : m + f - m = f := by omega
    have hmf2 : m + f ≤ cp := by omega
    clear her
    go_upto_region 23 with fail
    by_cases hcap : m = cp
    ·have hf0 : f = 0 := by omega
     subst hf0
     subst hcap
     have hmz : m - m = 0 := by omega
     have hwm : IntKind.i64.wrap (m : Int) = m := IntWalk.i64_in _ (by omega)
     go_quiet (fail)
     rename_i nq
     go_wp2_with fail
     refine wp_loop_rounds 1 ?_
     rw [rounds_succ]
     go_wp2_with fail
     go_ret2
     have ho2 := hown
     rw [Hcl.out, Hc.out] at ho2
     exact ⟨_, by rw [Hpe.out]; rfl, by rw [Hpl2.out]; exact World.ownsRow.mono (ho2.below (Nat.le_refl _) (below_drewN (Below.refl _ _) nq)) zW, below_drewN (hB2.trans (hB.mono zW)) nq⟩
    ·have hmc : m < cp := by omega
     go_quiet (fail)
     rename_i nq
     go_wp2_with fail
     have hB3 : Below W.heap.size W (wr.drewN nq) := below_drewN hB nq
     have ho3 : OwnIv (wr.drewN nq) W.heap.size (.slice (some ⟨W.heap.size, 0, none⟩) c.length l.length) c := hown.below (Nat.le_refl _) (below_drewN (Below.refl _ _) nq)
     have v0 : (wr.drewN nq).cell? ⟨W.heap.size + 1, 0, none⟩ = some (.int .i64 (plAll l m k x m).1) := y0
     have v1 : (wr.drewN nq).cell? ⟨W.heap.size + 1, 1, none⟩ = some (.int .i64 (plAll l m k x m).2) := y1
     clear g1 g2 y0 y1 yf hown hB hGr hG3
     generalize wr.drewN nq = V at *
     go_loopw [134] (fun s134 wx => ∃ (s : Nat) (d : List Iv), s ≤ f ∧ s134 = .int .i64 s ∧ Hid (d = plLie l m k x s) ∧ OwnIv wx W.heap.size (.slice (some ⟨W.heap.size, 0, none⟩) d.length l.length) d ∧ (wx.cell? ⟨W.heap.size + 1, 0, none⟩ = some (.int .i64 (plAll l m k x m).1) ∧ wx.cell? ⟨W.heap.size + 1, 1, none⟩ = some (.int .i64 (plAll l m k x m).2)) ∧ Below W.heap.size W wx) (fun s134 _ => f - (intOf s134).toNat)
     case atStart => exact ⟨0, c, Nat.zero_le _, rfl, Hc, ho3, ⟨v0, v1⟩, hB3⟩
     case round =>
      obtain ⟨s, d, hs, rfl, Hd, hod, ⟨d0, d1⟩, hBx⟩ := hrel
      have hdl : d.length = l.length := by rw [Hd.out]; exact plLie_length l m k x s
      by_cases hsf : s < f
      ·have hq := ordL_bd l (m + s) (by omega)
       have c5 := (hBx.cell (p := ⟨b, off + (m + s), none⟩) gb4).trans (G5.out (m + s) (by omega))
       have hsn : plLie l m k x (s + 1) = d.set (nAt (ordL l) (m + s)) (plAll l m k x m) := by rw [plLie, Hd.out]
       have Hsn := hide hsn
       generalize nAt (ordL l) (m + s) = q at *
       rw [← Nat.add_assoc] at c5
       have f0 := World.ownsRow.frozenAt hod (q * 2)
       have f1 := World.ownsRow.frozenAt hod (q * 2 + 1)
       obtain ⟨u0, k0⟩ : ∃ u, wr.cell? ⟨W.heap.size, q * 2, none⟩ = some u := ⟨_, (World.ownsRow.cellAt hod (q * 2) (by omega)).trans (List.getElem?_eq_getElem (by rw [encL_length]; omega))⟩
       obtain ⟨u1, k1⟩ : ∃ u, wr.cell? ⟨W.heap.size, q * 2 + 1, none⟩ = some u := ⟨_, (World.ownsRow.cellAt hod (q * 2 + 1) (by omega)).trans (List.getElem?_eq_getElem (by rw [encL_length]; omega))⟩
       have Hdl := hide hdl
       clear hsn hdl
       go_wp2_with fail
       go_roundw
       case rel =>
        refine ⟨s + 1, d.set q (plAll l m k x m), by omega, by go_num, hide Hsn.out.symm, OwnP.set hod q (by rw [Hdl.out]; exact hq) _, ⟨?_, ?_⟩, (hBx.setCell (p := ⟨W.heap.size, q * 2, none⟩) (Nat.le_refl _) _).setCell (p := ⟨W.heap.size, q * 2 + 1, none⟩) (Nat.le_refl _) _⟩
        ·exact (cell_two (by omega) 0).trans d0
        ·exact (cell_two (by omega) 1).trans d1
       case measure => simp [intOf]; omega
      ·obtain rfl : f = s := by omega
       have ho4 := hod
       rw [hdl, Hd.out] at ho4
       clear hdl
       go_wp2_with fail
       go_ret2
       exact ⟨_, by rw [Hpe.out]; rfl, by rw [Hpl2.out]; exact World.ownsRow.mono ho4 zW, hB2.trans (hBx.mono zW)⟩
end Go.Proofs.YtlmcoollkmhanaaGreat
/- Package spread: Place at whatever arguments; the reference's Same and SameInts. -/
namespace Go.Proofs.YtlmcoollkmhanaaGreat
open Go.RowKit
attribute [local go_sem ↓] run_max_mx run_min_mn run_eql_iv run_neq_iv
def PlacePost (w : World) (l : List Int) (f lost x : Int) (e : Ending) (w' : World) : Prop :=
 ∃ ov, e = .returned (.tuple #[ov, .int .i64 (placeEr l f lost x)]) ∧ OwnIv w' w.heap.size ov (placeL l f lost x) ∧ Below w.heap.size w w'
theorem PlacePost.no {w w' : World} {l : List Int} {f lost x y : Int} (h : placeEr l f lost x = y) (hy : y ≠ 0) (hb : Below w.heap.size w w') : PlacePost w l f lost x (.returned (.tuple #[.slice none 0 0, .int .i64 y])) w' :=
 ⟨_, by rw [h], by unfold placeL; rw [if_neg (by rw [h]; exact hy)]; exact OwnP.nil _ _, hb⟩
theorem placeEr_no {l : List Int} {f lost x : Int} (h : spOk l f lost = false) : placeEr l f lost x = spEr l f lost := by unfold placeEr; rw [if_neg (by simp [h])]
set_option maxRecDepth 100000 in
set_option maxHeartbeats 400000 in
theorem Place_any (v : Value) (l : List Int) (f lost x : Int) (w : World) (hv : IsRow w v l) :
  Calls Tryz.prog 23 #[v, .int .i64 f, .int .i64 lost, .int .i64 x] w (PlacePost w l f lost x) := by
 rcases sp_ways l f lost with ⟨q1, q2⟩ | ⟨q1, q2, q3⟩ | ⟨q1, q2, q3, q4⟩
 ·have hf := ((spOk_iff l f lost).1 q1).2.1
  obtain ⟨n, rfl⟩ : ∃ n : Nat, f = n := ⟨f.toNat, by omega⟩
  by_cases hx : 0 ≤ x ∧ x ≤ 3000000000000000
  ·exact (Place_ok v l n lost x w hv q1 hx).mono fun e w' h => h
  ·have hin : inB x 0 3000000000000000 = false := by simp [inB]; omega
   have hp : placeEr l n lost x = 1 := by unfold placeEr; rw [if_pos q1, if_neg (by simp [hin])]
   have Q1 := hide q1
   have HP := hide hp
   clear q1 hp q2 hx
   go_enter Tryz.func23, Tryz.ntmps23
   go_wp2_with fail
   refine (newGame_ok v l n lost _ hv Q1.out).mono ?_
   rintro e w1 ⟨gb, rfl, hgb, hG, b1⟩
   clear hG
   go_wp2_with (go_at_call 49; refine (within_any _ _ _ _).mono ?_; rintro e w' ⟨rfl, rfl⟩)
   go_ret2
   exact PlacePost.no HP.out (by omega) b1
 ·have HP := hide ((placeEr_no (x := x) q2).trans q3)
  clear q2 q3
  go_enter Tryz.func23, Tryz.ntmps23
  go_wp2_with fail
  refine (newGame_bad v l f lost _ hv q1).mono ?_
  rintro e w1 ⟨rfl, b1⟩
  go_wp2_with fail
  go_ret2
  exact PlacePost.no HP.out (by omega) b1
 ·have HP := hide ((placeEr_no (x := x) q3).trans q4)
  have Q2 := hide q2
  clear q2 q3 q4
  go_enter Tryz.func23, Tryz.ntmps23
  go_wp2_with fail
  refine (newGame_few v l f lost _ hv q1 (by have := Q2.out; omega)).mono ?_
  rintro e w1 ⟨rfl, b1⟩
  go_wp2_with fail
  go_ret2
  exact PlacePost.no HP.out (by omega) b1
set_option maxRecDepth 100000 in
set_option maxHeartbeats 400000 in
theorem RSameInts15_any (v1 v2 : Value) (l1 l2 : List Int) (w : World) (hv1 : IsRow w v1 l1) (hv2 : IsRow w v2 l2) :
  Calls Tryz.prog 32 #[v1, v2] w fun e w' => e = .returned (.bool (decide (l1 = l2))) ∧ Below w.heap.size w w' := by
 obtain ⟨a, cap, rfl, h1, h2, h3⟩ := hv1
 obtain ⟨a', cap', rfl, h1', h2', h3'⟩ := hv2
 by_cases hlen : l1.length = l2.length
 ·have hne : ((l1.length : Int) != (l2.length : Int)) = false := by simp [hlen]
  have hlen' := hide hlen; clear hlen
  go_enter Tryz.func32, Tryz.ntmps32
  go_wp2
  go_loopw [5] (fun i wr => ∃ k : Nat, k ≤ l1.length ∧ i = .int .i64 k ∧ (∀ j, j < k → iAt l1 j = iAt l2 j) ∧ Below w.heap.size w wr) (fun i _ => l1.length - (intOf i).toNat)
  case atStart => exact ⟨0, Nat.zero_le _, rfl, fun j hj => by omega, Below.refl _ _⟩
  case round =>
   obtain ⟨k, hk, rfl, hall, hB⟩ := hrel
   have Hall := hide hall; clear hall
   by_cases hlt : k < l1.length
   ·obtain ⟨b, off, rfl, h4, h5⟩ := h3 k hlt
    obtain ⟨b', off', rfl, h4', h5'⟩ := h3' k (by have := hlen'.out; omega)
    have g5 := (hB.cell (p := ⟨b, off + k, none⟩) h4).trans h5
    have g5' := (hB.cell (p := ⟨b', off' + k, none⟩) h4').trans h5'
    have hlt' : k < l2.length := by have := hlen'.out; omega
    clear h5 h3 h5' h3'
    by_cases heq : iAt l1 k = iAt l2 k
    ·have heq' : (iAt l1 k != iAt l2 k) = false := by simp [heq]
     have Heq := hide heq
     clear heq
     go_wp2_with fail
     go_quiet (fail)
     go_wp2
     go_roundw
     case rel =>
      refine ⟨k + 1, by omega, by go_num, ?_, (by ((repeat' (first | exact Below.refl _ _ | exact hB | refine Below.alloc ?_ ?_ _ | refine Below.setCell ?_ ?_ _ | refine Below.drew ?_ | refine below_drewN ?_ _ | refine Below.trans ?_ (hB.mono ?_))) <;> (first | omega | (simp; done) | (simp; omega))))⟩
      intro j hj
      rcases Nat.lt_or_ge j k with h | h
      ·exact Hall.out j h
      ·obtain rfl : j = k := by omega
       exact Heq.out
     case measure => simp [intOf]; omega
    ·have heq' : (iAt l1 k != iAt l2 k) = true := by rw [bne_iff_ne]; exact heq
     have Heq := hide heq
     clear heq
     go_wp2_with fail
     go_quiet (fail)
     go_wp2
     go_ret
     refine ⟨ret_bool ?_, (by ((repeat' (first | exact Below.refl _ _ | exact hB | refine Below.alloc ?_ ?_ _ | refine Below.setCell ?_ ?_ _ | refine Below.drew ?_ | refine below_drewN ?_ _ | refine Below.trans ?_ (hB.mono ?_))) <;> (first | omega | (simp; done) | (simp; omega))))⟩
     symm; rw [decide_eq_false_iff_not]
     rintro rfl
     exact Heq.out rfl
   ·go_wp2
    go_ret
    refine ⟨ret_bool ?_, hB⟩
    symm; rw [decide_eq_true_iff]
    exact ints_ext hlen'.out fun j hj => Hall.out j (by omega)
 ·have hne : ((l1.length : Int) != (l2.length : Int)) = true := by rw [bne_iff_ne]; omega
  have hlen' := hide hlen; clear hlen
  go_enter Tryz.func32, Tryz.ntmps32
  go_wp2
  go_ret
  refine ⟨ret_bool ?_, Below.refl _ _⟩
  symm; rw [decide_eq_false_iff_not]
  rintro rfl
  exact hlen'.out rfl
end Go.Proofs.YtlmcoollkmhanaaGreat
