/- Package width: Width. -/
import Derived.Test.YtiaahfccebmkdaaWdF
import Derived.Test.YtiaahfccebmkdaaSpD
namespace Go.Proofs.Ytiaahfccebmkdaa
open Go.RowKit

theorem wdL_of (ps : List Pr) (use : List Int) : (use.map fun i => pWd (pAt ps i.toNat)) = wdL ps use := rfl
theorem worst_bd29 {l : List Int} {f lost : Int} (h : spOk l f lost = true) : 0 ≤ worst l f lost ∧ worst l f lost ≤ 2000000000000 := by
  rw [worst_ok h]
  have hm := sp_mk h
  have := bestP_bd (srt_bd l ((spOk_iff l f lost).1 h).1.2) (spM l f lost) (spK l f lost) hm.2.2.1 hm.2.2.2.1
  omega
set_option maxRecDepth 100000 in
set_option maxHeartbeats 1000000 in
theorem wdWidthS_any (r f lo tm : Int) (pv : Value) (ps : List Pr) (uv : Value) (use : List Int) (ev : Int) (w : World) (hp : PrRow w pv ps) (hu : IsRow w uv use) :
    Calls Try.prog 12 #[.agg #[.int .i64 r, .int .i64 f, .int .i64 lo, .int .i64 tm, pv], .agg #[uv, .int .i64 ev]] w fun e w' => e = .returned (.tuple #[.int .i64 (wdt ⟨r, f, lo, tm, ps⟩ use ev), .int .i64 (wdEr ⟨r, f, lo, tm, ps⟩ use ev)]) ∧ Below w.heap.size w w' := by
  obtain ⟨pa, pc, rfl, q1, q2⟩ := hp.len
  obtain ⟨ua, uc, rfl, u1, u2, u3⟩ := id hu
  clear u3
  have hP : ∀ W : World, Below w.heap.size w W → PrRow W (.slice pa ps.length pc) ps ∧ IsRow W (.slice ua use.length uc) use := fun W hW => ⟨hp.below (Nat.le_refl _) hW, hu.below (Nat.le_refl _) hW⟩
  have HP := hide hP
  clear hP
  cases h1 : rgB ⟨r, f, lo, tm, ps⟩ use ev with
  | false =>
    have e1 : wdt ⟨r, f, lo, tm, ps⟩ use ev = 0 := by unfold wdt; rw [h1]; rfl
    have e2 : wdEr ⟨r, f, lo, tm, ps⟩ use ev = 1 := by unfold wdEr; rw [h1]; rfl
    rw [e1, e2]
    clear e1 e2
    go_enter Try.func12, Try.ntmps12
    go_wp2_with (go_at_call 13; (with_reducible refine (wdRight_any r f lo tm _ ps _ use ev _ (HP.out _ (by ((repeat' (first | with_reducible exact Below.refl _ _ | with_reducible refine Below.alloc ?_ ?_ _ | with_reducible refine Below.setCell ?_ ?_ _ | with_reducible refine Below.drew ?_ | with_reducible refine below_drewN ?_ _)) <;> (first | omega | (simp; done) | (simp; omega))))).1 (HP.out _ (by ((repeat' (first | with_reducible exact Below.refl _ _ | with_reducible refine Below.alloc ?_ ?_ _ | with_reducible refine Below.setCell ?_ ?_ _ | with_reducible refine Below.drew ?_ | with_reducible refine below_drewN ?_ _)) <;> (first | omega | (simp; done) | (simp; omega))))).2).mono ?_); rintro e w1 ⟨rfl, b1⟩; rw [h1])
    go_ret2
    exact ⟨rfl, (by ((repeat' (first | with_reducible exact Below.refl _ _ | with_reducible exact b1 | with_reducible refine Below.alloc ?_ ?_ _ | with_reducible refine Below.setCell ?_ ?_ _ | with_reducible refine Below.drew ?_ | with_reducible refine below_drewN ?_ _ | with_reducible refine Below.trans ?_ (b1.mono ?_))) <;> (first | omega | (simp; done) | (simp; omega))))⟩
  | true =>
    have e1 : wdt ⟨r, f, lo, tm, ps⟩ use ev = worst (wdL ps use) f lo + grw r (ev + tm) := by unfold wdt; rw [h1]; rfl
    have e2 : wdEr ⟨r, f, lo, tm, ps⟩ use ev = 0 := by unfold wdEr; rw [h1]; rfl
    rw [e1, e2]
    have hg := rg_elOk h1
    have hs := rg_spOk h1
    simp only at hg hs
    have hE := spEr_ok hs
    have hwb := worst_bd29 hs
    have hgb := grw_bd hg
    have hG : elEr r (ev + tm) = 0 := by unfold elEr; rw [hg]; rfl
    obtain ⟨h2, h3, h4, h5, h6⟩ := (rgB_iff _ _ _).1 h1
    have hsi := (siN_iff _).1 ((siB_iff _).1 h2).1
    have hul := use_le h5 h4
    have hwd := si_wd h2
    simp only at h3 hsi hul hwd h4
    have hul2 : use.length ≤ 1000 := by omega
    obtain ⟨hi1, hi2, hi3, hi4, hi5⟩ := hsi
    have Hwd := hide hwd
    have Hin := hide h4
    generalize hW : worst (wdL ps use) f lo = W0 at *
    generalize hGr : grw r (ev + tm) = G0 at *
    have HW := hide hW
    have HGr := hide hGr
    have HE := hide hE
    have HG := hide hG
    have hS : ∀ W : World, Below (w.heap.size + 2) ((w.alloc (.cells #[.int .i64 r, .int .i64 f, .int .i64 lo, .int .i64 tm, .slice pa ps.length pc] 24)).alloc (.cells #[.slice ua use.length uc, .int .i64 ev] 29)) W → W.cell? ⟨w.heap.size, 0, none⟩ = some (.int .i64 r) ∧ W.cell? ⟨w.heap.size, 1, none⟩ = some (.int .i64 f) ∧ W.cell? ⟨w.heap.size, 2, none⟩ = some (.int .i64 lo) ∧ W.cell? ⟨w.heap.size, 3, none⟩ = some (.int .i64 tm) ∧ W.cell? ⟨w.heap.size, 4, none⟩ = some (.slice pa ps.length pc) ∧
        W.cell? ⟨w.heap.size + 1, 0, none⟩ = some (.slice ua use.length uc) ∧ W.cell? ⟨w.heap.size + 1, 1, none⟩ = some (.int .i64 ev) := by
      intro W hW
      have hc := (bk hW w.heap.size (by omega)).1
      have hd := (bk hW (w.heap.size + 1) (by omega)).1
      exact ⟨(hc 0).trans (by simp), (hc 1).trans (by simp), (hc 2).trans (by simp), (hc 3).trans (by simp), (hc 4).trans (by simp), (hd 0).trans (by simp), (hd 1).trans (by simp)⟩
    have HS := hide hS
    clear e1 e2 hg hs hE hW hGr hG h2 h4 h5 h6 hwd hS
    go_enter Try.func12, Try.ntmps12
    go_wp2_with (go_at_call 13; (with_reducible refine (wdRight_any r f lo tm _ ps _ use ev _ (HP.out _ (by ((repeat' (first | with_reducible exact Below.refl _ _ | with_reducible refine Below.alloc ?_ ?_ _ | with_reducible refine Below.setCell ?_ ?_ _ | with_reducible refine Below.drew ?_ | with_reducible refine below_drewN ?_ _)) <;> (first | omega | (simp; done) | (simp; omega))))).1 (HP.out _ (by ((repeat' (first | with_reducible exact Below.refl _ _ | with_reducible refine Below.alloc ?_ ?_ _ | with_reducible refine Below.setCell ?_ ?_ _ | with_reducible refine Below.drew ?_ | with_reducible refine below_drewN ?_ _)) <;> (first | omega | (simp; done) | (simp; omega))))).2).mono ?_); rintro e w1 ⟨rfl, b1⟩; rw [h1])
    have B1 : Below (w.heap.size + 2) ((w.alloc (.cells #[.int .i64 r, .int .i64 f, .int .i64 lo, .int .i64 tm, .slice pa ps.length pc] 24)).alloc (.cells #[.slice ua use.length uc, .int .i64 ev] 29)) w1 := b1.mono (by simp)
    have z1 : w.heap.size + 2 ≤ w1.heap.size := by have := B1.size; simpa using this
    have zd : w1.drew.heap.size = w1.heap.size := rfl
    obtain ⟨y0, y1, y2, y3, y4, x0, x1⟩ := HS.out w1 B1
    go_region_held3 (fun W => W.cell? ⟨w.heap.size, 0, none⟩ = some (.int .i64 r) ∧ W.cell? ⟨w.heap.size, 1, none⟩ = some (.int .i64 f) ∧ W.cell? ⟨w.heap.size, 2, none⟩ = some (.int .i64 lo) ∧ W.cell? ⟨w.heap.size, 3, none⟩ = some (.int .i64 tm) ∧ W.cell? ⟨w.heap.size, 4, none⟩ = some (.slice pa ps.length pc) ∧
        W.cell? ⟨w.heap.size + 1, 0, none⟩ = some (.slice ua use.length uc) ∧ W.cell? ⟨w.heap.size + 1, 1, none⟩ = some (.int .i64 ev)) (exact HS.out _ (by ((repeat' (first | with_reducible exact Below.refl _ _ | with_reducible exact b3 | with_reducible exact b2 | with_reducible exact B1 | with_reducible refine Below.alloc ?_ ?_ _ | with_reducible refine Below.setCell ?_ ?_ _ | with_reducible refine Below.drew ?_ | with_reducible refine below_drewN ?_ _ | with_reducible refine Below.trans ?_ (b3.mono ?_) | with_reducible refine Below.trans ?_ (b2.mono ?_) | with_reducible refine Below.trans ?_ (B1.mono ?_))) <;> (first | omega | (simp; done) | (simp; omega)))))
      (first | (go_at_call 28; (with_reducible refine (wdPeersWidth_any r f lo tm _ ps _ use _ (HP.out _ (by ((repeat' (first | with_reducible exact Below.refl _ _ | with_reducible exact b1 | with_reducible refine Below.alloc ?_ ?_ _ | with_reducible refine Below.setCell ?_ ?_ _ | with_reducible refine Below.drew ?_ | with_reducible refine below_drewN ?_ _ | with_reducible refine Below.trans ?_ (b1.mono ?_))) <;> (first | omega | (simp; done) | (simp; omega))))).1 (HP.out _ (by ((repeat' (first | with_reducible exact Below.refl _ _ | with_reducible exact b1 | with_reducible refine Below.alloc ?_ ?_ _ | with_reducible refine Below.setCell ?_ ?_ _ | with_reducible refine Below.drew ?_ | with_reducible refine below_drewN ?_ _ | with_reducible refine Below.trans ?_ (b1.mono ?_))) <;> (first | omega | (simp; done) | (simp; omega))))).2 hul2 Hin.out Hwd.out).mono ?_); rintro e w2 ⟨ov2, rfl, o2, b2⟩; have z2 := b2.size) | (go_at_call 27; (with_reducible refine (Worst_any ov2 (wdL ps use) f lo _ o2.row).mono ?_); rintro e w3 ⟨rfl, b3⟩; have z3 := b3.size; rw [HE.out, HW.out]))
    have B3 : Below (w.heap.size + 2) ((w.alloc (.cells #[.int .i64 r, .int .i64 f, .int .i64 lo, .int .i64 tm, .slice pa ps.length pc] 24)).alloc (.cells #[.slice ua use.length uc, .int .i64 ev] 29)) w3 := (by ((repeat' (first | with_reducible exact Below.refl _ _ | with_reducible exact b3 | with_reducible exact b2 | with_reducible exact B1 | with_reducible refine Below.alloc ?_ ?_ _ | with_reducible refine Below.setCell ?_ ?_ _ | with_reducible refine Below.drew ?_ | with_reducible refine below_drewN ?_ _ | with_reducible refine Below.trans ?_ (b3.mono ?_) | with_reducible refine Below.trans ?_ (b2.mono ?_) | with_reducible refine Below.trans ?_ (B1.mono ?_))) <;> (first | omega | (simp; done) | (simp; omega))))
    obtain ⟨y0', y1', y2', y3', y4', x0', x1'⟩ := HS.out w3 B3
    have B4 : Below w.heap.size w w3 := (by ((repeat' (first | with_reducible exact Below.refl _ _ | with_reducible exact b3 | with_reducible exact b2 | with_reducible exact b1 | with_reducible refine Below.alloc ?_ ?_ _ | with_reducible refine Below.setCell ?_ ?_ _ | with_reducible refine Below.drew ?_ | with_reducible refine below_drewN ?_ _ | with_reducible refine Below.trans ?_ (b3.mono ?_) | with_reducible refine Below.trans ?_ (b2.mono ?_) | with_reducible refine Below.trans ?_ (b1.mono ?_))) <;> (first | omega | (simp; done) | (simp; omega))))
    clear b1 b2 b3 B1 B3 y0 y1 y2 y3 y4 x0 x1 zd o2
    go_wp2_with (go_at_call 30; (with_reducible refine (wdGrowth_any _ _ _).mono ?_); rintro e w4 ⟨rfl, b4⟩; rw [HG.out, HGr.out])
    go_ret2
    have z4 := B4.size
    exact ⟨rfl, (by ((repeat' (first | with_reducible exact Below.refl _ _ | with_reducible exact b4 | with_reducible exact B4 | with_reducible refine Below.alloc ?_ ?_ _ | with_reducible refine Below.setCell ?_ ?_ _ | with_reducible refine Below.drew ?_ | with_reducible refine below_drewN ?_ _ | with_reducible refine Below.trans ?_ (b4.mono ?_) | with_reducible refine Below.trans ?_ (B4.mono ?_))) <;> (first | omega | (simp; done) | (simp; omega))))⟩
end Go.Proofs.Ytiaahfccebmkdaa
