/- The examples of chapter 30: plain values. -/
import Derived.Test.YtiaahfccebmkdaaPlO
import Derived.Test.YtiaahfccebmkdaaPlN
import Derived.Test.YtiaahfccebmkdaaPlC
namespace Go.Proofs.Ytiaahfccebmkdaa
open Go.RowKit

set_option maxRecDepth 100000 in
theorem head_vals30 : ((accO (bsO ⟨0, 0, 0, 1, thr⟩ [100, 200] 10)).use = [0] ∧ (accO (bsO ⟨0, 0, 0, 1, thr⟩ [100, 200] 10)).ev = 200 ∧ (bsO ⟨0, 0, 0, 1, thr⟩ [100, 200] 10).isSome = true ∧ bsE ⟨0, 0, 0, 1, thr⟩ [100, 200] 10 = 0) ∧
    ((accO (bsO ⟨0, 0, 0, 1, thr⟩ [100, 200] 20)).use = [1] ∧ (accO (bsO ⟨0, 0, 0, 1, thr⟩ [100, 200] 20)).ev = 200 ∧ (bsO ⟨0, 0, 0, 1, thr⟩ [100, 200] 20).isSome = true ∧ bsE ⟨0, 0, 0, 1, thr⟩ [100, 200] 20 = 0) ∧
    ((bsO ⟨0, 0, 0, 1, thr⟩ [100, 200] 9).isSome = false ∧ bsE ⟨0, 0, 0, 1, thr⟩ [100, 200] 9 = 0) ∧
    ((accO (nwO ⟨0, 0, 0, 1, thr⟩ [100, 200])).use = [0] ∧ (accO (nwO ⟨0, 0, 0, 1, thr⟩ [100, 200])).ev = 200 ∧ (accO (nwO ⟨0, 0, 0, 1, thr⟩ [100, 200])).wd = 10 ∧ nwE ⟨0, 0, 0, 1, thr⟩ [100, 200] = 0) ∧
    (bsE ⟨0, 0, 0, 1, thr⟩ [1] 9 = 1) ∧ (nwE ⟨0, 2, 0, 1, thr⟩ [100, 200] = 20) ∧ (chB ⟨0, 0, 0, 1, thr⟩ [1] 200 [0] 200 = true ∧ chE ⟨0, 0, 0, 1, thr⟩ [1] 200 [0] 200 = 0) := by
  refine ⟨⟨by decide, by decide, by decide, by decide⟩, ⟨by decide, by decide, by decide, by decide⟩, ⟨by decide, by decide⟩, ⟨by decide, by decide, by decide, by decide⟩, by decide, by decide, by decide, by decide⟩
/-- A schedule in a box. -/
def BxS (W : World) (g : Nat) (uv : Value) (l : List Int) (ev : Int) : Prop := W.cell? ⟨g, 0, none⟩ = some uv ∧ W.cell? ⟨g, 1, none⟩ = some (.int .i64 ev) ∧ IsRow W uv l ∧ g < W.heap.size
theorem BxS.below {w W : World} {g : Nat} {uv : Value} {l : List Int} {ev : Int} (h : BxS w g uv l ev) {B : Nat} (hB : w.heap.size ≤ B) (hb : Below B w W) : BxS W g uv l ev := by
  have h0 := (bk hb g (by have := h.2.2.2; omega)).1
  exact ⟨(h0 _).trans h.1, (h0 _).trans h.2.1, h.2.2.1.below hB hb, Nat.lt_of_lt_of_le h.2.2.2 hb.size⟩
theorem BxS.made {w : World} {uv : Value} {l : List Int} {ev : Int} {t : TypeId} (h : IsRow w uv l) : BxS (w.alloc (.cells #[uv, .int .i64 ev] t)) w.heap.size uv l ev := ⟨by simp, by simp, h.below (Nat.le_refl _) (by ((repeat' (first | with_reducible exact Below.refl _ _ | with_reducible refine Below.alloc ?_ ?_ _ | with_reducible refine Below.setCell ?_ ?_ _ | with_reducible refine Below.drew ?_ | with_reducible refine below_drewN ?_ _)) <;> (first | omega | (simp; done) | (simp; omega)))), by simp⟩
set_option maxRecDepth 100000 in
set_option maxHeartbeats 2000000 in
theorem plHead_any (w : World) : Calls Try.prog 9 #[] w fun e w' => e = .returned (.bool true) ∧ Below w.heap.size w w' := by
  obtain ⟨⟨va1, va2, va3, va4⟩, ⟨vb1, vb2, vb3, vb4⟩, ⟨vc1, vc2⟩, ⟨vd1, vd2, vd3, vd4⟩, ve, vf, vg1, vg2⟩ := head_vals30
  have Hg := hide (And.intro vg1 vg2)
  clear vg1 vg2
  go_enter Try.func9, Try.ntmps9
  go_wp2_with fail
  have r0 : IsRow (w.alloc (.cells #[.int .i64 100, .int .i64 200] 3)) (.slice (some ⟨w.heap.size, 0, none⟩) 2 2) [100, 200] := by simpa [encI] using isrow_lit w [100, 200] 3 (by decide)
  have B0 : Below w.heap.size w (w.alloc (.cells #[.int .i64 100, .int .i64 200] 3)) := (by ((repeat' (first | with_reducible exact Below.refl _ _ | with_reducible refine Below.alloc ?_ ?_ _ | with_reducible refine Below.setCell ?_ ?_ _ | with_reducible refine Below.drew ?_ | with_reducible refine below_drewN ?_ _)) <;> (first | omega | (simp; done) | (simp; omega))))
  obtain ⟨P, hP⟩ : ∃ P : Value, P = .slice (some ⟨w.heap.size, 0, none⟩) 2 2 := ⟨_, rfl⟩
  generalize w.alloc (.cells #[.int .i64 100, .int .i64 200] 3) = W0 at *
  refine (three_any _).mono ?_
  rintro e x1 ⟨pv1, rfl, p1, c1⟩
  have rx1 : IsRow x1 (.slice (some ⟨w.heap.size, 0, none⟩) 2 2) [100, 200] := r0.below (Nat.le_refl _) (by ((repeat' (first | with_reducible exact Below.refl _ _ | with_reducible exact c1 | with_reducible refine Below.alloc ?_ ?_ _ | with_reducible refine Below.setCell ?_ ?_ _ | with_reducible refine Below.drew ?_ | with_reducible refine below_drewN ?_ _ | with_reducible refine Below.trans ?_ (c1.mono ?_))) <;> (first | omega | (simp; done) | (simp; omega))))
  go_wp2_with fail
  refine (plB_any 0 0 0 1 pv1 thr _ [100, 200] 10 _ p1 rx1).mono ?_
  rintro e y1 ⟨uv1, rfl, u1, -, d1⟩
  rw [va2, va3, va4]
  rw [va1] at u1
  obtain ⟨a1, q1, hv1, -⟩ := id u1
  simp only [List.length_cons, List.length_nil, Nat.zero_add] at hv1
  subst hv1
  have e1 : Below W0.heap.size W0 y1 := c1.trans (d1.mono c1.size)
  clear p1 c1 d1 rx1
  go_wp2_with fail
  have h1 : Below W0.heap.size W0 (y1.alloc (.cells #[.slice a1 1 q1, .int .i64 200] 29)) := e1.alloc e1.size _
  have k1 : BxS (y1.alloc (.cells #[.slice a1 1 q1, .int .i64 200] 29)) y1.heap.size (.slice a1 1 q1) [0] 200 := BxS.made u1
  obtain ⟨g1, hg1⟩ : ∃ g, g = y1.heap.size := ⟨_, rfl⟩
  rw [← hg1] at k1 ⊢
  clear hg1
  generalize y1.alloc (.cells #[.slice a1 1 q1, .int .i64 200] 29) = W1 at *
  have r1 := r0.below (Nat.le_refl _) h1
  have B1 : Below w.heap.size w W1 := B0.trans (h1.mono B0.size)
  clear h1 e1 u1 r0 B0
  refine (three_any _).mono ?_
  rintro e x2 ⟨pv2, rfl, p2, c2⟩
  have rx2 : IsRow x2 (.slice (some ⟨w.heap.size, 0, none⟩) 2 2) [100, 200] := r1.below (Nat.le_refl _) (by ((repeat' (first | with_reducible exact Below.refl _ _ | with_reducible exact c2 | with_reducible refine Below.alloc ?_ ?_ _ | with_reducible refine Below.setCell ?_ ?_ _ | with_reducible refine Below.drew ?_ | with_reducible refine below_drewN ?_ _ | with_reducible refine Below.trans ?_ (c2.mono ?_))) <;> (first | omega | (simp; done) | (simp; omega))))
  go_wp2_with fail
  refine (plB_any 0 0 0 1 pv2 thr _ [100, 200] 20 _ p2 rx2).mono ?_
  rintro e y2 ⟨uv2, rfl, u2, -, d2⟩
  rw [vb2, vb3, vb4]
  rw [vb1] at u2
  obtain ⟨a2, q2, hv2, -⟩ := id u2
  simp only [List.length_cons, List.length_nil, Nat.zero_add] at hv2
  subst hv2
  have e2 : Below W1.heap.size W1 y2 := c2.trans (d2.mono c2.size)
  clear p2 c2 d2 rx2
  go_wp2_with fail
  have h2 : Below W1.heap.size W1 (y2.alloc (.cells #[.slice a2 1 q2, .int .i64 200] 29)) := e2.alloc e2.size _
  have k2 : BxS (y2.alloc (.cells #[.slice a2 1 q2, .int .i64 200] 29)) y2.heap.size (.slice a2 1 q2) [1] 200 := BxS.made u2
  obtain ⟨g2, hg2⟩ : ∃ g, g = y2.heap.size := ⟨_, rfl⟩
  rw [← hg2] at k2 ⊢
  clear hg2
  generalize y2.alloc (.cells #[.slice a2 1 q2, .int .i64 200] 29) = W2 at *
  have r2 := r1.below (Nat.le_refl _) h2
  have B2 : Below w.heap.size w W2 := B1.trans (h2.mono B1.size)
  have k1' := k1.below (Nat.le_refl _) h2
  clear k1
  have k1 := k1'
  clear k1'
  clear h2 e2 u2 r1 B1
  refine (three_any _).mono ?_
  rintro e x3 ⟨pv3, rfl, p3, c3⟩
  have rx3 : IsRow x3 (.slice (some ⟨w.heap.size, 0, none⟩) 2 2) [100, 200] := r2.below (Nat.le_refl _) (by ((repeat' (first | with_reducible exact Below.refl _ _ | with_reducible exact c3 | with_reducible refine Below.alloc ?_ ?_ _ | with_reducible refine Below.setCell ?_ ?_ _ | with_reducible refine Below.drew ?_ | with_reducible refine below_drewN ?_ _ | with_reducible refine Below.trans ?_ (c3.mono ?_))) <;> (first | omega | (simp; done) | (simp; omega))))
  go_wp2_with fail
  refine (plB_any 0 0 0 1 pv3 thr _ [100, 200] 9 _ p3 rx3).mono ?_
  rintro e y3 ⟨uv3, rfl, u3, -, d3⟩
  rw [vc1, vc2]
  obtain ⟨a3, q3, hv3, -⟩ := id u3
  subst hv3
  have e3 : Below W2.heap.size W2 y3 := c3.trans (d3.mono c3.size)
  clear p3 c3 d3 rx3
  go_wp2_with fail
  have h3 : Below W2.heap.size W2 (y3.alloc (.cells #[.slice a3 (accO (bsO ⟨0, 0, 0, 1, thr⟩ [100, 200] 9)).use.length q3, .int .i64 (accO (bsO ⟨0, 0, 0, 1, thr⟩ [100, 200] 9)).ev] 29)) := e3.alloc e3.size _
  generalize y3.alloc (.cells #[.slice a3 (accO (bsO ⟨0, 0, 0, 1, thr⟩ [100, 200] 9)).use.length q3, .int .i64 (accO (bsO ⟨0, 0, 0, 1, thr⟩ [100, 200] 9)).ev] 29) = W3 at *
  have r3 := r2.below (Nat.le_refl _) h3
  have B3 : Below w.heap.size w W3 := B2.trans (h3.mono B2.size)
  have k1' := k1.below (Nat.le_refl _) h3
  clear k1
  have k1 := k1'
  clear k1'
  have k2' := k2.below (Nat.le_refl _) h3
  clear k2
  have k2 := k2'
  clear k2'
  clear h3 e3 u3 r2 B2
  refine (three_any _).mono ?_
  rintro e x4 ⟨pv4, rfl, p4, c4⟩
  have rx4 : IsRow x4 (.slice (some ⟨w.heap.size, 0, none⟩) 2 2) [100, 200] := r3.below (Nat.le_refl _) (by ((repeat' (first | with_reducible exact Below.refl _ _ | with_reducible exact c4 | with_reducible refine Below.alloc ?_ ?_ _ | with_reducible refine Below.setCell ?_ ?_ _ | with_reducible refine Below.drew ?_ | with_reducible refine below_drewN ?_ _ | with_reducible refine Below.trans ?_ (c4.mono ?_))) <;> (first | omega | (simp; done) | (simp; omega))))
  go_wp2_with fail
  refine (plN_any 0 0 0 1 pv4 thr _ [100, 200] _ p4 rx4).mono ?_
  rintro e y4 ⟨uv4, rfl, u4, -, d4⟩
  rw [vd2, vd3, vd4]
  rw [vd1] at u4
  obtain ⟨a4, q4, hv4, -⟩ := id u4
  simp only [List.length_cons, List.length_nil, Nat.zero_add] at hv4
  subst hv4
  have e4 : Below W3.heap.size W3 y4 := c4.trans (d4.mono c4.size)
  clear p4 c4 d4 rx4
  go_wp2_with fail
  have h4 : Below W3.heap.size W3 (y4.alloc (.cells #[.slice a4 1 q4, .int .i64 200] 29)) := e4.alloc e4.size _
  have k4 : BxS (y4.alloc (.cells #[.slice a4 1 q4, .int .i64 200] 29)) y4.heap.size (.slice a4 1 q4) [0] 200 := BxS.made u4
  obtain ⟨g4, hg4⟩ : ∃ g, g = y4.heap.size := ⟨_, rfl⟩
  rw [← hg4] at k4 ⊢
  clear hg4
  generalize y4.alloc (.cells #[.slice a4 1 q4, .int .i64 200] 29) = W4 at *
  have r4 := r3.below (Nat.le_refl _) h4
  have B4 : Below w.heap.size w W4 := B3.trans (h4.mono B3.size)
  have k1' := k1.below (Nat.le_refl _) h4
  clear k1
  have k1 := k1'
  clear k1'
  have k2' := k2.below (Nat.le_refl _) h4
  clear k2
  have k2 := k2'
  clear k2'
  clear h4 e4 u4 r3 B3
  obtain ⟨m0, m1, m2, m3⟩ := id k1
  obtain ⟨n0, n1, n2, n3⟩ := id k2
  have K1 := hide k1
  have K2 := hide k2
  have K4 := hide k4
  have R4 := hide r4
  have BB4 := hide B4
  clear k1 k2 k4 r4 B4
  go_cut [14, 15] (fun s14 s15 wx => s14 = .bool true ∧ s15 = .int .i64 0 ∧ Below W4.heap.size W4 wx)
  case first =>
   go_region_with (first
    | (go_at_call 21; refine (three_any _).mono ?_; rintro e x5 ⟨pv5, rfl, p5, c5d⟩; have c5 : Below W4.heap.size W4 x5 := ⟨c5d.os, c5d.tape, c5d.output, c5d.size, c5d.block⟩; obtain ⟨t0, t1, t2, t3⟩ := K1.out.below (Nat.le_refl _) c5; obtain ⟨s0, s1, s2, s3⟩ := K2.out.below (Nat.le_refl _) c5; have P5 := hide p5; have C5 := hide c5; clear p5 c5 c5d)
    | (go_at_call 16; refine (Cheaper_any 0 0 0 1 _ thr _ [1] 200 _ [0] 200 _ P5.out s2 t2).mono ?_; rintro e y5 ⟨rfl, c6⟩; rw [Hg.out.1, Hg.out.2]))
   all_goals go_wp2
   all_goals go_meet
   all_goals exact ⟨rfl, rfl, C5.out.trans (Below.mono ⟨c6.os, c6.tape, c6.output, c6.size, c6.block⟩ C5.out.size)⟩
  case rest =>
   obtain ⟨rfl, rfl, h6⟩ := hcut
   have r6 := R4.out.below (Nat.le_refl _) h6
   have B6 := BB4.out.trans (h6.mono BB4.out.size)
   have k1 := K1.out.below (Nat.le_refl _) h6
   have k2 := K2.out.below (Nat.le_refl _) h6
   have k4 := K4.out.below (Nat.le_refl _) h6
   clear h6 K1 K2 K4 R4 BB4 m0 m1 m2 m3 n0 n1 n2 n3 Hg
   go_wp2_with fail
   refine (three_any _).mono ?_
   rintro e x7 ⟨pv7, rfl, p7, c7⟩
   go_wp2_with fail
   refine (plB_any 0 0 0 1 pv7 thr _ [1] 9 _ (p7.below (Nat.le_refl _) (by ((repeat' (first | with_reducible exact Below.refl _ _ | with_reducible refine Below.alloc ?_ ?_ _ | with_reducible refine Below.setCell ?_ ?_ _ | with_reducible refine Below.drew ?_ | with_reducible refine below_drewN ?_ _)) <;> (first | omega | (simp; done) | (simp; omega))))) (by simpa [encI] using isrow_lit x7 [1] 3 (by decide))).mono ?_
   rintro e y7 ⟨uv7, rfl, u7, -, d7⟩
   rw [ve]
   obtain ⟨a7, q7, hv7, -⟩ := id u7
   subst hv7
   have e7 : Below wc.heap.size wc y7 := (c7.alloc c7.size _).trans (d7.mono (by simp; have := c7.size; omega))
   clear p7 c7 d7 u7
   generalize (accO (bsO ⟨0, 0, 0, 1, thr⟩ [1] 9)).use.length = N7 at *
   generalize (accO (bsO ⟨0, 0, 0, 1, thr⟩ [1] 9)).ev = E7 at *
   generalize (bsO ⟨0, 0, 0, 1, thr⟩ [1] 9).isSome = I7 at *
   go_wp2_with fail
   have h7 : Below wc.heap.size wc (y7.alloc (.cells #[.slice a7 N7 q7, .int .i64 E7] 29)) := e7.alloc e7.size _
   generalize y7.alloc (.cells #[.slice a7 N7 q7, .int .i64 E7] 29) = W7 at *
   have r7 := r6.below (Nat.le_refl _) h7
   have B7 := B6.trans (h7.mono B6.size)
   have j1 := k1.below (Nat.le_refl _) h7
   have j2 := k2.below (Nat.le_refl _) h7
   have j4 := k4.below (Nat.le_refl _) h7
   clear h7 k1 k2 k4 r6 B6 e7
   refine (three_any _).mono ?_
   rintro e x8 ⟨pv8, rfl, p8, c8⟩
   obtain ⟨pa8, pc8, rfl, -⟩ := p8.len
   go_wp2_with fail
   refine (plN_any 0 2 0 1 _ thr _ [100, 200] _ (p8.below (Nat.le_refl _) (by ((repeat' (first | with_reducible exact Below.refl _ _ | with_reducible refine Below.alloc ?_ ?_ _ | with_reducible refine Below.setCell ?_ ?_ _ | with_reducible refine Below.drew ?_ | with_reducible refine below_drewN ?_ _)) <;> (first | omega | (simp; done) | (simp; omega))))) ((r7.below (Nat.le_refl _) c8).below (Nat.le_refl _) (by ((repeat' (first | with_reducible exact Below.refl _ _ | with_reducible refine Below.alloc ?_ ?_ _ | with_reducible refine Below.setCell ?_ ?_ _ | with_reducible refine Below.drew ?_ | with_reducible refine below_drewN ?_ _)) <;> (first | omega | (simp; done) | (simp; omega)))))).mono ?_
   rintro e y8 ⟨uv8, rfl, u8', -, d8⟩
   rw [vf]
   obtain ⟨a8, q8, hv8, -⟩ := id u8'
   subst hv8
   have e8' : Below x8.heap.size x8 y8 := (by ((repeat' (first | with_reducible exact Below.refl _ _ | with_reducible exact d8 | with_reducible refine Below.alloc ?_ ?_ _ | with_reducible refine Below.setCell ?_ ?_ _ | with_reducible refine Below.drew ?_ | with_reducible refine below_drewN ?_ _ | with_reducible refine Below.trans ?_ (d8.mono ?_))) <;> (first | omega | (simp; done) | (simp; omega))))
   have e8 : Below W7.heap.size W7 y8 := c8.trans (e8'.mono c8.size)
   clear p8 c8 d8 u8' e8'
   generalize (accO (nwO ⟨0, 2, 0, 1, thr⟩ [100, 200])).use.length = N8 at *
   generalize (accO (nwO ⟨0, 2, 0, 1, thr⟩ [100, 200])).ev = E8 at *
   generalize (accO (nwO ⟨0, 2, 0, 1, thr⟩ [100, 200])).wd = V8 at *
   have hK : ∀ V, Below y8.heap.size y8 V → BxS V g1 (.slice a1 1 q1) [0] 200 ∧ BxS V g2 (.slice a2 1 q2) [1] 200 ∧ BxS V g4 (.slice a4 1 q4) [0] 200 ∧ Below w.heap.size w V ∧ y8.heap.size ≤ V.heap.size := fun V h => by
     have h' := e8.trans (h.mono e8.size)
     exact ⟨j1.below (Nat.le_refl _) h', j2.below (Nat.le_refl _) h', j4.below (Nat.le_refl _) h', B7.trans (h'.mono B7.size), h.size⟩
   have HK := hide hK
   clear hK j1 j2 j4 r7 B7 e8 ve vf va1 va2 va3 va4 vb1 vb2 vb3 vb4 vc1 vc2 vd1 vd2 vd3 vd4
   obtain ⟨⟨m0, m1, -, m3⟩, -, -, -, -⟩ := HK.out y8 (Below.refl _ _)
   go_wp2_with fail
   have h9 : Below y8.heap.size y8 ((y8.alloc (.cells #[.slice a8 N8 q8, .int .i64 E8] 29)).alloc (.cells #[.int .i64 0] 3)) := (by ((repeat' (first | with_reducible exact Below.refl _ _ | with_reducible refine Below.alloc ?_ ?_ _ | with_reducible refine Below.setCell ?_ ?_ _ | with_reducible refine Below.drew ?_ | with_reducible refine below_drewN ?_ _)) <;> (first | omega | (simp; done) | (simp; omega))))
   refine (Same_any _ _ [0] [0] 200 200 _ (HK.out _ h9).1.2.2.1 (by simpa [encI] using isrow_lit (y8.alloc (.cells #[.slice a8 N8 q8, .int .i64 E8] 29)) [0] 3 (by decide))).mono ?_
   rintro e z1 ⟨rfl, b9⟩
   have hd0 : decide ((200 : Int) = 200 ∧ ([0] : List Int) = [0]) = true := by decide
   rw [hd0]
   clear m0 m1 m3
   have h10 : Below y8.heap.size y8 z1 := (by ((repeat' (first | with_reducible exact Below.refl _ _ | with_reducible exact b9 | with_reducible exact h9 | with_reducible refine Below.alloc ?_ ?_ _ | with_reducible refine Below.setCell ?_ ?_ _ | with_reducible refine Below.drew ?_ | with_reducible refine below_drewN ?_ _ | with_reducible refine Below.trans ?_ (b9.mono ?_) | with_reducible refine Below.trans ?_ (h9.mono ?_))) <;> (first | omega | (simp; done) | (simp; omega))))
   clear h9 b9
   obtain ⟨-, ⟨m0, m1, -, m3⟩, -, -, -⟩ := HK.out z1 h10
   go_wp2_with fail
   have h11 : Below y8.heap.size y8 (z1.alloc (.cells #[.int .i64 1] 3)) := h10.alloc h10.size _
   refine (Same_any _ _ [1] [1] 200 200 _ (HK.out _ h11).2.1.2.2.1 (by simpa [encI] using isrow_lit z1 [1] 3 (by decide))).mono ?_
   rintro e z2 ⟨rfl, b11⟩
   have hd1 : decide ((200 : Int) = 200 ∧ ([1] : List Int) = [1]) = true := by decide
   rw [hd1]
   clear m0 m1 m3
   have h12 : Below y8.heap.size y8 z2 := h11.trans (b11.mono h11.size)
   clear h11 b11 h10
   obtain ⟨⟨m0, m1, -, m3⟩, -, ⟨n0, n1, -, n3⟩, -, -⟩ := HK.out z2 h12
   go_wp2_with fail
   refine (Same_any _ _ [0] [0] 200 200 _ (HK.out _ h12).2.2.1.2.2.1 (HK.out _ h12).1.2.2.1).mono ?_
   rintro e z3 ⟨rfl, b13⟩
   have hd2 : decide ((200 : Int) = 200 ∧ ([0] : List Int) = [0]) = true := by decide
   rw [hd2]
   have h13 : Below y8.heap.size y8 z3 := h12.trans (b13.mono h12.size)
   go_wp2_with fail
   go_ret
   exact ⟨rfl, (HK.out z3 h13).2.2.2.1⟩
end Go.Proofs.Ytiaahfccebmkdaa
