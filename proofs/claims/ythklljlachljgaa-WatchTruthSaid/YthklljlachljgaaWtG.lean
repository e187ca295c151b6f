/- The reference of package watch: Check with a combination; Check whole. -/
import Derived.Test.YthklljlachljgaaWtF
namespace Go.Proofs.Ythklljlachljgaa
open Go.RowKit
attribute [local go_sem ↓] run_max_mx run_min_mn run_eql_iv run_neq_iv run_eql_al run_neq_al
theorem jump_iff {a b c d : Int} (h1 : validB a b = true) (h2 : validB c d = true) : (!crossB a b c d) = (decide (d < a) || decide (b < c)) := by
  rw [validB_iff] at h1 h2
  have m1 := mx_spec a c
  have m2 := mn_spec b d
  unfold crossB
  rw [Bool.eq_iff_iff]
  simp only [Bool.not_eq_true', decide_eq_false_iff_not, Bool.or_eq_true, decide_eq_true_eq]
  omega
/-- The blocks from lo to below hi stand. -/
structure KeepR (lo hi : Nat) (A B : World) : Prop where
  size : A.heap.size ≤ B.heap.size
  block : ∀ r, lo ≤ r → r < hi → B.heap[r]? = A.heap[r]?
def jL (j : Bool) : List Iv := if j = true then [(3, 0)] else []
def yL (j : Bool) : List Iv := if j = true then [(5, 0)] else []
theorem CkPost.fin2 {w w' : World} {a b : Int} {au : List Int} {l : List Iv} {f lost asked promise : Int} {v : Value} (h : way a b au l f lost asked promise = .ok)
    (ho : OwnAl w' w.heap.size v (jL (jumpB a b l f) ++ liesTo au (outL l f) (outL l f).length ++ yL (wideB l f promise))) (hb : Below w.heap.size w w') :
    CkPost w a b au l f lost asked promise (.returned (.tuple #[v, .agg #[.int .i64 (cbLo l f), .int .i64 (cbHi l f)], .bool true, .int .i64 0])) w' := by
  refine ⟨v, by simp only [ckLo, ckHi, ckIs, ckEr, h], ?_, hb⟩
  have e : alL a b au l f lost asked promise = jL (jumpB a b l f) ++ liesTo au (outL l f) (outL l f).length ++ yL (wideB l f promise) := by simp only [alL, h, jL, yL, lies]
  rw [e]; exact ho
set_option maxRecDepth 100000 in
set_option maxHeartbeats 1000000 in
theorem RCheck_ok (a b : Int) (va v : Value) (au : List Int) (l : List Iv) (f lost asked promise : Int) (w : World) (hva : IsRow w va au) (hv : IvRow w v l) (hr : rndB a b au l f lost asked promise = true) (hfew : fewB l f lost asked = false) (he : cbEr l f = 0) :
    Calls Try.prog 12 #[.agg #[.int .i64 a, .int .i64 b], va, v, .int .i64 f, .int .i64 lost, .int .i64 asked, .int .i64 promise] w (CkPost w a b au l f lost asked promise) := by
  have hw := hide (show way a b au l f lost asked promise = .ok by unfold way; rw [if_pos hr, if_neg (by simp [hfew]), if_pos he])
  have hfe := fewB_or hfew
  have hd : decide ((l.length : Int) < asked - lost) = false := decide_eq_false hfe.1
  have hd2 : decide ((l.length : Int) ≤ f) = false := decide_eq_false hfe.2
  have hva1 := ((rndB_iff _ _ _ _ _ _ _ _).1 hr).2.1
  have hcv := cb_valid he
  have hcvi := (validB_iff _ _).1 hcv
  have HJ := hide (show jumpB a b l f = (decide (cbHi l f < a) || decide (b < cbLo l f)) from jump_iff hva1 hcv)
  have Hlen := hide ((rndB_iff _ _ _ _ _ _ _ _).1 hr).2.2.1
  have He := hide he
  clear hfew he hva1 hcv hfe
  have hri := (rndB_iff _ _ _ _ _ _ _ _).1 hr
  have hrl := rnd_list hr
  have hl16 := hrl.2.1
  have hfb := hri.2.2.2.2.1
  have hlb := hri.2.2.2.2.2.1
  have hab := hri.2.2.2.2.2.2.1
  have hpb := hri.2.2.2.2.2.2.2
  clear hri hrl
  have Hr := hide hr
  clear hr
  obtain ⟨a1, cap1, rfl, g1, g2, g3⟩ := id hva
  obtain ⟨a2, cap2, rfl, h1, h2, h3⟩ := id hv
  clear g3 h3
  go_enter Try.func12, Try.ntmps12
  go_wp2_with fail
  refine (RRound_any _ _ _ _ au l _ _ _ _ _ (hva.below (Nat.le_refl _) (by ((repeat' (first | exact Below.refl _ _ | refine Below.alloc ?_ ?_ _ | refine Below.setCell ?_ ?_ _ | refine Below.drew ?_ | refine below_drewN ?_ _)) <;> (first | omega | (simp; done) | (simp; omega))))) (hv.below (Nat.le_refl _) (by ((repeat' (first | exact Below.refl _ _ | refine Below.alloc ?_ ?_ _ | refine Below.setCell ?_ ?_ _ | refine Below.drew ?_ | refine below_drewN ?_ _)) <;> (first | omega | (simp; done) | (simp; omega)))))).mono ?_
  rintro e w1 ⟨rfl, b1⟩
  rw [Hr.out]
  obtain ⟨c1, f1⟩ := bk b1 (w.heap.size + 1) (by simp)
  obtain ⟨c0, f0⟩ := bk b1 w.heap.size (by simp; omega)
  obtain ⟨c2, f2⟩ := bk b1 (w.heap.size + 1 + 1) (by simp)
  have z1 := b1.size
  simp only [World.size_alloc] at z1
  have B1 : Below w.heap.size w w1 := (by ((repeat' (first | exact Below.refl _ _ | exact b1 | refine Below.alloc ?_ ?_ _ | refine Below.setCell ?_ ?_ _ | refine Below.drew ?_ | refine below_drewN ?_ _ | refine Below.trans ?_ (b1.mono ?_))) <;> (first | omega | (simp; done) | (simp; omega))))
  have d10 : w1.cell? ⟨w.heap.size + 1, 0, none⟩ = some (.int .i64 0) := by rw [c1]; simp [go_sem]
  have d11 : w1.cell? ⟨w.heap.size + 1, 1, none⟩ = some (.int .i64 0) := by rw [c1]; simp [go_sem]
  have d1f : ∀ o, w1.frozen? ⟨w.heap.size + 1, o, none⟩ = false := fun o => by rw [f1]; simp [go_sem]
  have d20 : w1.cell? ⟨w.heap.size + 1 + 1, 0, none⟩ = some (.int .i64 0) := by rw [c2]; simp [go_sem]
  have d21 : w1.cell? ⟨w.heap.size + 1 + 1, 1, none⟩ = some (.int .i64 0) := by rw [c2]; simp [go_sem]
  have d00 : w1.cell? ⟨w.heap.size, 0, none⟩ = some (.int .i64 a) := by rw [c0]; simp [go_sem]
  have d01 : w1.cell? ⟨w.heap.size, 1, none⟩ = some (.int .i64 b) := by rw [c0]; simp [go_sem]
  clear c0 c1 c2 f0 f1 f2 b1
  go_wp2_with fail
  refine (RCombine_any _ l _ _ (hv.below (Nat.le_refl _) B1)).mono ?_
  rintro e w2 ⟨rfl, b2⟩
  rw [He.out]
  have z2 := b2.size
  obtain ⟨k1, l1⟩ := bk b2 (w.heap.size + 1) (by omega)
  obtain ⟨k0, l0⟩ := bk b2 w.heap.size (by omega)
  have c10 := (k1 0).trans d10
  have c11 := (k1 1).trans d11
  have c1f := fun o => (l1 o).trans (d1f o)
  have c00 := (k0 0).trans d00
  have c01 := (k0 1).trans d01
  have B2 : Below w.heap.size w w2 := (by ((repeat' (first | exact Below.refl _ _ | exact B1 | exact b2 | refine Below.alloc ?_ ?_ _ | refine Below.setCell ?_ ?_ _ | refine Below.drew ?_ | refine below_drewN ?_ _ | refine Below.trans ?_ (B1.mono ?_) | refine Below.trans ?_ (b2.mono ?_))) <;> (first | omega | (simp; done) | (simp; omega))))
  clear d00 d01 k1 l1 k0 l0 d10 d11 d1f d20 d21 b2
  have d10 := ((old1 w2 (.cells #[.int .i64 (cbLo l f), .int .i64 (cbHi l f)] 23) (b := w.heap.size + 1) (by omega) 0).1).trans c10
  have d11 := ((old1 w2 (.cells #[.int .i64 (cbLo l f), .int .i64 (cbHi l f)] 23) (b := w.heap.size + 1) (by omega) 1).1).trans c11
  have d1f := fun o => ((old1 w2 (.cells #[.int .i64 (cbLo l f), .int .i64 (cbHi l f)] 23) (b := w.heap.size + 1) (by omega) o).2).trans (c1f o)
  have d00 := ((old1 w2 (.cells #[.int .i64 (cbLo l f), .int .i64 (cbHi l f)] 23) (b := w.heap.size) (by omega) 0).1).trans c00
  have d01 := ((old1 w2 (.cells #[.int .i64 (cbLo l f), .int .i64 (cbHi l f)] 23) (b := w.heap.size) (by omega) 1).1).trans c01
  have s0 : (w2.alloc (.cells #[.int .i64 (cbLo l f), .int .i64 (cbHi l f)] 23)).cell? ⟨w2.heap.size, 0, none⟩ = some (.int .i64 (cbLo l f)) := by simp
  have s1 : (w2.alloc (.cells #[.int .i64 (cbLo l f), .int .i64 (cbHi l f)] 23)).cell? ⟨w2.heap.size, 1, none⟩ = some (.int .i64 (cbHi l f)) := by simp
  have B3 : Below w.heap.size w (w2.alloc (.cells #[.int .i64 (cbLo l f), .int .i64 (cbHi l f)] 23)) := (by ((repeat' (first | exact Below.refl _ _ | exact B2 | refine Below.alloc ?_ ?_ _ | refine Below.setCell ?_ ?_ _ | refine Below.drew ?_ | refine below_drewN ?_ _ | refine Below.trans ?_ (B2.mono ?_))) <;> (first | omega | (simp; done) | (simp; omega))))
  have z3 : w2.heap.size < (w2.alloc (.cells #[.int .i64 (cbLo l f), .int .i64 (cbHi l f)] 23)).heap.size := by simp
  clear c10 c11 c1f c00 c01 B2
  obtain ⟨i0, hi0, hz0, hz1, hz2⟩ := info_parts infoAl
  go_upto_region 10 with fail
  generalize w2.alloc (.cells #[.int .i64 (cbLo l f), .int .i64 (cbHi l f)] 23) = w3 at *
  generalize w2.heap.size = q at *
  go_cut [72] (fun s72 wx => s72 = .bool (jumpB a b l f) ∧ w3 = wx)
  case first =>
    by_cases h1 : cbHi l f < a
    · have h1' : decide (cbHi l f < a) = true := decide_eq_true h1
      go_wp2_with fail
      go_meet
      exact ⟨by rw [HJ.out, h1', Bool.true_or], rfl⟩
    · have h1' : decide (cbHi l f < a) = false := decide_eq_false h1
      go_wp2_with fail
      go_meet
      exact ⟨by rw [HJ.out, h1', Bool.false_or], rfl⟩
  case rest =>
    obtain ⟨rfl, rfl⟩ := hcut
    clear d00 d01
    generalize hj : jumpB a b l f = j
    have Hj := hide hj
    clear hj
    go_upto_if 72 with fail
    go_cut [21] (fun s21 wx => OwnAl wx w3.heap.size s21 (jL j) ∧ Below w3.heap.size w3 wx)
    case first =>
      cases j with
      | false =>
        go_wp2_with fail
        go_meet
        exact ⟨OwnP.nil _ _, Below.refl _ _⟩
      | true =>
        go_wp2_with (at_builtin; refine wpList_append_own _ rfl _ _ 27 rfl w3.heap.size 39 i0 (.agg #[.int .i64 0, .int .i64 0]) 2 16 Try.underlying27 hi0 hz0 hz1 hz2 rfl (by decide) _ 0 (encL []) rfl (World.ownsRow.alloc (OwnP.nil _ _) _) ⟨w3.heap.size, 0, none⟩ 1 1 [.int .i64 3, .int .i64 0] rfl rfl (cells_new w3 [.int .i64 3, .int .i64 0] _) (by simp [Value.oneCell']) (by unfold maxLen; omega) (by omega) (by simp) ?_; intro v4 w4 hown4 hg4 _)
        go_meet
        exact ⟨OwnP.app (c := []) hown4, ((Below.refl _ _).alloc (Nat.le_refl _) _).grown hg4 (by simp) (fun r h => by cases h)⟩
    case rest =>
      obtain ⟨hown4, B4⟩ := hcut
      have z4 := B4.size
      have hv3 := hv.below (Nat.le_refl _) B3
      have hva3 := hva.below (Nat.le_refl _) B3
      go_wp2_with fail
      refine (ROutside_any _ l _ _ (hv3.below (Nat.le_refl _) B4)).mono ?_
      rintro e w7 ⟨ov, rfl, ho, b7⟩
      have hro := ho.row
      obtain ⟨oa, ocap, rfl, o1, o2, o3⟩ := hro
      have z7 := b7.size
      have B7 : Below w3.heap.size w3 w7 := (by ((repeat' (first | exact Below.refl _ _ | exact B4 | exact b7 | refine Below.alloc ?_ ?_ _ | refine Below.setCell ?_ ?_ _ | refine Below.drew ?_ | refine below_drewN ?_ _ | refine Below.trans ?_ (B4.mono ?_) | refine Below.trans ?_ (b7.mono ?_))) <;> (first | omega | (simp; done) | (simp; omega))))
      have hown7 := hown4.below (Nat.le_refl _) b7
      have HLow := hide (World.ownsRow.lt ho)
      have HLow4 := hide (World.ownsRow.lt hown4)
      have hol := outL_length l f
      clear ho hown4 b7 B4
      go_wp2_with fail
      go_loopw [21, 24] (fun s21 s24 wx => ∃ k : Nat, k ≤ (outL l f).length ∧ s24 = .int .i64 k ∧ OwnAl wx w3.heap.size s21 (jL j ++ liesTo au (outL l f) k) ∧ Below w3.heap.size w3 wx ∧ Hid (∀ r, s21.ownBlock = some r → r < wc.heap.size ∨ w7.heap.size ≤ r) ∧ KeepR wc.heap.size w7.heap.size w7 wx) (fun _ s24 _ => (outL l f).length - (intOf s24).toNat)
      case atStart => exact ⟨0, Nat.zero_le _, rfl, by rw [show liesTo au (outL l f) 0 = [] from rfl, List.append_nil]; exact hown7, B7, hide (fun r h => .inl (HLow4.out r h).2), ⟨Nat.le_refl _, fun _ _ _ => rfl⟩⟩
      case round =>
        obtain ⟨k, hk, rfl, hown, hB, Hob, hB7⟩ := hrel
        have hlk : (jL j ++ liesTo au (outL l f) k).length = (jL j).length + k := by simp [liesTo_length]
        have hjl : (jL j).length ≤ 1 := by cases j <;> simp [jL]
        have hzr := hB.size
        have hlow := World.ownsRow.lt hown
        by_cases hlt : k < (outL l f).length
        · obtain ⟨jj, hjj, hje⟩ := outL_at hlt
          obtain ⟨b', off, rfl, h4, h5⟩ := o3 k hlt
          rw [hje] at h5
          have hb5 : wc.heap.size ≤ b' := (HLow.out b' rfl).1
          have h5' := (World.cell?_of_block (a := ⟨b', off + k, none⟩) (hB7.block b' hb5 h4)).trans h5
          obtain ⟨a', cap', e, r1, r2, r3⟩ := hva3
          cases e
          obtain ⟨b2, off2, rfl, r4, r5⟩ := r3 jj (by rw [Hlen.out]; exact hjj)
          have r5' := (hB.cell (p := ⟨b2, off2 + jj, none⟩) r4).trans r5
          have hjau : jj < au.length := by rw [Hlen.out]; exact hjj
          have Hmt := hide (show liesTo au (outL l f) (k + 1) = liesTo au (outL l f) k ++ [(4, iAt au jj)] by rw [liesTo, hje]; rfl)
          obtain ⟨ua, ucap, hov, ho1, ho2⟩ := hown.val
          have hown' := hown
          unfold OwnAl OwnP at hown'
          rw [hlk] at hown' hov
          subst hov
          have hs7 := hB7.size
          have Hlk := hide hlk
          clear hlk h5 r5 r3 o3 hje hown d10 d11 d1f s0 s1
          go_wp2_with (at_builtin; refine wpList_append_own_at _ rfl _ _ 27 rfl w3.heap.size 39 i0 (.agg #[.int .i64 0, .int .i64 0]) 2 16 Try.underlying27 hi0 hz0 hz1 hz2 rfl (by decide) _ ((jL j).length + k) (encL (jL j ++ liesTo au (outL l f) k)) rfl (World.ownsRow.alloc hown' _) ⟨wr.heap.size, 0, none⟩ 1 1 [.int .i64 4, .int .i64 (iAt au jj)] rfl rfl (cells_new wr [.int .i64 4, .int .i64 (iAt au jj)] _) (by simp [Value.oneCell']) (by unfold maxLen; omega) (by omega) (by simp; omega) ?_; intro v3 w3' hown3 hg3 _ hob3; have Hob3 := hide hob3; clear hob3)
          go_roundw
          case rel =>
            have hz3 := hg3.size
            simp only [World.size_alloc] at hz3
            refine ⟨k + 1, by omega, by go_num, ?_, ((hB.alloc (by omega) _).grown hg3 (by simp; omega) (fun r h => (hlow r h).1)), hide (fun r h => ?_), ⟨by omega, fun r h1 h2 => ?_⟩⟩
            · rw [Hmt.out, ← List.append_assoc]
              exact OwnP.app (by rw [Hlk.out]; exact hown3)
            · rcases Hob3.out with e | e
              · rw [e] at h; exact Hob.out r h
              · rw [e] at h; simp at h; omega
            · refine (hg3.block r (by simp; omega) (fun e => ?_)).trans ((Below.heap_alloc wr _ r (by omega)).trans (hB7.block r h1 h2))
              rcases Hob.out r e.symm with h | h <;> omega
          case measure => simp [intOf]; omega
        · obtain rfl : k = (outL l f).length := by omega
          obtain ⟨ua, ucap, hov, ho1, ho2⟩ := hown.val
          rw [hlk] at hov
          subst hov
          by_cases hp : 0 < promise
          · have hp1 : decide (0 < promise) = true := decide_eq_true hp
            by_cases hwd : promise < cbHi l f - cbLo l f
            · have hwd1 : decide (promise < cbHi l f - cbLo l f) = true := decide_eq_true hwd
              have HW := hide (show wideB l f promise = true by unfold wideB; simp; omega)
              have s60 := (hB.cell (p := ⟨q, 0, none⟩) z3).trans s0
              have s61 := (hB.cell (p := ⟨q, 1, none⟩) z3).trans s1
              have e60 := (hB.cell (p := ⟨w.heap.size + 1, 0, none⟩) (by show w.heap.size + 1 < w3.heap.size; omega)).trans d10
              have e61 := (hB.cell (p := ⟨w.heap.size + 1, 1, none⟩) (by show w.heap.size + 1 < w3.heap.size; omega)).trans d11
              have e6f := fun o => (hB.frozen (p := ⟨w.heap.size + 1, o, none⟩) (by show w.heap.size + 1 < w3.heap.size; omega)).trans (d1f o)
              have hown' := hown
              unfold OwnAl OwnP at hown'
              rw [hlk] at hown'
              have Hlk := hide hlk
              clear o3 d10 d11 d1f s0 s1 hlk hown
              go_wp2_with (at_builtin; refine wpList_append_own _ rfl _ _ 27 rfl w3.heap.size 39 i0 (.agg #[.int .i64 0, .int .i64 0]) 2 16 Try.underlying27 hi0 hz0 hz1 hz2 rfl (by decide) _ ((jL j).length + (outL l f).length) (encL (jL j ++ liesTo au (outL l f) (outL l f).length)) rfl (World.ownsRow.alloc hown' _) ⟨wr.heap.size, 0, none⟩ 1 1 [.int .i64 5, .int .i64 0] rfl rfl (cells_new wr [.int .i64 5, .int .i64 0] _) (by simp [Value.oneCell']) (by unfold maxLen; omega) (by omega) (by simp; omega) ?_; intro v9 w9 hown9 hg9 _)
              have z9 := hg9.size
              simp only [World.size_alloc] at z9
              have hne1 : ∀ qq, qq < w3.heap.size → some qq ≠ Value.ownBlock _ := fun qq hqq h => by have := hlow qq h.symm; omega
              have s90 := ((grown_keeps hg9 (b := q) (by simp; omega) (hne1 q z3)).1 0).trans (((old1 wr _ (by omega) 0).1).trans s60)
              have s91 := ((grown_keeps hg9 (b := q) (by simp; omega) (hne1 q z3)).1 1).trans (((old1 wr _ (by omega) 1).1).trans s61)
              have e90 := ((grown_keeps hg9 (b := w.heap.size + 1) (by simp; omega) (hne1 _ (by omega))).1 0).trans (((old1 wr _ (by omega) 0).1).trans e60)
              have e91 := ((grown_keeps hg9 (b := w.heap.size + 1) (by simp; omega) (hne1 _ (by omega))).1 1).trans (((old1 wr _ (by omega) 1).1).trans e61)
              have e9f := fun o => ((grown_keeps hg9 (b := w.heap.size + 1) (by simp; omega) (hne1 _ (by omega))).2 o).trans (((old1 wr _ (by omega) o).2).trans (e6f o))
              have B9 : Below w3.heap.size w3 w9 := ((hB.alloc (by omega) _).grown hg9 (by simp; omega) (fun r h => (hlow r h).1))
              have hown10 : OwnAl w9 w3.heap.size v9 (jL j ++ liesTo au (outL l f) (outL l f).length ++ [(5, 0)]) := OwnP.app (by rw [Hlk.out]; exact hown9)
              clear hown9 hg9 hown' s60 s61 e60 e61 e6f hne1 hB
              go_region
              all_goals go_wp2_with fail
              all_goals
                refine bodyPost_ret (v := .tuple #[v9, .agg #[.int .i64 (cbLo l f), .int .i64 (cbHi l f)], .bool true, .int .i64 0]) (by simp [results, Try.results12, go_sem, e90, e91]) rfl (CkPost.fin2 hw.out ?_ ?_)
                · rw [Hj.out, HW.out, show yL true = [(5, 0)] from rfl]
                  refine World.ownsRow.drew ?_
                  refine ownsRow_setCell_ne (ownsRow_setCell_ne (World.ownsRow.mono hown10 (by omega)) ?_ _) ?_ _
                  all_goals intro r hr
                  all_goals have := World.ownsRow.lt hown10 r hr
                  all_goals show r ≠ w.heap.size + 1
                  all_goals omega
                · ((repeat' (first | exact Below.refl _ _ | exact B3 | exact B9 | refine Below.alloc ?_ ?_ _ | refine Below.setCell ?_ ?_ _ | refine Below.drew ?_ | refine below_drewN ?_ _ | refine Below.trans ?_ (B3.mono ?_) | refine Below.trans ?_ (B9.mono ?_))) <;> (first | omega | (simp; done) | (simp; omega)))
            · have hwd1 : decide (promise < cbHi l f - cbLo l f) = false := decide_eq_false hwd
              have HW := hide (show wideB l f promise = false by unfold wideB; simp; omega)
              have s60 := (hB.cell (p := ⟨q, 0, none⟩) z3).trans s0
              have s61 := (hB.cell (p := ⟨q, 1, none⟩) z3).trans s1
              have e60 := (hB.cell (p := ⟨w.heap.size + 1, 0, none⟩) (by show w.heap.size + 1 < w3.heap.size; omega)).trans d10
              have e61 := (hB.cell (p := ⟨w.heap.size + 1, 1, none⟩) (by show w.heap.size + 1 < w3.heap.size; omega)).trans d11
              have e6f := fun o => (hB.frozen (p := ⟨w.heap.size + 1, o, none⟩) (by show w.heap.size + 1 < w3.heap.size; omega)).trans (d1f o)
              clear o3 d10 d11 d1f s0 s1
              go_wp2_with fail
              go_region
              all_goals go_wp2_with fail
              all_goals
                refine bodyPost_ret (v := .tuple #[.slice ua ((jL j).length + (outL l f).length) ucap, .agg #[.int .i64 (cbLo l f), .int .i64 (cbHi l f)], .bool true, .int .i64 0]) (by simp [results, Try.results12, go_sem, e60, e61]) rfl (CkPost.fin2 hw.out ?_ ?_)
                · rw [Hj.out, HW.out, show yL false = [] from rfl, List.append_nil]
                  refine World.ownsRow.drew ?_
                  refine ownsRow_setCell_ne (ownsRow_setCell_ne (World.ownsRow.mono hown (by omega)) ?_ _) ?_ _
                  all_goals intro r hr
                  all_goals have := World.ownsRow.lt hown r hr
                  all_goals show r ≠ w.heap.size + 1
                  all_goals omega
                · ((repeat' (first | exact Below.refl _ _ | exact B3 | exact hB | refine Below.alloc ?_ ?_ _ | refine Below.setCell ?_ ?_ _ | refine Below.drew ?_ | refine below_drewN ?_ _ | refine Below.trans ?_ (B3.mono ?_) | refine Below.trans ?_ (hB.mono ?_))) <;> (first | omega | (simp; done) | (simp; omega)))
          · have hp1 : decide (0 < promise) = false := decide_eq_false hp
            have HW := hide (show wideB l f promise = false by unfold wideB; simp; omega)
            have s60 := (hB.cell (p := ⟨q, 0, none⟩) z3).trans s0
            have s61 := (hB.cell (p := ⟨q, 1, none⟩) z3).trans s1
            have e60 := (hB.cell (p := ⟨w.heap.size + 1, 0, none⟩) (by show w.heap.size + 1 < w3.heap.size; omega)).trans d10
            have e61 := (hB.cell (p := ⟨w.heap.size + 1, 1, none⟩) (by show w.heap.size + 1 < w3.heap.size; omega)).trans d11
            have e6f := fun o => (hB.frozen (p := ⟨w.heap.size + 1, o, none⟩) (by show w.heap.size + 1 < w3.heap.size; omega)).trans (d1f o)
            clear o3 d10 d11 d1f s0 s1
            go_wp2_with fail
            go_region
            all_goals go_wp2_with fail
            all_goals
              refine bodyPost_ret (v := .tuple #[.slice ua ((jL j).length + (outL l f).length) ucap, .agg #[.int .i64 (cbLo l f), .int .i64 (cbHi l f)], .bool true, .int .i64 0]) (by simp [results, Try.results12, go_sem, e60, e61]) rfl (CkPost.fin2 hw.out ?_ ?_)
              · rw [Hj.out, HW.out, show yL false = [] from rfl, List.append_nil]
                refine World.ownsRow.drew ?_
                refine ownsRow_setCell_ne (ownsRow_setCell_ne (World.ownsRow.mono hown (by omega)) ?_ _) ?_ _
                all_goals intro r hr
                all_goals have := World.ownsRow.lt hown r hr
                all_goals show r ≠ w.heap.size + 1
                all_goals omega
              · ((repeat' (first | exact Below.refl _ _ | exact B3 | exact hB | refine Below.alloc ?_ ?_ _ | refine Below.setCell ?_ ?_ _ | refine Below.drew ?_ | refine below_drewN ?_ _ | refine Below.trans ?_ (B3.mono ?_) | refine Below.trans ?_ (hB.mono ?_))) <;> (first | omega | (simp; done) | (simp; omega)))
theorem RCheck_any (a b : Int) (va v : Value) (au : List Int) (l : List Iv) (f lost asked promise : Int) (w : World) (hva : IsRow w va au) (hv : IvRow w v l) :
    Calls Try.prog 12 #[.agg #[.int .i64 a, .int .i64 b], va, v, .int .i64 f, .int .i64 lost, .int .i64 asked, .int .i64 promise] w (CkPost w a b au l f lost asked promise) := by
  cases hr : rndB a b au l f lost asked promise with
  | false => exact RCheck_arg a b va v au l f lost asked promise w hva hv hr
  | true =>
    cases hf : fewB l f lost asked with
    | true =>
      by_cases h1 : (l.length : Int) < asked - lost
      · exact RCheck_few1 a b va v au l f lost asked promise w hva hv hr h1
      · exact RCheck_few2 a b va v au l f lost asked promise w hva hv hr h1 (by simp only [fewB, decide_eq_true_eq] at hf; omega)
    | false =>
      by_cases he : cbEr l f = 0
      · exact RCheck_ok a b va v au l f lost asked promise w hva hv hr hf he
      · exact RCheck_empty a b va v au l f lost asked promise w hva hv hr hf he
end Go.Proofs.Ythklljlachljgaa
