/- Package watch: Check, the ways without and with a common time. -/
import Derived.Test.YthklljlachljgaaWtD
import Derived.Deep.DeepCutAuto
import Derived.Maps.AppendAt
namespace Go.Proofs.Ythklljlachljgaa
open Go.RowKit
attribute [local go_sem ↓] run_max_mx run_min_mn run_eql_iv run_neq_iv run_eql_al run_neq_al
theorem al_filter (au : List Int) (l : List Iv) (f : Int) (j k : Bool) : ((((if j = true then (3 : Int) else 0), (0 : Int)) :: liesTo au (outL l f) (outL l f).length ++ [((if k = true then (5 : Int) else 0), (0 : Int))]).filter isAl) =
    (if j = true then [((3 : Int), (0 : Int))] else []) ++ lies au l f ++ (if k = true then [((5 : Int), (0 : Int))] else []) := by
  rw [List.filter_append, List.filter_cons, liesTo_filter]
  cases j <;> cases k <;> simp [isAl, lies]
theorem CkPost.fin {w w' : World} {a b x y : Int} {au : List Int} {l : List Iv} {f lost asked promise : Int} {v : Value} (h : way a b au l f lost asked promise = .ok) (hx : (if jumpB a b l f = true then (3 : Int) else 0) = x) (hy : (if wideB l f promise = true then (5 : Int) else 0) = y)
    (ho : OwnAl w' w.heap.size v (((x, 0) :: liesTo au (outL l f) (outL l f).length ++ [(y, 0)]).filter isAl)) (hb : Below w.heap.size w w') :
    CkPost w a b au l f lost asked promise (.returned (.tuple #[v, .agg #[.int .i64 (cbLo l f), .int .i64 (cbHi l f)], .bool true, .int .i64 0])) w' := by
  refine ⟨v, by simp only [ckLo, ckHi, ckIs, ckEr, h], ?_, hb⟩
  rw [← hx, ← hy, al_filter] at ho
  have e : alL a b au l f lost asked promise = (if jumpB a b l f = true then [((3 : Int), (0 : Int))] else []) ++ lies au l f ++ (if wideB l f promise = true then [((5 : Int), (0 : Int))] else []) := by simp only [alL, h]
  rw [e]; exact ho
/-- All blocks below lo but one stand. -/
structure KeepX (p lo : Nat) (A B : World) : Prop where
  size : A.heap.size ≤ B.heap.size
  block : ∀ r, r < lo → r ≠ p → B.heap[r]? = A.heap[r]?
theorem fewB_no {l : List Iv} {f lost asked : Int} (h : fewB l f lost asked = false) : ¬ (l.length : Int) < mx (asked - lost) (f + 1) := by
  have m := mx_spec (asked - lost) (f + 1)
  simp only [fewB, decide_eq_false_iff_not] at h; omega
theorem cb_valid {l : List Iv} {f : Int} (h : cbEr l f = 0) : validB (cbLo l f) (cbHi l f) = true := by
  have h1 := cbEr_zero h
  have h2 := (setL_spec h1.1).1
  have e := h2.ends (h2.ends_mem h1.2).1
  have a := h2.at 0 h1.2
  have b := h2.at ((setL l f).length - 1) (by omega)
  rw [validB_iff]
  unfold cbLo cbHi
  omega
theorem outL_at {l : List Iv} {f : Int} {k : Nat} (hk : k < (outL l f).length) : ∃ j : Nat, j < l.length ∧ iAt (outL l f) k = j := by
  have h := iAt_mem hk
  unfold outL at h hk
  by_cases h0 : (setL l f).length = 0
  · rw [if_pos h0] at hk; simp at hk
  · rw [if_neg h0] at h
    obtain ⟨j, hj, e, _⟩ := (outTo_mem l (setL l f) l.length _).1 h
    exact ⟨j, hj, by unfold outL; rw [if_neg h0]; exact e⟩
theorem own_litA (w : World) (base : Nat) (c : List Iv) (T : TypeId) (hb : base ≤ w.heap.size) (hc : c.length ≤ 9223372036854775807) : OwnP T (w.alloc (.cells (encL c).toArray T)) base (.slice (some ⟨w.heap.size, 0, none⟩) c.length c.length) c :=
  ⟨encL_length c, .inr ⟨w.heap.size, c.length, (encL c).toArray, rfl, hb, World.alloc_heap_new w _, Nat.le_refl _, hc, by simp [encL_length], by simp [← encL_length c]⟩⟩
set_option maxRecDepth 100000 in
set_option maxHeartbeats 1000000 in
theorem Check_empty (a b : Int) (va v : Value) (au : List Int) (l : List Iv) (f lost asked promise : Int) (w : World) (hva : IsRow w va au) (hv : IvRow w v l) (hr : rndB a b au l f lost asked promise = true) (hfew : fewB l f lost asked = false) (he : cbEr l f ≠ 0) :
    Calls Try.prog 11 #[.agg #[.int .i64 a, .int .i64 b], va, v, .int .i64 f, .int .i64 lost, .int .i64 asked, .int .i64 promise] w (CkPost w a b au l f lost asked promise) := by
  have hw := hide (show way a b au l f lost asked promise = .empty by unfold way; rw [if_pos hr, if_neg (by simp [hfew]), if_neg he])
  have hlt := fewB_no hfew
  have hne : (cbEr l f == 0) = false := by rw [beq_eq_false_iff_ne]; exact he
  have hne2 : (cbEr l f != 0) = true := by rw [bne_iff_ne]; exact he
  clear hfew he
  have hri := (rndB_iff _ _ _ _ _ _ _ _).1 hr
  have hrl := rnd_list hr
  have hl16 := hrl.2.1
  have hfb := hri.2.2.2.2.1
  have hlb := hri.2.2.2.2.2.1
  have hab := hri.2.2.2.2.2.2.1
  have hpb := hri.2.2.2.2.2.2.2
  have Hr := hide hr
  clear hr hri hrl
  obtain ⟨a1, cap1, rfl, g1, g2, g3⟩ := id hva
  obtain ⟨a2, cap2, rfl, h1, h2, h3⟩ := id hv
  clear g3 h3
  go_enter Try.func11, Try.ntmps11
  go_wp2_with fail
  refine (isRound_any _ _ _ _ _ au l _ [f, lost, asked] _ (hva.below (Nat.le_refl _) (by ((repeat' (first | exact Below.refl _ _ | refine Below.alloc ?_ ?_ _ | refine Below.setCell ?_ ?_ _ | refine Below.drew ?_ | refine below_drewN ?_ _)) <;> (first | omega | (simp; done) | (simp; omega))))) (hv.below (Nat.le_refl _) (by ((repeat' (first | exact Below.refl _ _ | refine Below.alloc ?_ ?_ _ | refine Below.setCell ?_ ?_ _ | refine Below.drew ?_ | refine below_drewN ?_ _)) <;> (first | omega | (simp; done) | (simp; omega))))) (cnt_row w _ _ f lost asked)).mono ?_
  rintro e w1 ⟨rfl, b1⟩
  rw [allO_three]
  rw [show (auB au au.length && (validB a b && decide (au.length = l.length) && allV l l.length && (inB f 0 16 && inB lost 0 16 && inB asked 0 16) && inB promise 0 3000000000000000)) = true from Hr.out]
  obtain ⟨c1, f1⟩ := bk b1 (w.heap.size + 1) (by simp)
  obtain ⟨c0, f0⟩ := bk b1 w.heap.size (by simp; omega)
  have z1 := b1.size
  simp only [World.size_alloc] at z1
  have B1 : Below w.heap.size w w1 := (by ((repeat' (first | exact Below.refl _ _ | exact b1 | refine Below.alloc ?_ ?_ _ | refine Below.setCell ?_ ?_ _ | refine Below.drew ?_ | refine below_drewN ?_ _ | refine Below.trans ?_ (b1.mono ?_))) <;> (first | omega | (simp; done) | (simp; omega))))
  have d10 : w1.cell? ⟨w.heap.size + 1, 0, none⟩ = some (.int .i64 0) := by rw [c1]; simp [go_sem]
  have d11 : w1.cell? ⟨w.heap.size + 1, 1, none⟩ = some (.int .i64 0) := by rw [c1]; simp [go_sem]
  have d1f : ∀ o, w1.frozen? ⟨w.heap.size + 1, o, none⟩ = false := fun o => by rw [f1]; simp [go_sem]
  have d00 : w1.cell? ⟨w.heap.size, 0, none⟩ = some (.int .i64 a) := by rw [c0]; simp [go_sem]
  have d01 : w1.cell? ⟨w.heap.size, 1, none⟩ = some (.int .i64 b) := by rw [c0]; simp [go_sem]
  clear c0 c1 f0 f1 b1
  go_wp2_with fail
  refine (Combine_any _ l _ _ (hv.below (Nat.le_refl _) B1)).mono ?_
  rintro e w2 ⟨rfl, b2⟩
  have z2 := b2.size
  obtain ⟨k1, l1⟩ := bk b2 (w.heap.size + 1) (by omega)
  have d20 := (k1 0).trans d10
  have d21 := (k1 1).trans d11
  have d2f := fun o => (l1 o).trans (d1f o)
  have B2 : Below w.heap.size w w2 := (by ((repeat' (first | exact Below.refl _ _ | exact B1 | exact b2 | refine Below.alloc ?_ ?_ _ | refine Below.setCell ?_ ?_ _ | refine Below.drew ?_ | refine below_drewN ?_ _ | refine Below.trans ?_ (B1.mono ?_) | refine Below.trans ?_ (b2.mono ?_))) <;> (first | omega | (simp; done) | (simp; omega))))
  clear d00 d01 k1 l1 d10 d11 d1f b2
  go_wp2_with fail
  have hrow := ivrow_litA (w2.alloc (.cells #[.int .i64 (cbLo l f), .int .i64 (cbHi l f)] 23)) [(1, 0)] 39 (by simp)
  refine (alarms_any _ [(1, 0)] _ (by simpa [encL] using hrow) (by simp) (by simp)).mono ?_
  rintro e w3 ⟨v3, rfl, ho3, b3⟩
  obtain ⟨k1, l1⟩ := bk b3 (w.heap.size + 1) (by simp; omega)
  have z3 := b3.size
  simp only [World.size_alloc] at z3
  have e10 : w3.cell? ⟨w.heap.size + 1, 0, none⟩ = some (.int .i64 0) := by rw [k1, (old2 w2 _ _ (by omega) 0).1]; exact d20
  have e11 : w3.cell? ⟨w.heap.size + 1, 1, none⟩ = some (.int .i64 0) := by rw [k1, (old2 w2 _ _ (by omega) 1).1]; exact d21
  have e1f : ∀ o, w3.frozen? ⟨w.heap.size + 1, o, none⟩ = false := fun o => by rw [l1, (old2 w2 _ _ (by omega) o).2]; exact d2f o
  clear k1 l1 d20 d21 d2f hrow
  go_wp2_with fail
  refine bodyPost_ret (v := .tuple #[v3, .agg #[.int .i64 0, .int .i64 0], .bool false, .int .i64 0]) (by simp [results, Try.results11, go_sem, e10, e11]) rfl (CkPost.one (.inr hw.out) ?_ ?_)
  · rw [show alL a b au l f lost asked promise = [(1, 0)].filter isAl by simp only [alL, hw.out]; rfl]
    refine ownsRow_setCell_ne (ownsRow_setCell_ne (ho3.mono (by simp; omega)) ?_ _) ?_ _
    all_goals intro q hq
    all_goals have := World.ownsRow.lt ho3 q hq
    all_goals simp at this
    all_goals show q ≠ w.heap.size + 1
    all_goals omega
  · ((repeat' (first | exact Below.refl _ _ | exact B2 | exact b3 | refine Below.alloc ?_ ?_ _ | refine Below.setCell ?_ ?_ _ | refine Below.drew ?_ | refine below_drewN ?_ _ | refine Below.trans ?_ (B2.mono ?_) | refine Below.trans ?_ (b3.mono ?_))) <;> (first | omega | (simp; done) | (simp; omega)))
set_option maxRecDepth 100000 in
set_option maxHeartbeats 1000000 in
theorem Check_ok (a b : Int) (va v : Value) (au : List Int) (l : List Iv) (f lost asked promise : Int) (w : World) (hva : IsRow w va au) (hv : IvRow w v l) (hr : rndB a b au l f lost asked promise = true) (hfew : fewB l f lost asked = false) (he : cbEr l f = 0) :
    Calls Try.prog 11 #[.agg #[.int .i64 a, .int .i64 b], va, v, .int .i64 f, .int .i64 lost, .int .i64 asked, .int .i64 promise] w (CkPost w a b au l f lost asked promise) := by
  have hw := hide (show way a b au l f lost asked promise = .ok by unfold way; rw [if_pos hr, if_neg (by simp [hfew]), if_pos he])
  have hlt := fewB_no hfew
  have hva1 := ((rndB_iff _ _ _ _ _ _ _ _).1 hr).2.1
  have hcv := cb_valid he
  have hcvi := (validB_iff _ _).1 hcv
  have HM := hide (meet_cross hva1 hcv)
  have Hlen := hide ((rndB_iff _ _ _ _ _ _ _ _).1 hr).2.2.1
  have He := hide he
  clear hfew he hva1 hcv
  have hri := (rndB_iff _ _ _ _ _ _ _ _).1 hr
  have hrl := rnd_list hr
  have hl16 := hrl.2.1
  have hfb := hri.2.2.2.2.1
  have hlb := hri.2.2.2.2.2.1
  have hab := hri.2.2.2.2.2.2.1
  have hpb := hri.2.2.2.2.2.2.2
  have Hr := hide hr
  clear hr hri hrl
  obtain ⟨a1, cap1, rfl, g1, g2, g3⟩ := id hva
  obtain ⟨a2, cap2, rfl, h1, h2, h3⟩ := id hv
  clear g3 h3
  go_enter Try.func11, Try.ntmps11
  go_wp2_with fail
  refine (isRound_any _ _ _ _ _ au l _ [f, lost, asked] _ (hva.below (Nat.le_refl _) (by ((repeat' (first | exact Below.refl _ _ | refine Below.alloc ?_ ?_ _ | refine Below.setCell ?_ ?_ _ | refine Below.drew ?_ | refine below_drewN ?_ _)) <;> (first | omega | (simp; done) | (simp; omega))))) (hv.below (Nat.le_refl _) (by ((repeat' (first | exact Below.refl _ _ | refine Below.alloc ?_ ?_ _ | refine Below.setCell ?_ ?_ _ | refine Below.drew ?_ | refine below_drewN ?_ _)) <;> (first | omega | (simp; done) | (simp; omega))))) (cnt_row w _ _ f lost asked)).mono ?_
  rintro e w1 ⟨rfl, b1⟩
  rw [allO_three]
  rw [show (auB au au.length && (validB a b && decide (au.length = l.length) && allV l l.length && (inB f 0 16 && inB lost 0 16 && inB asked 0 16) && inB promise 0 3000000000000000)) = true from Hr.out]
  obtain ⟨c1, f1⟩ := bk b1 (w.heap.size + 1) (by simp)
  obtain ⟨c0, f0⟩ := bk b1 w.heap.size (by simp; omega)
  have z1 := b1.size
  simp only [World.size_alloc] at z1
  have B1 : Below w.heap.size w w1 := (by ((repeat' (first | exact Below.refl _ _ | exact b1 | refine Below.alloc ?_ ?_ _ | refine Below.setCell ?_ ?_ _ | refine Below.drew ?_ | refine below_drewN ?_ _ | refine Below.trans ?_ (b1.mono ?_))) <;> (first | omega | (simp; done) | (simp; omega))))
  have d10 : w1.cell? ⟨w.heap.size + 1, 0, none⟩ = some (.int .i64 0) := by rw [c1]; simp [go_sem]
  have d11 : w1.cell? ⟨w.heap.size + 1, 1, none⟩ = some (.int .i64 0) := by rw [c1]; simp [go_sem]
  have d1f : ∀ o, w1.frozen? ⟨w.heap.size + 1, o, none⟩ = false := fun o => by rw [f1]; simp [go_sem]
  have d00 : w1.cell? ⟨w.heap.size, 0, none⟩ = some (.int .i64 a) := by rw [c0]; simp [go_sem]
  have d01 : w1.cell? ⟨w.heap.size, 1, none⟩ = some (.int .i64 b) := by rw [c0]; simp [go_sem]
  clear c0 c1 f0 f1 b1
  go_wp2_with fail
  refine (Combine_any _ l _ _ (hv.below (Nat.le_refl _) B1)).mono ?_
  rintro e w2 ⟨rfl, b2⟩
  rw [He.out]
  have z2 := b2.size
  obtain ⟨k1, l1⟩ := bk b2 (w.heap.size + 1) (by omega)
  obtain ⟨k0, l0⟩ := bk b2 w.heap.size (by omega)
  have d20 := (k1 0).trans d10
  have d21 := (k1 1).trans d11
  have d2f := fun o => (l1 o).trans (d1f o)
  have d200 := (k0 0).trans d00
  have d201 := (k0 1).trans d01
  have B2 : Below w.heap.size w w2 := (by ((repeat' (first | exact Below.refl _ _ | exact B1 | exact b2 | refine Below.alloc ?_ ?_ _ | refine Below.setCell ?_ ?_ _ | refine Below.drew ?_ | refine below_drewN ?_ _ | refine Below.trans ?_ (B1.mono ?_) | refine Below.trans ?_ (b2.mono ?_))) <;> (first | omega | (simp; done) | (simp; omega))))
  clear d00 d01 k1 l1 k0 l0 d10 d11 d1f b2
  go_upto_region 8 with fail
  have B3 : Below w.heap.size w (w2.alloc (.cells #[.int .i64 (cbLo l f), .int .i64 (cbHi l f)] 23)) := (by ((repeat' (first | exact Below.refl _ _ | exact B2 | refine Below.alloc ?_ ?_ _ | refine Below.setCell ?_ ?_ _ | refine Below.drew ?_ | refine below_drewN ?_ _ | refine Below.trans ?_ (B2.mono ?_))) <;> (first | omega | (simp; done) | (simp; omega))))
  have d30 := ((old1 w2 (.cells #[.int .i64 (cbLo l f), .int .i64 (cbHi l f)] 23) (b := w.heap.size + 1) (by omega) 0).1).trans d20
  have d31 := ((old1 w2 (.cells #[.int .i64 (cbLo l f), .int .i64 (cbHi l f)] 23) (b := w.heap.size + 1) (by omega) 1).1).trans d21
  have d3f := fun o => ((old1 w2 (.cells #[.int .i64 (cbLo l f), .int .i64 (cbHi l f)] 23) (b := w.heap.size + 1) (by omega) o).2).trans (d2f o)
  have d300 := ((old1 w2 (.cells #[.int .i64 (cbLo l f), .int .i64 (cbHi l f)] 23) (b := w.heap.size) (by omega) 0).1).trans d200
  have d301 := ((old1 w2 (.cells #[.int .i64 (cbLo l f), .int .i64 (cbHi l f)] 23) (b := w.heap.size) (by omega) 1).1).trans d201
  have s0 : (w2.alloc (.cells #[.int .i64 (cbLo l f), .int .i64 (cbHi l f)] 23)).cell? ⟨w2.heap.size, 0, none⟩ = some (.int .i64 (cbLo l f)) := by simp
  have s1 : (w2.alloc (.cells #[.int .i64 (cbLo l f), .int .i64 (cbHi l f)] 23)).cell? ⟨w2.heap.size, 1, none⟩ = some (.int .i64 (cbHi l f)) := by simp
  have z3 : w2.heap.size + 1 ≤ (w2.alloc (.cells #[.int .i64 (cbLo l f), .int .i64 (cbHi l f)] 23)).heap.size := by simp
  clear d20 d21 d2f d200 d201 B2
  generalize w2.alloc (.cells #[.int .i64 (cbLo l f), .int .i64 (cbHi l f)] 23) = w3 at *
  generalize w2.heap.size = q at *
  go_wp2_with fail
  refine (Meet_any _ _ _ _ _).mono ?_
  rintro e w4 ⟨rfl, b4⟩
  rw [HM.out]
  have z4 := b4.size
  have B4 : Below w.heap.size w w4 := (by ((repeat' (first | exact Below.refl _ _ | exact B3 | exact b4 | refine Below.alloc ?_ ?_ _ | refine Below.setCell ?_ ?_ _ | refine Below.drew ?_ | refine below_drewN ?_ _ | refine Below.trans ?_ (B3.mono ?_) | refine Below.trans ?_ (b4.mono ?_))) <;> (first | omega | (simp; done) | (simp; omega))))
  go_wp2_with fail
  generalize hO : Obj.cells #[Value.int IntKind.i64 (meetLo a b (cbLo l f) (cbHi l f)), Value.int IntKind.i64 (meetHi a b (cbLo l f) (cbHi l f))] 23 = O4
  refine (found_any 3 (jumpB a b l f) _).mono ?_
  rintro e w5 ⟨rfl, b5⟩
  have z5 := b5.size
  simp only [World.size_alloc] at z5
  have b45 : Below w3.heap.size w3 w5 := (by ((repeat' (first | exact Below.refl _ _ | exact b4 | exact b5 | refine Below.alloc ?_ ?_ _ | refine Below.setCell ?_ ?_ _ | refine Below.drew ?_ | refine below_drewN ?_ _ | refine Below.trans ?_ (b4.mono ?_) | refine Below.trans ?_ (b5.mono ?_))) <;> (first | omega | (simp; done) | (simp; omega))))
  obtain ⟨k1, l1⟩ := bk b45 (w.heap.size + 1) (by omega)
  obtain ⟨ks, ls⟩ := bk b45 q (by omega)
  have d50 := (k1 0).trans d30
  have d51 := (k1 1).trans d31
  have d5f := fun o => (l1 o).trans (d3f o)
  have s50 := (ks 0).trans s0
  have s51 := (ks 1).trans s1
  have B5 : Below w.heap.size w w5 := (by ((repeat' (first | exact Below.refl _ _ | exact B3 | exact b45 | refine Below.alloc ?_ ?_ _ | refine Below.setCell ?_ ?_ _ | refine Below.drew ?_ | refine below_drewN ?_ _ | refine Below.trans ?_ (B3.mono ?_) | refine Below.trans ?_ (b45.mono ?_))) <;> (first | omega | (simp; done) | (simp; omega))))
  generalize hx : (if jumpB a b l f = true then (3 : Int) else 0) = x
  have Hx := hide hx
  clear k1 l1 ks ls d30 d31 d3f d300 d301 s0 s1 b45 b4 b5 B4 hx hO
  go_wp2_with fail
  have hown0 := own_litA w5 w5.heap.size [(x, 0)] 39 (Nat.le_refl _) (by simp)
  have hown1 : OwnAl (w5.alloc (.cells #[.int .i64 x, .int .i64 0] 39)) w5.heap.size (.slice (some ⟨w5.heap.size, 0, none⟩) 1 1) [(x, 0)] := by simpa [encL] using hown0
  have B6 : Below w5.heap.size w5 (w5.alloc (.cells #[.int .i64 x, .int .i64 0] 39)) := (by ((repeat' (first | exact Below.refl _ _ | refine Below.alloc ?_ ?_ _ | refine Below.setCell ?_ ?_ _ | refine Below.drew ?_ | refine below_drewN ?_ _)) <;> (first | omega | (simp; done) | (simp; omega))))
  clear hown0
  have z6 : (w5.alloc (.cells #[.int .i64 x, .int .i64 0] 39)).heap.size = w5.heap.size + 1 := by simp
  generalize w5.alloc (.cells #[.int .i64 x, .int .i64 0] 39) = w6 at *
  have hv5 := hv.below (Nat.le_refl _) B5
  refine (Outside_any _ l _ _ (hv5.below (Nat.le_refl _) B6)).mono ?_
  rintro e w7 ⟨ov, rfl, ho, b7⟩
  have hro := ho.row
  have hva5 := hva.below (Nat.le_refl _) B5
  obtain ⟨oa, ocap, rfl, o1, o2, o3⟩ := hro
  have z7 := b7.size
  have B7 : Below w5.heap.size w5 w7 := (by ((repeat' (first | exact Below.refl _ _ | exact B6 | exact b7 | refine Below.alloc ?_ ?_ _ | refine Below.setCell ?_ ?_ _ | refine Below.drew ?_ | refine below_drewN ?_ _ | refine Below.trans ?_ (B6.mono ?_) | refine Below.trans ?_ (b7.mono ?_))) <;> (first | omega | (simp; done) | (simp; omega))))
  have hown7 := hown1.below (Nat.le_refl _) b7
  have HLow := hide (World.ownsRow.lt ho)
  have hol := outL_length l f
  clear ho hown1 b7 B6
  obtain ⟨i0, hi0, hz0, hz1, hz2⟩ := info_parts infoAl
  go_wp2_with fail
  go_loopw [24, 85] (fun s24 s85 wx => ∃ k : Nat, k ≤ (outL l f).length ∧ s85 = .int .i64 k ∧ OwnAl wx w5.heap.size s24 ((x, 0) :: liesTo au (outL l f) k) ∧ Below w5.heap.size w5 wx ∧ Hid (∀ r, s24.ownBlock = some r → r = w5.heap.size ∨ w7.heap.size ≤ r) ∧ KeepX w5.heap.size w7.heap.size w7 wx) (fun _ s85 _ => (outL l f).length - (intOf s85).toNat)
  case atStart => exact ⟨0, Nat.zero_le _, rfl, hown7, B7, hide (fun r h => by cases h; exact .inl rfl), ⟨Nat.le_refl _, fun _ _ _ => rfl⟩⟩
  case round =>
    obtain ⟨k, hk, rfl, hown, hB, Hob, hB7⟩ := hrel
    have hlk : ((x, 0) :: liesTo au (outL l f) k).length = k + 1 := by simp [liesTo_length]
    have hzr := hB.size
    have hlow := World.ownsRow.lt hown
    by_cases hlt : k < (outL l f).length
    · obtain ⟨j, hj, hje⟩ := outL_at hlt
      obtain ⟨b', off, rfl, h4, h5⟩ := o3 k hlt
      rw [hje] at h5
      have hb5 : w6.heap.size ≤ b' := (HLow.out b' rfl).1
      have h5' := (World.cell?_of_block (a := ⟨b', off + k, none⟩) (hB7.block b' h4 (by omega))).trans h5
      obtain ⟨a', cap', e, r1, r2, r3⟩ := hva5
      cases e
      obtain ⟨b2, off2, rfl, r4, r5⟩ := r3 j (by rw [Hlen.out]; exact hj)
      have r5' := (hB.cell (p := ⟨b2, off2 + j, none⟩) r4).trans r5
      have hjau : j < au.length := by rw [Hlen.out]; exact hj
      have Hmt := hide (show liesTo au (outL l f) (k + 1) = liesTo au (outL l f) k ++ [(4, iAt au j)] by rw [liesTo, hje]; rfl)
      obtain ⟨ua, ucap, hov, ho1, ho2⟩ := hown.val
      have hown' := hown
      unfold OwnAl OwnP at hown'
      rw [hlk] at hown' hov
      subst hov
      have hs7 := hB7.size
      have Hlk := hide hlk
      clear hlk h5 r5 r3 o3 hje hown s50 s51 d50 d51 d5f
      go_wp2_with (at_builtin; refine wpList_append_own_at _ rfl _ _ 27 rfl w5.heap.size 39 i0 (.agg #[.int .i64 0, .int .i64 0]) 2 16 Try.underlying27 hi0 hz0 hz1 hz2 rfl (by decide) _ (k + 1) (encL ((x, 0) :: liesTo au (outL l f) k)) rfl (World.ownsRow.alloc hown' _) ⟨wr.heap.size, 0, none⟩ 1 1 [.int .i64 4, .int .i64 (iAt au j)] rfl rfl (cells_new wr [.int .i64 4, .int .i64 (iAt au j)] _) (by simp [Value.oneCell']) (by unfold maxLen; omega) (by omega) (by simp; omega) ?_; intro v3 w3' hown3 hg3 _ hob3; have Hob3 := hide hob3; clear hob3)
      go_roundw
      case rel =>
        have hz3 := hg3.size
        simp only [World.size_alloc] at hz3
        refine ⟨k + 1, by omega, by go_num, ?_, ((hB.alloc (by omega) _).grown hg3 (by simp; omega) (fun r h => (hlow r h).1)), hide (fun r h => ?_), ⟨by omega, fun r h1 h2 => ?_⟩⟩
        · rw [Hmt.out, show ∀ (L M : List Iv), (x, (0 : Int)) :: (L ++ M) = ((x, 0) :: L) ++ M from fun L M => rfl]
          exact OwnP.app (by rw [Hlk.out]; exact hown3)
        · rcases Hob3.out with e | e
          · rw [e] at h; exact Hob.out r h
          · rw [e] at h; simp at h; omega
        · refine (hg3.block r (by simp; omega) (fun e => ?_)).trans ((Below.heap_alloc wr _ r (by omega)).trans (hB7.block r h1 h2))
          rcases Hob.out r e.symm with h | h <;> omega
      case measure => simp [intOf]; omega
    · obtain rfl : k = (outL l f).length := by omega
      have s60 := (hB.cell (p := ⟨q, 0, none⟩) (by show q < w5.heap.size; omega)).trans s50
      have s61 := (hB.cell (p := ⟨q, 1, none⟩) (by show q < w5.heap.size; omega)).trans s51
      have e60 := (hB.cell (p := ⟨w.heap.size + 1, 0, none⟩) (by show w.heap.size + 1 < w5.heap.size; omega)).trans d50
      have e61 := (hB.cell (p := ⟨w.heap.size + 1, 1, none⟩) (by show w.heap.size + 1 < w5.heap.size; omega)).trans d51
      have e6f := fun o => (hB.frozen (p := ⟨w.heap.size + 1, o, none⟩) (by show w.heap.size + 1 < w5.heap.size; omega)).trans (d5f o)
      obtain ⟨ua, ucap, hov, ho1, ho2⟩ := hown.val
      rw [hlk] at hov
      subst hov
      clear o3 s50 s51 d50 d51 d5f hv5 hva5
      by_cases hp : 0 < promise
      · have hp1 : decide (0 < promise) = true := decide_eq_true hp
        have HW := hide (show wideB l f promise = decide (promise < cbHi l f - cbLo l f) by unfold wideB; rw [Bool.eq_iff_iff]; simp only [decide_eq_true_eq]; omega)
        go_wp2_with fail
        refine (found_any 5 _ _).mono ?_
        rintro e w8 ⟨rfl, b8⟩
        rw [← HW.out]
        have z8 := b8.size
        generalize hy : (if wideB l f promise = true then (5 : Int) else 0) = y
        have Hy := hide hy
        have hown8 := hown.below (Nat.le_refl _) b8
        have s80 := (b8.cell (p := ⟨q, 0, none⟩) (by show q < wr.heap.size; omega)).trans s60
        have s81 := (b8.cell (p := ⟨q, 1, none⟩) (by show q < wr.heap.size; omega)).trans s61
        have e80 := (b8.cell (p := ⟨w.heap.size + 1, 0, none⟩) (by show w.heap.size + 1 < wr.heap.size; omega)).trans e60
        have e81 := (b8.cell (p := ⟨w.heap.size + 1, 1, none⟩) (by show w.heap.size + 1 < wr.heap.size; omega)).trans e61
        have e8f := fun o => (b8.frozen (p := ⟨w.heap.size + 1, o, none⟩) (by show w.heap.size + 1 < wr.heap.size; omega)).trans (e6f o)
        have B8 : Below w5.heap.size w5 w8 := (by ((repeat' (first | exact Below.refl _ _ | exact hB | exact b8 | refine Below.alloc ?_ ?_ _ | refine Below.setCell ?_ ?_ _ | refine Below.drew ?_ | refine below_drewN ?_ _ | refine Below.trans ?_ (hB.mono ?_) | refine Below.trans ?_ (b8.mono ?_))) <;> (first | omega | (simp; done) | (simp; omega))))
        have hown8' := hown8
        unfold OwnAl OwnP at hown8'
        rw [hlk] at hown8'
        have Hlk := hide hlk
        have hlow8 := World.ownsRow.lt hown8
        clear hy hown8 hown b8 hlk s60 s61 e60 e61 e6f HW
        go_wp2_with (at_builtin; refine wpList_append_own _ rfl _ _ 27 rfl w5.heap.size 39 i0 (.agg #[.int .i64 0, .int .i64 0]) 2 16 Try.underlying27 hi0 hz0 hz1 hz2 rfl (by decide) _ ((outL l f).length + 1) (encL ((x, 0) :: liesTo au (outL l f) (outL l f).length)) rfl (World.ownsRow.alloc hown8' _) ⟨w8.heap.size, 0, none⟩ 1 1 [.int .i64 y, .int .i64 0] rfl rfl (cells_new w8 [.int .i64 y, .int .i64 0] _) (by simp [Value.oneCell']) (by unfold maxLen; omega) (by omega) (by simp; omega) ?_; intro v9 w9 hown9 hg9 _)
        have z9 := hg9.size
        simp only [World.size_alloc] at z9
        have hne1 : ∀ qq, qq < w5.heap.size → some qq ≠ Value.ownBlock _ := fun qq hqq h => by have := hlow8 qq h.symm; omega
        have s90 := ((grown_keeps hg9 (b := q) (by simp; omega) (hne1 q (by omega))).1 0).trans (((old1 w8 _ (by omega) 0).1).trans s80)
        have s91 := ((grown_keeps hg9 (b := q) (by simp; omega) (hne1 q (by omega))).1 1).trans (((old1 w8 _ (by omega) 1).1).trans s81)
        have e90 := ((grown_keeps hg9 (b := w.heap.size + 1) (by simp; omega) (hne1 _ (by omega))).1 0).trans (((old1 w8 _ (by omega) 0).1).trans e80)
        have e91 := ((grown_keeps hg9 (b := w.heap.size + 1) (by simp; omega) (hne1 _ (by omega))).1 1).trans (((old1 w8 _ (by omega) 1).1).trans e81)
        have e9f := fun o => ((grown_keeps hg9 (b := w.heap.size + 1) (by simp; omega) (hne1 _ (by omega))).2 o).trans (((old1 w8 _ (by omega) o).2).trans (e8f o))
        have B9 : Below w5.heap.size w5 w9 := ((B8.alloc (by omega) _).grown hg9 (by simp; omega) (fun r h => (hlow8 r h).1))
        have hown10 : OwnAl w9 w5.heap.size v9 ((x, 0) :: liesTo au (outL l f) (outL l f).length ++ [(y, 0)]) := OwnP.app (by rw [Hlk.out]; exact hown9)
        have hr10 := hown10.row
        have hcl10 : ((x, 0) :: liesTo au (outL l f) (outL l f).length ++ [(y, 0)]).length = (outL l f).length + 1 + 1 := by simp [liesTo_length]
        obtain ⟨va, vcap, hva10, _, _⟩ := hown10.val
        rw [hcl10] at hva10
        subst hva10
        have Hcl := hide hcl10
        clear hcl10 hown10 hown9 hg9 e80 e81 e8f s80 s81 hne1 hlow8 hown8' B8 hB
        have zB9 := B9.size
        go_region_with (go_at_call 22; refine (alarms_any _ _ _ (hr10.below (Nat.le_refl _) (by ((repeat' (first | exact Below.refl _ _ | refine Below.alloc ?_ ?_ _ | refine Below.setCell ?_ ?_ _ | refine Below.drew ?_ | refine below_drewN ?_ _)) <;> (first | omega | (simp; done) | (simp; omega))))) (by rw [Hcl.out]; omega) (by rw [Hcl.out]; omega)).mono ?_; rintro e w10 ⟨v10, rfl, ho10, b10⟩; obtain ⟨kq, lq⟩ := bk b10 q (by simp; omega); obtain ⟨kw, lw⟩ := bk b10 (w.heap.size + 1) (by simp; omega); have z10 := b10.size; simp only [World.size_drew] at z10)
        all_goals go_wp2_with fail
        all_goals
          refine bodyPost_ret (v := .tuple #[v10, .agg #[.int .i64 (cbLo l f), .int .i64 (cbHi l f)], .bool true, .int .i64 0]) (by simp [results, Try.results11, go_sem, kw, e90, e91]) rfl (CkPost.fin hw.out Hx.out Hy.out ?_ ?_)
          · refine ownsRow_setCell_ne (ownsRow_setCell_ne (ho10.mono (by simp; omega)) ?_ _) ?_ _
            all_goals intro r hr
            all_goals have := World.ownsRow.lt ho10 r hr
            all_goals simp at this
            all_goals show r ≠ w.heap.size + 1
            all_goals omega
          · ((repeat' (first | exact Below.refl _ _ | exact B5 | exact B9 | exact b10 | refine Below.alloc ?_ ?_ _ | refine Below.setCell ?_ ?_ _ | refine Below.drew ?_ | refine below_drewN ?_ _ | refine Below.trans ?_ (B5.mono ?_) | refine Below.trans ?_ (B9.mono ?_) | refine Below.trans ?_ (b10.mono ?_))) <;> (first | omega | (simp; done) | (simp; omega)))
      · have hp1 : decide (0 < promise) = false := decide_eq_false hp
        have HW := hide (show wideB l f promise = false by unfold wideB; simp; omega)
        go_wp2_with fail
        refine (found_any 5 _ _).mono ?_
        rintro e w8 ⟨rfl, b8⟩
        rw [← HW.out]
        have z8 := b8.size
        generalize hy : (if wideB l f promise = true then (5 : Int) else 0) = y
        have Hy := hide hy
        have hown8 := hown.below (Nat.le_refl _) b8
        have s80 := (b8.cell (p := ⟨q, 0, none⟩) (by show q < wr.heap.size; omega)).trans s60
        have s81 := (b8.cell (p := ⟨q, 1, none⟩) (by show q < wr.heap.size; omega)).trans s61
        have e80 := (b8.cell (p := ⟨w.heap.size + 1, 0, none⟩) (by show w.heap.size + 1 < wr.heap.size; omega)).trans e60
        have e81 := (b8.cell (p := ⟨w.heap.size + 1, 1, none⟩) (by show w.heap.size + 1 < wr.heap.size; omega)).trans e61
        have e8f := fun o => (b8.frozen (p := ⟨w.heap.size + 1, o, none⟩) (by show w.heap.size + 1 < wr.heap.size; omega)).trans (e6f o)
        have B8 : Below w5.heap.size w5 w8 := (by ((repeat' (first | exact Below.refl _ _ | exact hB | exact b8 | refine Below.alloc ?_ ?_ _ | refine Below.setCell ?_ ?_ _ | refine Below.drew ?_ | refine below_drewN ?_ _ | refine Below.trans ?_ (hB.mono ?_) | refine Below.trans ?_ (b8.mono ?_))) <;> (first | omega | (simp; done) | (simp; omega))))
        have hown8' := hown8
        unfold OwnAl OwnP at hown8'
        rw [hlk] at hown8'
        have Hlk := hide hlk
        have hlow8 := World.ownsRow.lt hown8
        clear hy hown8 hown b8 hlk s60 s61 e60 e61 e6f HW
        go_wp2_with (at_builtin; refine wpList_append_own _ rfl _ _ 27 rfl w5.heap.size 39 i0 (.agg #[.int .i64 0, .int .i64 0]) 2 16 Try.underlying27 hi0 hz0 hz1 hz2 rfl (by decide) _ ((outL l f).length + 1) (encL ((x, 0) :: liesTo au (outL l f) (outL l f).length)) rfl (World.ownsRow.alloc hown8' _) ⟨w8.heap.size, 0, none⟩ 1 1 [.int .i64 y, .int .i64 0] rfl rfl (cells_new w8 [.int .i64 y, .int .i64 0] _) (by simp [Value.oneCell']) (by unfold maxLen; omega) (by omega) (by simp; omega) ?_; intro v9 w9 hown9 hg9 _)
        have z9 := hg9.size
        simp only [World.size_alloc] at z9
        have hne1 : ∀ qq, qq < w5.heap.size → some qq ≠ Value.ownBlock _ := fun qq hqq h => by have := hlow8 qq h.symm; omega
        have s90 := ((grown_keeps hg9 (b := q) (by simp; omega) (hne1 q (by omega))).1 0).trans (((old1 w8 _ (by omega) 0).1).trans s80)
        have s91 := ((grown_keeps hg9 (b := q) (by simp; omega) (hne1 q (by omega))).1 1).trans (((old1 w8 _ (by omega) 1).1).trans s81)
        have e90 := ((grown_keeps hg9 (b := w.heap.size + 1) (by simp; omega) (hne1 _ (by omega))).1 0).trans (((old1 w8 _ (by omega) 0).1).trans e80)
        have e91 := ((grown_keeps hg9 (b := w.heap.size + 1) (by simp; omega) (hne1 _ (by omega))).1 1).trans (((old1 w8 _ (by omega) 1).1).trans e81)
        have e9f := fun o => ((grown_keeps hg9 (b := w.heap.size + 1) (by simp; omega) (hne1 _ (by omega))).2 o).trans (((old1 w8 _ (by omega) o).2).trans (e8f o))
        have B9 : Below w5.heap.size w5 w9 := ((B8.alloc (by omega) _).grown hg9 (by simp; omega) (fun r h => (hlow8 r h).1))
        have hown10 : OwnAl w9 w5.heap.size v9 ((x, 0) :: liesTo au (outL l f) (outL l f).length ++ [(y, 0)]) := OwnP.app (by rw [Hlk.out]; exact hown9)
        have hr10 := hown10.row
        have hcl10 : ((x, 0) :: liesTo au (outL l f) (outL l f).length ++ [(y, 0)]).length = (outL l f).length + 1 + 1 := by simp [liesTo_length]
        obtain ⟨va, vcap, hva10, _, _⟩ := hown10.val
        rw [hcl10] at hva10
        subst hva10
        have Hcl := hide hcl10
        clear hcl10 hown10 hown9 hg9 e80 e81 e8f s80 s81 hne1 hlow8 hown8' B8 hB
        have zB9 := B9.size
        go_region_with (go_at_call 22; refine (alarms_any _ _ _ (hr10.below (Nat.le_refl _) (by ((repeat' (first | exact Below.refl _ _ | refine Below.alloc ?_ ?_ _ | refine Below.setCell ?_ ?_ _ | refine Below.drew ?_ | refine below_drewN ?_ _)) <;> (first | omega | (simp; done) | (simp; omega))))) (by rw [Hcl.out]; omega) (by rw [Hcl.out]; omega)).mono ?_; rintro e w10 ⟨v10, rfl, ho10, b10⟩; obtain ⟨kq, lq⟩ := bk b10 q (by simp; omega); obtain ⟨kw, lw⟩ := bk b10 (w.heap.size + 1) (by simp; omega); have z10 := b10.size; simp only [World.size_drew] at z10)
        all_goals go_wp2_with fail
        all_goals
          refine bodyPost_ret (v := .tuple #[v10, .agg #[.int .i64 (cbLo l f), .int .i64 (cbHi l f)], .bool true, .int .i64 0]) (by simp [results, Try.results11, go_sem, kw, e90, e91]) rfl (CkPost.fin hw.out Hx.out Hy.out ?_ ?_)
          · refine ownsRow_setCell_ne (ownsRow_setCell_ne (ho10.mono (by simp; omega)) ?_ _) ?_ _
            all_goals intro r hr
            all_goals have := World.ownsRow.lt ho10 r hr
            all_goals simp at this
            all_goals show r ≠ w.heap.size + 1
            all_goals omega
          · ((repeat' (first | exact Below.refl _ _ | exact B5 | exact B9 | exact b10 | refine Below.alloc ?_ ?_ _ | refine Below.setCell ?_ ?_ _ | refine Below.drew ?_ | refine below_drewN ?_ _ | refine Below.trans ?_ (B5.mono ?_) | refine Below.trans ?_ (B9.mono ?_) | refine Below.trans ?_ (b10.mono ?_))) <;> (first | omega | (simp; done) | (simp; omega)))
theorem Check_any (a b : Int) (va v : Value) (au : List Int) (l : List Iv) (f lost asked promise : Int) (w : World) (hva : IsRow w va au) (hv : IvRow w v l) :
    Calls Try.prog 11 #[.agg #[.int .i64 a, .int .i64 b], va, v, .int .i64 f, .int .i64 lost, .int .i64 asked, .int .i64 promise] w (CkPost w a b au l f lost asked promise) := by
  cases hr : rndB a b au l f lost asked promise with
  | false => exact Check_arg a b va v au l f lost asked promise w hva hv hr
  | true =>
    cases hf : fewB l f lost asked with
    | true => exact Check_few a b va v au l f lost asked promise w hva hv hr hf
    | false =>
      by_cases he : cbEr l f = 0
      · exact Check_ok a b va v au l f lost asked promise w hva hv hr hf he
      · exact Check_empty a b va v au l f lost asked promise w hva hv hr hf he
end Go.Proofs.Ythklljlachljgaa
