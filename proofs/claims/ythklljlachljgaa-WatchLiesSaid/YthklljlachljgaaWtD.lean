/- Package watch: Clone of alarms, alarms, and Check. -/
import Derived.Test.YthklljlachljgaaWtC
import Derived.Lib.SliceRun
namespace Go.Proofs.Ythklljlachljgaa
open Go.RowKit
attribute [local go_sem ↓] run_max_mx run_min_mn run_eql_iv run_neq_iv run_eql_al run_neq_al
theorem infoAl : (Try.prog.info? 39).map (fun i => (i.zero, i.size, i.bytes)) = some (some (.agg #[.int .i64 0, .int .i64 0]), 2, 16) := by kernel_rfl
theorem own_new0 {w : World} {base q : Nat} (T : TypeId) (hh : w.heap[q]? = some (.cells #[] T)) (h : base ≤ q) : OwnP T w base (.slice (some ⟨q, 0, none⟩) 0 0) [] :=
  ⟨rfl, .inr ⟨q, 0, #[], rfl, h, hh, Nat.le_refl _, Nat.zero_le _, rfl, rfl⟩⟩
theorem encL_one (l : List Iv) : ∀ u ∈ encL l, u.oneCell' = true := by
  intro u hu
  simp only [encL, List.mem_flatMap] at hu
  obtain ⟨p, _, hu⟩ := hu
  simp at hu
  rcases hu with rfl | rfl <;> rfl
theorem ivrow_cells {w : World} {b off n cap : Nat} {l : List Iv} (h : IvRow w (.slice (some ⟨b, off, none⟩) n cap) l) : ∀ j u, (encL l)[j]? = some u → w.cell? ((⟨b, off, none⟩ : Addr).add j) = some u := by
  obtain ⟨a, cap', e, h1, h2, h3⟩ := h
  cases e
  intro j u hj
  have hjl : j < l.length * 2 := by
    rw [← encL_length]
    exact (List.getElem?_eq_some_iff.1 hj).1
  obtain ⟨b', off', e, _, h5, h6⟩ := h3 (j / 2) (by omega)
  cases e
  have h7 := encL_at l (j / 2) (by omega)
  rw [Go.WideShapes.add_plain]
  rcases Nat.mod_two_eq_zero_or_one j with h | h
  · have e : j = j / 2 * 2 := by omega
    rw [e] at hj ⊢
    rw [h7.1] at hj
    cases hj
    exact h5
  · have e : j = j / 2 * 2 + 1 := by omega
    rw [e] at hj ⊢
    rw [h7.2] at hj
    cases hj
    rw [← Nat.add_assoc]
    exact h6
set_option maxRecDepth 100000 in
set_option maxHeartbeats 400000 in
theorem CloneA_any (v : Value) (c : List Iv) (w : World) (hv : IvRow w v c) (h1 : 1 ≤ c.length) (h2 : c.length ≤ 1000) :
    Calls Try.prog 41 #[v] w fun e w' => ∃ v', e = .returned v' ∧ OwnAl w' w.heap.size v' c ∧ Below w.heap.size w w' := by
  obtain ⟨b, off, cap, rfl, g1, g2, g4, g5, g6, g7⟩ := hv.at0 (by omega)
  obtain ⟨i0, hi0, hz0, hz1, hz2⟩ := info_parts infoAl
  have hnil : ∀ W : World, (binOp .eql 27 (.slice (some ⟨b, off, none⟩) c.length cap) (.slice none 0 0)).run Try.prog W = .ok (.bool false) W := fun W => Lib.run_eql_slice_nil W _ _ _ _ _ _ _ Try.underlying27
  clear g5 g6 g7
  go_enter Try.func41, Try.ntmps41
  go_wp2_with (at_builtin; refine wpList_append_own _ rfl _ _ 27 rfl w.heap.size 39 i0 (.agg #[.int .i64 0, .int .i64 0]) 2 16 Try.underlying27 hi0 hz0 hz1 hz2 rfl (by decide) _ 0 [] rfl (own_new0 (base := w.heap.size) _ (World.alloc_heap_new w _) (Nat.le_refl _)) ⟨b, off, none⟩ c.length cap (encL c) rfl (encL_length c) (ivrow_cells (hv.below (Nat.le_refl _) ((Below.refl _ _).alloc (Nat.le_refl _) _))) (encL_one c) (by unfold maxLen; omega) (by omega) (by simp) ?_; intro v3 w3 hown3 hg3 _)
  go_ret
  refine ⟨_, rfl, ?_, ((Below.refl _ _).alloc (Nat.le_refl _) _).grown hg3 (by simp) (fun r h => by cases h; exact Nat.le_refl _)⟩
  rw [Nat.zero_add, List.nil_append] at hown3
  exact hown3
set_option maxRecDepth 100000 in
set_option maxHeartbeats 400000 in
theorem alarms_any (v : Value) (c : List Iv) (w : World) (hv : IvRow w v c) (h1 : 1 ≤ c.length) (h2 : c.length ≤ 1000) :
    Calls Try.prog 22 #[v] w fun e w' => ∃ v', e = .returned v' ∧ OwnAl w' w.heap.size v' (c.filter isAl) ∧ Below w.heap.size w w' := by
  have hv' := hv
  obtain ⟨a, cap, rfl, g1, g2, g3⟩ := hv
  clear g3
  go_enter Try.func22, Try.ntmps22
  go_wp2_with fail
  refine (CloneA_any _ c _ hv' h1 h2).mono ?_
  rintro e w1 ⟨v1, rfl, ho1, b1⟩
  go_wp2_with fail
  refine (DeleteA_any _ c w.heap.size _ ho1 b1.size h2).mono ?_
  rintro e w2 ⟨v2, rfl, ho2, b2⟩
  go_wp2_with fail
  go_ret
  exact ⟨_, rfl, ho2, b1.trans b2⟩
theorem ownsRow_setCell_ne {w : World} {base e size n : Nat} {v : Value} {xs : List Value} (h : w.ownsRow base e size v n xs) {p : Addr} (hp : ∀ q, v.ownBlock = some q → q ≠ p.block) (u : Value) : (w.setCell p u).ownsRow base e size v n xs := by
  refine ⟨h.1, ?_⟩
  rcases h.2 with h1 | ⟨g, cap, cur, hv, hg, hc, r⟩
  · exact .inl h1
  · refine .inr ⟨g, cap, cur, hv, hg, ?_, r⟩
    rw [Below.heap_setCell w p u g (hp g (by rw [hv]; rfl))]
    exact hc
def CkPost (w : World) (a b : Int) (au : List Int) (l : List Iv) (f lost asked promise : Int) (e : Ending) (w' : World) : Prop :=
  ∃ v, e = .returned (.tuple #[v, .agg #[.int .i64 (ckLo a b au l f lost asked promise), .int .i64 (ckHi a b au l f lost asked promise)], .bool (ckIs a b au l f lost asked promise), .int .i64 (ckEr a b au l f lost asked promise)]) ∧
    OwnAl w' w.heap.size v (alL a b au l f lost asked promise) ∧ Below w.heap.size w w'
theorem ivrow_litA (w : World) (c : List Iv) (t : TypeId) (hc : c.length ≤ 9223372036854775807) : IvRow (w.alloc (.cells (encL c).toArray t)) (.slice (some ⟨w.heap.size, 0, none⟩) c.length c.length) c := by
  refine ⟨_, _, rfl, Nat.le_refl _, hc, fun i hi => ⟨_, 0, rfl, by simp, ?_, ?_⟩⟩
  · rw [Nat.zero_add, World.cell?_alloc_new]; simpa using (encL_at c i hi).1
  · rw [Nat.zero_add, World.cell?_alloc_new]; simpa using (encL_at c i hi).2
theorem CkPost.no {w w' : World} {a b : Int} {au : List Int} {l : List Iv} {f lost asked promise : Int} (h : way a b au l f lost asked promise = .arg) (hb : Below w.heap.size w w') :
    CkPost w a b au l f lost asked promise (.returned (.tuple #[.slice none 0 0, .agg #[.int .i64 0, .int .i64 0], .bool false, .int .i64 1])) w' :=
  ⟨.slice none 0 0, by simp only [ckLo, ckHi, ckIs, ckEr, h], by simp only [alL, h]; exact OwnP.nil _ _, hb⟩
theorem CkPost.one {w w' : World} {a b : Int} {au : List Int} {l : List Iv} {f lost asked promise : Int} {v : Value} (h : way a b au l f lost asked promise = .few ∨ way a b au l f lost asked promise = .empty) (ho : OwnAl w' w.heap.size v (alL a b au l f lost asked promise)) (hb : Below w.heap.size w w') :
    CkPost w a b au l f lost asked promise (.returned (.tuple #[v, .agg #[.int .i64 0, .int .i64 0], .bool false, .int .i64 0])) w' :=
  ⟨v, by rcases h with h | h <;> simp only [ckLo, ckHi, ckIs, ckEr, h], ho, hb⟩
theorem cnt_row (w : World) (o1 o2 : Obj) (f lost asked : Int) : IsRow (((w.alloc o1).alloc o2).alloc (.cells #[.int .i64 f, .int .i64 lost, .int .i64 asked] 3)) (.slice (some ⟨w.heap.size + 1 + 1, 0, none⟩) 3 3) [f, lost, asked] := by
  have h := isrow_lit ((w.alloc o1).alloc o2) [f, lost, asked] 3 (by simp)
  simpa [encI] using h
set_option maxRecDepth 100000 in
set_option maxHeartbeats 1000000 in
theorem Check_arg (a b : Int) (va v : Value) (au : List Int) (l : List Iv) (f lost asked promise : Int) (w : World) (hva : IsRow w va au) (hv : IvRow w v l) (hr : rndB a b au l f lost asked promise = false) :
    Calls Try.prog 11 #[.agg #[.int .i64 a, .int .i64 b], va, v, .int .i64 f, .int .i64 lost, .int .i64 asked, .int .i64 promise] w (CkPost w a b au l f lost asked promise) := by
  have hw := hide (show way a b au l f lost asked promise = .arg by unfold way; rw [if_neg (by simp [hr])])
  have Hr := hide hr
  clear hr
  obtain ⟨a1, cap1, rfl, g1, g2, g3⟩ := id hva
  obtain ⟨a2, cap2, rfl, h1, h2, h3⟩ := id hv
  clear g3 h3
  go_enter Try.func11, Try.ntmps11
  go_wp2_with fail
  refine (isRound_any _ _ _ _ _ au l _ [f, lost, asked] _ (hva.below (Nat.le_refl _) (by ((repeat' (first | exact Below.refl _ _ | refine Below.alloc ?_ ?_ _ | refine Below.setCell ?_ ?_ _ | refine Below.drew ?_ | refine below_drewN ?_ _)) <;> (first | omega | (simp; done) | (simp; omega))))) (hv.below (Nat.le_refl _) (by ((repeat' (first | exact Below.refl _ _ | refine Below.alloc ?_ ?_ _ | refine Below.setCell ?_ ?_ _ | refine Below.drew ?_ | refine below_drewN ?_ _)) <;> (first | omega | (simp; done) | (simp; omega))))) (cnt_row w _ _ f lost asked)).mono ?_
  rintro e w1 ⟨rfl, b1⟩
  rw [allO_three]
  rw [show (auB au au.length && (validB a b && decide (au.length = l.length) && allV l l.length && (inB f 0 16 && inB lost 0 16 && inB asked 0 16) && inB promise 0 3000000000000000)) = false from Hr.out]
  obtain ⟨c1, f1⟩ := bk b1 (w.heap.size + 1) (by simp)
  have z1 := b1.size
  simp only [World.size_alloc] at z1
  go_wp2_with fail
  refine bodyPost_ret (v := .tuple #[.slice none 0 0, .agg #[.int .i64 0, .int .i64 0], .bool false, .int .i64 1]) (by simp [results, Try.results11, go_sem, c1]) rfl (CkPost.no hw.out ?_)
  ((repeat' (first | exact Below.refl _ _ | exact b1 | refine Below.alloc ?_ ?_ _ | refine Below.setCell ?_ ?_ _ | refine Below.drew ?_ | refine below_drewN ?_ _ | refine Below.trans ?_ (b1.mono ?_))) <;> (first | omega | (simp; done) | (simp; omega)))
set_option maxRecDepth 100000 in
set_option maxHeartbeats 1000000 in
theorem Check_few (a b : Int) (va v : Value) (au : List Int) (l : List Iv) (f lost asked promise : Int) (w : World) (hva : IsRow w va au) (hv : IvRow w v l) (hr : rndB a b au l f lost asked promise = true) (hfew : fewB l f lost asked = true) :
    Calls Try.prog 11 #[.agg #[.int .i64 a, .int .i64 b], va, v, .int .i64 f, .int .i64 lost, .int .i64 asked, .int .i64 promise] w (CkPost w a b au l f lost asked promise) := by
  have hw := hide (show way a b au l f lost asked promise = .few by unfold way; rw [if_pos hr, if_pos hfew])
  have hlt : (l.length : Int) < mx (asked - lost) (f + 1) := by
    have m := mx_spec (asked - lost) (f + 1)
    simp only [fewB, decide_eq_true_eq] at hfew; omega
  clear hfew
  have hri := (rndB_iff _ _ _ _ _ _ _ _).1 hr
  have hrl := rnd_list hr
  have hl16 := hrl.2.1
  have hfb := hri.2.2.2.2.1
  have hlb := hri.2.2.2.2.2.1
  have hab := hri.2.2.2.2.2.2.1
  have hpb := hri.2.2.2.2.2.2.2
  have Hr := hide hr
  clear hr hri hrl
  obtain ⟨a1, cap1, rfl, g1, g2, g3⟩ := id hva
  obtain ⟨a2, cap2, rfl, h1, h2, h3⟩ := id hv
  clear g3 h3
  go_enter Try.func11, Try.ntmps11
  go_wp2_with fail
  refine (isRound_any _ _ _ _ _ au l _ [f, lost, asked] _ (hva.below (Nat.le_refl _) (by ((repeat' (first | exact Below.refl _ _ | refine Below.alloc ?_ ?_ _ | refine Below.setCell ?_ ?_ _ | refine Below.drew ?_ | refine below_drewN ?_ _)) <;> (first | omega | (simp; done) | (simp; omega))))) (hv.below (Nat.le_refl _) (by ((repeat' (first | exact Below.refl _ _ | refine Below.alloc ?_ ?_ _ | refine Below.setCell ?_ ?_ _ | refine Below.drew ?_ | refine below_drewN ?_ _)) <;> (first | omega | (simp; done) | (simp; omega))))) (cnt_row w _ _ f lost asked)).mono ?_
  rintro e w1 ⟨rfl, b1⟩
  rw [allO_three]
  rw [show (auB au au.length && (validB a b && decide (au.length = l.length) && allV l l.length && (inB f 0 16 && inB lost 0 16 && inB asked 0 16) && inB promise 0 3000000000000000)) = true from Hr.out]
  obtain ⟨c1, f1⟩ := bk b1 (w.heap.size + 1) (by simp)
  obtain ⟨c0, f0⟩ := bk b1 w.heap.size (by simp; omega)
  have z1 := b1.size
  simp only [World.size_alloc] at z1
  have B1 : Below w.heap.size w w1 := (by ((repeat' (first | exact Below.refl _ _ | exact b1 | refine Below.alloc ?_ ?_ _ | refine Below.setCell ?_ ?_ _ | refine Below.drew ?_ | refine below_drewN ?_ _ | refine Below.trans ?_ (b1.mono ?_))) <;> (first | omega | (simp; done) | (simp; omega))))
  have d10 : w1.cell? ⟨w.heap.size + 1, 0, none⟩ = some (.int .i64 0) := by rw [c1]; simp [go_sem]
  have d11 : w1.cell? ⟨w.heap.size + 1, 1, none⟩ = some (.int .i64 0) := by rw [c1]; simp [go_sem]
  have d1f : ∀ o, w1.frozen? ⟨w.heap.size + 1, o, none⟩ = false := fun o => by rw [f1]; simp [go_sem]
  have d00 : w1.cell? ⟨w.heap.size, 0, none⟩ = some (.int .i64 a) := by rw [c0]; simp [go_sem]
  have d01 : w1.cell? ⟨w.heap.size, 1, none⟩ = some (.int .i64 b) := by rw [c0]; simp [go_sem]
  clear c0 c1 f0 f1 b1
  go_wp2_with fail
  refine (alarms_any _ [(2, 0)] _ (by simpa [encL] using ivrow_litA w1 [(2, 0)] 39 (by simp)) (by simp) (by simp)).mono ?_
  rintro e w2 ⟨v2, rfl, ho2, b2⟩
  obtain ⟨k1, l1⟩ := bk b2 (w.heap.size + 1) (by simp; omega)
  have z2 := b2.size
  simp only [World.size_alloc] at z2
  have e10 : w2.cell? ⟨w.heap.size + 1, 0, none⟩ = some (.int .i64 0) := by rw [k1, (old1 w1 _ (by omega) 0).1]; exact d10
  have e11 : w2.cell? ⟨w.heap.size + 1, 1, none⟩ = some (.int .i64 0) := by rw [k1, (old1 w1 _ (by omega) 1).1]; exact d11
  have e1f : ∀ o, w2.frozen? ⟨w.heap.size + 1, o, none⟩ = false := fun o => by rw [l1, (old1 w1 _ (by omega) o).2]; exact d1f o
  clear d00 d01 k1 l1 d10 d11 d1f
  go_wp2_with fail
  refine bodyPost_ret (v := .tuple #[v2, .agg #[.int .i64 0, .int .i64 0], .bool false, .int .i64 0]) (by simp [results, Try.results11, go_sem, e10, e11]) rfl (CkPost.one (.inl hw.out) ?_ ?_)
  · rw [show alL a b au l f lost asked promise = [(2, 0)].filter isAl by simp only [alL, hw.out]; rfl]
    refine ownsRow_setCell_ne (ownsRow_setCell_ne (ho2.mono (by simp; omega)) ?_ _) ?_ _
    all_goals intro q hq
    all_goals have := World.ownsRow.lt ho2 q hq
    all_goals simp at this
    all_goals show q ≠ w.heap.size + 1
    all_goals omega
  · ((repeat' (first | exact Below.refl _ _ | exact B1 | exact b2 | refine Below.alloc ?_ ?_ _ | refine Below.setCell ?_ ?_ _ | refine Below.drew ?_ | refine below_drewN ?_ _ | refine Below.trans ?_ (B1.mono ?_) | refine Below.trans ?_ (b2.mono ?_))) <;> (first | omega | (simp; done) | (simp; omega)))
end Go.Proofs.Ythklljlachljgaa
