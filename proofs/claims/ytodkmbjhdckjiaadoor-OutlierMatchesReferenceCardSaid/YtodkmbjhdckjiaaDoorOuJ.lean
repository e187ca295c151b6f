/- The reference of package outlier: Ints, Has, Same, with. -/
import Derived.Test.YtodkmbjhdckjiaaDoorOuI
namespace Go.Proofs.YtodkmbjhdckjiaaDoor
open Go.RowKit Go.Shelf
set_option maxRecDepth 100000 in
set_option maxHeartbeats 1000000 in
theorem RInts_any (v1 v2 : Value) (l1 l2 : List Int) (w : World) (h1 : IsRow w v1 l1) (h2 : IsRow w v2 l2) :
    Calls Tryd.prog 17 #[v1, v2] w fun e w' => e = .returned (.int .i64 (cmpI l1 l2)) ∧ ∃ n, w' = w.drewN n := by
  obtain ⟨a, cap, rfl, q1, q2, q3⟩ := h1
  obtain ⟨a', cap', rfl, q1', q2', q3'⟩ := h2
  go_enter Tryd.func17, Tryd.ntmps17
  go_wp2
  go_loopw [5] (fun i wr => ∃ (k n : Nat), k ≤ l1.length ∧ k ≤ l2.length ∧ i = .int .i64 k ∧ Hid (∀ j, j < k → iAt l1 j = iAt l2 j) ∧ Hid (wr = w.drewN n)) (fun i _ => l1.length - (intOf i).toNat)
  case atStart => exact ⟨0, 0, Nat.zero_le _, Nat.zero_le _, rfl, hide (fun j hj => by omega), hide rfl⟩
  case round =>
    obtain ⟨k, n, hk, hk2, rfl, Hall, Hw⟩ := hrel
    by_cases hlt : k < l1.length
    · obtain ⟨b, off, rfl, h4, h5⟩ := q3 k hlt
      clear q3
      by_cases hlt2 : k < l2.length
      · obtain ⟨b', off', rfl, h4', h5'⟩ := q3' k hlt2
        clear q3'
        have g5 : wr.cell? ⟨b, off + k, none⟩ = some (.int .i64 (iAt l1 k)) := by rw [Hw.out]; exact h5
        have g5' : wr.cell? ⟨b', off' + k, none⟩ = some (.int .i64 (iAt l2 k)) := by rw [Hw.out]; exact h5'
        have Hat := hide (cmpI_at hlt hlt2 Hall.out)
        clear h5 h5'
        by_cases e1 : iAt l1 k < iAt l2 k
        · go_wp2_with fail
          go_quiet (fail)
          go_wp2_with fail
          go_ret
          exact ⟨ret_int (by rw [Hat.out, if_pos e1]), by rw [Hw.out]; exact ⟨_, World.drewN_drewN _ _ _⟩⟩
        · by_cases e2 : iAt l1 k > iAt l2 k
          · go_wp2_with fail
            go_quiet (fail)
            go_wp2_with fail
            go_quiet (fail)
            go_wp2_with fail
            go_ret
            exact ⟨ret_int (by rw [Hat.out, if_neg (by omega), if_pos (by omega)]), by rw [Hw.out]; exact ⟨_, by rw [World.drewN_drewN, World.drewN_drewN]⟩⟩
          · have Hk := hide (fun (j : Nat) (hj : j < k + 1) => (by
              rcases Nat.lt_or_ge j k with h | h
              · exact Hall.out j h
              · obtain rfl : j = k := by omega
                omega : iAt l1 j = iAt l2 j))
            go_wp2_with fail
            go_quiet (fail)
            go_wp2_with fail
            go_quiet (fail)
            go_wp2_with fail
            go_roundw
            case rel => exact ⟨k + 1, _, by omega, by omega, by go_num, Hk, hide (by rw [Hw.out, World.drewN_drewN])⟩
            case measure => simp [intOf]; omega
      · have He := hide (cmpI_end hk hk2 (.inr (by omega)) Hall.out)
        clear q3'
        have n1 : ¬ (l1.length : Int) < l2.length := by omega
        have n2 : (l1.length : Int) > l2.length := by omega
        go_wp2_with fail
        go_ret
        exact ⟨ret_int (by rw [He.out, if_neg (by omega), if_pos (by omega)]), ⟨n, Hw.out⟩⟩
    · have He := hide (cmpI_end hk hk2 (.inl (by omega)) Hall.out)
      clear q3 q3'
      by_cases hl : l1.length < l2.length
      · go_wp2_with fail
        go_ret
        exact ⟨ret_int (by rw [He.out, if_pos hl]), ⟨n, Hw.out⟩⟩
      · go_wp2_with fail
        go_ret
        exact ⟨ret_int (by rw [He.out, if_neg hl, if_neg (by omega)]), ⟨n, Hw.out⟩⟩
set_option maxRecDepth 100000 in
set_option maxHeartbeats 400000 in
theorem RHas16_any (v : Value) (l : List Int) (x : Int) (w : World) (hv : IsRow w v l) : Calls Tryd.prog 23 #[v, .int .i64 x] w fun e w' => e = .returned (.bool (decide (x ∈ l))) ∧ w' = w := by
  obtain ⟨a, cap, rfl, q1, q2, q3⟩ := hv
  go_enter Tryd.func23, Tryd.ntmps23
  go_wp2
  go_loop [5] (fun i => ∃ k : Nat, k ≤ l.length ∧ i = .int .i64 k ∧ Hid (∀ j, j < k → iAt l j ≠ x)) (fun i => l.length - (intOf i).toNat)
  case atStart => exact ⟨0, Nat.zero_le _, rfl, hide (fun j hj => by omega)⟩
  case round =>
    obtain ⟨k, hk, rfl, Hall⟩ := hrel
    by_cases hlt : k < l.length
    · obtain ⟨b, off, rfl, h4, h5⟩ := q3 k hlt
      clear q3
      have Hm := hide (iAt_mem hlt)
      by_cases hb : iAt l k = x
      · have hb' : (iAt l k == x) = true := by rw [beq_iff_eq]; exact hb
        have Hb := hide hb
        clear hb
        go_wp2_with fail
        go_ret
        exact ⟨ret_bool (by symm; rw [decide_eq_true_iff, ← Hb.out]; exact Hm.out), rfl⟩
      · have hb' : (iAt l k == x) = false := by rw [beq_eq_false_iff_ne]; exact hb
        have Hn := hide (fun (j : Nat) (hj : j < k + 1) => (by
          rcases Nat.lt_or_ge j k with h | h
          · exact Hall.out j h
          · obtain rfl : j = k := by omega
            exact hb : iAt l j ≠ x))
        clear hb
        go_wp2_with fail
        go_round
        case rel => exact ⟨k + 1, by omega, by go_num, Hn⟩
        case measure => simp [intOf]; omega
    · clear q3
      go_wp2_with fail
      go_ret
      refine ⟨ret_bool ?_, rfl⟩
      symm
      rw [decide_eq_false_iff_not]
      intro hm
      obtain ⟨j, hj, he⟩ := List.getElem_of_mem hm
      exact Hall.out j (by omega) (by rw [iAt_lt l j hj]; exact he)
set_option maxRecDepth 100000 in
set_option maxHeartbeats 1000000 in
theorem RSame16_any (v1 v2 : Value) (l1 l2 : List (List Int)) (w : World) (h1 : RrRow w v1 l1) (h2 : RrRow w v2 l2) :
    Calls Tryd.prog 14 #[v1, v2] w fun e w' => e = .returned (.bool (decide (l1 = l2))) ∧ ∃ n, w' = w.drewN n := by
  obtain ⟨a, cap, rfl, q1, q2, q3⟩ := h1
  obtain ⟨a', cap', rfl, q1', q2', q3'⟩ := h2
  by_cases hlen : l1.length = l2.length
  · have hne : ((l1.length : Int) != (l2.length : Int)) = false := by simp [hlen]
    have hlen' := hide hlen; clear hlen
    go_enter Tryd.func14, Tryd.ntmps14
    go_wp2
    go_loopw [5] (fun i wr => ∃ (k n : Nat), k ≤ l1.length ∧ i = .int .i64 k ∧ Hid (∀ j, j < k → rAt l1 j = rAt l2 j) ∧ Hid (wr = w.drewN n)) (fun i _ => l1.length - (intOf i).toNat)
    case atStart => exact ⟨0, 0, Nat.zero_le _, rfl, hide (fun j hj => by omega), hide rfl⟩
    case round =>
      obtain ⟨k, n, hk, rfl, Hall, Hw⟩ := hrel
      by_cases hlt : k < l1.length
      · have hlt2 : k < l2.length := by have := hlen'.out; omega
        obtain ⟨b, off, u, rfl, h4, h5, h6⟩ := q3 k hlt
        obtain ⟨b', off', u', rfl, h4', h5', h6'⟩ := q3' k hlt2
        clear q3 q3'
        have g5 : wr.cell? ⟨b, off + k, none⟩ = some u := by rw [Hw.out]; exact h5
        have g5' : wr.cell? ⟨b', off' + k, none⟩ = some u' := by rw [Hw.out]; exact h5'
        have g6 : ∀ m, IsRow (wr.drewN m) u (rAt l1 k) := fun m => by rw [Hw.out, World.drewN_drewN]; exact h6.below (Nat.le_refl _) (below_drewN (Below.refl _ _) _)
        have g6' : ∀ m, IsRow (wr.drewN m) u' (rAt l2 k) := fun m => by rw [Hw.out, World.drewN_drewN]; exact h6'.below (Nat.le_refl _) (below_drewN (Below.refl _ _) _)
        clear h5 h5' h6 h6'
        by_cases e1 : rAt l1 k = rAt l2 k
        · have hz : (cmpI (rAt l1 k) (rAt l2 k) != 0) = false := by rw [e1, cmpI_self]; rfl
          have He := hide e1
          clear e1
          go_wp2_with fail
          go_quiet ((go_at_call 17; exact Calls.quiet_of (RInts_any _ _ _ _ _ (g6 _) (g6' _))))
          go_wp2_with fail
          go_roundw
          case rel => exact ⟨k + 1, _, by omega, by go_num, hide (fun j hj => by
            rcases Nat.lt_or_ge j k with h | h
            · exact Hall.out j h
            · obtain rfl : j = k := by omega
              exact He.out), hide (by rw [Hw.out, World.drewN_drewN])⟩
          case measure => simp [intOf]; omega
        · have hz : (cmpI (rAt l1 k) (rAt l2 k) != 0) = true := by rw [bne_iff_ne]; exact fun h => e1 (cmpI_eq h)
          have He := hide e1
          clear e1
          go_wp2_with fail
          go_quiet ((go_at_call 17; exact Calls.quiet_of (RInts_any _ _ _ _ _ (g6 _) (g6' _))))
          go_wp2_with fail
          go_ret
          refine ⟨ret_bool ?_, by rw [Hw.out]; exact ⟨_, World.drewN_drewN _ _ _⟩⟩
          symm; rw [decide_eq_false_iff_not]
          rintro rfl
          exact He.out rfl
      · clear q3 q3'
        go_wp2_with fail
        go_ret
        refine ⟨ret_bool ?_, ⟨n, Hw.out⟩⟩
        symm; rw [decide_eq_true_iff]
        apply List.ext_getElem hlen'.out
        intro i h1 h2
        have := Hall.out i (by omega)
        rwa [rAt_lt _ _ h1, rAt_lt _ _ h2] at this
  · have hne : ((l1.length : Int) != (l2.length : Int)) = true := by rw [bne_iff_ne]; omega
    have hlen' := hide hlen; clear hlen
    go_enter Tryd.func14, Tryd.ntmps14
    go_wp2
    go_ret
    refine ⟨ret_bool ?_, 0, rfl⟩
    symm; rw [decide_eq_false_iff_not]
    rintro rfl
    exact hlen'.out rfl
theorem insD_none (x : List Int) : ∀ l : List (List Int), (∀ y ∈ l, 0 < cmpI x y) → insD x l = l ++ [x]
  | [], _ => rfl
  | y :: r, h => by
    have h1 := h y List.mem_cons_self
    rw [insD, if_neg (by omega), if_neg (by omega), insD_none x r fun z hz => h z (List.mem_cons_of_mem _ hz)]; rfl
theorem insD_new (x y : List Int) (hy : cmpI x y < 0) : ∀ l : List (List Int), (∀ z ∈ l, 0 < cmpI x z) → insD x (l ++ [y]) = l ++ [x] ++ [y]
  | [], _ => by simp [insD, hy]
  | z :: r, h => by
    have h1 := h z List.mem_cons_self
    rw [List.cons_append, insD, if_neg (by omega), if_neg (by omega), insD_new x y hy r fun q hq => h q (List.mem_cons_of_mem _ hq)]; rfl
theorem insD_some (x y : List Int) : ∀ l : List (List Int), (∀ z ∈ l, cmpI x z ≠ 0) → (∃ z ∈ l, cmpI x z < 0) → insD x (l ++ [y]) = insD x l ++ [y]
  | [], _, h => by simp at h
  | z :: r, h0, h => by
    have h1 := h0 z List.mem_cons_self
    by_cases h2 : cmpI x z < 0
    · rw [List.cons_append, insD, if_pos h2, insD, if_pos h2]; rfl
    · obtain ⟨q, hq, hq2⟩ := h
      have hqr : q ∈ r := (List.mem_cons.1 hq).resolve_left fun e => h2 (by rw [← e]; exact hq2)
      rw [List.cons_append, insD, if_neg h2, if_neg h1, insD, if_neg h2, if_neg h1, insD_some x y r (fun a ha => h0 a (List.mem_cons_of_mem _ ha)) ⟨q, hqr, hq2⟩]; rfl
theorem insD_in (x : List Int) : ∀ l : List (List Int), l.Pairwise LtI → x ∈ l → insD x l = l
  | [], _, h => by simp at h
  | y :: r, hp, h => by
    have hp' := List.pairwise_cons.1 hp
    rcases List.mem_cons.1 h with e | e
    · subst e; rw [insD, cmpI_self]; simp
    · have h1 : LtI y x := hp'.1 x e
      unfold LtI at h1
      have := cmpI_neg y x
      rw [insD, if_neg (by omega), if_neg (by omega), insD_in x r hp'.2 e]
/-- Where with stands behind the first k lists. -/
def WithAt (x : List Int) (l : List (List Int)) (k : Nat) (out : List (List Int)) (done : Bool) : Prop :=
  (∀ z ∈ l.take k, cmpI x z ≠ 0) ∧ (done = false → out = l.take k ∧ ∀ z ∈ l.take k, 0 < cmpI x z) ∧ (done = true → out = insD x (l.take k) ∧ ∃ z ∈ l.take k, cmpI x z < 0)
theorem WithAt.start (x : List Int) (l : List (List Int)) : WithAt x l 0 [] false := ⟨fun z h => by simp at h, fun _ => ⟨rfl, fun z h => by simp at h⟩, fun h => by cases h⟩
theorem WithAt.step {x : List Int} {l : List (List Int)} {k : Nat} {out : List (List Int)} {done : Bool} (h : WithAt x l k out done) (hk : k < l.length) (hc : cmpI (rAt l k) x ≠ 0) :
    (done = true → WithAt x l (k + 1) (out ++ [rAt l k]) true) ∧ (done = false → 0 < cmpI (rAt l k) x → WithAt x l (k + 1) (out ++ [x] ++ [rAt l k]) true) ∧ (done = false → ¬ 0 < cmpI (rAt l k) x → WithAt x l (k + 1) (out ++ [rAt l k]) false) := by
  have hn := cmpI_neg x (rAt l k)
  have hall : ∀ z ∈ l.take (k + 1), cmpI x z ≠ 0 := fun z hz => by
    rw [take_snoc_rs l k hk, List.mem_append, List.mem_singleton] at hz
    rcases hz with h1 | h1
    · exact h.1 z h1
    · rw [h1]; omega
  refine ⟨fun hd => ⟨hall, fun h => by simp at h, fun _ => ?_⟩, fun hd hp => ⟨hall, fun h => by simp at h, fun _ => ?_⟩, fun hd hp => ⟨hall, fun _ => ?_, fun h => by simp at h⟩⟩
  · obtain ⟨e1, z, hz, hz2⟩ := h.2.2 hd
    rw [take_snoc_rs l k hk]
    exact ⟨by rw [insD_some _ _ _ h.1 ⟨z, hz, hz2⟩, e1], z, List.mem_append_left _ hz, hz2⟩
  · obtain ⟨e1, e2⟩ := h.2.1 hd
    rw [take_snoc_rs l k hk]
    exact ⟨by rw [insD_new _ _ (by omega) _ e2, e1], rAt l k, by simp, by omega⟩
  · obtain ⟨e1, e2⟩ := h.2.1 hd
    rw [take_snoc_rs l k hk, e1]
    refine ⟨rfl, fun z hz => ?_⟩
    rw [List.mem_append, List.mem_singleton] at hz
    rcases hz with h1 | h1
    · exact e2 z h1
    · rw [h1]; omega
theorem WithAt.len {x : List Int} {l : List (List Int)} {k : Nat} {out : List (List Int)} {done : Bool} (h : WithAt x l k out done) : out.length ≤ k + 1 := by
  cases done with
  | false => rw [(h.2.1 rfl).1]; simp; omega
  | true => rw [(h.2.2 rfl).1]; have := insD_length x (l.take k); simp at this; omega
end Go.Proofs.YtodkmbjhdckjiaaDoor
