/- IntervalCovers: for every list and two numbers the statement answers true and leaves its arguments as they were. No condition. -/
import Derived.Test.YtgoimbddefefdaaIvL
import Derived.Test.YtgoimbddefefdaaFr
import Derived.Shelf.SlSortCmp.QuietGrown
namespace Go.Proofs.Ytgoimbddefefdaa
open Go.RowKit
attribute [local go_sem ↓] run_max_mx run_min_mn run_eql_iv run_neq_iv
theorem dep_pos_iff (c : List Iv) (t : Int) : 0 < dep c t c.length ↔ mem c t := by
  have key : ∀ n, n ≤ c.length → (0 < dep c t n ↔ ∃ k, k < n ∧ iLo c k ≤ t ∧ t ≤ iHi c k) := by
    intro n
    induction n with
    | zero => intro _; simp [dep]
    | succ n ih =>
      intro hn
      have hb := dep_bd c t n
      have ih := ih (by omega)
      rw [dep]
      by_cases h : hasB (iLo c n) (iHi c n) t = true
      · rw [if_pos h]
        exact ⟨fun _ => ⟨n, by omega, by simpa [hasB] using h⟩, fun _ => by omega⟩
      · rw [if_neg h, Int.add_zero, ih]
        constructor
        · rintro ⟨k, hk, h2⟩; exact ⟨k, by omega, h2⟩
        · rintro ⟨k, hk, h2⟩
          refine ⟨k, ?_, h2⟩
          rcases Nat.lt_or_ge k n with h3 | h3
          · exact h3
          · obtain rfl : k = n := by omega
            exact absurd (by simpa [hasB] using h2) h
  rw [key _ (Nat.le_refl _)]
  constructor
  · rintro ⟨k, hk, h⟩
    obtain ⟨p, hp, e1, e2⟩ := mem_of_at hk
    exact ⟨p, hp, by omega, by omega⟩
  · rintro ⟨p, hp, h⟩
    obtain ⟨k, hk, e1, e2⟩ := at_of_mem hp
    exact ⟨k, hk, by omega, by omega⟩
theorem Sep.at {c : List Iv} (h : Sep c) (k : Nat) (hk : k < c.length) : 0 ≤ iLo c k ∧ iLo c k ≤ iHi c k ∧ iHi c k ≤ 3000000000000000 := by
  obtain ⟨p, hp, e1, e2⟩ := mem_of_at hk
  have := h.2 p hp; omega
theorem Sep.next {c : List Iv} (h : Sep c) (k : Nat) (hk : k + 1 < c.length) : iHi c k + 1 < iLo c (k + 1) := by
  have h1 := List.pairwise_iff_getElem.1 h.1 k (k + 1) (by omega) hk (by omega)
  simpa [iLo, iHi, List.getD_eq_getElem?_getD, List.getElem?_eq_getElem hk, List.getElem?_eq_getElem (show k < c.length by omega)] using h1
theorem below_grow {B : Nat} {a w : World} (h : Below B a w) (hB : B ≤ w.heap.size) (n : Nat) (os : Array Obj) : Below B a (Sort.grow (w.drewN n) os) :=
  (below_drewN h n).trans ⟨rfl, rfl, rfl, by rw [Sort.size_grow]; omega, fun k hk => Sort.heap_grow_old (w.drewN n) os (Nat.lt_of_lt_of_le hk hB)⟩
set_option maxRecDepth 100000 in
set_option maxHeartbeats 1000000 in
theorem Covers_any (w : World) (v : Value) (l : List Iv) (hv : IvRow w v l) (need : Int) (hn : 0 ≤ need ∧ need ≤ 255) (x : Int) :
    Calls Try.prog 7 #[v, .int .u8 need, .int .i64 x] w fun e w' => e = .returned (.bool true) ∧ Below w.heap.size w w' := by
  have hv' := hv
  obtain ⟨a, cap, rfl, h1, h2, h3⟩ := hv
  clear h3
  by_cases hl : listB l = true
  case neg =>
    have hl' : listB l = false := by simpa using hl
    clear hl
    go_enter Try.func7, Try.ntmps7
    go_wp2_with fail
    refine (head_any _).mono ?_
    rintro e w1 ⟨rfl, hb1⟩
    go_wp2_with (go_at_call 26; refine (RList_any _ l _ (hv'.below (Nat.le_refl _) hb1)).mono ?_; rintro e w2 ⟨rfl, hb2⟩)
    go_ret
    have hz := hb1.size
    exact ⟨rfl, (by ((repeat' (first | exact Below.refl _ _ | exact hb1 | exact hb2 | refine Below.alloc ?_ ?_ _ | refine Below.setCell ?_ ?_ _ | refine Below.drew ?_ | refine below_drewN ?_ _ | refine Below.trans ?_ (hb1.mono ?_) | refine Below.trans ?_ (hb2.mono ?_))) <;> (first | omega | (simp; done) | (simp; omega))))⟩
  have hnm : 0 ≤ need % 64 ∧ need % 64 < 64 := by omega
  obtain ⟨n, hnn, n1, n2⟩ : ∃ n, n = 1 + need % 64 ∧ 1 ≤ n ∧ n ≤ 64 := ⟨_, rfl, by omega, by omega⟩
  have hok : coverOk l n = true := by simp [coverOk, hl]; omega
  have her : coverEr l n = 0 := by simp [coverEr, hok]
  have hle : listEr l = 0 := by simp [listEr, hl]
  have hdv : depthV l x = dep l x l.length := by simp [depthV, hl]
  have hout : ∀ c, CovOut l n c → CovSpec l n c := fun c h => by unfold CovOut at h; rwa [if_pos hok] at h
  have Hout := hide hout
  have Hdv := hide hdv
  clear hok hout hdv
  go_enter Try.func7, Try.ntmps7
  go_wp2_with fail
  refine (head_any _).mono ?_
  rintro e w1 ⟨rfl, hb1⟩
  go_wp2_with (go_at_call 26; refine (RList_any _ l _ (hv'.below (Nat.le_refl _) hb1)).mono ?_; rintro e w2 ⟨rfl, hb2⟩)
  have hz1 := hb1.size
  have hB2 : Below w.heap.size w w2 := (by ((repeat' (first | exact Below.refl _ _ | exact hb1 | exact hb2 | refine Below.alloc ?_ ?_ _ | refine Below.setCell ?_ ?_ _ | refine Below.drew ?_ | refine below_drewN ?_ _ | refine Below.trans ?_ (hb1.mono ?_) | refine Below.trans ?_ (hb2.mono ?_))) <;> (first | omega | (simp; done) | (simp; omega))))
  have hz2 := hB2.size
  rw [← hnn]
  clear hnn hl
  refine (Cover_any _ l _ _ (hv'.below (Nat.le_refl _) hB2)).mono ?_
  rintro e w3 ⟨cv, c, rfl, ho, hc, hb3⟩
  rw [her]
  have hB3 : Below w.heap.size w w3 := (by ((repeat' (first | exact Below.refl _ _ | exact hB2 | exact hb3 | refine Below.alloc ?_ ?_ _ | refine Below.setCell ?_ ?_ _ | refine Below.drew ?_ | refine below_drewN ?_ _ | refine Below.trans ?_ (hB2.mono ?_) | refine Below.trans ?_ (hb3.mono ?_))) <;> (first | omega | (simp; done) | (simp; omega))))
  have hz3 := hB3.size
  go_wp2_with fail
  refine (Depth_any _ l _ _ (hv'.below (Nat.le_refl _) hB3)).mono ?_
  rintro e w4 ⟨rfl, hb4⟩
  rw [hle]
  have hB4 : Below w.heap.size w w4 := (by ((repeat' (first | exact Below.refl _ _ | exact hB3 | exact hb4 | refine Below.alloc ?_ ?_ _ | refine Below.setCell ?_ ?_ _ | refine Below.drew ?_ | refine below_drewN ?_ _ | refine Below.trans ?_ (hB3.mono ?_) | refine Below.trans ?_ (hb4.mono ?_))) <;> (first | omega | (simp; done) | (simp; omega))))
  have hz4 := hB4.size
  have hrow := ho.row.below (Nat.le_refl _) hb4
  have Hc := hide (Hout.out c hc)
  have hrow' := hrow
  obtain ⟨ca, ccap, rfl, c1, c2, c3⟩ := hrow
  clear ho hc hle her
  go_wp2_with fail
  go_loopw [13] (fun i wr => ∃ k : Nat, k ≤ c.length ∧ i = .int .i64 k ∧ Below w.heap.size w wr ∧ Below w4.heap.size w4 wr) (fun i _ => c.length - (intOf i).toNat)
  case atStart => exact ⟨0, Nat.zero_le _, rfl, hB4, Below.refl _ _⟩
  case round =>
    obtain ⟨k, hk, rfl, hB, hBc⟩ := hrel
    by_cases hlt : k < c.length
    · have hval : validB (iLo c k) (iHi c k) = true := (validB_iff _ _).2 (Hc.out.1.at k hlt)
      obtain ⟨b, off, hbo, h4, h5, h6⟩ := c3 k hlt
      have hz := hB.size
      have hzc := hBc.size
      have h5' := fun n os => cell_grown (Nat.lt_of_lt_of_le h4 hzc) ((hBc.cell (p := ⟨b, off + k * 2, none⟩) h4).trans h5) n os
      have h6' := fun n os => cell_grown (Nat.lt_of_lt_of_le h4 hzc) ((hBc.cell (p := ⟨b, off + k * 2 + 1, none⟩) h4).trans h6) n os
      have mixed : Try.prog.follows .mixedOrders = true := by kernel_rfl
      cases k with
      | zero =>
        cases hbo
        simp only [Nat.zero_mul, Nat.add_zero] at h5' h6'
        have hl0 : (0 < c.length) = True := by simpa using hlt
        go_wp2_with fail
        refine wp_region_quiet_grown (by assumption) (by kernel_rfl) ?_
        repeat (go_big_quiet_step (first | (go_at_call 14; exact Calls.grown_of ((Valid_any _ _ _).mono (by rintro e w' ⟨rfl, rfl⟩; exact ⟨rfl, 0, _, by rw [World.drewN_zero]; exact Sort.alloc_eq_grow _ _⟩)))))
        refine wpQuiet_nil ?_
        intro _ hw'
        obtain ⟨⟨nq, osq⟩, hw''⟩ := hw'
        subst hw''
        go_wp2_with fail
        exact ⟨⟨1, by omega, by simp, below_grow hB hz _ _, below_grow hBc hzc _ _⟩, by simp [intOf]; omega⟩
      | succ k =>
        have hnx := Hc.out.1.next k hlt
        obtain ⟨b', off', hbo', _, h8, _⟩ := c3 k (by omega)
        cases hbo
        cases hbo'
        have h8' := fun n os => cell_grown (Nat.lt_of_lt_of_le h4 hzc) ((hBc.cell (p := ⟨b, off + k * 2 + 1, none⟩) h4).trans (c3 k (by omega) |> fun ⟨_, _, e, _, _, h⟩ => by cases e; exact h)) n os
        have hwr : wrap64 (iHi c k + 1) = iHi c k + 1 := by have := Hc.out.1.at k (by omega); unfold wrap64; omega
        have hnle : ¬ iLo c (k + 1) ≤ iHi c k + 1 := by omega
        go_wp2_with fail
        refine wp_region_quiet_grown (by assumption) (by kernel_rfl) ?_
        repeat (go_big_quiet_step (first | (go_at_call 14; exact Calls.grown_of ((Valid_any _ _ _).mono (by rintro e w' ⟨rfl, rfl⟩; exact ⟨rfl, 0, _, by rw [World.drewN_zero]; exact Sort.alloc_eq_grow _ _⟩)))))
        refine wpQuiet_nil ?_
        intro _ hw'
        obtain ⟨⟨nq, osq⟩, hw''⟩ := hw'
        subst hw''
        go_wp2_with fail
        exact ⟨⟨k + 1 + 1, by omega, by simp, below_grow hB hz _ _, below_grow hBc hzc _ _⟩, by simp [intOf]; omega⟩
    · have e : k = c.length := by omega
      subst e
      go_wp2_with fail
      refine (RIn_any _ c x _ (hrow'.below (Nat.le_refl _) hBc)).mono ?_
      rintro e w5 ⟨rfl, hb5⟩
      have hz5 := hB.size
      have hB5 : Below w.heap.size w w5 := (by ((repeat' (first | exact Below.refl _ _ | exact hB | exact hb5 | refine Below.alloc ?_ ?_ _ | refine Below.setCell ?_ ?_ _ | refine Below.drew ?_ | refine below_drewN ?_ _ | refine Below.trans ?_ (hB.mono ?_) | refine Below.trans ?_ (hb5.mono ?_))) <;> (first | omega | (simp; done) | (simp; omega))))
      have hiff : decide (0 < dep c x c.length) = decide (n ≤ depthV l x) := by
        rw [Hdv.out]
        exact decide_eq_decide.2 ((dep_pos_iff c x).trans (Hc.out.2 x))
      rw [hiff]
      go_wp2_with fail
      go_ret
      exact ⟨ret_bool (by simp), hB5⟩
set_option maxRecDepth 100000 in
theorem intervalCovers_holds : Rows.IntervalCoversSaid :=
  OpenClaim.holds_of_wide 7 Try.f7 rfl rfl rfl rfl rfl rfl rfl ⟨rfl, rfl, rfl, rfl, rfl⟩ rfl rfl rfl rfl rfl (by kernel_rfl) Try.func7 (by kernel_rfl)
    (of_decide_eq_true (by kernel_rfl)) (by unfold Func.isWrapper; rw [if_neg (of_decide_eq_false (by kernel_rfl))]; exact ⟨rfl, rfl⟩)
    (fun os started H enc _ => law_lifted started 7 Try.f7 Try.func7 (by kernel_rfl) Rows.intervalCoversSpec rfl rfl
      (fun ds h => by match ds, h with | [_, _, _], _ => exact ⟨rfl, rfl, rfl⟩)
      (fun t h => by
        rw [Try.params7] at h
        simp only [List.mem_cons, List.not_mem_nil, or_false] at h
        rcases h with rfl | rfl | rfl <;> exact ⟨by kernel_rfl, of_decide_eq_true (by kernel_rfl)⟩)
      (ChangeSpec.witness6 (enc := enc) (C := Try.checked) false ⟨#[], #[.slice none 0 0, .int .u8 0, .int .i64 0], []⟩ 8 (by kernel_rfl) (by kernel_rfl) (by kernel_rfl) (by kernel_rfl))
      (fun W base args ds p hA hok => by
        rw [Try.params7] at hA hok
        obtain ⟨v0, vs0, d0, ds0, p0, q0, hargs, rfl, rfl, h0, r0⟩ := ChangeShapes.trodAll_cons hA
        obtain ⟨v1, vs1, d1, ds1, p1, q1, rfl, rfl, rfl, h1, r1⟩ := ChangeShapes.trodAll_cons r0
        obtain ⟨v2, vs2, d2, ds2, p2, q2, rfl, rfl, rfl, h2, r2⟩ := ChangeShapes.trodAll_cons r1
        obtain ⟨rfl, rfl, rfl⟩ := ChangeShapes.trodAll_nil r2
        obtain rfl : args = #[v0, v1, v2] := by rw [← Array.toArray_toList (xs := args), hargs]
        obtain ⟨l0, hl0, wl0⟩ := open_ivs (hok 0 _ v0 rfl rfl) h0
        obtain ⟨x1, rfl, hx1⟩ := open_u8 Try.underlying5 (hok 1 _ v1 rfl rfl) h1
        obtain ⟨x2, rfl, hx2⟩ := open_i64 Try.underlying3 (hok 2 _ v2 rfl rfl) h2
        exact Covers_any W v0 l0 hl0 x1 hx1 x2))
end Go.Proofs.Ytgoimbddefefdaa
