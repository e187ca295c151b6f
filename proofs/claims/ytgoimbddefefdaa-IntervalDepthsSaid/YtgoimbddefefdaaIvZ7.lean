/- IntervalDepths: for every list and two numbers the statement answers true and leaves its arguments as they were. No condition. -/
import Derived.Test.YtgoimbddefefdaaIvL
import Derived.Test.YtgoimbddefefdaaFr
namespace Go.Proofs.Ytgoimbddefefdaa
open Go.RowKit
attribute [local go_sem ↓] run_max_mx run_min_mn run_eql_iv run_neq_iv
theorem lo_at (l : List Iv) (n : Nat) (h : n < l.length) : iLo l n = l[n].1 := by simp [iLo, List.getD_eq_getElem?_getD, List.getElem?_eq_getElem h]
theorem hi_at (l : List Iv) (n : Nat) (h : n < l.length) : iHi l n = l[n].2 := by simp [iHi, List.getD_eq_getElem?_getD, List.getElem?_eq_getElem h]
theorem dep_count (l : List Iv) (t : Int) : dep l t l.length = ((l.countP fun p => hasB p.1 p.2 t : Nat) : Int) := by
  have key : ∀ n, n ≤ l.length → dep l t n = (((l.take n).countP fun p => hasB p.1 p.2 t : Nat) : Int) := by
    intro n
    induction n with
    | zero => intro _; simp [dep]
    | succ n ih =>
      intro hn
      have hlt : n < l.length := hn
      rw [dep, ih (by omega), List.take_add_one, List.getElem?_eq_getElem hlt, List.countP_append, lo_at l n hlt, hi_at l n hlt]
      simp only [Option.toList_some, List.countP_cons, List.countP_nil]
      split <;> simp
  simpa using key l.length (Nat.le_refl _)
theorem dep_rev (l : List Iv) (t : Int) : dep l.reverse t l.reverse.length = dep l t l.length := by rw [dep_count, dep_count, List.countP_reverse]
theorem listB_iff2 (l : List Iv) : listB l = true ↔ l.length ≤ 64 ∧ ∀ p, p ∈ l → 0 ≤ p.1 ∧ p.1 ≤ p.2 ∧ p.2 ≤ 3000000000000000 := by
  rw [listB_iff]
  refine and_congr Iff.rfl ⟨fun h p hp => ?_, fun h k hk => ?_⟩
  · obtain ⟨k, hk, e1, e2⟩ := at_of_mem hp
    have := h k hk; omega
  · obtain ⟨p, hp, e1, e2⟩ := mem_of_at hk
    have := h p hp; omega
theorem listB_rev (l : List Iv) : listB l.reverse = listB l := by rw [Bool.eq_iff_iff, listB_iff2, listB_iff2]; simp
theorem depthV_rev (l : List Iv) (t : Int) : depthV l.reverse t = depthV l t := by unfold depthV; rw [listB_rev, dep_rev]
theorem listEr_rev (l : List Iv) : listEr l.reverse = listEr l := by unfold listEr; rw [listB_rev]
theorem coverEr_rev (l : List Iv) (n : Int) : coverEr l.reverse n = coverEr l n := by unfold coverEr coverOk; rw [listB_rev]
theorem CovOut.rev {l : List Iv} {n : Int} {c : List Iv} (h : CovOut l.reverse n c) : CovOut l n c := by
  unfold CovOut coverOk at *
  rw [listB_rev] at h
  split
  · rename_i hs
    rw [if_pos hs] at h
    exact ⟨h.1, fun t => by rw [h.2 t, dep_rev]⟩
  · rename_i hs
    rwa [if_neg hs] at h
theorem take_rev (l : List Iv) (k : Nat) (hk : k < l.length) : l.reverse.take (k + 1) = l.reverse.take k ++ [(iLo l (l.length - 1 - k), iHi l (l.length - 1 - k))] := by
  rw [List.take_add_one, List.getElem?_reverse hk, List.getElem?_eq_getElem (by omega), lo_at l _ (by omega), hi_at l _ (by omega)]
  rfl
def mostV (l : List Iv) : Nat → Int
  | 0 => 0
  | k + 1 => mx (mostV l k) (depthV l (iLo l k))
theorem mostV_ge (l : List Iv) (n : Nat) : 0 ≤ mostV l n ∧ ∀ k, k < n → depthV l (iLo l k) ≤ mostV l n := by
  induction n with
  | zero => exact ⟨by simp [mostV], fun k h => by omega⟩
  | succ n ih =>
    have := mx_spec (mostV l n) (depthV l (iLo l n))
    refine ⟨by rw [mostV]; omega, fun k hk => ?_⟩
    rw [mostV]
    rcases Nat.lt_or_ge k n with h | h
    · have := ih.2 k h; omega
    · obtain rfl : k = n := by omega
      omega
theorem mostV_at (l : List Iv) (n : Nat) : mostV l n = 0 ∨ ∃ k, k < n ∧ mostV l n = depthV l (iLo l k) := by
  induction n with
  | zero => exact .inl rfl
  | succ n ih =>
    rw [mostV]
    rcases (mx_spec (mostV l n) (depthV l (iLo l n))).2.2 with h | h
    · rw [h]
      rcases ih with h2 | ⟨k, hk, h2⟩
      · exact .inl h2
      · exact .inr ⟨k, by omega, h2⟩
    · exact .inr ⟨n, by omega, h⟩
theorem top_at (l : List Iv) (x : Int) : ∀ n, n ≤ l.length → (∀ k, k < n → hasB (iLo l k) (iHi l k) x = false) ∨ ∃ k, k < n ∧ hasB (iLo l k) (iHi l k) x = true ∧ ∀ j, j < n → hasB (iLo l j) (iHi l j) x = true → iLo l j ≤ iLo l k := by
  intro n
  induction n with
  | zero => intro _; exact .inl fun k h => by omega
  | succ n ih =>
    intro hn
    have down : ∀ {P : Nat → Prop}, (∀ k, k < n → P k) → P n → ∀ k, k < n + 1 → P k := fun {P} h1 h2 k hk => by
      rcases Nat.lt_or_ge k n with h | h
      · exact h1 k h
      · obtain rfl : k = n := by omega
        exact h2
    by_cases hh : hasB (iLo l n) (iHi l n) x = true
    · right
      rcases ih (by omega) with h | ⟨k, hk, h1, h2⟩
      · exact ⟨n, by omega, hh, down (fun j hj e => by rw [h j hj] at e; simp at e) (fun _ => Int.le_refl _)⟩
      · rcases Int.lt_or_le (iLo l k) (iLo l n) with h3 | h3
        · exact ⟨n, by omega, hh, down (fun j hj e => by have := h2 j hj e; omega) (fun _ => Int.le_refl _)⟩
        · exact ⟨k, by omega, h1, down h2 (fun _ => h3)⟩
    · rcases ih (by omega) with h | ⟨k, hk, h1, h2⟩
      · exact .inl (down h (by simpa using hh))
      · exact .inr ⟨k, by omega, h1, down h2 (fun e => absurd e hh)⟩
theorem dep_none (l : List Iv) (x : Int) : ∀ n, (∀ k, k < n → hasB (iLo l k) (iHi l k) x = false) → dep l x n = 0 := by
  intro n
  induction n with
  | zero => intro _; rfl
  | succ n ih => intro h; rw [dep, ih (fun k hk => h k (by omega)), h n (by omega)]; simp
theorem dep_mono (l : List Iv) (x y : Int) : ∀ n, (∀ k, k < n → hasB (iLo l k) (iHi l k) x = true → hasB (iLo l k) (iHi l k) y = true) → dep l x n ≤ dep l y n := by
  intro n
  induction n with
  | zero => intro _; exact Int.le_refl _
  | succ n ih =>
    intro h
    have h1 := ih fun k hk => h k (by omega)
    have h2 := h n (by omega)
    rw [dep, dep]
    split
    · rename_i h3; rw [if_pos (h2 h3)]; omega
    · split <;> omega
theorem depthV_most (l : List Iv) (x : Int) : depthV l x ≤ mostV l l.length := by
  have h0 := mostV_ge l l.length
  unfold depthV
  split
  · rename_i hl
    rcases top_at l x l.length (Nat.le_refl _) with h | ⟨k, hk, h1, h2⟩
    · rw [dep_none l x _ h]; exact h0.1
    · have h3 := h0.2 k hk
      rw [depthV, if_pos hl] at h3
      refine Int.le_trans (dep_mono l x (iLo l k) _ fun j hj e => ?_) h3
      have h4 := h2 j hj e
      simp [hasB] at h1 e ⊢
      omega
  · exact h0.1
theorem cov_some {l : List Iv} {n : Int} {c : List Iv} (hl : listB l = true) (hn : 1 ≤ n) (h : CovSpec l n c) : 0 < c.length ↔ n ≤ mostV l l.length := by
  constructor
  · intro hc
    obtain ⟨p, hp, e1, e2⟩ := mem_of_at hc
    have h1 := h.1.2 p hp
    have h2 := (h.2 p.1).1 ⟨p, hp, by omega, by omega⟩
    have h3 := depthV_most l p.1
    rw [depthV, if_pos hl] at h3
    omega
  · intro hm
    rcases mostV_at l l.length with h1 | ⟨k, hk, h1⟩
    · omega
    · rw [depthV, if_pos hl] at h1
      obtain ⟨p, hp, _⟩ := (h.2 (iLo l k)).2 (by omega)
      exact List.length_pos_of_mem hp
set_option maxRecDepth 100000 in
set_option maxHeartbeats 2000000 in
theorem Depths_any (w : World) (v : Value) (l : List Iv) (hv : IvRow w v l) (need : Int) (hn : 0 ≤ need ∧ need ≤ 255) (x : Int) :
    Calls Try.prog 9 #[v, .int .u8 need, .int .i64 x] w fun e w' => e = .returned (.bool true) ∧ Below w.heap.size w w' := by
  have hv' := hv
  obtain ⟨a, cap, rfl, h1, h2, h3⟩ := hv
  by_cases h63 : (63 : Int) < l.length
  case pos =>
    clear h3
    have h63' : decide ((63 : Int) < l.length) = true := decide_eq_true h63
    go_enter Try.func9, Try.ntmps9
    go_wp2_with fail
    refine (head_any _).mono ?_
    rintro e w1 ⟨rfl, hb1⟩
    go_wp2_with fail
    go_ret
    have hz := hb1.size
    exact ⟨rfl, (by ((repeat' (first | exact Below.refl _ _ | exact hb1 | refine Below.alloc ?_ ?_ _ | refine Below.setCell ?_ ?_ _ | refine Below.drew ?_ | refine below_drewN ?_ _ | refine Below.trans ?_ (hb1.mono ?_))) <;> (first | omega | (simp; done) | (simp; omega))))⟩
  have h63' : decide ((63 : Int) < l.length) = false := decide_eq_false h63
  by_cases hl : listB l = true
  case neg =>
    clear h3
    have hl' : listB l = false := by simpa using hl
    clear hl
    go_enter Try.func9, Try.ntmps9
    go_wp2_with fail
    refine (head_any _).mono ?_
    rintro e w1 ⟨rfl, hb1⟩
    go_wp2_with (go_at_call 26; refine (RList_any _ l _ (hv'.below (Nat.le_refl _) hb1)).mono ?_; rintro e w2 ⟨rfl, hb2⟩)
    go_ret
    have hz := hb1.size
    exact ⟨rfl, (by ((repeat' (first | exact Below.refl _ _ | exact hb1 | exact hb2 | refine Below.alloc ?_ ?_ _ | refine Below.setCell ?_ ?_ _ | refine Below.drew ?_ | refine below_drewN ?_ _ | refine Below.trans ?_ (hb1.mono ?_) | refine Below.trans ?_ (hb2.mono ?_))) <;> (first | omega | (simp; done) | (simp; omega))))⟩
  have hnm : 0 ≤ need % 64 ∧ need % 64 < 64 := by omega
  obtain ⟨n, hnn, n1, n2⟩ : ∃ n, n = 1 + need % 64 ∧ 1 ≤ n ∧ n ≤ 64 := ⟨_, rfl, by omega, by omega⟩
  have hok : coverOk l n = true := by simp [coverOk, hl]; omega
  have her : coverEr l n = 0 := by simp [coverEr, hok]
  have hle : listEr l = 0 := by simp [listEr, hl]
  have hout : ∀ c, CovOut l n c → CovSpec l n c := fun c h => by unfold CovOut at h; rwa [if_pos hok] at h
  have Hout := hide hout
  obtain ⟨i0, hi, hz0, hz1, hz2⟩ := info_parts infoIv
  have Her := hide her
  have Hle := hide hle
  clear hok hout her hle
  go_enter Try.func9, Try.ntmps9
  go_wp2_with fail
  refine (head_any _).mono ?_
  rintro e w1 ⟨rfl, hb1⟩
  go_wp2_with (go_at_call 26; refine (RList_any _ l _ (hv'.below (Nat.le_refl _) hb1)).mono ?_; rintro e w2 ⟨rfl, hb2⟩)
  have hzA := hb1.size
  have hB2 : Below w.heap.size w w2 := (by ((repeat' (first | exact Below.refl _ _ | exact hb1 | exact hb2 | refine Below.alloc ?_ ?_ _ | refine Below.setCell ?_ ?_ _ | refine Below.drew ?_ | refine below_drewN ?_ _ | refine Below.trans ?_ (hb1.mono ?_) | refine Below.trans ?_ (hb2.mono ?_))) <;> (first | omega | (simp; done) | (simp; omega))))
  have hzB := hB2.size
  rw [← hnn]
  have Hl := hide hl
  clear hnn hl
  go_loopw [9, 10, 11] (fun t m i wr => ∃ k : Nat, k ≤ l.length ∧ i = .int .i64 k ∧ m = .int .i64 (mostV l k) ∧ OwnIv wr w.heap.size t (l.reverse.take k) ∧ Below w.heap.size w wr) (fun _ _ i _ => l.length - (intOf i).toNat)
  case atStart => exact ⟨0, Nat.zero_le _, rfl, rfl, OwnP.nil _ _, hB2⟩
  case round =>
    obtain ⟨k, hk, rfl, rfl, hown, hB⟩ := hrel
    have hz := hB.size
    have hrow := hv'.below (Nat.le_refl _) hB
    by_cases hlt : k < l.length
    · obtain ⟨j, hj⟩ : ∃ j, j = l.length - 1 - k := ⟨_, rfl⟩
      have hjl : j < l.length := by omega
      have hji : (l.length : Int) - 1 - k = j := by omega
      obtain ⟨b, off, rfl, h4, h5, h6⟩ := h3 j hjl
      obtain ⟨b', off', hbo, _, k5, k6⟩ := h3 k hlt
      cases hbo
      have h5' := (hB.cell (p := ⟨b, off + j * 2, none⟩) h4).trans h5
      have h6' := (hB.cell (p := ⟨b, off + j * 2 + 1, none⟩) h4).trans h6
      have hlen : (l.reverse.take k).length = k := by simp; omega
      have hlowb := fun k h => (hown.lt k h).1
      have htk := take_rev l k hlt
      rw [← hj] at htk
      have Htk := hide htk
      clear htk h3 hj
      go_wp2_with (at_builtin; (refine wpList_append_own _ rfl _ _ 22 rfl w.heap.size 24 i0 (.agg #[.int .i64 0, .int .i64 0]) 2 16 Try.underlying22 hi hz0 hz1 hz2 rfl (by decide) _ (l.reverse.take k).length (encL (l.reverse.take k)) rfl (World.ownsRow.alloc hown _) ⟨wr.heap.size, 0, none⟩ 1 1 [.int .i64 (iLo l j), .int .i64 (iHi l j)] rfl rfl (cell_two_new _ _ _ _) (by simp [Value.oneCell']) (by unfold maxLen; omega) (by omega) (by simp; omega) ?_); intro v3 w3 hown3 hg3 _; have hB3 : Below w.heap.size w w3 := ((hB.alloc (by omega) _).grown hg3 (by simp; omega) hlowb); have g5 := (hB3.cell (p := ⟨b, off + k * 2, none⟩) h4).trans k5)
      refine (Depth_any _ l _ _ (hv'.below (Nat.le_refl _) hB3)).mono ?_
      rintro e w4 ⟨rfl, hb4⟩
      have hz3 := hB3.size
      have hB4 : Below w.heap.size w w4 := (by ((repeat' (first | exact Below.refl _ _ | exact hB3 | exact hb4 | refine Below.alloc ?_ ?_ _ | refine Below.setCell ?_ ?_ _ | refine Below.drew ?_ | refine below_drewN ?_ _ | refine Below.trans ?_ (hB3.mono ?_) | refine Below.trans ?_ (hb4.mono ?_))) <;> (first | omega | (simp; done) | (simp; omega))))
      rw [Hle.out]
      have hown4 : OwnIv w4 w.heap.size v3 (l.reverse.take (k + 1)) := by
        rw [Htk.out]
        exact (OwnP.app hown3).below (Nat.le_refl _) hb4
      clear Htk hown3
      go_wp2_with fail
      go_roundw
      case rel => exact ⟨k + 1, by omega, by simp, rfl, hown4, hB4⟩
      case measure => simp [intOf]; omega
    · have e : k = l.length := by omega
      subst e
      have hlr : (l.reverse.take l.length) = l.reverse := by rw [List.take_of_length_le (by simp)]
      rw [hlr] at hown
      have hrrow := hown.row
      clear h3 hlr hown
      go_wp2_with fail
      refine (Depth_any _ l _ _ hrow).mono ?_
      rintro e w3 ⟨rfl, hb3⟩
      rw [Hle.out]
      have hB3 : Below w.heap.size w w3 := (by ((repeat' (first | exact Below.refl _ _ | exact hB | exact hb3 | refine Below.alloc ?_ ?_ _ | refine Below.setCell ?_ ?_ _ | refine Below.drew ?_ | refine below_drewN ?_ _ | refine Below.trans ?_ (hB.mono ?_) | refine Below.trans ?_ (hb3.mono ?_))) <;> (first | omega | (simp; done) | (simp; omega))))
      have hz3 := hB3.size
      have hrow3 := hrow.below (Nat.le_refl _) hb3
      have hrrow3 := hrrow.below (Nat.le_refl _) hb3
      clear hrow hrrow
      go_wp2_with fail
      refine (Depth_any _ l.reverse _ _ hrrow3).mono ?_
      rintro e w4 ⟨rfl, hb4⟩
      rw [listEr_rev, Hle.out, depthV_rev]
      have hB4 : Below w.heap.size w w4 := (by ((repeat' (first | exact Below.refl _ _ | exact hB3 | exact hb4 | refine Below.alloc ?_ ?_ _ | refine Below.setCell ?_ ?_ _ | refine Below.drew ?_ | refine below_drewN ?_ _ | refine Below.trans ?_ (hB3.mono ?_) | refine Below.trans ?_ (hb4.mono ?_))) <;> (first | omega | (simp; done) | (simp; omega))))
      have hz4 := hB4.size
      have hrow4 := hrow3.below (Nat.le_refl _) hb4
      have hrrow4 := hrrow3.below (Nat.le_refl _) hb4
      clear hrow3 hrrow3
      go_wp2_with fail
      refine (Cover_any _ l _ _ hrow4).mono ?_
      rintro e w5 ⟨cv, c, rfl, ho, hc, hb5⟩
      rw [Her.out]
      have hB5 : Below w.heap.size w w5 := (by ((repeat' (first | exact Below.refl _ _ | exact hB4 | exact hb5 | refine Below.alloc ?_ ?_ _ | refine Below.setCell ?_ ?_ _ | refine Below.drew ?_ | refine below_drewN ?_ _ | refine Below.trans ?_ (hB4.mono ?_) | refine Below.trans ?_ (hb5.mono ?_))) <;> (first | omega | (simp; done) | (simp; omega))))
      have hz5 := hB5.size
      have hrow5 := hrow4.below (Nat.le_refl _) hb5
      have hrrow5 := hrrow4.below (Nat.le_refl _) hb5
      have hcr5 := ho.row
      clear hrow4 hrrow4 ho
      go_wp2_with fail
      refine (Cover_any _ l.reverse _ _ hrrow5).mono ?_
      rintro e w6 ⟨dv, d, rfl, ho, hd, hb6⟩
      rw [coverEr_rev, Her.out]
      have hB6 : Below w.heap.size w w6 := (by ((repeat' (first | exact Below.refl _ _ | exact hB5 | exact hb6 | refine Below.alloc ?_ ?_ _ | refine Below.setCell ?_ ?_ _ | refine Below.drew ?_ | refine below_drewN ?_ _ | refine Below.trans ?_ (hB5.mono ?_) | refine Below.trans ?_ (hb6.mono ?_))) <;> (first | omega | (simp; done) | (simp; omega))))
      have hz6 := hB6.size
      have hcd : c = d := hc.unique hd.rev
      subst hcd
      have hcr6 := hcr5.below (Nat.le_refl _) hb6
      have hdr6 := ho.row
      have hmost := cov_some Hl.out n1 (Hout.out c hc)
      have hdm := depthV_most l x
      have hdm' : decide (mostV l l.length < depthV l x) = false := decide_eq_false (by omega)
      have Hm := hide hmost
      clear hrow5 hrrow5 ho hcr5 hmost hc hd
      have hcr6' := hcr6
      obtain ⟨ca, ccap, rfl, -, -, -⟩ := hcr6
      go_wp2_with (go_at_call 24; refine (RSame_any _ _ c c _ hcr6' hdr6).mono ?_; rintro e w7 ⟨rfl, hb7⟩)
      go_ret
      refine ⟨ret_bool ?_, (by ((repeat' (first | exact Below.refl _ _ | exact hB6 | exact hb7 | refine Below.alloc ?_ ?_ _ | refine Below.setCell ?_ ?_ _ | refine Below.drew ?_ | refine below_drewN ?_ _ | refine Below.trans ?_ (hB6.mono ?_) | refine Below.trans ?_ (hb7.mono ?_))) <;> (first | omega | (simp; done) | (simp; omega))))⟩
      rw [show decide (0 < c.length) = decide (n ≤ mostV l l.length) from decide_eq_decide.2 Hm.out]
      simp
set_option maxRecDepth 100000 in
theorem intervalDepths_holds : Rows.IntervalDepthsSaid :=
  OpenClaim.holds_of_wide 9 Try.f9 rfl rfl rfl rfl rfl rfl rfl ⟨rfl, rfl, rfl, rfl, rfl⟩ rfl rfl rfl rfl rfl (by kernel_rfl) Try.func9 (by kernel_rfl)
    (of_decide_eq_true (by kernel_rfl)) (by unfold Func.isWrapper; rw [if_neg (of_decide_eq_false (by kernel_rfl))]; exact ⟨rfl, rfl⟩)
    (fun os started H enc _ => law_lifted started 9 Try.f9 Try.func9 (by kernel_rfl) Rows.intervalDepthsSpec rfl rfl
      (fun ds h => by match ds, h with | [_, _, _], _ => exact ⟨rfl, rfl, rfl⟩)
      (fun t h => by
        rw [Try.params9] at h
        simp only [List.mem_cons, List.not_mem_nil, or_false] at h
        rcases h with rfl | rfl | rfl <;> exact ⟨by kernel_rfl, of_decide_eq_true (by kernel_rfl)⟩)
      (ChangeSpec.witness6 (enc := enc) (C := Try.checked) false ⟨#[], #[.slice none 0 0, .int .u8 0, .int .i64 0], []⟩ 8 (by kernel_rfl) (by kernel_rfl) (by kernel_rfl) (by kernel_rfl))
      (fun W base args ds p hA hok => by
        rw [Try.params9] at hA hok
        obtain ⟨v0, vs0, d0, ds0, p0, q0, hargs, rfl, rfl, h0, r0⟩ := ChangeShapes.trodAll_cons hA
        obtain ⟨v1, vs1, d1, ds1, p1, q1, rfl, rfl, rfl, h1, r1⟩ := ChangeShapes.trodAll_cons r0
        obtain ⟨v2, vs2, d2, ds2, p2, q2, rfl, rfl, rfl, h2, r2⟩ := ChangeShapes.trodAll_cons r1
        obtain ⟨rfl, rfl, rfl⟩ := ChangeShapes.trodAll_nil r2
        obtain rfl : args = #[v0, v1, v2] := by rw [← Array.toArray_toList (xs := args), hargs]
        obtain ⟨l0, hl0, wl0⟩ := open_ivs (hok 0 _ v0 rfl rfl) h0
        obtain ⟨x1, rfl, hx1⟩ := open_u8 Try.underlying5 (hok 1 _ v1 rfl rfl) h1
        obtain ⟨x2, rfl, hx2⟩ := open_i64 Try.underlying3 (hok 2 _ v2 rfl rfl) h2
        exact Depths_any W v0 l0 hl0 x1 hx1 x2))
end Go.Proofs.Ytgoimbddefefdaa
