/- Package spread: the checks of widths, and the stable sort of their indexes. -/
import Derived.Test.YtiaahfccebmkdaaIvO
import Derived.Test.YtiaahfccebmkdaaSpP
import Derived.Deep.LoopGhost
import Derived.IntWalk
import Derived.Lib.Small
import Derived.ChangeAlike
namespace Go.Proofs.Ytiaahfccebmkdaa
open Go.RowKit

set_option maxRecDepth 100000 in
set_option maxHeartbeats 400000 in
theorem within_any (n lo hi : Int) (w : World) : Calls Try.prog 68 #[.int .i64 n, .int .i64 lo, .int .i64 hi] w fun e w' => e = .returned (.bool (inB n lo hi)) ∧ w = w' := by
  go_enter Try.func68, Try.ntmps68
  go_wp2
  all_goals go_ret
  all_goals exact ⟨ret_bool (by unfold inB; rw [Bool.eq_iff_iff]; simp only [decide_eq_true_eq, Bool.false_eq_true, false_iff]; omega), rfl⟩
set_option maxRecDepth 100000 in
set_option maxHeartbeats 400000 in
theorem wrong_any (x : Int) (w : World) : Calls Try.prog 67 #[.int .i64 x] w fun e w' => e = .returned (.bool (!inB x 0 1000000000000)) ∧ w = w' := by
  go_enter Try.func67, Try.ntmps67
  go_wp2_with (go_at_call 68; refine (within_any _ _ _ _).mono ?_; rintro e w' ⟨rfl, rfl⟩)
  go_ret
  exact ⟨rfl, rfl⟩
set_option maxRecDepth 100000 in
set_option maxHeartbeats 400000 in
theorem IndexI_any (v : Value) (l : List Int) (w : World) (hv : IsRow w v l) :
    Calls Try.prog 58 #[v, .func (.func 67) #[] #[]] w fun e w' => (∃ r : Int, e = .returned (.int .i64 r) ∧ (r < 0 ∧ allW l l.length = true ∨ 0 ≤ r ∧ allW l l.length = false)) ∧ Below w.heap.size w w' := by
  obtain ⟨a, cap, rfl, h1, h2, h3⟩ := hv
  go_enter Try.func58, Try.ntmps58
  go_wp2
  go_loopw [8] (fun i wr => ∃ k : Nat, k ≤ l.length ∧ i = .int .i64 k ∧ allW l k = true ∧ Below w.heap.size w wr) (fun i _ => l.length - (intOf i).toNat)
  case atStart => exact ⟨0, Nat.zero_le _, rfl, rfl, Below.refl _ _⟩
  case round =>
    obtain ⟨k, hk, rfl, hall, hB⟩ := hrel
    have Hall := hide hall; clear hall
    by_cases hlt : k < l.length
    · obtain ⟨b, off, rfl, h4, h5⟩ := h3 k hlt
      have h5' := (hB.cell (p := ⟨b, off + k, none⟩) h4).trans h5
      clear h5 h3
      have hz := hB.size
      by_cases hval : inB (iAt l k) 0 1000000000000 = true
      · go_wp2_with (go_at_call 67; refine (wrong_any _ _).mono ?_; rintro e w' ⟨rfl, rfl⟩)
        go_roundw
        case rel => exact ⟨k + 1, by omega, by go_num, by simp [allW, Hall.out, hval], hB⟩
        case measure => simp [intOf]; omega
      · have hval' : inB (iAt l k) 0 1000000000000 = false := by simpa using hval
        clear hval
        go_wp2_with (go_at_call 67; refine (wrong_any _ _).mono ?_; rintro e w' ⟨rfl, rfl⟩)
        go_ret
        exact ⟨⟨_, rfl, .inr ⟨by omega, allW_false l k hval' _ hlt⟩⟩, hB⟩
    · go_wp2
      go_ret
      exact ⟨⟨_, rfl, .inl ⟨by omega, by rw [← Hall.out, show k = l.length by omega]⟩⟩, hB⟩
set_option maxRecDepth 100000 in
set_option maxHeartbeats 400000 in
theorem ContainsI_any (v : Value) (l : List Int) (w : World) (hv : IsRow w v l) :
    Calls Try.prog 34 #[v, .func (.func 67) #[] #[]] w fun e w' => e = .returned (.bool (!allW l l.length)) ∧ Below w.heap.size w w' := by
  go_enter Try.func34, Try.ntmps34
  go_wp2_with (go_at_call 58; refine (IndexI_any _ l _ hv).mono ?_; rintro e w' ⟨⟨r, rfl, hr⟩, hb⟩)
  go_ret
  refine ⟨ret_bool ?_, hb⟩
  rcases hr with ⟨h1, h2⟩ | ⟨h1, h2⟩ <;> simp [h2] <;> omega

set_option maxRecDepth 100000 in
set_option maxHeartbeats 400000 in
theorem isNaN_any (x : Int) (w : World) : Calls Try.prog 66 #[.int .i64 x] w fun e w' => e = .returned (.bool false) ∧ w' = w := by
  go_enter Try.func66, Try.ntmps66
  go_wp2
  all_goals go_ret
  all_goals exact ⟨ret_bool (by simp), rfl⟩
set_option maxRecDepth 100000 in
set_option maxHeartbeats 400000 in
theorem Compare_any (x y : Int) (w : World) : Calls Try.prog 45 #[.int .i64 x, .int .i64 y] w fun e w' => e = .returned (.int .i64 (Lib.compareInt x y)) ∧ w' = w := by
  go_enter Try.func45, Try.ntmps45
  go_wp2_with (go_at_call 66; refine (isNaN_any _ _).mono ?_; rintro e w' ⟨rfl, rfl⟩)
  all_goals go_ret
  all_goals exact ⟨ret_int (by unfold Lib.compareInt; split <;> first | rfl | omega | (split <;> first | rfl | omega)), rfl⟩
set_option maxRecDepth 100000 in
set_option maxHeartbeats 400000 in
theorem cmpW_any (i k : Nat) (xb : Nat) (v : Value) (l : List Int) (w : World) (hx : w.cell? ⟨xb, 0, none⟩ = some v) (hv : IsRow w v l) (hi : i < l.length) (hk : k < l.length) :
    Calls Try.prog 70 #[.int .i64 i, .int .i64 k, .pointer (some ⟨xb, 0, none⟩)] w fun e w' => e = .returned (.int .i64 (Lib.compareInt (iAt l k) (iAt l i))) ∧ ∃ n, w' = w.drewN n := by
  obtain ⟨a, cap, rfl, h1, h2, h3⟩ := hv
  obtain ⟨b, off, rfl, h4, h5⟩ := h3 i hi
  obtain ⟨b', off', hb, h4', h5'⟩ := h3 k hk
  cases hb
  clear h3
  go_enter Try.func70, Try.ntmps70
  go_wp2
  go_quiet ((go_at_call 45; exact Calls.quiet_of_same ((Compare_any _ _ _).mono (by rintro e w' ⟨rfl, rfl⟩; exact ⟨rfl, rfl⟩))))
  go_wp2
  go_ret
  exact ⟨rfl, _, rfl⟩
theorem compare_neg (x y : Int) : decide (Lib.compareInt x y < 0) = decide (x < y) := by
  unfold Lib.compareInt
  by_cases h1 : x < y
  · simp [h1]
  · by_cases h2 : y < x <;> simp [h1, h2]

/-- The block b holds the indexes o from the cell off on. -/
def Hold (W : World) (b off : Nat) (o : List Nat) : Prop := (∀ i, i < o.length → W.cell? ⟨b, off + i, none⟩ = some (.int .i64 (nAt o i))) ∧ (∀ i, W.frozen? ⟨b, i, none⟩ = false)
theorem nAt_left (A B : List Nat) (i : Nat) (h : i < A.length) : nAt (A ++ B) i = nAt A i := by simp [nAt, List.getD_eq_getElem?_getD, List.getElem?_append_left h]
theorem nAt_mid (A B : List Nat) (x : Nat) : nAt (A ++ x :: B) A.length = x := by simp [nAt, List.getD_eq_getElem?_getD]
theorem nAt_right (A B : List Nat) (i : Nat) (h : A.length ≤ i) : nAt (A ++ B) i = nAt B (i - A.length) := by simp [nAt, List.getD_eq_getElem?_getD, List.getElem?_append_right h]
theorem Hold.swap {W : World} {b off : Nat} {A B : List Nat} {x y : Nat} (h : Hold W b off (A ++ y :: x :: B)) :
    Hold ((W.setCell ⟨b, off + (A.length + 1), none⟩ (.int .i64 y)).setCell ⟨b, off + A.length, none⟩ (.int .i64 x)) b off (A ++ x :: y :: B) := by
  have hl : (A ++ y :: x :: B).length = (A ++ x :: y :: B).length := by simp
  have l0 : A.length < (A ++ y :: x :: B).length := by simp
  have l1 : A.length + 1 < (A ++ y :: x :: B).length := by simp
  have c0 := h.1 A.length l0
  have c1 := h.1 (A.length + 1) l1
  refine ⟨fun i hi => ?_, fun i => by rw [World.frozen?_setCell, World.frozen?_setCell]; exact h.2 i⟩
  by_cases e0 : i = A.length
  · subst e0
    rw [nAt_mid]
    exact World.cell?_setCell_same' _ _ _ (by simp [World.cell?_setCell_other, c0])
  · rw [World.cell?_setCell_other _ _ _ _ (fun e => by (simp at e) <;> omega)]
    by_cases e1 : i = A.length + 1
    · subst e1
      rw [World.cell?_setCell_same' _ _ _ (by simp [c1]), show A ++ x :: y :: B = (A ++ [x]) ++ y :: B by simp]
      have := nAt_mid (A ++ [x]) B y
      rw [List.length_append] at this
      rw [show A.length + 1 = A.length + [x].length from rfl, this]
    · rw [World.cell?_setCell_other _ _ _ _ (fun e => by (simp at e) <;> omega), h.1 i (by omega)]
      congr 3
      rcases Nat.lt_or_ge i A.length with h3 | h3
      · rw [nAt_left _ _ _ h3, nAt_left _ _ _ h3]
      · rw [nAt_right _ _ _ h3, nAt_right _ _ _ h3]
        obtain ⟨d, hd⟩ : ∃ d, i - A.length = d + 2 := ⟨i - A.length - 2, by omega⟩
        rw [hd]
        simp [nAt]

/-- A sort's state: the row o of the block b, all else as it was. -/
def Srt (w : World) (b off : Nat) (o : List Nat) (W : World) : Prop := Hold W b off o ∧ w.grownBy W (some b)
theorem Hold.below {W : World} {b off : Nat} {o : List Nat} (h : Hold W b off o) (n : Nat) : Hold (W.drewN n) b off o := h
theorem grown_cell {w W : World} {b : Nat} (hg : w.grownBy W (some b)) {q : Nat} (hq : q < w.heap.size) (hne : q ≠ b) (o : Nat) : W.cell? ⟨q, o, none⟩ = w.cell? ⟨q, o, none⟩ :=
  World.cell?_of_block (a := ⟨q, o, none⟩) (hg.block q hq (by simpa using hne))
theorem grown_drewN {a w : World} {row : Option Nat} (h : a.grownBy w row) (n : Nat) : a.grownBy (w.drewN n) row := ⟨h.os, h.tape, h.output, h.size, h.block⟩
theorem grown_setRow {a w : World} {b : Nat} (h : a.grownBy w (some b)) (o : Nat) (u : Value) : a.grownBy (w.setCell ⟨b, o, none⟩ u) (some b) :=
  ⟨h.os, h.tape, h.output, by simpa [World.setCell] using h.size, fun i hi hne => (Below.heap_setCell w ⟨b, o, none⟩ u i (by simpa using hne)).trans (h.block i hi hne)⟩
theorem isrow_grown {w W : World} {b : Nat} {v : Value} {l : List Int} (h : IsRow w v l) (hg : w.grownBy W (some b)) (hne : ∀ q, v.ownBlock = some q → q ≠ b) : IsRow W v l := by
  obtain ⟨a, cap, rfl, h1, h2, h3⟩ := h
  refine ⟨a, cap, rfl, h1, h2, fun i hi => ?_⟩
  obtain ⟨q, off, rfl, h4, h5⟩ := h3 i hi
  exact ⟨q, off, rfl, Nat.lt_of_lt_of_le h4 hg.size, (grown_cell hg h4 (hne q rfl) _).trans h5⟩

theorem range_drop (n k : Nat) (h : k < n) : (List.range n).drop k = k :: (List.range n).drop (k + 1) := by
  rw [List.drop_eq_getElem_cons (by simpa using h)]; simp
theorem Hold.cong {W : World} {b off : Nat} {o p : List Nat} (h : Hold W b off o) (e : o = p) : Hold W b off p := e ▸ h
theorem ins_done {l : List Int} {k : Nat} {A B : List Nat} (e : A ++ B = ordTo l k) (hB : ∀ b, b ∈ B → iAt l b < iAt l k) (hA : A = [] ∨ ∃ A' y, A = A' ++ [y] ∧ ¬ iAt l y < iAt l k) : A ++ k :: B = ordTo l (k + 1) := by
  show _ = insW l k (ordTo l k)
  rw [← e, insW_split l k A B ?_ hB]
  intro a ha
  rcases hA with rfl | ⟨A', y, rfl, hy⟩
  · cases ha
  · rcases List.mem_append.1 ha with h | h
    · have hf := ordTo_fall l k
      rw [← e] at hf
      have h1 := (List.pairwise_append.1 (List.pairwise_append.1 hf).1).2.2 a h y (by simp)
      omega
    · rw [List.mem_singleton] at h; subst h; exact hy
set_option maxRecDepth 100000 in
set_option maxHeartbeats 2000000 in
theorem insert_any (l : List Int) (xb b off cap : Nat) (v : Value) (w : World) (hx : w.cell? ⟨xb, 0, none⟩ = some v) (hv : IsRow w v l) (hxb : xb ≠ b) (hvb : ∀ q, v.ownBlock = some q → q ≠ b) (_hb : b < w.heap.size) (hn1 : 1 ≤ l.length) (hnl : l.length ≤ 1000) (_hcap : l.length ≤ cap)
    (hh : Hold w b off (List.range l.length)) :
    Calls Try.prog 97 #[.slice (some ⟨b, off, none⟩) l.length cap, .int .i64 0, .int .i64 l.length, .func (.func 70) #[] #[.pointer (some ⟨xb, 0, none⟩)]] w fun e w' =>
      e = .returned (.tuple #[]) ∧ Srt w b off (ordL l) w' := by
  have hxl := World.block_lt_of_cell? _ _ hx
  have Hvb := hide hvb
  clear hvb
  go_enter Try.func97, Try.ntmps97
  go_wp2
  go_loopw [8] (fun i wr => ∃ k : Nat, 1 ≤ k ∧ k ≤ l.length ∧ i = .int .i64 k ∧ Hid (Hold wr b off (ordTo l k ++ (List.range l.length).drop k)) ∧ w.grownBy wr (some b)) (fun i _ => l.length + 1 - (intOf i).toNat)
  case atStart =>
    refine ⟨1, Nat.le_refl _, hn1, rfl, hide (hh.cong ?_), World.grownBy.refl _ _⟩
    have := range_drop l.length 0 (by omega)
    rw [List.drop_zero] at this
    rw [this]; rfl
  case round =>
    obtain ⟨k, hk1, hk2, rfl, Hh, hg⟩ := hrel
    by_cases hlt : k < l.length
    · have hol := ordTo_length l k
      have Hr := hide (range_drop l.length k hlt)
      go_wp2
      obtain ⟨wo, hwo⟩ : ∃ wo : World, wo = wr := ⟨_, rfl⟩
      subst hwo
      go_loopw [9] (fun j wi => ∃ (A B : List Nat), A.length ≤ k ∧ j = .int .i64 A.length ∧ Hid (A ++ B = ordTo l k) ∧ Hid (∀ b, b ∈ B → iAt l b < iAt l k) ∧ Hid (Hold wi b off (A ++ k :: (B ++ (List.range l.length).drop (k + 1)))) ∧ w.grownBy wi (some b)) (fun j _ => (intOf j).toNat)
      case atStart =>
        refine ⟨ordTo l k, [], by omega, by rw [hol], hide (by simp), hide (fun b hb => by cases hb), hide (Hh.out.cong ?_), hg⟩
        rw [Hr.out]; simp
      case round =>
        obtain ⟨A, B, hAk, rfl, HA, HB, HH, hgi⟩ := hrel
        have hxi := (grown_cell hgi hxl hxb 0).trans hx
        have hvi := isrow_grown hv hgi Hvb.out
        rcases List.eq_nil_or_concat A with hA | ⟨A', y, hA⟩
        · subst hA
          go_wp2
          go_quiet (fail)
          go_wp2
          go_roundw
          case rel =>
            have hd := ins_done (l := l) (k := k) (A := []) HA.out HB.out (.inl rfl)
            refine ⟨k + 1, by omega, by omega, by go_num, hide ((HH.out.below _).cong ?_), grown_drewN hgi _⟩
            rw [← hd]; simp
          case measure => simp [intOf]; omega
        · have hA2 : A = A' ++ [y] := by rw [hA]; simp
          clear hA
          subst hA2
          have hAl : (A' ++ [y]).length = A'.length + 1 := by simp
          have hyk : y < k := ordTo_lt (l := l) (by rw [← HA.out]; simp)
          have hsh : (A' ++ [y]) ++ k :: (B ++ (List.range l.length).drop (k + 1)) = A' ++ y :: k :: (B ++ (List.range l.length).drop (k + 1)) := by simp
          have HH2 := hide (HH.out.cong hsh)
          have c0 : wr.cell? ⟨b, off + A'.length, none⟩ = some (.int .i64 y) := by
            rw [HH2.out.1 A'.length (by simp), nAt_mid]
          have c1 : wr.cell? ⟨b, off + (A'.length + 1), none⟩ = some (.int .i64 k) := by
            have := HH.out.1 (A'.length + 1) (by simp)
            rw [this]
            have e := nAt_mid (A' ++ [y]) (B ++ (List.range l.length).drop (k + 1)) k
            rw [hAl] at e
            rw [e]
          have fz := HH.out.2
          have ww1 : IntKind.i64.wrap ((A'.length : Int) + 1 - 1) = A'.length := by rw [IntWalk.i64_in _ (by omega)]; omega
          have ww2 : ((A'.length : Int) + 1).toNat = A'.length + 1 := by omega
          have hlen1 : A'.length + 1 < l.length := by omega
          have hlen2 : A'.length < l.length := by omega
          have Hsh := hide hsh
          clear hsh HH
          have HAl := hide hAl
          rw [hAl]
          clear hAl
          by_cases hlt2 : iAt l y < iAt l k
          · have hcmp : decide (Lib.compareInt (iAt l y) (iAt l k) < 0) = true := by rw [compare_neg]; exact decide_eq_true hlt2
            go_wp2
            go_quiet ((go_at_call 70; exact Calls.quiet_of (cmpW_any k y xb v l _ hxi hvi (by omega) (by omega))))
            rename_i nq
            go_wp2
            have HV := hide (HH2.out.below nq)
            have gV := grown_drewN hgi nq
            have d0 : (wr.drewN nq).cell? ⟨b, off + A'.length, none⟩ = some (.int .i64 y) := c0
            have d1 : (wr.drewN nq).cell? ⟨b, off + (A'.length + 1), none⟩ = some (.int .i64 k) := c1
            have dz : ∀ i, (wr.drewN nq).frozen? ⟨b, i, none⟩ = false := fz
            clear c0 c1 fz HH2 hgi hxi hvi
            generalize wr.drewN nq = V at *
            go_region
            go_wp2
            go_roundw
            case rel =>
              refine ⟨A', y :: B, by have := HAl.out; omega, by go_num, hide (by rw [← HA.out]; simp), hide (fun c hc => ?_), hide (HV.out.swap), ?_⟩
              · rcases List.mem_cons.1 hc with rfl | hc
                · exact hlt2
                · exact HB.out c hc
              · exact grown_setRow (grown_setRow (grown_drewN gV 1) _ _) _ _
            case measure => simp [intOf]
          · have hcmp : decide (Lib.compareInt (iAt l y) (iAt l k) < 0) = false := by rw [compare_neg]; exact decide_eq_false hlt2
            go_wp2
            go_quiet ((go_at_call 70; exact Calls.quiet_of (cmpW_any k y xb v l _ hxi hvi (by omega) (by omega))))
            go_wp2
            go_roundw
            case rel =>
              have hd := ins_done (l := l) (k := k) HA.out HB.out (.inr ⟨A', y, rfl, by omega⟩)
              refine ⟨k + 1, by omega, by omega, by go_num, hide ((HH2.out.below _).cong ?_), grown_drewN hgi _⟩
              rw [← hd]; simp
            case measure => simp [intOf]; omega
    · obtain rfl : k = l.length := by omega
      have hfin := Hh.out
      go_wp2
      go_end0
      refine ⟨rfl, hfin.cong ?_, hg⟩
      rw [List.drop_of_length_le (by simp)]; simp [ordL]

set_option maxRecDepth 100000 in
set_option maxHeartbeats 400000 in
theorem stable_any (l : List Int) (xb b off cap : Nat) (v : Value) (w : World) (hx : w.cell? ⟨xb, 0, none⟩ = some v) (hv : IsRow w v l) (hxb : xb ≠ b) (hvb : ∀ q, v.ownBlock = some q → q ≠ b) (hb : b < w.heap.size) (hn1 : 1 ≤ l.length) (hnl : l.length ≤ 16) (hcap : l.length ≤ cap)
    (hh : Hold w b off (List.range l.length)) :
    Calls Try.prog 85 #[.slice (some ⟨b, off, none⟩) l.length cap, .int .i64 l.length, .func (.func 70) #[] #[.pointer (some ⟨xb, 0, none⟩)]] w fun e w' =>
      e = .returned (.tuple #[]) ∧ Srt w b off (ordL l) w' := by
  have Hvb := hide hvb
  have Hh := hide hh
  clear hvb hh
  go_enter Try.func85, Try.ntmps85
  go_wp2
  refine wp_loop_rounds 1 ?_
  rw [rounds_succ]
  go_wp2_with fail
  refine (insert_any l xb b off cap v _ hx hv hxb Hvb.out hb hn1 (by omega) hcap Hh.out).mono ?_
  rintro e w1 ⟨rfl, hs⟩
  go_wp2_with fail
  refine wp_loop_rounds 1 ?_
  rw [rounds_succ]
  go_wp2_with fail
  go_end0
  exact ⟨rfl, hs⟩
set_option maxRecDepth 100000 in
set_option maxHeartbeats 400000 in
theorem sortS_any (l : List Int) (xb b off cap : Nat) (v : Value) (w : World) (hx : w.cell? ⟨xb, 0, none⟩ = some v) (hv : IsRow w v l) (hxb : xb ≠ b) (hvb : ∀ q, v.ownBlock = some q → q ≠ b) (hb : b < w.heap.size) (hn1 : 1 ≤ l.length) (hnl : l.length ≤ 16) (hcap : l.length ≤ cap)
    (hh : Hold w b off (List.range l.length)) :
    Calls Try.prog 69 #[.slice (some ⟨b, off, none⟩) l.length cap, .func (.func 70) #[] #[.pointer (some ⟨xb, 0, none⟩)]] w fun e w' =>
      e = .returned (.tuple #[]) ∧ Srt w b off (ordL l) w' := by
  have Hvb := hide hvb
  have Hh := hide hh
  clear hvb hh
  go_enter Try.func69, Try.ntmps69
  go_wp2_with fail
  refine (stable_any l xb b off cap v _ hx hv hxb Hvb.out hb hn1 hnl hcap Hh.out).mono ?_
  rintro e w1 ⟨rfl, hs⟩
  go_wp2_with fail
  go_end0
  exact ⟨rfl, hs⟩
end Go.Proofs.Ytiaahfccebmkdaa
